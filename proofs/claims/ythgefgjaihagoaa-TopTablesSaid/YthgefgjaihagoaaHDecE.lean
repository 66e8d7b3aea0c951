/- dat.places, slices.AppendSeq of a block's places. -/
import Derived.Test.YthgefgjaihagoaaQ11
import Derived.Test.YthgefgjaihagoaaQ4
import Derived.Test.YthgefgjaihagoaaQ5
import Derived.Test.YthgefgjaihagoaaHEncD
import Derived.Test.YthgefgjaihagoaaHRW
import Derived.Test.YthgefgjaihagoaaPVal
set_option linter.unusedVariables false
set_option linter.unusedSimpArgs false
namespace Go.Proofs.Ythgefgjaihagoaa.Q
open Go.RowKit Go.Shelf Go.Proofs.Ythgefgjaihagoaa.H Go.Proofs.Ythgefgjaihagoaa.P Go.Proofs.YthgefgjaihagoaaW.PrintWords Go.Proofs.YthgefgjaihagoaaW.PrintLast Go.Proofs.YthgefgjaihagoaaW.PrintMore
attribute [local go_sem] Oper.semAt_some
set_option maxRecDepth 100000

/-- The k-th place of a block. -/
def plcAt (b : ByteArray) (k : Nat) : ChE := ⟨valB b (16 * k) 4, valB b (16 * k + 4) 6, valB b (16 * k + 10) 6⟩
def plcL (b : ByteArray) (k : Nat) : List ChE := (List.range k).map (plcAt b)
theorem plcL_succ (b : ByteArray) (k : Nat) : plcL b (k + 1) = plcL b k ++ [plcAt b k] := by simp [plcL, List.range_succ]
theorem plcL_len (b : ByteArray) (k : Nat) : (plcL b k).length = k := by simp [plcL]
theorem take_inP {b : ByteArray} (hb : b.size = 508) {a w : Nat} (h : a + w ≤ 508) (h1 : 1 ≤ w) (h8 : w ≤ 8) : num_Take.f 12 b (a : Int) (w : Int) = some (valB b a w, 0) := by
  rw [take_f b (a : Int) w (by omega) (by omega) (by omega) 12 (by omega)]
  unfold takeV
  rw [if_pos ⟨by omega, by omega, by omega, by omega⟩]; rfl
theorem wP (a : Nat) (c : Int) (h : a ≤ 1000000) (h0 : 0 ≤ c) (h1 : c ≤ 60) : wrap64 ((a : Int) + c) = (a : Int) + c := IntWalk.wrap64_in _ (by omega)
theorem measP (k : Nat) (h : k < 31) (e : wrap64 ((k : Int) + 1) = (k : Int) + 1) : 31 - (intOf (.int .i64 (wrap64 ((k : Int) + 1)))).toNat < 31 - (intOf (.int .i64 (k : Int))).toNat := by
  rw [e]; show 31 - ((k : Int) + 1).toNat < 31 - (k : Int).toNat; omega
def plV (x : ChE) : Value := .agg #[.int .u32 x.f0, .int .u64 x.f1, .int .u64 x.f2]
set_option maxHeartbeats 4000000 in
/-- The iterator of dat.places. -/
theorem places_seq (nn : Nat) (h1n : 1 ≤ nn) (b : ByteArray) (hb : b.size = 508) (Bb : Nat) (w : World) (hBb : w.heap[Bb]? = some (.cells #[.string b] 9 (0, 0))) :
    SeqN Fence.wide nn Try.prog 93 #[.pointer (some ⟨Bb, 0, none⟩)] (fun k => #[plV (plcAt b k)]) (fun _ => False) (fun _ => False) (fun j => j = Bb) 31 w := fun lp J Jx W hW hJ hJx hY h0 => by
  have hlb : Bb < w.heap.size := (Array.getElem?_eq_some_iff.1 hBb).1
  have hbk : W.heap[Bb]? = some (.cells #[.string b] 9 (0, 0)) := (hW.block Bb hlb).trans hBb
  clear hW hBb
  have HB := Aside0.mk hb
  clear hb
  refine callsIn_of_wp Try.func93 rfl trivial ?_ rfl
  simp only [Try.ntmps93, List.size_toArray, List.length_cons, List.length_nil, Nat.reduceAdd, Nat.reduceSub, Array.replicate_succ, Array.replicate_zero, List.push_toArray, List.append_toArray, List.nil_append, List.cons_append]
  gi_wp2
  gi_loopw [10] (fun i wr => ∃ k : Nat, k ≤ 31 ∧ i = .int .i64 k ∧ J k wr ∧ wr.heap[Bb]? = some (.cells #[.string b] 9 (0, 0)))
    (fun i _ => 31 - (intOf i).toNat)
  case atStart => exact ⟨0, by omega, rfl, h0, hbk⟩
  case round =>
    obtain ⟨k, hk, rfl, hJs, hbk⟩ := hrel
    have hcb : wr.cell? ⟨Bb, 0, none⟩ = some (.string b) := by rw [Lib.cell_of_heap hbk]; rfl
    by_cases hlt : k < 31
    · have hkl : decide ((k : Int) < 31) = true := decide_eq_true (by omega)
      obtain ⟨at', hat⟩ : ∃ a : Nat, 16 * k = a := ⟨_, rfl⟩
      have hat4 : at' ≤ 480 := by omega
      have e16 : wrap64 (16 * (k : Int)) = (at' : Int) := by rw [IntWalk.wrap64_in _ (by omega)]; omega
      have e4 : wrap64 ((at' : Int) + 4) = (at' : Int) + 4 := wP at' 4 (by omega) (by decide) (by decide)
      have e10 : wrap64 ((at' : Int) + 10) = (at' : Int) + 10 := wP at' 10 (by omega) (by decide) (by decide)
      have ek1 := wP k 1 (by omega) (by decide) (by decide)
      have hw32 : IntKind.u32.wrap (valB b at' 4) = valB b at' 4 := IntWalk.u32_in _ (by have := valB_range b at' 4; omega)
      have HT1 : Aside0 (num_Take.f 12 b (at' : Int) 4 = some (valB b at' 4, 0)) := Aside0.mk (take_inP HB.out (a := at') (w := 4) (by omega) (by decide) (by decide))
      have HT2 : Aside0 (num_Take.f 12 b ((at' : Int) + 4) 6 = some (valB b (at' + 4) 6, 0)) := Aside0.mk (take_inP HB.out (a := at' + 4) (w := 6) (by omega) (by decide) (by decide))
      have HT3 : Aside0 (num_Take.f 12 b ((at' : Int) + 10) 6 = some (valB b (at' + 10) 6, 0)) := Aside0.mk (take_inP HB.out (a := at' + 10) (w := 6) (by omega) (by decide) (by decide))
      have HAT := Aside0.mk hat
      have HK := Aside0.mk hlt
      clear hat hlt hk hat4
      gi_wp2_with fail
      refine ⟨trivial, (callsIn_wide.2 (num_Take.calls 12 b _ 4 _ _ _ HT1.out)).mono ?_⟩
      rintro e w1 ⟨rfl, hD1⟩
      have hc1 : w1.cell? ⟨Bb, 0, none⟩ = some (.string b) := by obtain ⟨n1, rfl⟩ := hD1.out; exact hcb
      gi_wp2_with fail
      refine ⟨trivial, (callsIn_wide.2 (num_Take.calls 12 b _ 6 _ _ _ HT2.out)).mono ?_⟩
      rintro e w2 ⟨rfl, hD2⟩
      have hc2 : w2.cell? ⟨Bb, 0, none⟩ = some (.string b) := by obtain ⟨n2, rfl⟩ := hD2.out; exact hc1
      gi_wp2_with fail
      refine ⟨trivial, (callsIn_wide.2 (num_Take.calls 12 b _ 6 _ _ _ HT3.out)).mono ?_⟩
      rintro e w3 ⟨rfl, hD3⟩
      have hJ3 : J k w3 := hJ k _ _ (hJ k _ _ (hJ k _ _ hJs (Turn.of_below hD1.below)) (Turn.of_below hD2.below)) (Turn.of_below hD3.below)
      have hb3 : w3.heap[Bb]? = some (.cells #[.string b] 9 (0, 0)) := by
        obtain ⟨n1, rfl⟩ := hD1.out
        obtain ⟨n2, rfl⟩ := hD2.out
        obtain ⟨n3, rfl⟩ := hD3.out
        exact hbk
      obtain ⟨fn, tmps, assign, body, hy, hR⟩ := hY k _ HK.out hJ3
      unfold plV plcAt at hy
      simp only [HAT.out] at hy
      gi_wp2
      refine hR.mono ?_
      rintro e W3 (⟨rfl, hJ4, hk4⟩ | ⟨rfl, hJx4⟩)
      · have hb4 : W3.heap[Bb]? = some (.cells #[.string b] 9 (0, 0)) := (hk4.same Bb rfl (Array.getElem?_eq_some_iff.1 hb3).1).trans hb3
        gi_wp2
        go_roundw
        case rel => exact ⟨k + 1, Nat.succ_le_of_lt HK.out, by simp [ek1], hJ4, hb4⟩
        case measure => exact measP k HK.out ek1
      · gi_wp2
        refine bodyPost_ret (results_none rfl _ _ _) rfl ?_
        exact ⟨⟨_, rfl⟩, .inr ⟨k + 1, Nat.succ_le_of_lt HK.out, hJx4⟩⟩
    · have hkl : decide ((k : Int) < 31) = false := decide_eq_false (by omega)
      have hkw : k = 31 := by omega
      gi_wp2
      go_end0
      exact ⟨⟨_, rfl⟩, .inl (hkw ▸ hJs)⟩
end Go.Proofs.Ythgefgjaihagoaa.Q

set_option linter.unusedVariables false
set_option linter.unusedSimpArgs false
namespace Go.Proofs.Ythgefgjaihagoaa.Q
open Go.RowKit Go.Shelf Go.Proofs.Ythgefgjaihagoaa.H Go.Proofs.Ythgefgjaihagoaa.P Go.Proofs.YthgefgjaihagoaaW.PrintWords Go.Proofs.YthgefgjaihagoaaW.PrintLast Go.Proofs.YthgefgjaihagoaaW.PrintMore
attribute [local go_sem] Oper.semAt_some
set_option maxRecDepth 100000

def plC (x : ChE) : List Value := [.int .u32 x.f0, .int .u64 x.f1, .int .u64 x.f2]
def flatC (l : List ChE) : List Value := (l.map plC).flatten
theorem flatC_snoc (l : List ChE) (x : ChE) : flatC (l ++ [x]) = flatC l ++ plC x := by simp [flatC]
theorem flatC_len : ∀ l : List ChE, (flatC l).length = l.length * 3
  | [] => rfl
  | x :: xs => by
    have := flatC_len xs
    unfold flatC at this ⊢
    rw [List.map_cons, List.flatten_cons, List.length_append, this, List.length_cons]
    show 3 + _ = _
    omega
theorem flatC_at : ∀ (l : List ChE) (j : Nat) (p : ChE), l[j]? = some p → ((flatC l).drop (j * 3)).take 3 = plC p
  | [], j, p, h => by simp at h
  | x :: xs, 0, p, h => by
    simp at h; subst h
    simp [flatC, plC]
  | x :: xs, j + 1, p, h => by
    have e : flatC (x :: xs) = plC x ++ flatC xs := by simp [flatC]
    rw [e, show (j + 1) * 3 = 3 + j * 3 by omega, ← List.drop_drop]
    exact flatC_at xs j p (by simpa using h)
theorem R_of_flat {w : World} {base : Nat} {v : Value} {l : List ChE} (h : w.ownsRow base 106 3 v l.length (flatC l)) : Kd.R k106 106 w base (fun _ => True) v l :=
  ⟨fun _ _ => trivial, flatC l, h, flatC_len l, fun j p hj => by
    have := flatC_at l j p hj
    show k106.M _ _ _ p (((flatC l).drop (j * 3)).take 3)
    rw [this]
    exact k106_mkM _ _ _ p⟩
theorem stands_rowT {own : Nat → Prop} {T : TypeId → Prop} {base : Nat} {e : TypeId} {size n : Nat} {v : Value} {xs : List Value} (he : ¬ T e) : Stands own T (fun W => W.ownsRow base e size v n xs) := fun A C h hT => by
  refine ⟨h.1, ?_⟩
  rcases h.2 with hn | ⟨g, cap, cur, hv, hbg, hg, rest⟩
  · exact .inl hn
  · exact .inr ⟨g, cap, cur, hv, hbg, hT.same g _ hg (.inr ⟨_, _, _, rfl, he⟩), rest⟩
theorem stands_boxT {own : Nat → Prop} {T : TypeId → Prop} (k : Nat) (t : TypeId) (v : Value) (ht : ¬ T t) : Stands own T (fun W => Boxed W k t v) := fun _ _ h hT => hT.same k _ h (.inr ⟨_, _, _, rfl, ht⟩)
theorem cells_new (w : World) (cs : List Value) (t : TypeId) : ∀ j u, cs[j]? = some u → (w.alloc (.cells cs.toArray t)).cell? ((⟨w.heap.size, 0, none⟩ : Addr).add j) = some u := by
  intro j u h
  have hn := World.alloc_heap_new w (.cells cs.toArray t)
  have he : (⟨w.heap.size, 0, none⟩ : Addr).add j = ⟨w.heap.size, j, none⟩ := by unfold Addr.add; split <;> simp_all
  rw [he, Lib.cell_of_heap hn]
  simpa using h
theorem row_slice {w : World} {base : Nat} {e : TypeId} {size n : Nat} {v : Value} {xs : List Value} (h : w.ownsRow base e size v n xs) : ∃ A c, v = .slice A n c := by
  rcases h.2 with ⟨rfl, rfl⟩ | ⟨g, cap, cur, rfl, _⟩
  · exact ⟨_, _, rfl⟩
  · exact ⟨_, _, rfl⟩
theorem places_calls (b : ByteArray) (w : World) : Calls Try.prog 64 #[.string b] w fun e w' =>
    e = .returned (.func (.func 93) #[] #[.pointer (some ⟨w.heap.size, 0, none⟩)]) ∧ w' = w.alloc (.cells #[.string b] 9) := by
  go_enter Try.func64, Try.ntmps64
  go_wp2
  go_ret
  exact ⟨rfl, rfl⟩

set_option maxHeartbeats 4000000 in
theorem appendSeq_calls (b : ByteArray) (hb : b.size = 508) (base : Nat) (v : Value) (xs : List ChE) (Bb : Nat) (w : World) (hBb : w.heap[Bb]? = some (.cells #[.string b] 9 (0, 0)))
    (hrow : w.ownsRow base 106 3 v xs.length (flatC xs)) (hbase : base ≤ w.heap.size) (hlen : xs.length ≤ 100000) :
    Calls Try.prog 63 #[v, .func (.func 93) #[] #[.pointer (some ⟨Bb, 0, none⟩)]] w fun e w' =>
      ∃ v', e = .returned v' ∧ w'.ownsRow base 106 3 v' (xs.length + 31) (flatC (xs ++ plcL b (31))) ∧ Below base w w' := by
  obtain ⟨i0, hi, hz0, hz1, hz2⟩ := info_parts info106
  obtain ⟨A, m, rfl⟩ := row_slice hrow
  refine (callsIn_wide (n := 10)).1 ?_
  refine callsIn_of_wp_marks Try.func63 rfl trivial ?_ rfl
  simp only [Try.ntmps63, List.size_toArray, List.length_cons, List.length_nil, Nat.reduceAdd, Nat.reduceSub, Array.replicate_succ, Array.replicate_zero, List.push_toArray, List.append_toArray, List.nil_append, List.cons_append]
  gi_wp2
  obtain ⟨H, hH⟩ : ∃ H, w.heap.size = H := ⟨_, rfl⟩
  have hbl : Below base w (w.alloc (.cells #[.slice A xs.length m] 51)) := (Below.refl base w).alloc (by omega) _
  have h0 : Boxed (w.alloc (.cells #[.slice A xs.length m] 51)) H 51 (.slice A xs.length m) := by
    have := Boxed.new w 51 (.slice A xs.length m); rwa [hH] at this
  have hrow0 := hrow.alloc (.cells #[.slice A xs.length m] 51)
  have hsz : (w.alloc (.cells #[.slice A xs.length m] 51)).heap.size = H + 1 := by simp [hH]
  have hlb : Bb < H := by rw [← hH]; exact (Array.getElem?_eq_some_iff.1 hBb).1
  have hb0 : (w.alloc (.cells #[.slice A xs.length m] 51)).heap[Bb]? = some (.cells #[.string b] 9 (0, 0)) := (Below.heap_alloc _ _ _ (by omega)).trans hBb
  rw [hH] at hbase ⊢
  generalize w.alloc (.cells #[.slice A xs.length m] 51) = W0 at hbl h0 hrow0 hsz hb0 ⊢
  refine wpIn_rangeW rfl (by omega) (gf := 93) (lb := #[.pointer (some ⟨Bb, 0, none⟩)]) rfl trivial (enters_of Try.func93 (by kernel_rfl) rfl)
    (places_seq 9 (by omega) b hb Bb W0 hb0) (Below.refl _ _) (fun _ => rfl) (fun h => h.elim) (fun h => h.elim) (by omega)
    (fun k W => (∃ v, Boxed W H 51 v ∧ W.ownsRow base 106 3 v (xs.length + k) (flatC (xs ++ plcL b k))) ∧ Below base w W ∧ Boxed W Bb 9 (.string b))
    (fun _ _ _ => False)
    (fun k => (stands_ex fun v => (stands_boxT _ _ _ (fun h => h)).and (stands_rowT (fun h => h))).and ((stands_below (by omega) (by rintro j (h | h | h) <;> first | exact h.elim | omega)).and (stands_boxT _ _ _ (fun h => h))))
    (fun _ _ _ _ h _ => h)
    ⟨⟨_, h0, by simpa [plcL] using hrow0⟩, hbl, hb0⟩
    (fun k V => { tmps := #[.slice A xs.length m, .func (.func 93) #[] #[.pointer (some ⟨Bb, 0, none⟩)], .pointer (some ⟨H, 0, none⟩), undef, .slice none 0 0, .pointer (some ⟨V.heap.size, 0, none⟩), .func (.func 93) #[] #[.pointer (some ⟨Bb, 0, none⟩)], plV (plcAt b k), undef, undef, undef, undef, undef], defers := [] })
    (fun k V => V.alloc (.cells #[.int .u32 (plcAt b k).f0, .int .u64 (plcAt b k).f1, .int .u64 (plcAt b k).f2] 106))
    (fun k V => (Below.refl _ _).alloc (Nat.le_refl _) _) ?assign ?body ?done ?stop
  case assign =>
    intro lo k W K _ hK
    unfold plV
    unfold plV at hK
    gi_wp2
    exact hK
  case body =>
    rintro lo k V W hk hVs ⟨⟨v, hv, hrow⟩, hB, hS⟩ hsame hsz2
    have bs : W.heap[V.heap.size]? = some (.cells #[.int .u32 (plcAt b k).f0, .int .u64 (plcAt b k).f1, .int .u64 (plcAt b k).f2] 106 (0, 0)) := (hsame _ (by omega)).trans (World.alloc_heap_new V _)
    obtain ⟨p, hp⟩ : ∃ p, V.heap.size = p := ⟨_, rfl⟩
    rw [hp] at bs
    have hsuc := plcL_succ b k
    obtain ⟨x, hx⟩ : ∃ x, plcAt b k = x := ⟨_, rfl⟩
    simp only [hx] at bs hsuc
    unfold plV
    simp only [hp, hx]
    have a0 : W.cell? ⟨p, 0, none⟩ = some (.int .u32 x.f0) := by rw [Lib.cell_of_heap bs]; rfl
    have a1 : W.cell? ⟨p, 1, none⟩ = some (.int .u64 x.f1) := by rw [Lib.cell_of_heap bs]; rfl
    have a2 : W.cell? ⟨p, 2, none⟩ = some (.int .u64 x.f2) := by rw [Lib.cell_of_heap bs]; rfl
    have hWs : H + 3 ≤ W.heap.size := by rw [hsz2]; simp; omega
    have hc0 := hv.cell
    have hkb : xs.length + k + 1 ≤ 200000 := by omega
    have hSn := hS.not_row (by decide) hrow
    clear hsame hsz2 hp bs
    gi_wp2_with (first | (gi_at_builtin; refine wpListIn_append_own _ rfl _ _ 51 rfl base 106 i0 (.agg #[.int .u32 0, .int .u64 0, .int .u64 0]) 3 24 Try.underlying51 hi hz0 hz1 hz2 rfl (by decide) _ _ _ rfl (hrow.alloc _) ⟨W.heap.size, 0, none⟩ 1 1 (plC x) rfl rfl (cells_new _ _ _) (by unfold plC; simp [Value.oneCell']) (by unfold maxLen; omega) (by omega) (by simp; omega) ?_; intro v' w1 hown' hgrow _; obtain ⟨g', cap', rfl⟩ := ownsRow_succ hown'; obtain ⟨hv1, hv2, hr2, hk2, hb2⟩ := Boxed.appended hv (by decide) hrow (by omega) (by omega) hown' hgrow; have hc1 := hv1.cell; have hf1 := hv1.frozen))
    have hsb : ∀ u, (w1.setCell ⟨H, 0, none⟩ u).heap[Bb]? = W.heap[Bb]? := fun u => (Below.heap_setCell _ _ _ _ (by show Bb ≠ H; omega)).trans ((hgrow.block Bb (by simp; omega) hSn).trans (Below.heap_alloc _ _ _ (by omega)))
    refine ⟨hk2, ⟨by have := hb2.size; omega, fun j hj hl => ?_⟩, ⟨_, hv2, ?_⟩, hB.trans hb2, (hsb _).trans hS⟩
    · subst hj; exact hsb _
    · rw [hsuc, ← List.append_assoc, flatC_snoc]; exact hr2
  case done =>
    rintro W ⟨⟨v, hv, hrow⟩, hB, hS⟩ hWs hD
    have hc0 := hv.cell
    obtain ⟨A', m', rfl⟩ := row_slice hrow
    gi_wp2
    refine ⟨by simp, .inl ⟨_, _, rfl, run_takeDeferred hD, ?_⟩⟩
    refine ⟨_, results_tmp rfl _ _ _, ⟨_, rfl, ?_, ?_⟩⟩
    · exact ownsRow_putObj hrow _ hD rfl
    · exact hB.trans (belowK_b (w := W0) (by omega) W _ _ _ (by omega) hD rfl rfl)
  case stop =>
    intro c k W _ h
    exact h.elim

/-- The places of several blocks. -/
def plcCat (bs : List ByteArray) : List ChE := (bs.map fun b => plcL b 31).flatten
theorem plcCat_take (bs : List ByteArray) (k : Nat) (h : k < bs.length) : plcCat (bs.take (k + 1)) = plcCat (bs.take k) ++ plcL bs[k] 31 := by
  unfold plcCat
  rw [List.take_succ_eq_append_getElem h, List.map_append, List.flatten_append]; simp
theorem plcCat_len : ∀ bs : List ByteArray, (plcCat bs).length = 31 * bs.length
  | [] => by simp [plcCat]
  | b :: bs => by
    have h1 := plcCat_len bs
    unfold plcCat at h1 ⊢
    rw [List.map_cons, List.flatten_cons, List.length_append, plcL_len, List.length_cons]
    omega
theorem quo_ok {m n : Nat} (h1 : wrap64 ((m : Int) - 1) = (m : Int) - 1) (hm : m ≤ 1000000) (hn : n ≤ 1860) (h : ((m : Int) - 1).tdiv 31 + 1 = (n : Int)) : (wrap64 (wrap64 (((m : Int) - 1).tdiv 31) + 1) != (n : Int)) = false := by
  have e : ((m : Int) - 1).tdiv 31 = (n : Int) - 1 := by omega
  rw [e, IntWalk.wrap64_in ((n : Int) - 1) (by omega), IntWalk.wrap64_in _ (by omega)]
  simp
set_option maxHeartbeats 8000000 in
/-- dat.Decode of blocks that are right: their places, bare. -/
theorem dat_Decode.yes (k : Nat) (A0 : Option Addr) (c0 : Nat) (l0 : List ByteArray) (m : List ChE) (w : World) (hr0 : Kd.C Kd.string w A0 l0.length l0) (hc0 : l0.length ≤ c0) (hl : l0.length ≤ 1860)
    (hs : ∀ j, (hj : j < l0.length) → l0[j].size = 508 ∧ num_Bare.f l0[j] 496 = some true) (hb : dat_bare.f k (plcCat l0) = some m) (hR : dat_Right.f m = some true) (hq1 : m.length ≤ 1000000) (hq : ((m.length : Int) - 1).tdiv 31 + 1 = (l0.length : Int)) :
    Calls Try.prog 21 #[.slice A0 l0.length c0] w fun e w' => ∃ v0_ : Value, e = .returned (.tuple #[v0_, .int .i64 0]) ∧ Kd.R k106 106 w' w.heap.size (fun _ => True) v0_ m ∧ Below w.heap.size w w' := by
  have HR := Aside0.mk hr0
  have HC := Aside0.mk hc0
  have HS := Aside0.mk hs
  have HBR := Aside0.mk hb
  have HRR := Aside0.mk hR
  have HQ := Aside0.mk hq
  have HL := Aside0.mk hl
  have HM1 := Aside0.mk hq1
  have h1 : decide ((1860 : Int) < (l0.length : Int)) = false := decide_eq_false (by omega)
  clear hr0 hc0 hs hb hR hq hl hq1
  go_enter Try.func21, Try.ntmps21
  go_wp2
  go_loopg [4, 12] l0.length (fun gg v4 v12 w' => ∃ (kk : Nat) (m : Nat), kk ≤ l0.length ∧ l0.length - kk ≤ gg ∧ v12 = .int .i64 kk ∧ Aside0 (m = (plcCat (l0.take kk)).length) ∧ Aside0 (w'.ownsRow w.heap.size 106 3 v4 m (flatC (plcCat (l0.take kk)))) ∧ Aside0 (Below w.heap.size w w'))
  case atStart => exact ⟨0, 0, Nat.zero_le _, by omega, rfl, ⟨by simp [plcCat]⟩, ⟨by simpa [plcCat, flatC] using World.ownsRow_nil _ _ _ _⟩, ⟨Below.refl _ _⟩⟩
  case round =>
    obtain ⟨kk, m', hkk, hg, rfl, HM, HO, HB⟩ := hrel
    by_cases hlt : kk < l0.length
    · have hltz : (kk : Int) < (l0.length : Int) := by omega
      obtain ⟨ad, rfl, h0⟩ := Kd.at_string (Kd.C_below HR.out HB.out) (kk : Int) (by omega) hltz
      have e0 : rdOf ByteArray.empty l0 (kk : Int) = l0[kk] := by simp [rdOf, hlt]
      rw [e0] at h0
      obtain ⟨hs, hbare⟩ := HS.out kk hlt
      obtain ⟨b, hb⟩ : ∃ b, l0[kk] = b := ⟨_, rfl⟩
      rw [hb] at hs hbare
      rw [hb, Int.toNat_natCast] at h0
      clear e0
      have hs1 : ((b.size : Int) != 508) = false := by simp; omega
      have HSB := Aside0.mk hs
      have HBB := Aside0.mk hb
      have HBA := Aside0.mk hbare
      clear hs hb hbare
      go_wp2_with fail
      refine (num_Bare.same b _ true _ HBA.out).mono ?_
      rintro e wr ⟨rfl, rfl⟩
      go_wp2_with fail
      refine (places_calls b _).mono ?_
      rintro e w1 ⟨rfl, rfl⟩
      go_wp2_with fail
      have hr := HO.out
      rw [HM.out] at hr
      have hlen : (plcCat (l0.take kk)).length ≤ 100000 := by have h1 := plcCat_len (l0.take kk); have h2 := HL.out; rw [List.length_take] at h1; omega
      have hws := HB.out.size
      refine (appendSeq_calls b HSB.out w.heap.size u4 (plcCat (l0.take kk)) wr.heap.size _ (World.alloc_heap_new wr _) (hr.alloc _) (by rw [World.size_alloc]; omega) hlen).mono ?_
      rintro e w2 ⟨v', rfl, hr2, hb2⟩
      have hct := plcCat_take l0 kk hlt
      rw [HBB.out] at hct
      rw [← hct] at hr2
      have hml : (plcCat (l0.take kk)).length + 31 = (plcCat (l0.take (kk + 1))).length := by rw [hct, List.length_append, plcL_len]
      have HR2 := Aside0.mk hr2
      have HML := Aside0.mk hml
      clear hr hlen hr2 hct hml
      go_wp2
      go_roundg (l0.length - (kk + 1))
      case measure => omega
      case rel => exact ⟨kk + 1, _, by omega, by omega, by rw [wP kk 1 (by have := HL.out; omega) (by decide) (by decide)]; rfl, HML, HR2, ⟨(HB.out.alloc hws _).trans hb2⟩⟩
    · have hltz : ¬ (kk : Int) < (l0.length : Int) := by omega
      rw [show l0.take kk = l0 from List.take_of_length_le (by omega)] at HM HO
      have hm := HM.out
      subst hm
      have hRo := R_of_flat HO.out
      have HB0 := HB.out
      clear HR HS HM
      go_wp2_with fail
      refine (dat_bare.calls k (fun _ => True) _ (plcCat l0) m w _ HB0 hRo HBR.out).mono ?_
      rintro e w1 ⟨v0, rfl, hR1, hB1, hK1⟩
      obtain ⟨A1, c1, rfl, hl1, hC1⟩ := Kd.R_reads hR1
      have HR1 := Aside0.mk (Kd.R_mono hR1 (fun k_ _ => trivial) : Kd.R k106 106 w1 w.heap.size (fun _ => True) _ m)
      clear hR1 hRo HO HB hK1
      have hf1 : wrap64 ((m.length : Int) - 1) = (m.length : Int) - 1 := IntWalk.wrap64_in _ (by have := HM1.out; omega)
      have hf2 : (wrap64 (wrap64 (((m.length : Int) - 1).tdiv 31) + 1) != (l0.length : Int)) = false := quo_ok hf1 HM1.out HL.out HQ.out
      have HC1 := Aside0.mk hC1
      have HL1 := Aside0.mk hl1
      have HB1 := Aside0.mk hB1
      clear hC1 hl1 hB1
      go_wp2_with fail
      refine (dat_Right.calls A1 c1 m true _ HC1.out HL1.out HRR.out).mono ?_
      rintro e w2 ⟨rfl, hB2⟩
      have HB2 := Aside0.mk (HB1.out.trans (hB2.mono HB1.out.size))
      have HR2 := Aside0.mk (Kd.R_below HR1.out hB2)
      clear hB2
      go_wp2
      go_ret2
      exact ⟨_, rfl, HR2.out, HB2.out⟩
end Go.Proofs.Ythgefgjaihagoaa.Q
