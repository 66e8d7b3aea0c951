/- root.Encode: a root's content. -/
import Derived.Test.YtmpcpcfdomlehaaHRootR
import Derived.Test.YtmpcpcfdomlehaaHNum
import Derived.Laws.EntriesVeiled
set_option linter.unusedVariables false
set_option linter.unusedSimpArgs false
namespace Go.Proofs.Ytmpcpcfdomlehaa.Q
open Go.RowKit Go.Shelf Go.Proofs.Ytmpcpcfdomlehaa.H Go.Proofs.YtmpcpcfdomlehaaW.PrintWords Go.Proofs.YtmpcpcfdomlehaaW.PrintLast Go.Proofs.YtmpcpcfdomlehaaW.PrintMore
attribute [local go_sem] Oper.semAt_some
set_option maxRecDepth 100000

def numsB (l : List Int) : List UInt8 := (l.map fun x => lowBytes x 4).flatten
def rootL (a b : Int) (d c : List Int) : List UInt8 := lowBytes a 6 ++ lowBytes b 6 ++ lowBytes d.length 1 ++ lowBytes c.length 1 ++ numsB (d ++ c)
def rootB (a b : Int) (d c : List Int) : ByteArray := ⟨(rootL a b d c ++ List.replicate (508 - (rootL a b d c).length) (0 : UInt8)).toArray⟩
def root_Encode.f (a b : Int) (d c : List Int) : Option (ByteArray × Int) := if rightV a b d c = true then (if 0 ≤ a ∧ 0 ≤ b then some (rootB a b d c, 0) else none) else some (⟨#[]⟩, 153)
theorem putR_f {n wd : Int} (h1 : 1 ≤ wd) (h8 : wd ≤ 8) (h0 : 0 ≤ n) (hn : n < 256 ^ wd.toNat) (hn2 : n < 18446744073709551616) : num_Put.f n wd = some (leB n wd.toNat, 0) := by
  unfold num_Put.f
  rw [if_pos ⟨h0, hn2⟩, if_pos ⟨h1, h8⟩, if_pos (Int.ediv_eq_zero_of_lt h0 hn)]; rfl
theorem kept_below {e : TypeId} {b : Nat} {W W' : World} (h : Below W.heap.size W W') : Lib.OthersKept e (some b) W W' := fun k o hk _ _ => (h.block k (Array.getElem?_eq_some_iff.1 hk).1).trans hk
theorem kept_trans {e : TypeId} {b : Nat} {A B C : World} (h : Lib.OthersKept e (some b) A B) (k : Lib.OthersKept e (some b) B C) : Lib.OthersKept e (some b) A C := fun i o hi hb ho => k i o (h i o hi hb ho) hb ho
set_option maxHeartbeats 4000000 in
theorem putR_calls (B : Nat) (n wd : Int) (xs : List UInt8) (w : World) (hp : num_Put.f n wd = some (leB n wd.toNat, 0)) (hwd : wd.toNat ≤ 8) (hB : Lib.IsBuilderF 40 5 B B (Lib.byteCells xs) w) (hx : xs.length ≤ 100000) (hBw : B < w.heap.size) :
    Calls Try.prog 16 #[.int .u64 n, .int .i64 wd, .pointer (some ⟨B, 0, none⟩)] w fun e w' => (∃ v, e = .returned v) ∧ Lib.IsBuilderF 40 5 B B (Lib.byteCells (xs ++ lowBytes n wd.toNat)) w' ∧ Below B w w' ∧ Lib.OthersKept 5 (some B) w w' := by
  go_enter Try.func16, Try.ntmps16
  go_wp2_with fail
  refine (num_Put.calls _ _ _ _ _ hp).mono ?_
  rintro e w1 ⟨rfl, hb1⟩
  have hB1 := (Turn.of_below (own := fun _ => False) (T := fun _ => False) hb1).builder hB (fun h => h) (fun h => h)
  have hs1 := hb1.size
  have hsz : (leB n wd.toNat).size ≤ 8 := by rw [leB_size]; exact hwd
  go_wp2_with fail
  refine (b_WriteString B B _ (leB n wd.toNat) w1 hB1 (by rw [Lib.byteCells_length]; omega) (by omega)).mono ?_
  rintro e w2 ⟨rfl, hB2, hbe2, ho2⟩
  go_wp2
  go_end0
  refine ⟨⟨_, rfl⟩, ?_, (hb1.mono (by omega)).trans hbe2, kept_trans (kept_below hb1) ho2⟩
  rw [Lib.byteCells_append]
  exact .inr hB2

theorem okL_all : ∀ (l pre : List Int), okL pre l = true → ∀ x ∈ l, 16 ≤ x ∧ x < 4096
  | [], _, _ => by simp
  | x :: xs, pre, h => by
    unfold okL at h
    simp only [Bool.and_eq_true, Bool.not_eq_true', decide_eq_false_iff_not] at h
    intro y hy
    rcases List.mem_cons.1 hy with rfl | hy
    · omega
    · exact okL_all xs _ h.2.2.2 y hy
theorem right_facts {a b : Int} {d c : List Int} (h : rightV a b d c = true) : a < 281474976710656 ∧ b < 281474976710656 ∧ d.length ≤ 60 ∧ c.length ≤ 12 ∧ ∀ x ∈ d ++ c, 16 ≤ x ∧ x < 4096 := by
  unfold rightV headR at h
  simp only [Bool.and_eq_true, Bool.not_eq_true', Bool.or_eq_false_iff, decide_eq_false_iff_not] at h
  exact ⟨by omega, by omega, by omega, by omega, okL_all _ _ h.2⟩
theorem numsB_take (l : List Int) (k : Nat) (h : k < l.length) : numsB (l.take (k + 1)) = numsB (l.take k) ++ lowBytes (l.getD k 0) 4 := by
  have e : l.getD k 0 = l[k] := by simp [h]
  unfold numsB
  rw [List.take_succ_eq_append_getElem h, List.map_append, List.flatten_append, e]; simp
theorem numsB_len : ∀ (l : List Int), (numsB l).length = 4 * l.length
  | [] => rfl
  | x :: xs => by
    have := numsB_len xs
    unfold numsB at this ⊢
    simp only [List.map_cons, List.flatten_cons, List.length_append, lowBytes_length, List.length_cons]; omega
def rootH (a b : Int) (d c : List Int) : List UInt8 := lowBytes a 6 ++ lowBytes b 6 ++ lowBytes d.length 1 ++ lowBytes c.length 1
theorem rootH_len (a b : Int) (d c : List Int) : (rootH a b d c).length = 14 := by simp [rootH, lowBytes_length]
theorem rootL_len (a b : Int) (d c : List Int) : (rootL a b d c).length = 14 + 4 * (d.length + c.length) := by
  show (rootH a b d c ++ numsB (d ++ c)).length = _
  rw [List.length_append, rootH_len, numsB_len, List.length_append]
theorem fit_root (a b : Int) (d c : List Int) (h : d.length + c.length ≤ 72) : num_Fit.f ⟨(rootL a b d c).toArray⟩ 508 = some (rootB a b d c, 0) := by
  have hs : (⟨(rootL a b d c).toArray⟩ : ByteArray).size = 14 + 4 * (d.length + c.length) := by rw [← rootL_len a b d c]; simp [ByteArray.size]
  unfold num_Fit.f
  rw [if_neg (by omega), if_neg (by omega), if_neg (by omega), hs]
  have he : (⟨(rootL a b d c).toArray⟩ : ByteArray) ++ zerosB ((508 : Int) - ((14 + 4 * (d.length + c.length) : Nat) : Int)).toNat = rootB a b d c := by
    unfold rootB zerosB
    apply ByteArray.ext
    rw [rootL_len, show ((508 : Int) - ((14 + 4 * (d.length + c.length) : Nat) : Int)).toNat = 508 - (14 + 4 * (d.length + c.length)) by omega]
    simp
  rw [he]

/-- How the world stands behind a put. -/
structure RSt (a b : Int) (A2 : Option Addr) (c2 n2 : Nat) (A3 : Option Addr) (c3 n3 : Nat) (H G : Nat) (w : World) (xs : List UInt8) (W : World) : Prop where
  hb : Lib.IsBuilderF 40 5 G G (Lib.byteCells xs) W
  hr : W.heap[H]? = some (.cells #[.int .u64 a, .int .u64 b, .slice A2 n2 c2, .slice A3 n3 c3] 25 (0, 0))
  hp : W.heap[G + 1]? = some (.cells #[.func (.func 16) #[] #[.pointer (some ⟨G, 0, none⟩)]] 46 (0, 0))
  hw : Below H w W
  hs : G + 2 ≤ W.heap.size
variable {a b : Int} {A2 : Option Addr} {c2 n2 : Nat} {A3 : Option Addr} {c3 n3 : Nat} {H G : Nat} {w W W' : World} {xs ys : List UInt8}
theorem RSt.put (h : RSt a b A2 c2 n2 A3 c3 n3 H G w xs W) (hH : H < G) (h1 : Lib.IsBuilderF 40 5 G G (Lib.byteCells (xs ++ ys)) W') (h2 : Below G W W') (h3 : Lib.OthersKept 5 (some G) W W') : RSt a b A2 c2 n2 A3 c3 n3 H G w (xs ++ ys) W' :=
  ⟨h1, (kept_typ h3 h.hr (by omega) (by decide)).trans h.hr, (kept_typ h3 h.hp (by omega) (by decide)).trans h.hp, h.hw.trans (h2.mono (by omega)), Nat.le_trans h.hs h2.size⟩
theorem RSt.turn (h : RSt a b A2 c2 n2 A3 c3 n3 H G w xs W) (hH : H < G) (hw : H ≤ w.heap.size) {own : Nat → Prop} (ht : Turn own (fun _ => False) W W') (ho : ∀ j, own j → G + 2 ≤ j) : RSt a b A2 c2 n2 A3 c3 n3 H G w xs W' :=
  ⟨ht.builder h.hb (fun h => h) (fun h => h), ht.same _ _ h.hr (.inl (fun e => by have := ho _ e; omega)), ht.same _ _ h.hp (.inl (fun e => by have := ho _ e; omega)),
    stands_below hw (fun j hj => by have := ho j hj; omega) _ _ h.hw ht, Nat.le_trans h.hs ht.size⟩
theorem RSt.field (h : RSt a b A2 c2 n2 A3 c3 n3 H G w xs W) : W.cell? ⟨H, 0, none⟩ = some (.int .u64 a) ∧ W.cell? ⟨H, 1, none⟩ = some (.int .u64 b) ∧ W.cell? ⟨H, 2, none⟩ = some (.slice A2 n2 c2) ∧ W.cell? ⟨H, 3, none⟩ = some (.slice A3 n3 c3) ∧
    W.cell? ⟨G + 1, 0, none⟩ = some (.func (.func 16) #[] #[.pointer (some ⟨G, 0, none⟩)]) :=
  ⟨by rw [Lib.cell_of_heap h.hr]; rfl, by rw [Lib.cell_of_heap h.hr]; rfl, by rw [Lib.cell_of_heap h.hr]; rfl, by rw [Lib.cell_of_heap h.hr]; rfl, by rw [Lib.cell_of_heap h.hp]; rfl⟩

theorem RSt.put_calls (h : RSt a b A2 c2 n2 A3 c3 n3 H G w xs W) (hH : H < G) {n wd : Int} (hp : num_Put.f n wd = some (leB n wd.toNat, 0)) (hwd : wd.toNat ≤ 8) (hx : xs.length ≤ 1000) :
    Calls Try.prog 16 #[.int .u64 n, .int .i64 wd, .pointer (some ⟨G, 0, none⟩)] W fun e W' => (∃ v, e = .returned v) ∧ RSt a b A2 c2 n2 A3 c3 n3 H G w (xs ++ lowBytes n wd.toNat) W' ∧ Below G W W' ∧ Lib.OthersKept 5 (some G) W W' :=
  (putR_calls G n wd xs W hp hwd h.hb (by omega) (by have := h.hs; omega)).mono fun e W' ⟨hv, h1, h2, h3⟩ => ⟨hv, h.put hH h1 h2 h3, h2, h3⟩

set_option maxHeartbeats 8000000 in
theorem rootE_yes (a b : Int) (A2 : Option Addr) (c2 : Nat) (d : List Int) (A3 : Option Addr) (c3 : Nat) (c : List Int) (w : World) (hC2 : Kd.C (Kd.int .u32) w A2 d.length d) (hc2 : d.length ≤ c2) (hC3 : Kd.C (Kd.int .u32) w A3 c.length c) (hc3 : c.length ≤ c3)
    (hr : rightV a b d c = true) (ha : 0 ≤ a) (hb : 0 ≤ b) :
    Calls Try.prog 8 #[.agg #[.int .u64 a, .int .u64 b, .slice A2 d.length c2, .slice A3 c.length c3]] w fun e w' => e = .returned (.tuple #[.string (rootB a b d c), .int .i64 0]) ∧ Below w.heap.size w w' := by
  have HC2 := Aside0.mk hC2
  have HC3 := Aside0.mk hC3
  have HR := Aside0.mk hr
  have HF := Aside0.mk (And.intro (And.intro ha hb) (right_facts hr))
  clear hC2 hC3 hr ha hb
  refine (callsIn_wide (n := 10)).1 ?_
  refine callsIn_of_wp_marks Try.func8 rfl trivial ?_ rfl
  simp only [Try.ntmps8, List.size_toArray, List.length_cons, List.length_nil, Nat.reduceAdd, Nat.reduceSub, Array.replicate_succ, Array.replicate_zero, List.push_toArray, List.append_toArray, List.nil_append, List.cons_append]
  gi_wp2_with fail
  refine ⟨trivial, (callsIn_wide.2 (root_Right.calls a b A2 c2 d A3 c3 c true _ (Kd.C_alloc HC2.out _) hc2 (Kd.C_alloc HC3.out _) hc3 (congrArg some HR.out))).mono ?_⟩
  rintro e w1 ⟨rfl, hb1⟩
  have hS : RSt a b A2 c2 d.length A3 c3 c.length w.heap.size w1.heap.size w [] ((w1.alloc (.cells #[.pointer none, .slice none 0 0] 40)).alloc (.cells #[.func (.func 16) #[] #[.pointer (some ⟨w1.heap.size, 0, none⟩)]] 46)) := by
    have hs1 := hb1.size
    rw [World.size_alloc] at hs1
    have hx : w1.heap[w.heap.size]? = some (.cells #[.int .u64 a, .int .u64 b, .slice A2 d.length c2, .slice A3 c.length c3] 25 (0, 0)) := (hb1.block _ (by simp)).trans (World.alloc_heap_new w _)
    refine ⟨?_, ?_, ?_, ?_, by simp⟩
    · exact (Lib.IsBuilderF.of (Lib.fresh_isBuilder 40 5 w1)).alloc _
    · rw [Below.heap_alloc _ _ _ (by simp; omega), Below.heap_alloc _ _ _ (by omega)]; exact hx
    · have := World.alloc_heap_new (w1.alloc (.cells #[.pointer none, .slice none 0 0] 40)) (.cells #[.func (.func 16) #[] #[.pointer (some ⟨w1.heap.size, 0, none⟩)]] 46)
      rwa [World.size_alloc] at this
    · exact (((((Below.refl w.heap.size w).alloc (Nat.le_refl _) _).trans (hb1.mono (by simp))).alloc (by omega) _).alloc (by simp; omega) _)
  have hHG : w.heap.size < w1.heap.size := by have := hb1.size; rw [World.size_alloc] at this; omega
  obtain ⟨f0, f1, f2, f3, fp⟩ := hS.field
  have HS := Aside0.mk hS
  clear hS hb1
  gi_wp2_with fail
  refine ⟨trivial, (callsIn_wide.2 (HS.out.put_calls hHG (n := a) (wd := 6) (putR_f (by decide) (by decide) (by have := HF.out; omega) (by have := HF.out; rw [show (256 : Int) ^ (6 : Int).toNat = 281474976710656 by decide]; omega) (by have := HF.out; omega)) (by decide) (by simp [lowBytes_length]))).mono ?_⟩
  rintro e w2 ⟨⟨v2, rfl⟩, hS, _, _⟩
  clear HS f0 f1 f2 f3 fp
  obtain ⟨f0, f1, f2, f3, fp⟩ := hS.field
  have HS := Aside0.mk hS
  clear hS
  gi_wp2_with fail
  refine ⟨trivial, (callsIn_wide.2 (HS.out.put_calls hHG (n := b) (wd := 6) (putR_f (by decide) (by decide) (by have := HF.out; omega) (by have := HF.out; rw [show (256 : Int) ^ (6 : Int).toNat = 281474976710656 by decide]; omega) (by have := HF.out; omega)) (by decide) (by simp [lowBytes_length]))).mono ?_⟩
  rintro e w3 ⟨⟨v3, rfl⟩, hS, _, _⟩
  clear HS f0 f1 f2 f3 fp
  obtain ⟨f0, f1, f2, f3, fp⟩ := hS.field
  have HS := Aside0.mk hS
  clear hS
  gi_wp2_with fail
  rw [IntWalk.u64_in (d.length : Int) (by have := HF.out; omega)]
  refine ⟨trivial, (callsIn_wide.2 (HS.out.put_calls hHG (n := d.length) (wd := 1) (putR_f (by decide) (by decide) (by have := HF.out; omega) (by have := HF.out; rw [show (256 : Int) ^ (1 : Int).toNat = 256 by decide]; omega) (by have := HF.out; omega)) (by decide) (by simp [lowBytes_length]))).mono ?_⟩
  rintro e w4 ⟨⟨v4, rfl⟩, hS, _, _⟩
  clear HS f0 f1 f2 f3 fp
  obtain ⟨f0, f1, f2, f3, fp⟩ := hS.field
  have HS := Aside0.mk hS
  clear hS
  gi_wp2_with fail
  rw [IntWalk.u64_in (c.length : Int) (by have := HF.out; omega)]
  refine ⟨trivial, (callsIn_wide.2 (HS.out.put_calls hHG (n := c.length) (wd := 1) (putR_f (by decide) (by decide) (by have := HF.out; omega) (by have := HF.out; rw [show (256 : Int) ^ (1 : Int).toNat = 256 by decide]; omega) (by have := HF.out; omega)) (by decide) (by simp [lowBytes_length]))).mono ?_⟩
  rintro e w5 ⟨⟨v5, rfl⟩, hS, _, _⟩
  clear HS f0 f1 f2 f3 fp
  obtain ⟨f0, f1, f2, f3, fp⟩ := hS.field
  have HS := Aside0.mk hS
  clear hS
  gi_wp2_with fail
  refine ⟨trivial, (callsIn_wide.2 (all_calls a b A2 d.length c2 A3 c.length c3 w5)).mono ?_⟩
  rintro e W6 ⟨rfl, hW6⟩
  obtain ⟨S, hS5⟩ : ∃ S, w5.heap.size = S := ⟨_, rfl⟩
  have hs6 : W6.heap.size = S + 1 := by rw [hW6]; simp [hS5]
  have x6 : W6.heap[S]? = some (.cells #[.int .u64 a, .int .u64 b, .slice A2 d.length c2, .slice A3 c.length c3] 25 (0, 0)) := by rw [hW6, ← hS5]; exact World.alloc_heap_new _ _
  have st6 : RSt a b A2 c2 d.length A3 c3 c.length w.heap.size w1.heap.size w (rootH a b d c ++ numsB ((d ++ c).take 0)) W6 := by
    have := HS.out.turn hHG (Nat.le_refl _) (own := fun _ => False) (W' := W6) (by rw [hW6]; exact Turn.alloc _ _) (fun _ h => h.elim)
    rw [show rootH a b d c ++ numsB ((d ++ c).take 0) = rootH a b d c from List.append_nil _]
    exact this
  rw [hS5]
  clear hW6 HS f0 f1 f2 f3 fp
  have hG6 := st6.hs
  have hw6 := st6.hw.size
  gi_wp2_with fail
  refine wpIn_rangeT rfl (by omega) (gf := 30) (lb := #[.pointer (some ⟨S, 0, none⟩)]) rfl trivial (enters_of Try.func30 (by kernel_rfl) rfl)
    (all_seq 9 (by omega) a b A2 c2 d A3 c3 c S w W6 st6.hw x6 HC2.out HC3.out (by have := HF.out; omega) (by have := HF.out; omega)) (Below.refl _ _) (fun _ => rfl) (fun h => h.elim) (fun h => h.elim) (fun L h => h.elim (fun h => by omega) (fun ⟨_, _, h⟩ => by cases h))
    (fun k W => RSt a b A2 c2 d.length A3 c3 c.length w.heap.size w1.heap.size w (rootH a b d c ++ numsB ((d ++ c).take k)) W)
    (fun _ _ _ => False)
    (fun k A B h ht => h.turn hHG (Nat.le_refl _) ht (by rintro j (h | h | h) <;> first | exact h.elim | omega))
    (fun _ _ _ _ h _ => h)
    st6
    (fun k => { tmps := #[.agg #[.int .u64 a, .int .u64 b, .slice A2 d.length c2, .slice A3 c.length c3], .pointer (some ⟨w.heap.size, 0, none⟩), .string ⟨#[]⟩, .int .i64 0, .pointer (some ⟨w1.heap.size, 0, none⟩), .pointer (some ⟨w1.heap.size + 1, 0, none⟩), .int .u32 ((d ++ c).getD k 0), .agg #[.int .u64 a, .int .u64 b, .slice A2 d.length c2, .slice A3 c.length c3], .bool true, .bool false, .func (.func 16) #[] #[.pointer (some ⟨w1.heap.size, 0, none⟩)], .func (.func 16) #[] #[.pointer (some ⟨w1.heap.size, 0, none⟩)], .pointer (some ⟨w.heap.size, 0, none⟩), .int .u64 a, v2, .func (.func 16) #[] #[.pointer (some ⟨w1.heap.size, 0, none⟩)], .pointer (some ⟨w.heap.size, 1, none⟩), .int .u64 b, v3, .func (.func 16) #[] #[.pointer (some ⟨w1.heap.size, 0, none⟩)], .pointer (some ⟨w.heap.size, 2, none⟩), .slice A2 d.length c2, .int .i64 d.length, .int .u64 d.length, v4, .func (.func 16) #[] #[.pointer (some ⟨w1.heap.size, 0, none⟩)], .pointer (some ⟨w.heap.size, 3, none⟩), .slice A3 c.length c3, .int .i64 c.length, .int .u64 c.length, v5, .agg #[.int .u64 a, .int .u64 b, .slice A2 d.length c2, .slice A3 c.length c3], .func (.func 30) #[] #[.pointer (some ⟨S, 0, none⟩)], .int .u32 ((d ++ c).getD k 0), undef, undef, undef, undef, undef, undef, undef, undef], defers := [] }) ?assign ?body ?done ?stop
  case assign =>
    intro lp k W K hK
    gi_wp2
    exact hK
  case body =>
    rintro lp k W hk hWs hst
    dsimp only
    have hlen : k < (d ++ c).length := by rw [List.length_append]; exact hk
    obtain ⟨u, hu⟩ : ∃ u, (d ++ c).getD k 0 = u := ⟨_, rfl⟩
    have hub : 16 ≤ u ∧ u < 4096 := by
      rw [← hu, List.getD_eq_getElem?_getD, List.getElem?_eq_getElem hlen]
      exact HF.out.2.2.2.2.2 _ (List.getElem_mem hlen)
    have htk := numsB_take (d ++ c) k hlen
    rw [hu] at htk
    have HT := Aside0.mk htk
    have HUB := Aside0.mk hub
    have hxl : (rootH a b d c ++ numsB ((d ++ c).take k)).length ≤ 1000 := by
      rw [List.length_append, rootH_len, numsB_len, List.length_take, List.length_append]
      have := HF.out; omega
    have HXL := Aside0.mk hxl
    simp only [hu]
    obtain ⟨f0, f1, f2, f3, fp⟩ := hst.field
    have HST := Aside0.mk hst
    clear htk hub hlen hu hk hxl hst
    gi_wp2_with fail
    rw [IntWalk.u64_in u (by have := HUB.out; omega)]
    refine ⟨trivial, (CallsIn.inRound lp (callsIn_wide.2 (HST.out.put_calls hHG (n := u) (wd := 4) (putR_f (by decide) (by decide) (by have := HUB.out; omega) (by have := HUB.out; rw [show (256 : Int) ^ (4 : Int).toNat = 4294967296 by decide]; omega) (by have := HUB.out; omega)) (by decide) HXL.out))).mono ?_⟩
    rintro e w7 ⟨⟨v7, rfl⟩, hst7, hb7, ho7⟩
    gi_wp2
    refine ⟨.of_others (kept_others ho7 (builder_block HST.out.hb) hb7.size), .of_same hb7.size (fun j o hj ho => ?_), ?_⟩
    · rcases hj with hj | ⟨cs, fz, rfl⟩
      · exact hb7.block j (by omega)
      · by_cases e : j = w1.heap.size
        · subst e
          obtain ⟨c', hc'⟩ := builder_block HST.out.hb
          rw [hc'] at ho; cases ho
        · exact kept_typ ho7 ho e (by decide)
    · show RSt a b A2 c2 d.length A3 c3 c.length w.heap.size w1.heap.size w (rootH a b d c ++ numsB ((d ++ c).take (k + 1))) w7
      rw [HT.out, ← List.append_assoc]; exact hst7
  case done =>
    rintro W hst hWs hDf
    rw [List.take_of_length_le (by rw [List.length_append]; omega)] at hst
    have HST := Aside0.mk hst
    have HFIT := Aside0.mk (fit_root a b d c (by have := HF.out; omega))
    have HDF := Aside0.mk hDf
    clear hst hDf
    gi_wp2_with fail
    refine ⟨trivial, (callsIn_wide.2 (b_String w1.heap.size w1.heap.size (rootL a b d c) W HST.out.hb (by have := HST.out.hs; omega))).mono ?_⟩
    rintro e w8 ⟨rfl, hB8, hbe8, ho8⟩
    have hDf8 := (kept_others ho8 (builder_block HST.out.hb) hbe8.size).same _ _ HDF.out rfl
    gi_wp2_with fail
    refine ⟨trivial, (callsIn_wide.2 (num_Fit.calls _ _ _ _ w8 HFIT.out)).mono ?_⟩
    rintro e w9 ⟨rfl, hb9⟩
    have hDf9 := (hb9.block _ (Array.getElem?_eq_some_iff.1 hDf8).1).trans hDf8
    rw [hs6] at hDf9
    have hs8 := hbe8.size
    have hs9 := hb9.size
    gi_wp2
    refine ⟨by simp, .inl ⟨_, _, rfl, run_takeDeferred hDf9, ?_⟩⟩
    refine ⟨_, results_tmp2 rfl _ _ _, ⟨rfl, ?_⟩⟩
    exact ((HST.out.hw.trans (hbe8.mono (by omega))).trans (hb9.mono (by omega))).trans (belowK_b (w := W6) (by omega) w9 _ _ _ (by omega) hDf9 rfl rfl)
  case stop =>
    rintro q k W hk h
    exact h.elim
set_option maxHeartbeats 4000000 in
theorem rootE_no (a b : Int) (A2 : Option Addr) (c2 : Nat) (d : List Int) (A3 : Option Addr) (c3 : Nat) (c : List Int) (w : World) (hC2 : Kd.C (Kd.int .u32) w A2 d.length d) (hc2 : d.length ≤ c2) (hC3 : Kd.C (Kd.int .u32) w A3 c.length c) (hc3 : c.length ≤ c3)
    (hr : rightV a b d c = false) :
    Calls Try.prog 8 #[.agg #[.int .u64 a, .int .u64 b, .slice A2 d.length c2, .slice A3 c.length c3]] w fun e w' => e = .returned (.tuple #[.string ⟨#[]⟩, .int .i64 153]) ∧ Below w.heap.size w w' := by
  go_enter Try.func8, Try.ntmps8
  go_wp2_with fail
  refine (root_Right.calls a b A2 c2 d A3 c3 c false _ (Kd.C_alloc hC2 _) hc2 (Kd.C_alloc hC3 _) hc3 (congrArg some hr)).mono ?_
  rintro e w1 ⟨rfl, hb1⟩
  go_wp2_with fail
  go_ret2
  exact ⟨rfl, ((Below.refl _ w).alloc (Nat.le_refl _) _).trans (hb1.mono (by simp))⟩
theorem root_Encode.calls (a b : Int) (A2 : Option Addr) (c2 : Nat) (d : List Int) (A3 : Option Addr) (c3 : Nat) (c : List Int) (r1 : ByteArray) (r2 : Int) (w : World) (hC2 : Kd.C (Kd.int .u32) w A2 d.length d) (hc2 : d.length ≤ c2) (hC3 : Kd.C (Kd.int .u32) w A3 c.length c) (hc3 : c.length ≤ c3) (h : root_Encode.f a b d c = some (r1, r2)) :
    Calls Try.prog 8 #[.agg #[.int .u64 a, .int .u64 b, .slice A2 d.length c2, .slice A3 c.length c3]] w fun e w' => e = .returned (.tuple #[.string r1, .int .i64 r2]) ∧ Below w.heap.size w w' := by
  unfold root_Encode.f at h
  by_cases hr : rightV a b d c = true
  · rw [if_pos hr] at h
    by_cases hab : 0 ≤ a ∧ 0 ≤ b
    · rw [if_pos hab] at h
      cases h
      exact rootE_yes a b A2 c2 d A3 c3 c w hC2 hc2 hC3 hc3 hr hab.1 hab.2
    · rw [if_neg hab] at h; cases h
  · rw [if_neg hr] at h
    cases h
    exact rootE_no a b A2 c2 d A3 c3 c w hC2 hc2 hC3 hc3 (by simpa using hr)
end Go.Proofs.Ytmpcpcfdomlehaa.Q
