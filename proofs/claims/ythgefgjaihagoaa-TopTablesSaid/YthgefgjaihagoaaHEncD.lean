/- slices.Chunk: the iterator over a slice's parts. -/
import Derived.Test.YthgefgjaihagoaaQ0
import Derived.Test.YthgefgjaihagoaaHRW
import Derived.WalkKit
import Derived.OwnWalkIn
import Derived.TacticsInMore
import Derived.LoopNIn
import Derived.LoopIn
import Derived.Lib.Hide
import Derived.Sort.QuietIn
import Derived.Test.YthgefgjaihagoaaQ4
import Derived.Test.YthgefgjaihagoaaHNum
set_option linter.unusedVariables false
set_option linter.unusedSimpArgs false
namespace Go.Proofs.Ythgefgjaihagoaa.Q
open Go.RowKit Go.Proofs.Ythgefgjaihagoaa.H Go.Proofs.YthgefgjaihagoaaW.PrintWords Go.Proofs.YthgefgjaihagoaaW.PrintLast Go.Proofs.YthgefgjaihagoaaW.PrintMore
attribute [local go_sem] max2_int min2_int max_two min_two Oper.semAt_some
set_option maxRecDepth 100000

abbrev ChE := S106
section
variable {P : Program}
theorem cut_three (t e : TypeId) (kl kh km : IntKind) {i : TypeInfo} (ht : P.underlying t = some (.slice e)) (hi : P.info? e = some i) (size : Nat) (hsz : i.size = size) (A : Option Addr) (n c : Nat) (lo hi' : Int) (h0 : 0 ≤ lo) (h1 : lo ≤ hi') (h2 : hi' ≤ c) :
    ∀ W : World, (Instr.slice t (.slice A n c) (some (.int kl lo)) (some (.int kh hi')) (some (.int km hi'))).run P W = .ok (.slice (if hi'.toNat = lo.toNat then A else A.map (·.add (lo.toNat * size))) (hi'.toNat - lo.toNat) (hi'.toNat - lo.toNat)) W := by
  intro W
  have hel : P.elem t = e := by simp [Program.elem, ht]
  have hu : P.underlying t = some (.slice (P.elem t)) := by rw [hel]; exact ht
  rw [run_slice_lhm W t A n c hu kl kh km lo hi' hi' h0 h1 (by omega) h2, hel]
  simp [sizeOf, typeInfo, hi, hsz, sliced, Result.andThen]
end

/-- The k-th part of a list, in parts of m. -/
def partL {α : Type} (m : Nat) (l : List α) (k : Nat) : List α := (l.take (min (m * k + m) l.length)).drop (m * k)
def partA (m sz : Nat) (A : Option Addr) (k : Nat) : Option Addr := A.map (·.add (m * k * sz))
theorem partL_len {α : Type} (m : Nat) (l : List α) (k : Nat) : (partL m l k).length = min (m * k + m) l.length - m * k := by simp [partL, List.length_take, List.length_drop]
def partN {α : Type} (m : Nat) (l : List α) : Nat := (l.length + (m - 1)) / m
theorem partN_lt {α : Type} {m : Nat} (hm : 0 < m) (l : List α) (k : Nat) : k < partN m l ↔ m * k < l.length := by
  unfold partN
  rw [Nat.lt_iff_add_one_le, Nat.le_div_iff_mul_le hm, Nat.add_mul, Nat.one_mul, Nat.mul_comm k m]
  omega
theorem part_C {w : World} {A : Option Addr} {l : List ChE} {c m k : Nat} (h : Kd.C k106 w A l.length l) (hm : 0 < m) (hk : m * k < l.length) (hc : l.length ≤ c) : Kd.C k106 w (partA m (Kd.sz k106) A k) (partL m l k).length (partL m l k) := by
  have := Kd.C_mid (lo := m * k) (hi := min (m * k + m) l.length) (c := c + 1) h (by omega) (by omega) (by omega)
  rw [if_neg (by omega)] at this
  exact this

theorem chunk_calls (A : Option Addr) (n c : Nat) (m : Int) (hm : 1 ≤ m) (w : World) : Calls Try.prog 50 #[.slice A n c, .int .i64 m] w fun e w' =>
    e = .returned (.func (.func 84) #[] #[.pointer (some ⟨w.heap.size, 0, none⟩), .pointer (some ⟨w.heap.size + 1, 0, none⟩)]) ∧ w' = (w.alloc (.cells #[.slice A n c] 51)).alloc (.cells #[.int .i64 m] 3) := by
  have hlt : decide (m < 1) = false := decide_eq_false (by omega)
  go_enter Try.func50, Try.ntmps50
  go_wp2
  go_ret
  exact ⟨rfl, rfl⟩

set_option maxHeartbeats 4000000 in
/-- The iterator of slices.Chunk: a list's parts. -/
theorem chunk_seq (nn : Nat) (h1n : 1 ≤ nn) (A : Option Addr) (c : Nat) (l : List ChE) (m : Nat) (hm : 0 < m) (hm9 : m ≤ 1000000) (hl : l.length ≤ 1000000000) (hc : l.length ≤ c) (Bs Bm : Nat) (w : World)
    (hBs : w.heap[Bs]? = some (.cells #[.slice A l.length c] 51 (0, 0))) (hBm : w.heap[Bm]? = some (.cells #[.int .i64 m] 3 (0, 0))) :
    SeqN Fence.wide nn Try.prog 84 #[.pointer (some ⟨Bs, 0, none⟩), .pointer (some ⟨Bm, 0, none⟩)]
      (fun k => #[.slice (partA m (Kd.sz k106) A k) (partL m l k).length (partL m l k).length]) (fun _ => False) (fun _ => False) (fun j => j = Bs ∨ j = Bm) (partN m l) w := fun lp J Jx W hW hJ hJx hY h0 => by
  obtain ⟨i0, hi0, _, hsz, _⟩ := info_parts info106
  have hls : Bs < w.heap.size := (Array.getElem?_eq_some_iff.1 hBs).1
  have hlm : Bm < w.heap.size := (Array.getElem?_eq_some_iff.1 hBm).1
  have hs : W.heap[Bs]? = some (.cells #[.slice A l.length c] 51 (0, 0)) := (hW.block Bs hls).trans hBs
  have hmm : W.heap[Bm]? = some (.cells #[.int .i64 m] 3 (0, 0)) := (hW.block Bm hlm).trans hBm
  clear hW hBs hBm
  refine callsIn_of_wp Try.func84 rfl trivial ?_ rfl
  simp only [Try.ntmps84, List.size_toArray, List.length_cons, List.length_nil, Nat.reduceAdd, Nat.reduceSub, Array.replicate_succ, Array.replicate_zero, List.push_toArray, List.append_toArray, List.nil_append, List.cons_append]
  gi_wp2
  gi_loopw [4] (fun i wr => ∃ (k : Nat) (x : Int), k ≤ partN m l ∧ i = .int .i64 x ∧ Hid (x = ((m * k : Nat) : Int)) ∧ J k wr ∧ wr.heap[Bs]? = some (.cells #[.slice A l.length c] 51 (0, 0)) ∧ wr.heap[Bm]? = some (.cells #[.int .i64 m] 3 (0, 0)))
    (fun i _ => l.length - (intOf i).toNat)
  case atStart => exact ⟨0, 0, by omega, rfl, Lib.hid (by simp), h0, hs, hmm⟩
  case round =>
    obtain ⟨k, x, hk, rfl, HX, hJs, hsk, hmk⟩ := hrel
    have hcs : wr.cell? ⟨Bs, 0, none⟩ = some (.slice A l.length c) := by rw [Lib.cell_of_heap hsk]; rfl
    have hcm : wr.cell? ⟨Bm, 0, none⟩ = some (.int .i64 m) := by rw [Lib.cell_of_heap hmk]; rfl
    have hx0 : 0 ≤ x := by rw [HX.out]; omega
    by_cases hlt : k < partN m l
    · have hlt' := (partN_lt hm l k).1 hlt
      have hxl : x < (l.length : Int) := by rw [HX.out]; omega
      have hp1 : decide (x < (l.length : Int)) = true := decide_eq_true hxl
      obtain ⟨y, hy⟩ : ∃ y : Int, (if l.length - x.toNat < m then ((l.length - x.toNat : Nat) : Int) else (m : Int)) = y := ⟨_, rfl⟩
      have hyv : y = min (m : Int) ((l.length - x.toNat : Nat) : Int) := by rw [← hy]; split <;> omega
      have hy1 : 0 < y := by omega
      have hy2 : x + y ≤ (l.length : Int) := by omega
      have hfrom := cut_from (P := Try.prog) 51 106 .i64 Try.underlying51 hi0 _ hsz A l.length c x hx0 (by omega)
      have hthree := cut_three (P := Try.prog) 51 106 .i64 .i64 .i64 Try.underlying51 hi0 _ hsz A l.length c x (x + y) hx0 (by omega) (by omega)
      have hpl : (partL m l k).length = (x + y).toNat - x.toNat := by rw [partL_len]; have := HX.out; omega
      have hpa : (if (x + y).toNat = x.toNat then A else A.map (·.add (x.toNat * 3))) = partA m (Kd.sz k106) A k := by
        rw [if_neg (by omega)]
        unfold partA
        rw [show x.toNat = m * k by have := HX.out; omega]; rfl
      rw [hpa, ← hpl] at hthree
      have HYV := Lib.hid hyv
      have HM := Lib.hid hm
      clear hpa hpl hlt' hyv
      gi_wp2
      gi_quiet (fail)
      have hJ2 := hJ k _ _ hJs (Turn.drewN wr nq)
      have hcs2 : (wr.drewN nq).cell? ⟨Bs, 0, none⟩ = some (.slice A l.length c) := hcs
      have hcm2 : (wr.drewN nq).cell? ⟨Bm, 0, none⟩ = some (.int .i64 m) := hcm
      obtain ⟨fn, tmps, assign, body, hyy, hR⟩ := hY k _ hlt hJ2
      gi_wp2
      refine hR.mono ?_
      rintro e W3 (⟨rfl, hJ3, hk3⟩ | ⟨rfl, hJx3⟩)
      · have hs3 : W3.heap[Bs]? = some (.cells #[.slice A l.length c] 51 (0, 0)) := (hk3.same Bs (.inl rfl) (Array.getElem?_eq_some_iff.1 hsk).1).trans hsk
        have hm3 : W3.heap[Bm]? = some (.cells #[.int .i64 m] 3 (0, 0)) := (hk3.same Bm (.inr rfl) (Array.getElem?_eq_some_iff.1 hmk).1).trans hmk
        have hcm3 : W3.cell? ⟨Bm, 0, none⟩ = some (.int .i64 m) := by rw [Lib.cell_of_heap hm3]; rfl
        gi_wp2
        go_roundw
        case rel => exact ⟨k + 1, x + m, by omega, rfl, Lib.hid (by rw [HX.out, Nat.mul_add, Nat.mul_one]; omega), hJ3, hs3, hm3⟩
        case measure => have := HM.out; simp [intOf]; omega
      · gi_wp2
        refine bodyPost_ret (results_none rfl _ _ _) rfl ?_
        exact ⟨⟨_, rfl⟩, .inr ⟨k + 1, by omega, hJx3⟩⟩
    · have hz : ¬ m * k < l.length := fun h => hlt ((partN_lt hm l k).2 h)
      have hp1 : decide (x < (l.length : Int)) = false := decide_eq_false (by rw [HX.out]; omega)
      have hkw : k = partN m l := by omega
      clear hz
      gi_wp2
      go_end0
      exact ⟨⟨_, rfl⟩, .inl (hkw ▸ hJs)⟩
end Go.Proofs.Ythgefgjaihagoaa.Q

set_option linter.unusedVariables false
set_option linter.unusedSimpArgs false
namespace Go.Proofs.Ythgefgjaihagoaa.Q
open Go.RowKit Go.Shelf Go.Proofs.Ythgefgjaihagoaa.H Go.Proofs.YthgefgjaihagoaaW.PrintWords Go.Proofs.YthgefgjaihagoaaW.PrintLast Go.Proofs.YthgefgjaihagoaaW.PrintMore
attribute [local go_sem] Oper.semAt_some
set_option maxRecDepth 100000

def putV (n w : Int) : ByteArray := ((num_Put.f n w).getD (⟨#[]⟩, 0)).1
/-- The bytes of a place, of several ones, of a block. -/
def oneV (x : ChE) : ByteArray := (putV (IntKind.u64.wrap x.f0) 4 ++ putV x.f1 6) ++ putV x.f2 6
def catV (p : List ChE) : List UInt8 := (p.map fun x => (oneV x).data.toList).flatten
def blockV (p : List ChE) : ByteArray := ((num_Fit.f ⟨(catV p).toArray⟩ 508).getD (⟨#[]⟩, 0)).1
def encN (l : List ChE) (k : Nat) : List ByteArray := (List.range k).map fun j => blockV (partL 31 l j)
theorem encN_succ (l : List ChE) (k : Nat) : encN l (k + 1) = encN l k ++ [blockV (partL 31 l k)] := by simp [encN, List.range_succ]
def fineP (n w : Int) : Bool := (num_Put.f n w).isSome && decide ((putV n w).size ≤ 100)
theorem put_fine {n w : Int} (h : fineP n w = true) : (∃ e, num_Put.f n w = some (putV n w, e)) ∧ (putV n w).size ≤ 100 := by
  unfold fineP at h
  simp only [Bool.and_eq_true, decide_eq_true_eq] at h
  refine ⟨?_, h.2⟩
  unfold putV
  cases hc : num_Put.f n w with
  | none => rw [hc] at h; simp at h
  | some b => exact ⟨b.2, rfl⟩
def fineE (x : ChE) : Bool := fineP (IntKind.u64.wrap x.f0) 4 && (fineP x.f1 6 && fineP x.f2 6)
theorem fine_all {x : ChE} (h : fineE x = true) : fineP (IntKind.u64.wrap x.f0) 4 = true ∧ fineP x.f1 6 = true ∧ fineP x.f2 6 = true := by
  unfold fineE at h
  simpa using h
theorem one_fine {x : ChE} (h : fineE x = true) : (oneV x).size ≤ 1000 := by
  obtain ⟨h1, h2, h3⟩ := fine_all h
  have := (put_fine h1).2; have := (put_fine h2).2; have := (put_fine h3).2
  unfold oneV
  rw [ByteArray.size_append, ByteArray.size_append]; omega
theorem catV_len : ∀ (p : List ChE), (∀ x ∈ p, fineE x = true) → (catV p).length ≤ p.length * 1000
  | [], _ => by simp [catV]
  | x :: xs, h => by
    have h1 := (one_fine (h x (by simp)))
    have h2 := catV_len xs (fun y hy => h y (by simp [hy]))
    unfold catV at h2 ⊢
    simp only [List.map_cons, List.flatten_cons, List.length_append, List.length_cons]
    have : (oneV x).data.toList.length = (oneV x).size := by rw [Array.length_toList]; rfl
    omega
theorem catV_take (p : List ChE) (j : Nat) (h : j < p.length) : catV (p.take (j + 1)) = catV (p.take j) ++ (oneV p[j]).data.toList := by
  unfold catV
  rw [List.take_succ_eq_append_getElem h, List.map_append, List.flatten_append]; simp
theorem blockV_fit (p : List ChE) (h : (catV p).length ≤ 100000) : ∃ e2, num_Fit.f ⟨(catV p).toArray⟩ 508 = some (blockV p, e2) := by
  unfold blockV
  cases hf : num_Fit.f ⟨(catV p).toArray⟩ 508 with
  | none =>
    exfalso
    have hz : (⟨(catV p).toArray⟩ : ByteArray).size = (catV p).length := by simp [ByteArray.size]
    unfold num_Fit.f at hf
    rw [if_neg (by omega)] at hf
    split at hf
    · cases hf
    · split at hf <;> cases hf
  | some r => exact ⟨r.2, rfl⟩
def dat_Encode.f (l : List ChE) : Option (List ByteArray × Int) := (dat_Right.f l).bind fun b =>
  if b = true then (if l.length ≤ 100000 then (if l.all fineE = true then some (encN l (partN 31 l), 0) else none) else none) else some ([], 80)
theorem row_below {W W' : World} {base : Nat} {e : TypeId} {size n : Nat} {v : Value} {xs : List Value} (h : W.ownsRow base e size v n xs) (hb : Below W.heap.size W W') : W'.ownsRow base e size v n xs := by
  refine ⟨h.1, ?_⟩
  rcases h.2 with hn | ⟨g, cap, cur, hv, hbg, hg, rest⟩
  · exact .inl hn
  · exact .inr ⟨g, cap, cur, hv, hbg, (hb.block g (Array.getElem?_eq_some_iff.1 hg).1).trans hg, rest⟩
theorem others_below {W W' : World} (hb : Below W.heap.size W W') : KeepsOthers W W' :=
  ⟨hb.size, fun k o hk _ => (hb.block k (Array.getElem?_eq_some_iff.1 hk).1).trans hk⟩
theorem info_str : (Try.prog.info? 9).map (fun i => (i.zero, i.size, i.bytes)) = some (some (.string ⟨#[]⟩), 1, 16) := by kernel_rfl

set_option maxHeartbeats 8000000 in
theorem enc_yes (l : List ChE) (A : Option Addr) (c : Nat) (w : World) (hC : Kd.C k106 w A l.length l) (hc : l.length ≤ c) (hlim : l.length ≤ 100000) (hf : ∀ x ∈ l, fineE x = true) (hr : dat_Right.f l = some true) :
    Calls Try.prog 17 #[.slice A l.length c] w fun e w' => ∃ v, e = .returned (.tuple #[v, .int .i64 0]) ∧ w'.ownsRow w.heap.size 9 1 v (partN 31 l) ((encN l (partN 31 l)).map Value.string) ∧ Below w.heap.size w w' := by
  obtain ⟨i0, hi, hz0, hz1, hz2⟩ := info_parts info_str
  have HR := Aside0.mk hC
  have HF := Aside0.mk hf
  have HRT := Aside0.mk hr
  clear hC hf hr
  refine (callsIn_wide (n := 10)).1 ?_
  refine callsIn_of_wp_marks Try.func17 rfl trivial ?_ rfl
  simp only [Try.ntmps17, List.size_toArray, List.length_cons, List.length_nil, Nat.reduceAdd, Nat.reduceSub, Array.replicate_succ, Array.replicate_zero, List.push_toArray, List.append_toArray, List.nil_append, List.cons_append]
  gi_wp2_with (first | (refine ⟨trivial, ?_⟩; gi_at_call 45; refine (callsIn_wide.2 (dat_Right.calls A c l true _ HR.out hc HRT.out)).mono ?_; rintro e w1 ⟨rfl, hb1⟩; have HB1 := Aside0.mk hb1; clear hb1))
  refine ⟨trivial, (callsIn_wide.2 (chunk_calls _ _ _ 31 (by omega) _)).mono ?_⟩
  rintro e W0 ⟨rfl, hW0⟩
  obtain ⟨H, hH⟩ : ∃ H, w1.heap.size = H := ⟨_, rfl⟩
  simp only [World.size_alloc, hH, Nat.add_assoc, Nat.reduceAdd]
  have hsz : W0.heap.size = H + 3 := by rw [hW0]; simp [hH]
  have hbl : Below H w1 W0 := by rw [hW0]; exact ((((Below.refl H w1).alloc (by omega) _).alloc (by simp; omega) _).alloc (by simp; omega) _)
  have h2 : W0.heap[H + 2]? = some (.cells #[.int .i64 31] 3 (0, 0)) := by
    rw [hW0]; have := World.alloc_heap_new ((w1.alloc (.cells #[.slice none 0 0] 35)).alloc (.cells #[.slice A l.length c] 51)) (.cells #[.int .i64 31] 3); simpa [hH] using this
  have h1 : W0.heap[H + 1]? = some (.cells #[.slice A l.length c] 51 (0, 0)) := by
    rw [hW0, Below.heap_alloc _ _ _ (by simp; omega)]; have := World.alloc_heap_new (w1.alloc (.cells #[.slice none 0 0] 35)) (.cells #[.slice A l.length c] 51); simpa [hH] using this
  have h0 : Boxed W0 H 35 (.slice none 0 0) := by
    rw [hW0]; have := (Boxed.new w1 35 (.slice none 0 0)).alloc (.cells #[.slice A l.length c] 51) |>.alloc (.cells #[.int .i64 31] 3); rwa [hH] at this
  clear hW0
  have hwH : w.heap.size ≤ H := by have := HB1.out.size; omega
  gi_wp2
  refine wpIn_rangeN rfl (by omega) (gf := 84) (lb := #[.pointer (some ⟨H + 1, 0, none⟩), .pointer (some ⟨H + 2, 0, none⟩)]) rfl trivial (enters_of Try.func84 (by kernel_rfl) rfl)
    (chunk_seq 9 (by omega) A c l 31 (by omega) (by omega) (by omega) hc (H + 1) (H + 2) W0 h1 h2) (Below.refl _ _) (fun _ => rfl) (fun h => h.elim) (fun h => h.elim) (by omega)
    (fun k W => (∃ v, Boxed W H 35 v ∧ W.ownsRow (H + 5) 9 1 v k ((encN l k).map Value.string)) ∧ Below H w1 W)
    (fun _ _ _ => False)
    (fun k => (stands_ex fun v => (stands_box _ _ _ (by rintro (h | h | h) <;> first | exact h.elim | omega)).and (stands_row (by rintro j (h | h | h) <;> first | exact h.elim | omega))).and (stands_below (by omega) (by rintro j (h | h | h) <;> first | exact h.elim | omega)))
    (fun _ _ _ _ h _ => h)
    ⟨⟨_, h0, World.ownsRow_nil _ _ _ _⟩, hbl⟩
    (fun k => { tmps := #[.slice A l.length c, undef, .slice none 0 0, .int .i64 0, .pointer (some ⟨H, 0, none⟩), .slice (partA 31 (Kd.sz k106) A k) (partL 31 l k).length (partL 31 l k).length, undef, undef, undef, undef, undef, undef, undef, undef, undef, undef, undef, .slice A l.length c, .bool true, .bool false, .slice A l.length c, .func (.func 84) #[] #[.pointer (some ⟨H + 1, 0, none⟩), .pointer (some ⟨H + 2, 0, none⟩)], .slice (partA 31 (Kd.sz k106) A k) (partL 31 l k).length (partL 31 l k).length, undef, undef, undef, undef, undef, undef, undef, undef, undef, undef, undef, undef, undef, undef, undef, undef, undef, undef, undef, undef, undef, undef, undef, undef, undef, undef, undef, undef, undef, undef, undef, undef, undef, undef, undef, undef, undef, undef, undef, undef, undef, undef], defers := [] }) ?assign ?body ?done ?stop
  case assign =>
    intro lp k W K hK
    gi_wp2
    exact hK
  case body =>
    rintro lp k W hk hWs ⟨⟨v, hv, hrow⟩, hB⟩
    have hkl : 31 * k < l.length := (partN_lt (by omega) l k).1 hk
    obtain ⟨p, hp⟩ : ∃ p, partL 31 l k = p := ⟨_, rfl⟩
    obtain ⟨pa, hpa⟩ : ∃ pa, partA 31 (Kd.sz k106) A k = pa := ⟨_, rfl⟩
    have hBw : Below w.heap.size w W := HB1.out.trans (hB.mono hwH)
    have hpC : Kd.C k106 W pa p.length p := by rw [← hp, ← hpa]; exact part_C (Kd.C_below HR.out hBw) (by omega) hkl hc
    have hp9 : p.length ≤ 31 := by rw [← hp, partL_len]; omega
    have hpf : ∀ x ∈ p, fineE x = true := fun x hx => HF.out x (by rw [← hp] at hx; exact List.mem_of_mem_take (List.mem_of_mem_drop hx))
    obtain ⟨Wn, hWn⟩ : ∃ Wn, W.heap.size = Wn := ⟨_, rfl⟩
    have HPC := Aside0.mk hpC
    have HPF := Aside0.mk hpf
    have HBW := Aside0.mk hB
    have HV := Aside0.mk hv
    have HROW := Aside0.mk hrow
    clear hpC hpf hB hBw hv hrow
    simp only [hp, hpa]
    gi_wp2
    gi_loopw [25] (fun i wr => ∃ j : Nat, j ≤ p.length ∧ i = .int .i64 j ∧ Lib.IsBuilderF 117 5 Wn Wn (Lib.byteCells (catV (p.take j))) wr ∧ Below Wn W wr) (fun i _ => p.length - (intOf i).toNat)
    case atStart =>
      refine ⟨0, by omega, rfl, ?_, ?_⟩
      · have := Lib.IsBuilderF.of (Lib.fresh_isBuilder 117 5 W)
        rw [hWn] at this
        exact this
      · exact (Below.refl Wn W).alloc (by omega) _
    case round =>
      obtain ⟨j, hj, rfl, hBd, hbe⟩ := hrel
      by_cases hlt : j < p.length
      · have hbe' : Below W.heap.size W wr := by rw [hWn]; exact hbe
        obtain ⟨ad, e0, g0, g1, g2⟩ := at_T106 (Kd.C_below HPC.out hbe') (j : Int) (by omega) (by omega)
        subst e0
        simp only [Int.toNat_natCast] at g0 g1 g2
        have hel : rd_T106 p (j : Int) = p[j] := by simp [rd_T106, hlt]
        rw [hel] at g0 g1 g2
        obtain ⟨x, hx⟩ : ∃ x, p[j] = x := ⟨_, rfl⟩
        rw [hx] at g0 g1 g2
        have hof := fine_all (HPF.out x (by rw [← hx]; exact List.getElem_mem hlt))
        have HOF := Aside0.mk hof
        have hjl : decide ((j : Int) < (p.length : Int)) = true := decide_eq_true (by omega)
        clear hof hel
        obtain ⟨⟨e4, hp4⟩, hz4⟩ := put_fine HOF.out.1
        obtain ⟨⟨e5, hp5⟩, hz5⟩ := put_fine HOF.out.2.1
        obtain ⟨⟨e6, hp6⟩, hz6⟩ := put_fine HOF.out.2.2
        have HP4 := Aside0.mk hp4
        have HP5 := Aside0.mk hp5
        have HP6 := Aside0.mk hp6
        clear hp4 hp5 hp6
        have hwr : Wn ≤ wr.heap.size := by rw [← hWn]; exact hbe'.size
        obtain ⟨Hx, hHx⟩ : ∃ Hx, wr.heap.size = Hx := ⟨_, rfl⟩
        have hxa : (wr.alloc (.cells #[.int .u32 x.f0, .int .u64 x.f1, .int .u64 x.f2] 106)).heap[Hx]? = some (.cells #[.int .u32 x.f0, .int .u64 x.f1, .int .u64 x.f2] 106 (0, 0)) := by rw [← hHx]; exact blk_new _ _
        have hba : Below wr.heap.size wr (wr.alloc (.cells #[.int .u32 x.f0, .int .u64 x.f1, .int .u64 x.f2] 106)) := (Below.refl _ wr).alloc (Nat.le_refl _) _
        have hsa : (wr.alloc (.cells #[.int .u32 x.f0, .int .u64 x.f1, .int .u64 x.f2] 106)).heap.size = Hx + 1 := by simp [hHx]
        gi_wp2_with fail
        refine ⟨trivial, (CallsIn.inRound lp (callsIn_wide.2 (num_Put.calls _ _ _ _ _ HP4.out))).mono ?_⟩
        rintro e v1 ⟨rfl, hv1⟩
        have hx1 := (hv1.block Hx (by omega)).trans hxa
        have hb1' : Below wr.heap.size wr v1 := hba.trans (hv1.mono (by omega))
        have hs1' := hv1.size
        have c10 : v1.cell? ⟨Hx, 0, none⟩ = some (.int .u32 x.f0) := by rw [Lib.cell_of_heap hx1]; rfl
        have c11 : v1.cell? ⟨Hx, 1, none⟩ = some (.int .u64 x.f1) := by rw [Lib.cell_of_heap hx1]; rfl
        clear hv1
        gi_wp2_with fail
        refine ⟨trivial, (CallsIn.inRound lp (callsIn_wide.2 (num_Put.calls _ _ _ _ _ HP5.out))).mono ?_⟩
        rintro e v2 ⟨rfl, hv2⟩
        have hx2 := (hv2.block Hx (by omega)).trans hx1
        have hb2' : Below wr.heap.size wr v2 := hb1'.trans (hv2.mono (by omega))
        have hs2' := hv2.size
        have c22 : v2.cell? ⟨Hx, 2, none⟩ = some (.int .u64 x.f2) := by rw [Lib.cell_of_heap hx2]; rfl
        clear hv2 c10 c11
        gi_wp2_with fail
        refine ⟨trivial, (CallsIn.inRound lp (callsIn_wide.2 (num_Put.calls _ _ _ _ _ HP6.out))).mono ?_⟩
        rintro e w4 ⟨rfl, hb4⟩
        have hb4' : Below wr.heap.size wr w4 := hb2'.trans (hb4.mono (by omega))
        have hs4 := hb4'.size
        have hBd4 := (Turn.of_below (own := fun _ => False) (T := fun _ => False) hb4').builder hBd (fun h => h) (fun h => h)
        have hsz4 : (catV (p.take j)).length ≤ 31000 := by
          have := catV_len (p.take j) (fun y hy => HPF.out y (List.mem_of_mem_take hy))
          rw [List.length_take] at this; omega
        obtain ⟨qa, hqa⟩ : ∃ qa, putV (IntKind.u64.wrap x.f0) 4 = qa := ⟨_, rfl⟩
        obtain ⟨qb, hqb⟩ : ∃ qb, putV x.f1 6 = qb := ⟨_, rfl⟩
        obtain ⟨qc, hqc⟩ : ∃ qc, putV x.f2 6 = qc := ⟨_, rfl⟩
        have hone : oneV x = (qa ++ qb) ++ qc := by unfold oneV; rw [hqa, hqb, hqc]
        rw [hqa] at hz4
        rw [hqb] at hz5
        rw [hqc] at hz6
        simp only [hqa, hqb, hqc]
        have hk1 : qa.size + qb.size ≤ 9223372036854775807 := by omega
        have hk2 : qa.size + qb.size + qc.size ≤ 9223372036854775807 := by omega
        have hos : ((qa ++ qb) ++ qc).size ≤ 1000 := by rw [ByteArray.size_append, ByteArray.size_append]; omega
        have HONE := Aside0.mk hone
        clear hb4 c22 hone hqa hqb hqc
        gi_wp2_with fail
        refine ⟨trivial, (CallsIn.inRound lp (callsIn_wide.2 (b_WriteString Wn Wn _ ((qa ++ qb) ++ qc) w4 hBd4 (by rw [Lib.byteCells_length]; omega) (by omega)))).mono ?_⟩
        rintro e w5 ⟨rfl, hB5, hbe5, ho5⟩
        gi_wp2
        go_roundw
        case rel =>
          refine ⟨j + 1, by omega, by simp, ?_, (hbe.trans (hb4'.mono hwr)).trans hbe5⟩
          rw [catV_take p j hlt, hx, Lib.byteCells_append, HONE.out]
          exact .inr hB5
        case measure => simp [intOf]; omega
      · have hjl : decide ((j : Int) < (p.length : Int)) = false := decide_eq_false (by omega)
        have hjp : j = p.length := by omega
        subst hjp
        rw [List.take_length] at hBd
        have hwr : Wn ≤ wr.heap.size := by have := hbe.size; omega
        have hcl : (catV p).length ≤ 100000 := by have := catV_len p HPF.out; omega
        obtain ⟨e2, hfit⟩ := blockV_fit p hcl
        have HFIT := Aside0.mk hfit
        clear hfit
        gi_wp2_with fail
        refine ⟨trivial, (CallsIn.inRound lp (callsIn_wide.2 (b_String Wn Wn (catV p) wr hBd hwr))).mono ?_⟩
        rintro e w4 ⟨rfl, hB4, hbe4, ho4⟩
        gi_wp2_with fail
        refine ⟨trivial, (CallsIn.inRound lp (callsIn_wide.2 (num_Fit.calls _ _ _ _ w4 HFIT.out))).mono ?_⟩
        rintro e w5 ⟨rfl, hb5⟩
        have hs4 := hbe4.size
        have hbT : Below Wn W w5 := (hbe.trans hbe4).trans (hb5.mono (by omega))
        have hbT' : Below W.heap.size W w5 := by rw [hWn]; exact hbT
        have hHW : H + 5 ≤ Wn := by omega
        have hv : Boxed w5 H 35 v := (hbT.block H (by omega)).trans HV.out
        have hrow := row_below HROW.out hbT'
        have hkb : k + 1 ≤ 300000000000 := by omega
        have hs5 := hbT.size
        have hc0 := hv.cell
        gi_wp2_with (first | (gi_at_builtin; refine wpListIn_append_own _ rfl _ _ 35 rfl (H + 5) 9 i0 (.string ⟨#[]⟩) 1 16 Try.underlying35 hi hz0 hz1 hz2 rfl (by decide) _ _ _ rfl (hrow.alloc _) ⟨w5.heap.size, 0, none⟩ 1 1 [.string (blockV p)] rfl rfl (cell_one_new _ _ _) (by simp [Value.oneCell']) (by unfold maxLen; omega) (by omega) (by simp; omega) ?_; intro v' w1 hown' hgrow _; obtain ⟨g', cap', rfl⟩ := ownsRow_succ hown'; obtain ⟨hv1, hv2, hr2, hk2, hb2, hj2⟩ := box_appended (n₀ := H) hv hrow (by omega) (by omega) (Nat.le_refl _) hown' hgrow; have hc1 := hv1.cell; have hf1 := hv1.frozen))
        refine ⟨(others_below hbT').trans hk2, ⟨by have := hb2.size; omega, fun j hj hl => ?_⟩, ⟨_, hv2, ?_⟩, HBW.out.trans ((hbT.mono (by omega)).trans hb2)⟩
        · refine (hj2 j (by omega) (by omega)).trans (hbT.block j (by omega))
        · rw [encN_succ, List.map_append, hp]; exact hr2
  case done =>
    rintro W ⟨⟨v, hv, hrow⟩, hB⟩ hWs hD
    have hc0 := hv.cell
    gi_wp2
    refine ⟨by simp, .inl ⟨_, _, rfl, run_takeDeferred hD, ?_⟩⟩
    refine ⟨_, results_tmp2 rfl _ _ _, ⟨_, rfl, ?_, ?_⟩⟩
    · exact ownsRow_putObj (row_lower hrow (by omega)) _ hD rfl
    · exact HB1.out.trans ((hB.mono hwH).trans (belowK_b (w := W0) (by omega) W _ _ _ (by omega) hD rfl rfl))
  case stop =>
    intro c k W _ h
    exact h.elim
set_option maxHeartbeats 4000000 in
theorem enc_no (l : List ChE) (A : Option Addr) (c : Nat) (w : World) (hC : Kd.C k106 w A l.length l) (hc : l.length ≤ c) (hr : dat_Right.f l = some false) :
    Calls Try.prog 17 #[.slice A l.length c] w fun e w' => e = .returned (.tuple #[.slice none 0 0, .int .i64 80]) ∧ Below w.heap.size w w' := by
  go_enter Try.func17, Try.ntmps17
  go_wp2_with (first | (go_at_call 45; refine (dat_Right.calls A c l false _ hC hc hr).mono ?_; rintro e w1 ⟨rfl, hb1⟩))
  go_ret2
  exact ⟨rfl, hb1⟩
theorem dat_Encode.calls (A0 : Option Addr) (c0 : Nat) (l0 : List ChE) (r1 : List ByteArray) (r2 : Int) (w : World) (hr0 : Kd.C k106 w A0 l0.length l0) (hc0 : l0.length ≤ c0) (h : dat_Encode.f l0 = some (r1, r2)) :
    Calls Try.prog 17 #[.slice A0 l0.length c0] w fun e w' => ∃ v0_ : Value, e = .returned (.tuple #[v0_, .int .i64 r2]) ∧ Kd.R Kd.string 9 w' w.heap.size (fun _ => True) v0_ r1 ∧ Below w.heap.size w w' := by
  unfold dat_Encode.f at h
  obtain ⟨b, hb, h⟩ := Option.bind_eq_some_iff.mp h
  cases b with
  | false =>
    rw [if_neg (by decide)] at h
    cases h
    refine (enc_no l0 A0 c0 w hr0 hc0 hb).mono ?_
    rintro e w' ⟨rfl, hbe⟩
    exact ⟨_, rfl, Kd.R_nil _ _ _ _ _, hbe⟩
  | true =>
    rw [if_pos rfl] at h
    split at h
    · rename_i hl
      split at h
      · rename_i hf
        cases h
        refine (enc_yes l0 A0 c0 w hr0 hc0 hl (List.all_eq_true.1 hf) hb).mono ?_
        rintro e w' ⟨v, rfl, hrow, hbe⟩
        have hlen : (encN l0 (partN 31 l0)).length = partN 31 l0 := by simp [encN]
        exact ⟨v, rfl, Kd.R_of_own (by rw [hlen]; exact hrow) (fun _ _ => trivial), hbe⟩
      · cases h
    · cases h
end Go.Proofs.Ythgefgjaihagoaa.Q
