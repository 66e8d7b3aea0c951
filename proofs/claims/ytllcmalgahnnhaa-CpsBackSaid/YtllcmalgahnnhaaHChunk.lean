/- slices.Chunk: the iterator over a slice's parts. -/
import Derived.Test.YtllcmalgahnnhaaQ0
import Derived.Test.YtllcmalgahnnhaaHRF
import Derived.WalkKit
import Derived.OwnWalkIn
import Derived.TacticsInMore
import Derived.LoopNIn
import Derived.LoopIn
import Derived.Lib.Hide
import Derived.Sort.QuietIn
set_option linter.unusedVariables false
set_option linter.unusedSimpArgs false
namespace Go.Proofs.Ytllcmalgahnnhaa.Q
open Go.RowKit Go.Proofs.Ytllcmalgahnnhaa.H Go.Proofs.YtllcmalgahnnhaaW.PrintWords Go.Proofs.YtllcmalgahnnhaaW.PrintLast Go.Proofs.YtllcmalgahnnhaaW.PrintMore
attribute [local go_sem] max2_int min2_int max_two min_two Oper.semAt_some
set_option maxRecDepth 100000

abbrev ChE := S33
section
variable {P : Program}
theorem cut_three (t e : TypeId) (kl kh km : IntKind) {i : TypeInfo} (ht : P.underlying t = some (.slice e)) (hi : P.info? e = some i) (size : Nat) (hsz : i.size = size) (A : Option Addr) (n c : Nat) (lo hi' : Int) (h0 : 0 ≤ lo) (h1 : lo ≤ hi') (h2 : hi' ≤ c) :
    ∀ W : World, (Instr.slice t (.slice A n c) (some (.int kl lo)) (some (.int kh hi')) (some (.int km hi'))).run P W = .ok (.slice (if hi'.toNat = lo.toNat then A else A.map (·.add (lo.toNat * size))) (hi'.toNat - lo.toNat) (hi'.toNat - lo.toNat)) W := by
  intro W
  have hel : P.elem t = e := by simp [Program.elem, ht]
  have hu : P.underlying t = some (.slice (P.elem t)) := by rw [hel]; exact ht
  rw [run_slice_lhm W t A n c hu kl kh km lo hi' hi' h0 h1 (by omega) h2, hel]
  simp [sizeOf, typeInfo, hi, hsz, sliced, Result.andThen]
end

/-- The k-th part of a list, in parts of m. -/
def partL {α : Type} (m : Nat) (l : List α) (k : Nat) : List α := (l.take (min (m * k + m) l.length)).drop (m * k)
def partA (m sz : Nat) (A : Option Addr) (k : Nat) : Option Addr := A.map (·.add (m * k * sz))
theorem partL_len {α : Type} (m : Nat) (l : List α) (k : Nat) : (partL m l k).length = min (m * k + m) l.length - m * k := by simp [partL, List.length_take, List.length_drop]
def partN {α : Type} (m : Nat) (l : List α) : Nat := (l.length + (m - 1)) / m
theorem partN_lt {α : Type} {m : Nat} (hm : 0 < m) (l : List α) (k : Nat) : k < partN m l ↔ m * k < l.length := by
  unfold partN
  rw [Nat.lt_iff_add_one_le, Nat.le_div_iff_mul_le hm, Nat.add_mul, Nat.one_mul, Nat.mul_comm k m]
  omega
theorem part_C {w : World} {A : Option Addr} {l : List ChE} {c m k : Nat} (h : Kd.C k33 w A l.length l) (hm : 0 < m) (hk : m * k < l.length) (hc : l.length ≤ c) : Kd.C k33 w (partA m (Kd.sz k33) A k) (partL m l k).length (partL m l k) := by
  have := Kd.C_mid (lo := m * k) (hi := min (m * k + m) l.length) (c := c + 1) h (by omega) (by omega) (by omega)
  rw [if_neg (by omega)] at this
  exact this

theorem chunk_calls (A : Option Addr) (n c : Nat) (m : Int) (hm : 1 ≤ m) (w : World) : Calls Try.prog 42 #[.slice A n c, .int .i64 m] w fun e w' =>
    e = .returned (.func (.func 53) #[] #[.pointer (some ⟨w.heap.size, 0, none⟩), .pointer (some ⟨w.heap.size + 1, 0, none⟩)]) ∧ w' = (w.alloc (.cells #[.slice A n c] 22)).alloc (.cells #[.int .i64 m] 3) := by
  have hlt : decide (m < 1) = false := decide_eq_false (by omega)
  go_enter Try.func42, Try.ntmps42
  go_wp2
  go_ret
  exact ⟨rfl, rfl⟩

set_option maxHeartbeats 4000000 in
/-- The iterator of slices.Chunk: a list's parts. -/
theorem chunk_seq (nn : Nat) (h1n : 1 ≤ nn) (A : Option Addr) (c : Nat) (l : List ChE) (m : Nat) (hm : 0 < m) (hm9 : m ≤ 1000000) (hl : l.length ≤ 1000000000) (hc : l.length ≤ c) (Bs Bm : Nat) (w : World)
    (hBs : w.heap[Bs]? = some (.cells #[.slice A l.length c] 22 (0, 0))) (hBm : w.heap[Bm]? = some (.cells #[.int .i64 m] 3 (0, 0))) :
    SeqN Fence.wide nn Try.prog 53 #[.pointer (some ⟨Bs, 0, none⟩), .pointer (some ⟨Bm, 0, none⟩)]
      (fun k => #[.slice (partA m (Kd.sz k33) A k) (partL m l k).length (partL m l k).length]) (fun _ => False) (fun _ => False) (fun j => j = Bs ∨ j = Bm) (partN m l) w := fun lp J Jx W hW hJ hJx hY h0 => by
  obtain ⟨i0, hi0, _, hsz, _⟩ := info_parts info33
  have hls : Bs < w.heap.size := (Array.getElem?_eq_some_iff.1 hBs).1
  have hlm : Bm < w.heap.size := (Array.getElem?_eq_some_iff.1 hBm).1
  have hs : W.heap[Bs]? = some (.cells #[.slice A l.length c] 22 (0, 0)) := (hW.block Bs hls).trans hBs
  have hmm : W.heap[Bm]? = some (.cells #[.int .i64 m] 3 (0, 0)) := (hW.block Bm hlm).trans hBm
  clear hW hBs hBm
  refine callsIn_of_wp Try.func53 rfl trivial ?_ rfl
  simp only [Try.ntmps53, List.size_toArray, List.length_cons, List.length_nil, Nat.reduceAdd, Nat.reduceSub, Array.replicate_succ, Array.replicate_zero, List.push_toArray, List.append_toArray, List.nil_append, List.cons_append]
  gi_wp2
  gi_loopw [4] (fun i wr => ∃ (k : Nat) (x : Int), k ≤ partN m l ∧ i = .int .i64 x ∧ Hid (x = ((m * k : Nat) : Int)) ∧ J k wr ∧ wr.heap[Bs]? = some (.cells #[.slice A l.length c] 22 (0, 0)) ∧ wr.heap[Bm]? = some (.cells #[.int .i64 m] 3 (0, 0)))
    (fun i _ => l.length - (intOf i).toNat)
  case atStart => exact ⟨0, 0, by omega, rfl, Lib.hid (by simp), h0, hs, hmm⟩
  case round =>
    obtain ⟨k, x, hk, rfl, HX, hJs, hsk, hmk⟩ := hrel
    have hcs : wr.cell? ⟨Bs, 0, none⟩ = some (.slice A l.length c) := by rw [Lib.cell_of_heap hsk]; rfl
    have hcm : wr.cell? ⟨Bm, 0, none⟩ = some (.int .i64 m) := by rw [Lib.cell_of_heap hmk]; rfl
    have hx0 : 0 ≤ x := by rw [HX.out]; omega
    by_cases hlt : k < partN m l
    · have hlt' := (partN_lt hm l k).1 hlt
      have hxl : x < (l.length : Int) := by rw [HX.out]; omega
      have hp1 : decide (x < (l.length : Int)) = true := decide_eq_true hxl
      obtain ⟨y, hy⟩ : ∃ y : Int, (if l.length - x.toNat < m then ((l.length - x.toNat : Nat) : Int) else (m : Int)) = y := ⟨_, rfl⟩
      have hyv : y = min (m : Int) ((l.length - x.toNat : Nat) : Int) := by rw [← hy]; split <;> omega
      have hy1 : 0 < y := by omega
      have hy2 : x + y ≤ (l.length : Int) := by omega
      have hfrom := cut_from (P := Try.prog) 22 33 .i64 Try.underlying22 hi0 _ hsz A l.length c x hx0 (by omega)
      have hthree := cut_three (P := Try.prog) 22 33 .i64 .i64 .i64 Try.underlying22 hi0 _ hsz A l.length c x (x + y) hx0 (by omega) (by omega)
      have hpl : (partL m l k).length = (x + y).toNat - x.toNat := by rw [partL_len]; have := HX.out; omega
      have hpa : (if (x + y).toNat = x.toNat then A else A.map (·.add (x.toNat * 4))) = partA m (Kd.sz k33) A k := by
        rw [if_neg (by omega)]
        unfold partA
        rw [show x.toNat = m * k by have := HX.out; omega]; rfl
      rw [hpa, ← hpl] at hthree
      have HYV := Lib.hid hyv
      have HM := Lib.hid hm
      clear hpa hpl hlt' hyv
      gi_wp2
      gi_quiet (fail)
      have hJ2 := hJ k _ _ hJs (Turn.drewN wr nq)
      have hcs2 : (wr.drewN nq).cell? ⟨Bs, 0, none⟩ = some (.slice A l.length c) := hcs
      have hcm2 : (wr.drewN nq).cell? ⟨Bm, 0, none⟩ = some (.int .i64 m) := hcm
      obtain ⟨fn, tmps, assign, body, hyy, hR⟩ := hY k _ hlt hJ2
      gi_wp2
      refine hR.mono ?_
      rintro e W3 (⟨rfl, hJ3, hk3⟩ | ⟨rfl, hJx3⟩)
      · have hs3 : W3.heap[Bs]? = some (.cells #[.slice A l.length c] 22 (0, 0)) := (hk3.same Bs (.inl rfl) (Array.getElem?_eq_some_iff.1 hsk).1).trans hsk
        have hm3 : W3.heap[Bm]? = some (.cells #[.int .i64 m] 3 (0, 0)) := (hk3.same Bm (.inr rfl) (Array.getElem?_eq_some_iff.1 hmk).1).trans hmk
        have hcm3 : W3.cell? ⟨Bm, 0, none⟩ = some (.int .i64 m) := by rw [Lib.cell_of_heap hm3]; rfl
        gi_wp2
        go_roundw
        case rel => exact ⟨k + 1, x + m, by omega, rfl, Lib.hid (by rw [HX.out, Nat.mul_add, Nat.mul_one]; omega), hJ3, hs3, hm3⟩
        case measure => have := HM.out; simp [intOf]; omega
      · gi_wp2
        refine bodyPost_ret (results_none rfl _ _ _) rfl ?_
        exact ⟨⟨_, rfl⟩, .inr ⟨k + 1, by omega, hJx3⟩⟩
    · have hz : ¬ m * k < l.length := fun h => hlt ((partN_lt hm l k).2 h)
      have hp1 : decide (x < (l.length : Int)) = false := decide_eq_false (by rw [HX.out]; omega)
      have hkw : k = partN m l := by omega
      clear hz
      gi_wp2
      go_end0
      exact ⟨⟨_, rfl⟩, .inl (hkw ▸ hJs)⟩
end Go.Proofs.Ytllcmalgahnnhaa.Q
