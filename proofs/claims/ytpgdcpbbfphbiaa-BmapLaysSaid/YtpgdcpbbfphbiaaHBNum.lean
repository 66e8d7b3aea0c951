/- slices.Chunk at uint32: the iterator over a slice's parts. -/
import Derived.Test.YtpgdcpbbfphbiaaQ0
import Derived.Test.YtpgdcpbbfphbiaaHRF
import Derived.WalkKit
import Derived.OwnWalkIn
import Derived.TacticsInMore
import Derived.LoopNIn
import Derived.LoopIn
import Derived.Lib.Hide
import Derived.Sort.QuietIn
import Derived.Test.YtpgdcpbbfphbiaaHNum
import Derived.Test.YtpgdcpbbfphbiaaQ5
set_option linter.unusedVariables false
set_option linter.unusedSimpArgs false
namespace Go.Proofs.Ytpgdcpbbfphbiaa.Q
open Go.RowKit Go.Proofs.Ytpgdcpbbfphbiaa.H Go.Proofs.YtpgdcpbbfphbiaaW.PrintWords Go.Proofs.YtpgdcpbbfphbiaaW.PrintLast Go.Proofs.YtpgdcpbbfphbiaaW.PrintMore
attribute [local go_sem] max2_int min2_int max_two min_two Oper.semAt_some
set_option maxRecDepth 100000

theorem info_u32 : (Try.prog.info? 22).map (fun i => (i.zero, i.size, i.bytes)) = some (some (.int .u32 0), 1, 4) := by kernel_rfl
section
variable {P : Program}
theorem cut_three (t e : TypeId) (kl kh km : IntKind) {i : TypeInfo} (ht : P.underlying t = some (.slice e)) (hi : P.info? e = some i) (size : Nat) (hsz : i.size = size) (A : Option Addr) (n c : Nat) (lo hi' : Int) (h0 : 0 ≤ lo) (h1 : lo ≤ hi') (h2 : hi' ≤ c) :
    ∀ W : World, (Instr.slice t (.slice A n c) (some (.int kl lo)) (some (.int kh hi')) (some (.int km hi'))).run P W = .ok (.slice (if hi'.toNat = lo.toNat then A else A.map (·.add (lo.toNat * size))) (hi'.toNat - lo.toNat) (hi'.toNat - lo.toNat)) W := by
  intro W
  have hel : P.elem t = e := by simp [Program.elem, ht]
  have hu : P.underlying t = some (.slice (P.elem t)) := by rw [hel]; exact ht
  rw [run_slice_lhm W t A n c hu kl kh km lo hi' hi' h0 h1 (by omega) h2, hel]
  simp [sizeOf, typeInfo, hi, hsz, sliced, Result.andThen]
end

/-- The k-th part of a list, in parts of m. -/
def partL {α : Type} (m : Nat) (l : List α) (k : Nat) : List α := (l.take (min (m * k + m) l.length)).drop (m * k)
def partA (m sz : Nat) (A : Option Addr) (k : Nat) : Option Addr := A.map (·.add (m * k * sz))
theorem partL_len {α : Type} (m : Nat) (l : List α) (k : Nat) : (partL m l k).length = min (m * k + m) l.length - m * k := by simp [partL, List.length_take, List.length_drop]
def partN {α : Type} (m : Nat) (l : List α) : Nat := (l.length + (m - 1)) / m
theorem partN_lt {α : Type} {m : Nat} (hm : 0 < m) (l : List α) (k : Nat) : k < partN m l ↔ m * k < l.length := by
  unfold partN
  rw [Nat.lt_iff_add_one_le, Nat.le_div_iff_mul_le hm, Nat.add_mul, Nat.one_mul, Nat.mul_comm k m]
  omega
theorem part_C {w : World} {A : Option Addr} {l : List Int} {c m k : Nat} (h : Kd.C (Kd.int .u32) w A l.length l) (hm : 0 < m) (hk : m * k < l.length) (hc : l.length ≤ c) : Kd.C (Kd.int .u32) w (partA m (Kd.sz (Kd.int .u32)) A k) (partL m l k).length (partL m l k) := by
  have := Kd.C_mid (lo := m * k) (hi := min (m * k + m) l.length) (c := c + 1) h (by omega) (by omega) (by omega)
  rw [if_neg (by omega)] at this
  exact this

theorem chunk_calls (A : Option Addr) (n c : Nat) (m : Int) (hm : 1 ≤ m) (w : World) : Calls Try.prog 30 #[.slice A n c, .int .i64 m] w fun e w' =>
    e = .returned (.func (.func 42) #[] #[.pointer (some ⟨w.heap.size, 0, none⟩), .pointer (some ⟨w.heap.size + 1, 0, none⟩)]) ∧ w' = (w.alloc (.cells #[.slice A n c] 31)).alloc (.cells #[.int .i64 m] 3) := by
  have hlt : decide (m < 1) = false := decide_eq_false (by omega)
  go_enter Try.func30, Try.ntmps30
  go_wp2
  go_ret
  exact ⟨rfl, rfl⟩

set_option maxHeartbeats 4000000 in
/-- The iterator of slices.Chunk: a list's parts. -/
theorem chunk_seq (nn : Nat) (h1n : 1 ≤ nn) (A : Option Addr) (c : Nat) (l : List Int) (m : Nat) (hm : 0 < m) (hm9 : m ≤ 1000000) (hl : l.length ≤ 1000000000) (hc : l.length ≤ c) (Bs Bm : Nat) (w : World)
    (hBs : w.heap[Bs]? = some (.cells #[.slice A l.length c] 31 (0, 0))) (hBm : w.heap[Bm]? = some (.cells #[.int .i64 m] 3 (0, 0))) :
    SeqN Fence.wide nn Try.prog 42 #[.pointer (some ⟨Bs, 0, none⟩), .pointer (some ⟨Bm, 0, none⟩)]
      (fun k => #[.slice (partA m (Kd.sz (Kd.int .u32)) A k) (partL m l k).length (partL m l k).length]) (fun _ => False) (fun _ => False) (fun j => j = Bs ∨ j = Bm) (partN m l) w := fun lp J Jx W hW hJ hJx hY h0 => by
  obtain ⟨i0, hi0, _, hsz, _⟩ := info_parts info_u32
  have hls : Bs < w.heap.size := (Array.getElem?_eq_some_iff.1 hBs).1
  have hlm : Bm < w.heap.size := (Array.getElem?_eq_some_iff.1 hBm).1
  have hs : W.heap[Bs]? = some (.cells #[.slice A l.length c] 31 (0, 0)) := (hW.block Bs hls).trans hBs
  have hmm : W.heap[Bm]? = some (.cells #[.int .i64 m] 3 (0, 0)) := (hW.block Bm hlm).trans hBm
  clear hW hBs hBm
  refine callsIn_of_wp Try.func42 rfl trivial ?_ rfl
  simp only [Try.ntmps42, List.size_toArray, List.length_cons, List.length_nil, Nat.reduceAdd, Nat.reduceSub, Array.replicate_succ, Array.replicate_zero, List.push_toArray, List.append_toArray, List.nil_append, List.cons_append]
  gi_wp2
  gi_loopw [4] (fun i wr => ∃ (k : Nat) (x : Int), k ≤ partN m l ∧ i = .int .i64 x ∧ Hid (x = ((m * k : Nat) : Int)) ∧ J k wr ∧ wr.heap[Bs]? = some (.cells #[.slice A l.length c] 31 (0, 0)) ∧ wr.heap[Bm]? = some (.cells #[.int .i64 m] 3 (0, 0)))
    (fun i _ => l.length - (intOf i).toNat)
  case atStart => exact ⟨0, 0, by omega, rfl, Lib.hid (by simp), h0, hs, hmm⟩
  case round =>
    obtain ⟨k, x, hk, rfl, HX, hJs, hsk, hmk⟩ := hrel
    have hcs : wr.cell? ⟨Bs, 0, none⟩ = some (.slice A l.length c) := by rw [Lib.cell_of_heap hsk]; rfl
    have hcm : wr.cell? ⟨Bm, 0, none⟩ = some (.int .i64 m) := by rw [Lib.cell_of_heap hmk]; rfl
    have hx0 : 0 ≤ x := by rw [HX.out]; omega
    by_cases hlt : k < partN m l
    · have hlt' := (partN_lt hm l k).1 hlt
      have hxl : x < (l.length : Int) := by rw [HX.out]; omega
      have hp1 : decide (x < (l.length : Int)) = true := decide_eq_true hxl
      obtain ⟨y, hy⟩ : ∃ y : Int, (if l.length - x.toNat < m then ((l.length - x.toNat : Nat) : Int) else (m : Int)) = y := ⟨_, rfl⟩
      have hyv : y = min (m : Int) ((l.length - x.toNat : Nat) : Int) := by rw [← hy]; split <;> omega
      have hy1 : 0 < y := by omega
      have hy2 : x + y ≤ (l.length : Int) := by omega
      have hfrom := cut_from (P := Try.prog) 31 22 .i64 Try.underlying31 hi0 _ hsz A l.length c x hx0 (by omega)
      have hthree := cut_three (P := Try.prog) 31 22 .i64 .i64 .i64 Try.underlying31 hi0 _ hsz A l.length c x (x + y) hx0 (by omega) (by omega)
      have hpl : (partL m l k).length = (x + y).toNat - x.toNat := by rw [partL_len]; have := HX.out; omega
      have hpa : (if (x + y).toNat = x.toNat then A else A.map (·.add (x.toNat * 1))) = partA m (Kd.sz (Kd.int .u32)) A k := by
        rw [if_neg (by omega)]
        unfold partA
        rw [show x.toNat = m * k by have := HX.out; omega]; rfl
      rw [hpa, ← hpl] at hthree
      have HYV := Lib.hid hyv
      have HM := Lib.hid hm
      clear hpa hpl hlt' hyv
      gi_wp2
      gi_quiet (fail)
      have hJ2 := hJ k _ _ hJs (Turn.drewN wr nq)
      have hcs2 : (wr.drewN nq).cell? ⟨Bs, 0, none⟩ = some (.slice A l.length c) := hcs
      have hcm2 : (wr.drewN nq).cell? ⟨Bm, 0, none⟩ = some (.int .i64 m) := hcm
      obtain ⟨fn, tmps, assign, body, hyy, hR⟩ := hY k _ hlt hJ2
      gi_wp2
      refine hR.mono ?_
      rintro e W3 (⟨rfl, hJ3, hk3⟩ | ⟨rfl, hJx3⟩)
      · have hs3 : W3.heap[Bs]? = some (.cells #[.slice A l.length c] 31 (0, 0)) := (hk3.same Bs (.inl rfl) (Array.getElem?_eq_some_iff.1 hsk).1).trans hsk
        have hm3 : W3.heap[Bm]? = some (.cells #[.int .i64 m] 3 (0, 0)) := (hk3.same Bm (.inr rfl) (Array.getElem?_eq_some_iff.1 hmk).1).trans hmk
        have hcm3 : W3.cell? ⟨Bm, 0, none⟩ = some (.int .i64 m) := by rw [Lib.cell_of_heap hm3]; rfl
        gi_wp2
        go_roundw
        case rel => exact ⟨k + 1, x + m, by omega, rfl, Lib.hid (by rw [HX.out, Nat.mul_add, Nat.mul_one]; omega), hJ3, hs3, hm3⟩
        case measure => have := HM.out; simp [intOf]; omega
      · gi_wp2
        refine bodyPost_ret (results_none rfl _ _ _) rfl ?_
        exact ⟨⟨_, rfl⟩, .inr ⟨k + 1, by omega, hJx3⟩⟩
    · have hz : ¬ m * k < l.length := fun h => hlt ((partN_lt hm l k).2 h)
      have hp1 : decide (x < (l.length : Int)) = false := decide_eq_false (by rw [HX.out]; omega)
      have hkw : k = partN m l := by omega
      clear hz
      gi_wp2
      go_end0
      exact ⟨⟨_, rfl⟩, .inl (hkw ▸ hJs)⟩
end Go.Proofs.Ytpgdcpbbfphbiaa.Q

set_option linter.unusedVariables false
set_option linter.unusedSimpArgs false
namespace Go.Proofs.Ytpgdcpbbfphbiaa.Q
open Go.RowKit Go.Shelf Go.Proofs.Ytpgdcpbbfphbiaa.H Go.Proofs.YtpgdcpbbfphbiaaW.PrintWords Go.Proofs.YtpgdcpbbfphbiaaW.PrintLast Go.Proofs.YtpgdcpbbfphbiaaW.PrintMore
attribute [local go_sem] Oper.semAt_some
set_option maxRecDepth 100000

def numsB (l : List Int) : List UInt8 := (l.map fun x => lowBytes x 4).flatten
theorem numsB_take (l : List Int) (k : Nat) (h : k < l.length) : numsB (l.take (k + 1)) = numsB (l.take k) ++ lowBytes (l.getD k 0) 4 := by
  have e : l.getD k 0 = l[k] := by simp [h]
  unfold numsB
  rw [List.take_succ_eq_append_getElem h, List.map_append, List.flatten_append, e]; simp
theorem numsB_len : ∀ (l : List Int), (numsB l).length = 4 * l.length
  | [] => rfl
  | x :: xs => by
    have := numsB_len xs
    unfold numsB at this ⊢
    simp only [List.map_cons, List.flatten_cons, List.length_append, lowBytes_length, List.length_cons]; omega
def blkB (l : List Int) : ByteArray := ⟨(numsB l ++ List.replicate (508 - (numsB l).length) (0 : UInt8)).toArray⟩
theorem putU_f {n : Int} (h0 : 0 ≤ n) (h1 : n < 4294967296) : num_Put.f n 4 = some (leB n 4, 0) := by
  unfold num_Put.f
  rw [if_pos ⟨h0, by omega⟩, if_pos ⟨by omega, by omega⟩, if_pos (Int.ediv_eq_zero_of_lt h0 (by rw [show (256 : Int) ^ (4 : Int).toNat = 4294967296 by decide]; exact h1))]; rfl
theorem fit_blk (l : List Int) (h : l.length ≤ 127) : num_Fit.f ⟨(numsB l).toArray⟩ 508 = some (blkB l, 0) := by
  have hs : (⟨(numsB l).toArray⟩ : ByteArray).size = 4 * l.length := by rw [← numsB_len l]; simp [ByteArray.size]
  unfold num_Fit.f
  rw [if_neg (by omega), if_neg (by omega), if_neg (by omega), hs]
  have he : (⟨(numsB l).toArray⟩ : ByteArray) ++ zerosB ((508 : Int) - ((4 * l.length : Nat) : Int)).toNat = blkB l := by
    unfold blkB zerosB
    apply ByteArray.ext
    rw [numsB_len, show ((508 : Int) - ((4 * l.length : Nat) : Int)).toNat = 508 - 4 * l.length by omega]
    simp
  rw [he]
set_option maxHeartbeats 4000000 in
theorem block_calls (A : Option Addr) (c : Nat) (l : List Int) (w : World) (hC : Kd.C (Kd.int .u32) w A l.length l) (hl : l.length ≤ 127) (hr : ∀ x ∈ l, 0 ≤ x ∧ x < 4294967296) :
    Calls Try.prog 29 #[.slice A l.length c] w fun e w' => e = .returned (.string (blkB l)) ∧ Below w.heap.size w w' := by
  have HC := Aside0.mk hC
  have HR := Aside0.mk hr
  have HFIT := Aside0.mk (fit_blk l hl)
  clear hC hr
  go_enter Try.func29, Try.ntmps29
  go_wp2
  obtain ⟨H, hH⟩ : ∃ H, w.heap.size = H := ⟨_, rfl⟩
  simp only [hH]
  have hfr : Lib.IsBuilderF 66 5 H H (Lib.byteCells (numsB (l.take 0))) (w.alloc (.cells #[.pointer none, .slice none 0 0] 66)) := by
    have := Lib.IsBuilderF.of (Lib.fresh_isBuilder 66 5 w)
    rw [hH] at this
    exact this
  have hbl : Below H w (w.alloc (.cells #[.pointer none, .slice none 0 0] 66)) := (Below.refl H w).alloc (by omega) _
  generalize w.alloc (.cells #[.pointer none, .slice none 0 0] 66) = w0 at hfr hbl ⊢
  go_loopw [12] (fun i wr => ∃ j : Nat, j ≤ l.length ∧ i = .int .i64 j ∧ Lib.IsBuilderF 66 5 H H (Lib.byteCells (numsB (l.take j))) wr ∧ Below H w wr) (fun i _ => l.length - (intOf i).toNat)
  case atStart => exact ⟨0, by omega, rfl, hfr, hbl⟩
  case round =>
    obtain ⟨j, hj, rfl, hBd, hbe⟩ := hrel
    by_cases hlt : j < l.length
    · obtain ⟨ad, e0, g0⟩ := Kd.at_int (Kd.C_below HC.out (by rw [hH]; exact hbe)) (j : Int) (by omega) (by omega)
      subst e0
      simp only [Int.toNat_natCast] at g0
      have hgd : rd l (j : Int) = l.getD j 0 := by simp [rd]
      rw [hgd] at g0
      have hm : 0 ≤ l.getD j 0 ∧ l.getD j 0 < 4294967296 := by
        rw [List.getD_eq_getElem?_getD, List.getElem?_eq_getElem hlt]; exact HR.out _ (List.getElem_mem hlt)
      have HT := Aside0.mk (numsB_take l j hlt)
      obtain ⟨u, hu⟩ : ∃ u, l.getD j 0 = u := ⟨_, rfl⟩
      rw [hu] at g0 hm HT
      have hjl : decide ((j : Int) < (l.length : Int)) = true := decide_eq_true (by omega)
      have HM := Aside0.mk hm
      clear hgd hm hu
      go_wp2_with fail
      rw [IntWalk.u64_in u (by have := HM.out; omega)]
      refine (num_Put.calls _ _ _ _ _ (putU_f HM.out.1 HM.out.2)).mono ?_
      rintro e w4 ⟨rfl, hb4⟩
      have hHr : H ≤ wr.heap.size := by have := hbe.size; omega
      have hBd4 := (Turn.of_below (own := fun _ => False) (T := fun _ => False) hb4).builder hBd (fun h => h) (fun h => h)
      have hs4 := hb4.size
      have hsz : (leB u 4).size ≤ 4 := by rw [leB_size]; omega
      have hnl := numsB_len (l.take j)
      rw [List.length_take] at hnl
      go_wp2_with fail
      refine (b_WriteString H H _ (leB u 4) w4 hBd4 (by rw [Lib.byteCells_length]; omega) (by omega)).mono ?_
      rintro e w5 ⟨rfl, hB5, hbe5, ho5⟩
      go_wp2
      go_roundw
      case rel =>
        refine ⟨j + 1, by omega, by simp, ?_, (hbe.trans (hb4.mono hHr)).trans hbe5⟩
        rw [HT.out, Lib.byteCells_append]
        exact .inr hB5
      case measure => simp [intOf]; omega
    · have hjl : decide ((j : Int) < (l.length : Int)) = false := decide_eq_false (by omega)
      obtain rfl : j = l.length := by omega
      rw [List.take_length] at hBd
      have hHw : H ≤ wr.heap.size := by have := hbe.size; omega
      go_wp2_with fail
      refine (b_String H H (numsB l) wr hBd hHw).mono ?_
      rintro e w4 ⟨rfl, hB4, hbe4, ho4⟩
      go_wp2_with fail
      refine (num_Fit.calls _ _ _ _ w4 HFIT.out).mono ?_
      rintro e w5 ⟨rfl, hb5⟩
      have hs4 := hbe4.size
      have hs5 := hbe.size
      go_wp2
      go_ret
      exact ⟨rfl, by rw [hH]; exact (hbe.trans hbe4).trans (hb5.mono (by omega))⟩
end Go.Proofs.Ytpgdcpbbfphbiaa.Q

set_option linter.unusedVariables false
set_option linter.unusedSimpArgs false
namespace Go.Proofs.Ytpgdcpbbfphbiaa.Q
open Go.RowKit Go.Shelf Go.Proofs.Ytpgdcpbbfphbiaa.H Go.Proofs.YtpgdcpbbfphbiaaW.PrintWords Go.Proofs.YtpgdcpbbfphbiaaW.PrintLast Go.Proofs.YtpgdcpbbfphbiaaW.PrintMore
attribute [local go_sem] Oper.semAt_some
set_option maxRecDepth 100000

/-- The k-th number of a block, and whether all can be taken. -/
def tkN (b : ByteArray) (k : Nat) : Int := ((num_Take.f 20 b (4 * (k : Int)) 4).getD (0, 0)).1 % 4294967296
def okN (b : ByteArray) : Bool := (List.range 127).all fun k => (num_Take.f 20 b (4 * (k : Int)) 4).isSome
def numsN (b : ByteArray) (n : Nat) : List Int := (List.range n).map (tkN b)
theorem numsN_succ (b : ByteArray) (n : Nat) : numsN b (n + 1) = numsN b n ++ [tkN b n] := by simp [numsN, List.range_succ]
theorem numsN_len (b : ByteArray) (n : Nat) : (numsN b n).length = n := by simp [numsN]
theorem okN_at {b : ByteArray} (h : okN b = true) (k : Nat) (hk : k < 127) : ∃ x e, num_Take.f 20 b (4 * (k : Int)) 4 = some (x, e) ∧ tkN b k = x % 4294967296 := by
  have := List.all_eq_true.1 h k (List.mem_range.2 hk)
  unfold tkN
  cases hq : num_Take.f 20 b (4 * (k : Int)) 4 with
  | none => rw [hq] at this; cases this
  | some y => exact ⟨y.1, y.2, rfl, rfl⟩
theorem numbers_calls (b : ByteArray) (w : World) : Calls Try.prog 36 #[.string b] w fun e w' =>
    e = .returned (.func (.func 46) #[] #[.pointer (some ⟨w.heap.size, 0, none⟩)]) ∧ w' = w.alloc (.cells #[.string b] 9) := by
  go_enter Try.func36, Try.ntmps36
  go_wp2
  go_ret
  exact ⟨rfl, rfl⟩

set_option maxHeartbeats 4000000 in
/-- The iterator over a block's numbers. -/
theorem numbers_seq (nn : Nat) (h1n : 1 ≤ nn) (b : ByteArray) (hb : okN b = true) (Bb : Nat) (w : World) (hBb : w.heap[Bb]? = some (.cells #[.string b] 9 (0, 0))) :
    SeqN Fence.wide nn Try.prog 46 #[.pointer (some ⟨Bb, 0, none⟩)]
      (fun k => #[.int .i64 k, .int .u32 (tkN b k)]) (fun _ => False) (fun _ => False) (fun j => j = Bb) 127 w := fun lp J Jx W hW hJ hJx hY h0 => by
  have hls : Bb < w.heap.size := (Array.getElem?_eq_some_iff.1 hBb).1
  have hs : W.heap[Bb]? = some (.cells #[.string b] 9 (0, 0)) := (hW.block Bb hls).trans hBb
  clear hW hBb
  refine callsIn_of_wp Try.func46 rfl trivial ?_ rfl
  simp only [Try.ntmps46, List.size_toArray, List.length_cons, List.length_nil, Nat.reduceAdd, Nat.reduceSub, Array.replicate_succ, Array.replicate_zero, List.push_toArray, List.append_toArray, List.nil_append, List.cons_append]
  gi_wp2
  gi_loopw [6] (fun i wr => ∃ k : Nat, k ≤ 127 ∧ i = .int .i64 k ∧ J k wr ∧ wr.heap[Bb]? = some (.cells #[.string b] 9 (0, 0)))
    (fun i _ => 127 - (intOf i).toNat)
  case atStart => exact ⟨0, by omega, rfl, h0, hs⟩
  case round =>
    obtain ⟨k, hk, rfl, hJs, hsk⟩ := hrel
    have hcs : wr.cell? ⟨Bb, 0, none⟩ = some (.string b) := by rw [Lib.cell_of_heap hsk]; rfl
    by_cases hlt : k < 127
    · have hp1 : decide ((k : Int) < 127) = true := decide_eq_true (by omega)
      obtain ⟨x, e0, hx, hxe⟩ := okN_at hb k hlt
      have hwm : wrap64 (4 * (k : Int)) = 4 * (k : Int) := IntWalk.wrap64_in _ (by omega)
      have HX := Aside0.mk hx
      have HXE := Aside0.mk hxe
      clear hx hxe
      gi_wp2_with fail
      refine ⟨trivial, (callsIn_wide.2 (num_Take.calls 20 b (4 * (k : Int)) 4 x e0 _ HX.out)).mono ?_⟩
      rintro e w4 ⟨rfl, m4, rfl⟩
      have hJ2 := hJ k _ _ hJs (Turn.drewN wr m4)
      have hs4 : (wr.drewN m4).heap[Bb]? = some (.cells #[.string b] 9 (0, 0)) := hsk
      obtain ⟨fn, tmps, assign, body, hyy, hR⟩ := hY k _ hlt hJ2
      rw [HXE.out] at hyy
      gi_wp2
      refine hR.mono ?_
      rintro e W3 (⟨rfl, hJ3, hk3⟩ | ⟨rfl, hJx3⟩)
      · have hs3 : W3.heap[Bb]? = some (.cells #[.string b] 9 (0, 0)) := (hk3.same Bb rfl (Array.getElem?_eq_some_iff.1 hs4).1).trans hs4
        gi_wp2
        go_roundw
        case rel => exact ⟨k + 1, by omega, by simp, hJ3, hs3⟩
        case measure => simp [intOf]; omega
      · gi_wp2
        refine bodyPost_ret (results_none rfl _ _ _) rfl ?_
        exact ⟨⟨_, rfl⟩, .inr ⟨k + 1, by omega, hJx3⟩⟩
    · have hp1 : decide ((k : Int) < 127) = false := decide_eq_false (by omega)
      have hkw : k = 127 := by omega
      gi_wp2
      go_end0
      exact ⟨⟨_, rfl⟩, .inl (hkw ▸ hJs)⟩

def bmap_Numbers.f (b : ByteArray) : Option (List Int × Int) := if b.size = 508 then (if okN b = true then some (numsN b 127, 0) else none) else some ([], 130)
set_option maxHeartbeats 4000000 in
theorem numbers_yes (b : ByteArray) (hs : b.size = 508) (hb : okN b = true) (w : World) :
    Calls Try.prog 21 #[.string b] w fun e w' => ∃ v, e = .returned (.tuple #[v, .int .i64 0]) ∧ w'.ownsRow w.heap.size 22 1 v 127 ((numsN b 127).map (Value.int .u32)) ∧ Below w.heap.size w w' := by
  obtain ⟨i0, hi, hz0, hz1, hz2⟩ := info_parts info_u32
  have hsz : ((b.size : Int) != 508) = false := by rw [hs]; rfl
  refine (callsIn_wide (n := 10)).1 ?_
  refine callsIn_of_wp_marks Try.func21 rfl trivial ?_ rfl
  simp only [Try.ntmps21, List.size_toArray, List.length_cons, List.length_nil, Nat.reduceAdd, Nat.reduceSub, Array.replicate_succ, Array.replicate_zero, List.push_toArray, List.append_toArray, List.nil_append, List.cons_append]
  gi_wp2_with fail
  refine ⟨trivial, (callsIn_wide.2 (numbers_calls b _)).mono ?_⟩
  rintro e W0 ⟨rfl, hW0⟩
  obtain ⟨H, hH⟩ : ∃ H, w.heap.size = H := ⟨_, rfl⟩
  simp only [World.size_alloc, hH, Nat.add_assoc, Nat.reduceAdd]
  have hsz0 : W0.heap.size = H + 2 := by rw [hW0]; simp [hH]
  have hbl : Below H w W0 := by rw [hW0]; exact ((Below.refl H w).alloc (by omega) _).alloc (by simp; omega) _
  have h1 : W0.heap[H + 1]? = some (.cells #[.string b] 9 (0, 0)) := by
    rw [hW0]; have := World.alloc_heap_new (w.alloc (.cells #[.slice none 0 0] 31)) (.cells #[.string b] 9); simpa [hH] using this
  have h0 : Boxed W0 H 31 (.slice none 0 0) := by
    rw [hW0]; have := (Boxed.new w 31 (.slice none 0 0)).alloc (.cells #[.string b] 9); rwa [hH] at this
  clear hW0
  gi_wp2
  refine wpIn_rangeN rfl (by omega) (gf := 46) (lb := #[.pointer (some ⟨H + 1, 0, none⟩)]) rfl trivial (enters_of Try.func46 (by kernel_rfl) rfl)
    (numbers_seq 9 (by omega) b hb (H + 1) W0 h1) (Below.refl _ _) (fun _ => rfl) (fun h => h.elim) (fun h => h.elim) (by omega)
    (fun k W => (∃ v, Boxed W H 31 v ∧ W.ownsRow (H + 4) 22 1 v k ((numsN b k).map (Value.int .u32))) ∧ Below H w W)
    (fun _ _ _ => False)
    (fun k => (stands_ex fun v => (stands_box _ _ _ (by rintro (h | h | h) <;> first | exact h.elim | omega)).and (stands_row (by rintro j (h | h | h) <;> first | exact h.elim | omega))).and (stands_below (by omega) (by rintro j (h | h | h) <;> first | exact h.elim | omega)))
    (fun _ _ _ _ h _ => h)
    ⟨⟨_, h0, World.ownsRow_nil _ _ _ _⟩, hbl⟩
    (fun k => { tmps := #[.string b, undef, .slice none 0 0, .int .i64 0, .pointer (some ⟨H, 0, none⟩), undef, .int .u32 (tkN b k), .string b, .int .i64 508, .bool false, .string b, .func (.func 46) #[] #[.pointer (some ⟨H + 1, 0, none⟩)], .int .i64 k, .int .u32 (tkN b k), undef, undef, undef, undef, undef], defers := [] }) ?assign ?body ?done ?stop
  case assign =>
    intro lp k W K hK
    gi_wp2
    exact hK
  case body =>
    rintro lp k W hk hWs ⟨⟨v, hv, hrow⟩, hB⟩
    have HBW := Aside0.mk hB
    have hc0 := hv.cell
    clear hB
    gi_wp2_with (first | (gi_at_builtin; refine wpListIn_append_own _ rfl _ _ 31 rfl (H + 4) 22 i0 (.int .u32 0) 1 4 Try.underlying31 hi hz0 hz1 hz2 rfl (by decide) _ _ _ rfl (hrow.alloc _) ⟨W.heap.size, 0, none⟩ 1 1 [.int .u32 (tkN b k)] rfl rfl (cell_one_new _ _ _) (by simp [Value.oneCell']) (by unfold maxLen; omega) (by omega) (by simp; omega) ?_; intro v' w1 hown' hgrow _; obtain ⟨g', cap', rfl⟩ := ownsRow_succ hown'; obtain ⟨hv1, hv2, hr2, hk2, hb2, hj2⟩ := box_appended (n₀ := H) hv hrow (by omega) (by omega) (Nat.le_refl _) hown' hgrow; have hc1 := hv1.cell; have hf1 := hv1.frozen))
    refine ⟨hk2, ⟨by have := hb2.size; omega, fun j hj hl => hj2 j (by omega) (by omega)⟩, ⟨_, hv2, ?_⟩, HBW.out.trans hb2⟩
    rw [numsN_succ, List.map_append]; exact hr2
  case done =>
    rintro W ⟨⟨v, hv, hrow⟩, hB⟩ hWs hD
    have hc0 := hv.cell
    gi_wp2
    refine ⟨by simp, .inl ⟨_, _, rfl, run_takeDeferred hD, ?_⟩⟩
    refine ⟨_, results_tmp2 rfl _ _ _, ⟨_, rfl, ?_, ?_⟩⟩
    · exact ownsRow_putObj (row_lower hrow (by omega)) _ hD rfl
    · rw [hH]; exact hB.trans (belowK_b (w := W0) (by omega) W _ _ _ (by omega) hD rfl rfl)
  case stop =>
    intro c k W _ h
    exact h.elim
set_option maxHeartbeats 4000000 in
theorem numbers_no (b : ByteArray) (hs : b.size ≠ 508) (w : World) :
    Calls Try.prog 21 #[.string b] w fun e w' => e = .returned (.tuple #[.slice none 0 0, .int .i64 130]) ∧ Below w.heap.size w w' := by
  have hsz : ((b.size : Int) != 508) = true := by simp; omega
  go_enter Try.func21, Try.ntmps21
  go_wp2
  go_ret2
  exact ⟨rfl, Below.refl _ _⟩
theorem bmap_Numbers.calls (b : ByteArray) (r1 : List Int) (r2 : Int) (w : World) (h : bmap_Numbers.f b = some (r1, r2)) :
    Calls Try.prog 21 #[.string b] w fun e w' => ∃ v0_ : Value, e = .returned (.tuple #[v0_, .int .i64 r2]) ∧ Kd.R (Kd.int .u32) 22 w' w.heap.size (fun _ => True) v0_ r1 ∧ Below w.heap.size w w' := by
  unfold bmap_Numbers.f at h
  split at h
  · rename_i hs
    split at h
    · rename_i hb
      cases h
      refine (numbers_yes b hs hb w).mono ?_
      rintro e w' ⟨v, rfl, hrow, hbe⟩
      exact ⟨v, rfl, Kd.R_of_own (by rw [numsN_len]; exact hrow) (fun _ _ => trivial), hbe⟩
    · cases h
  · rename_i hs
    cases h
    refine (numbers_no b hs w).mono ?_
    rintro e w' ⟨rfl, hbe⟩
    exact ⟨_, rfl, Kd.R_nil _ _ _ _ _, hbe⟩
end Go.Proofs.Ytpgdcpbbfphbiaa.Q
