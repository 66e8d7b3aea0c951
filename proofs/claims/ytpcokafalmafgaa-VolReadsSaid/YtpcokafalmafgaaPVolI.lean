/- Files as contents, in plain words. -/
import Derived.Test.YtpcokafalmafgaaQ13
import Derived.KernelRfl
import Derived.Test.YtpcokafalmafgaaQ15
import Derived.Test.YtpcokafalmafgaaHVIno
import Derived.Test.YtpcokafalmafgaaPIno
namespace Go.Proofs.Ytpcokafalmafgaa.P
open Go.RowKit Go.Proofs.Ytpcokafalmafgaa.H Go.Proofs.Ytpcokafalmafgaa.Q Go.Proofs.YtpcokafalmafgaaW.PrintWords Go.Proofs.YtpcokafalmafgaaW.PrintLast Go.Proofs.YtpcokafalmafgaaW.PrintMore

/-! ### Powers -/
/-! ### Powers -/
/-- A text's bytes. -/
abbrev bl (s : ByteArray) : List UInt8 := s.data.toList
theorem bl_len (s : ByteArray) : (bl s).length = s.size := by rw [Array.length_toList]; rfl
theorem bl_cut (s : ByteArray) (a b : Nat) : bl (s.extract a b) = ((bl s).drop a).take (b - a) := by
 simp only [bl, ByteArray.data_extract, Array.toList_extract, List.extract_eq_take_drop]
theorem rest_bl (s : ByteArray) (k : Nat) : bl (rest s k) = (bl s).drop (508 * k) := by
 unfold rest; rw [bl_cut]; exact List.take_of_length_le (by rw [List.length_drop, bl_len]; omega)
theorem piece_bl (s : ByteArray) (k : Nat) : bl (piece s k) = ((bl s).drop (508 * k)).take 508 := by
 unfold piece; rw [bl_cut, rest_bl, rest_size]
 simp only [List.drop_zero, Nat.sub_zero]
 by_cases h : s.size - 508 * k ≤ 508
 ·rw [Nat.min_eq_left h, List.take_of_length_le (by rw [List.length_drop, bl_len]; omega), List.take_of_length_le (by rw [List.length_drop, bl_len]; omega)]
 ·rw [Nat.min_eq_right (by omega)]
theorem piece_sz (s : ByteArray) (k : Nat) : (piece s k).size = min 508 (s.size - 508 * k) := by
 rw [← bl_len, piece_bl, List.length_take, List.length_drop, bl_len]
theorem sameB_eq (a b : ByteArray) : sameB a b = ((bl a).take (min a.size b.size) == (bl b).take (min a.size b.size) && (((bl a).drop (min a.size b.size)).all (· == 0) && ((bl b).drop (min a.size b.size)).all (· == 0))) := by
 unfold sameB bareB
 rw [ByteArray.toList_eq, ByteArray.toList_eq]
 congr 2
 ·have e := bl_cut a 0 (min a.size b.size); simp only [List.drop_zero, Nat.sub_zero] at e; exact e
 ·have e := bl_cut b 0 (min a.size b.size); simp only [List.drop_zero, Nat.sub_zero] at e; exact e
theorem cut_f (s : ByteArray) (hs : s.size ≤ 140737488355328) : vol_Cut.f s = some (pieceL s (pieces s)) := if_pos hs
theorem changed_f (s t : ByteArray) (hs : s.size ≤ 140737488355328) (ht : t.size ≤ 140737488355328) : vol_Changed.f s t = some ((diffL s t (pieces t)).map fun k : Nat => (k : Int)) := if_pos ⟨hs, ht⟩

theorem sameInts_loop (a b : List Int) (hl : a.length = b.length) (ha : a.length ≤ 1000000000000000) : ∀ d i k, i + d = a.length → d < k → nautilusref17_SameInts.l0 k a b i = some (a.drop i == b.drop i)
 | 0, i, 0, _, h => by omega
 | 0, i, k + 1, hi, _ => by
  unfold nautilusref17_SameInts.l0
  rw [if_neg (by omega), List.drop_of_length_le (by omega), List.drop_of_length_le (by omega)]; simp
 | d + 1, i, 0, _, h => by omega
 | d + 1, i, k + 1, hi, h => by
  have h1 : i < a.length := by omega
  have h2 : i < b.length := by omega
  unfold nautilusref17_SameInts.l0
  rw [if_pos (by omega), if_pos (by omega), if_pos (by omega)]
  have e1 : rd a i = a[i] := by simp [rd, h1]
  have e2 : rd b i = b[i] := by simp [rd, h2]
  have e3 : wrap64 ((i : Int) + 1) = ((i + 1 : Nat) : Int) := by rw [IntWalk.wrap64_in _ (by omega)]; omega
  rw [e1, e2, e3]
  have f1 : a.drop i = a[i] :: a.drop (i + 1) := List.drop_eq_getElem_cons h1
  have f2 : b.drop i = b[i] :: b.drop (i + 1) := List.drop_eq_getElem_cons h2
  rw [f1, f2]
  by_cases hh : a[i] = b[i]
  ·rw [if_pos hh, sameInts_loop a b hl ha d (i + 1) k (by omega) (by omega), hh]; simp only [List.cons_beq_cons, beq_self_eq_true, Bool.true_and]
  ·rw [if_neg hh]; simp only [List.cons_beq_cons, beq_false_of_ne hh, Bool.false_and]
theorem sameInts_f (a b : List Int) (ha : a.length ≤ 1000000000000000) (k : Nat) (hk : a.length < k) : nautilusref17_SameInts.f k a b = some (a == b) := by
 unfold nautilusref17_SameInts.f
 by_cases h : a.length = b.length
 ·rw [if_pos (by omega)]
  have := sameInts_loop a b h ha a.length 0 k (by omega) hk
  simpa using this
 ·rw [if_neg (by omega)]
  have : (a == b) = false := by rw [beq_eq_false_iff_ne]; intro e; exact h (by rw [e])
  rw [this]
def z600 : ByteArray := ⟨(List.replicate 600 (0 : UInt8)).toArray⟩
theorem z600_size : z600.size = 600 := by
 show (List.replicate 600 (0 : UInt8)).toArray.size = 600
 rw [List.size_toArray, List.length_replicate]
theorem zeros600 : strOfNums (List.replicate 600 0) = z600 := by unfold strOfNums z600; rw [List.map_replicate]; rfl
theorem shown_f (k : Nat) (hk : 2 ≤ k) : nautiluslaw17_shown.f k = some true := by
 unfold nautiluslaw17_shown.f
 rw [if_pos (by omega), zeros600, cut_f _ (by rw [z600_size]; omega)]
 have hp : pieces z600 = 2 := by unfold pieces; rw [z600_size]
 rw [hp, Option.bind_some]
 have hz := z600_size
 generalize z600 = z at hz ⊢
 have e0 : rdOf ByteArray.empty (pieceL z 2) 0 = piece z 0 := rfl
 have e1 : rdOf ByteArray.empty (pieceL z 2) 1 = piece z 1 := rfl
 have el : (pieceL z 2).length = 2 := by simp [pieceL]
 have d1 : diffL ⟨#[97, 98]⟩ ⟨#[97, 99]⟩ 1 = [0] := by
  have : diffB ⟨#[97, 98]⟩ ⟨#[97, 99]⟩ 0 = true := by
   unfold diffB; rw [sameB_eq, piece_bl, piece_bl, piece_sz, piece_sz]; decide
  rw [diffL_yes _ _ _ this]; rfl
 have d2 : diffL ⟨#[97]⟩ ⟨#[97, 0]⟩ 1 = [] := by
  have : diffB ⟨#[97]⟩ ⟨#[97, 0]⟩ 0 = false := by
   unfold diffB; rw [sameB_eq, piece_bl, piece_bl, piece_sz, piece_sz]; decide
  rw [diffL_no _ _ _ this]; rfl
 rw [el, e0, e1, piece_sz, piece_sz, changed_f _ _ (by decide) (by decide), changed_f _ _ (by decide) (by decide)]
 have p1 : pieces ⟨#[97, 99]⟩ = 1 := rfl
 have p2 : pieces ⟨#[97, 0]⟩ = 1 := rfl
 rw [p1, p2, d1, d2]
 rw [hz, if_pos (by decide), if_pos (by decide), if_pos (by decide), if_pos (by decide), if_pos (by decide)]
 simp only [Option.bind_some]
 rw [sameInts_f _ _ (by decide) k (by simp; omega)]
 rfl
end Go.Proofs.Ytpcokafalmafgaa.P

set_option linter.unusedVariables false
set_option linter.unusedSimpArgs false
set_option maxRecDepth 100000
namespace Go.Proofs.Ytpcokafalmafgaa.P
open Go.RowKit Go.Proofs.Ytpcokafalmafgaa.H Go.Proofs.Ytpcokafalmafgaa.Q Go.Proofs.YtpcokafalmafgaaW.PrintWords Go.Proofs.YtpcokafalmafgaaW.PrintLast Go.Proofs.YtpcokafalmafgaaW.PrintMore

theorem cut17_f (s : ByteArray) : nautiluslaw17_cut.f s = some (s.extract 0 (min s.size 10000)) := by
 have e : mn (s.size : Int) 10000 = ((min s.size 10000 : Nat) : Int) := by unfold mn; split <;> omega
 unfold nautiluslaw17_cut.f
 rw [e, if_pos (by omega), if_pos (by omega)]; simp
/-- A file's inode. -/
def vinV (n0 n1 n2 n3 : Int) (d : ByteArray) (m0 m1 m2 m3 m4 m5 : Int) : Int × Int × Int × Int × Int × Int × Int × Int × Int × Int × Int × Int × Int :=
 if (n0 == 0 && (n1 == 0 && (n2 == 0 && (n3 == 0 && (d.toList == ([] : List UInt8)))))) = true ∧ (m0 == 0 && (m1 == 0 && (m2 == 0 && (m3 == 0 && (m4 == 0 && (m5 == 0)))))) = false then (0, 0, 0, 0, 0, 0, 0, 0, 0, 0, 0, 0, 154) else if rightV n0 n1 n2 d.size n3 (dep d.size) m0 m1 m2 m3 m4 m5 = true then (if (n0 == 0 && (n1 == 0 && (n2 == 0 && (n3 == 0 && (d.toList == ([] : List UInt8)))))) = false ∧ (n0 == 0 && (n1 == 0 && (n2 == 0 && ((d.size : Int) == 0 && (n3 == 0 && (dep d.size == 0 && ((m0 == 0 && (m1 == 0 && (m2 == 0 && (m3 == 0 && (m4 == 0 && (m5 == 0))))))))))))) = true then (0, 0, 0, 0, 0, 0, 0, 0, 0, 0, 0, 0, 154) else (n0, n1, n2, d.size, n3, dep d.size, m0, m1, m2, m3, m4, m5, 0)) else (0, 0, 0, 0, 0, 0, 0, 0, 0, 0, 0, 0, 154)
theorem vin_f (n0 n1 n2 n3 : Int) (d : ByteArray) (m0 m1 m2 m3 m4 m5 : Int) (hd : d.size ≤ 10000) : vol_Inode.f n0 n1 n2 n3 d m0 m1 m2 m3 m4 m5 = some (vinV n0 n1 n2 n3 d m0 m1 m2 m3 m4 m5) := by
 unfold vol_Inode.f vinV
 rw [if_neg (by omega)]
 by_cases h1 : (n0 == 0 && (n1 == 0 && (n2 == 0 && (n3 == 0 && (d.toList == ([] : List UInt8)))))) = true ∧ (m0 == 0 && (m1 == 0 && (m2 == 0 && (m3 == 0 && (m4 == 0 && (m5 == 0)))))) = false
 ·rw [if_pos h1, if_pos h1]
 ·rw [if_neg h1, if_neg h1, depth_f _ (by omega) (by omega), Option.bind_some, right_f _ _ _ _ _ _ _ _ _ _ _ _ (by omega) (by omega), Option.bind_some]
  by_cases h2 : rightV n0 n1 n2 d.size n3 (dep d.size) m0 m1 m2 m3 m4 m5 = true
  ·rw [if_pos h2, if_pos h2]
   by_cases h3 : (n0 == 0 && (n1 == 0 && (n2 == 0 && (n3 == 0 && (d.toList == ([] : List UInt8)))))) = false ∧ (n0 == 0 && (n1 == 0 && (n2 == 0 && ((d.size : Int) == 0 && (n3 == 0 && (dep d.size == 0 && ((m0 == 0 && (m1 == 0 && (m2 == 0 && (m3 == 0 && (m4 == 0 && (m5 == 0))))))))))))) = true
   ·rw [if_pos h3, if_pos h3]
   ·rw [if_neg h3, if_neg h3]
  ·rw [if_neg h2, if_neg h2]
theorem vin_ok {n0 n1 n2 n3 : Int} {d : ByteArray} {m0 m1 m2 m3 m4 m5 : Int} (h : (vinV n0 n1 n2 n3 d m0 m1 m2 m3 m4 m5).2.2.2.2.2.2.2.2.2.2.2.2 = 0) : rightV n0 n1 n2 d.size n3 (dep d.size) m0 m1 m2 m3 m4 m5 = true ∧ vinV n0 n1 n2 n3 d m0 m1 m2 m3 m4 m5 = (n0, n1, n2, (d.size : Int), n3, dep d.size, m0, m1, m2, m3, m4, m5, 0) := by
 unfold vinV at h ⊢
 by_cases h1 : (n0 == 0 && (n1 == 0 && (n2 == 0 && (n3 == 0 && (d.toList == ([] : List UInt8)))))) = true ∧ (m0 == 0 && (m1 == 0 && (m2 == 0 && (m3 == 0 && (m4 == 0 && (m5 == 0)))))) = false
 ·rw [if_pos h1] at h; cases h
 ·rw [if_neg h1] at h ⊢
  by_cases h2 : rightV n0 n1 n2 d.size n3 (dep d.size) m0 m1 m2 m3 m4 m5 = true
  ·rw [if_pos h2] at h ⊢
   by_cases h3 : (n0 == 0 && (n1 == 0 && (n2 == 0 && (n3 == 0 && (d.toList == ([] : List UInt8)))))) = false ∧ (n0 == 0 && (n1 == 0 && (n2 == 0 && ((d.size : Int) == 0 && (n3 == 0 && (dep d.size == 0 && ((m0 == 0 && (m1 == 0 && (m2 == 0 && (m3 == 0 && (m4 == 0 && (m5 == 0))))))))))))) = true
   ·rw [if_pos h3] at h; cases h
   ·rw [if_neg h3]; exact ⟨h2, rfl⟩
  ·rw [if_neg h2] at h; cases h
/-- An inode's file. -/
def vnoV (a0 a1 a2 a3 a4 a5 a6 a7 a8 a9 a10 a11 : Int) (d : ByteArray) : Int × Int × Int × Int × ByteArray × Int := if rightV a0 a1 a2 a3 a4 a5 a6 a7 a8 a9 a10 a11 = true then (if (d.size : Int) = a3 then (a0, a1, a2, a4, d, 0) else (0, 0, 0, 0, (⟨#[]⟩ : ByteArray), 154)) else (0, 0, 0, 0, (⟨#[]⟩ : ByteArray), 154)
theorem vno_f (a0 a1 a2 a3 a4 a5 a6 a7 a8 a9 a10 a11 : Int) (d : ByteArray) (h0 : 0 ≤ a3) (h1 : a3 < 4294967296) (hd : d.size ≤ 10000) : vol_Node.f a0 a1 a2 a3 a4 a5 a6 a7 a8 a9 a10 a11 d = some (vnoV a0 a1 a2 a3 a4 a5 a6 a7 a8 a9 a10 a11 d) := by
 unfold vol_Node.f vnoV
 rw [right_f _ _ _ _ _ _ _ _ _ _ _ _ h0 h1, Option.bind_some, IntWalk.u64_in (d.size : Int) (by omega), IntWalk.u64_in a3 (by omega)]
 by_cases h2 : rightV a0 a1 a2 a3 a4 a5 a6 a7 a8 a9 a10 a11 = true
 ·rw [if_pos h2, if_pos h2]
  by_cases h3 : (d.size : Int) = a3
  ·rw [if_pos h3, if_pos h3]
  ·rw [if_neg h3, if_neg h3]
 ·rw [if_neg h2, if_neg h2]
end Go.Proofs.Ytpcokafalmafgaa.P
