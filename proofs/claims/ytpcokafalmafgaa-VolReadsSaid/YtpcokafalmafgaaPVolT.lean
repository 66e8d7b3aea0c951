/- Plain laws of layer 10: inodes of a block. -/
import Derived.Test.YtpcokafalmafgaaQ19
import Derived.Test.YtpcokafalmafgaaPIno
import Derived.Test.YtpcokafalmafgaaQ18
import Derived.Test.YtpcokafalmafgaaQ22
import Derived.Test.YtpcokafalmafgaaPVolI
set_option linter.unusedVariables false
set_option linter.unusedSimpArgs false
set_option maxRecDepth 100000
namespace Go.Proofs.Ytpcokafalmafgaa.P
open Go.RowKit Go.Proofs.Ytpcokafalmafgaa.H Go.Proofs.Ytpcokafalmafgaa.Q Go.Proofs.YtpcokafalmafgaaW.PrintWords Go.Proofs.YtpcokafalmafgaaW.PrintLast Go.Proofs.YtpcokafalmafgaaW.PrintMore

theorem isPlace_f (s : ByteArray) (k : Int) : inode_isPlace.f s k = some (decide (s.size = 508 ∧ 0 ≤ k ∧ k < 12)) := by
 unfold inode_isPlace.f
 by_cases hs : (s.size : Int) = 508
 ·rw [if_pos hs]
  by_cases hk : k ≥ 0
  ·rw [if_pos hk]; congr 1; rw [decide_eq_decide]; omega
  ·rw [if_neg hk, decide_eq_false (by omega)]
 ·rw [if_neg hs, decide_eq_false (by omega)]
def inoGetV (s : ByteArray) (k : Int) : Int × Int × Int × Int × Int × Int × Int × Int × Int × Int × Int × Int × Int := if s.size = 508 ∧ 0 ≤ k ∧ k < 12 then decV (s.extract (42 * k.toNat) (42 * k.toNat + 42)) else (0, 0, 0, 0, 0, 0, 0, 0, 0, 0, 0, 0, 2)
theorem get_f (s : ByteArray) (k : Int) : inode_Get.f s k = some (inoGetV s k) := by
 unfold inode_Get.f inoGetV
 rw [isPlace_f, Option.bind_some]
 by_cases h : s.size = 508 ∧ 0 ≤ k ∧ k < 12
 ·rw [decide_eq_true h, if_pos rfl, if_pos h]
  have e1 : wrap64 (k * 42) = k * 42 := IntWalk.wrap64_in _ (by omega)
  have e2 : wrap64 (k * 42 + 42) = k * 42 + 42 := IntWalk.wrap64_in _ (by omega)
  rw [e1, e2, if_pos (by omega), if_pos (by omega), if_pos (by omega), decode_f, Option.bind_some, show (k * 42).toNat = 42 * k.toNat by omega, show (k * 42 + 42).toNat = 42 * k.toNat + 42 by omega]
 ·rw [decide_eq_false h, if_neg (by decide), if_neg h]
def inoPutV (s : ByteArray) (k : Int) (a0 a1 a2 a3 a4 a5 a6 a7 a8 a9 a10 a11 : Int) : ByteArray × Int :=
 if s.size = 508 ∧ 0 ≤ k ∧ k < 12 then (if rightV a0 a1 a2 a3 a4 a5 a6 a7 a8 a9 a10 a11 = true then (s.extract 0 (42 * k.toNat) ++ inoB a0 a1 a2 a3 a4 a5 a6 a7 a8 a9 a10 a11 ++ s.extract (42 * k.toNat + 42) s.size, 0) else (⟨#[]⟩, 100)) else (⟨#[]⟩, 2)
theorem put_size (s : ByteArray) (k : Int) (a0 a1 a2 a3 a4 a5 a6 a7 a8 a9 a10 a11 : Int) (h : s.size = 508 ∧ 0 ≤ k ∧ k < 12) : (s.extract 0 (42 * k.toNat)).size = 42 * k.toNat ∧ (s.extract (42 * k.toNat + 42) s.size).size = 508 - (42 * k.toNat + 42) := by
 rw [ByteArray.size_extract, ByteArray.size_extract]; omega
theorem inoPut_f (s : ByteArray) (k : Int) (a0 a1 a2 a3 a4 a5 a6 a7 a8 a9 a10 a11 : Int) (hw : inoWf a0 a1 a2 a3 a4 a5 a6 a7 a8 a9 a10 a11) : inode_Put.f s k a0 a1 a2 a3 a4 a5 a6 a7 a8 a9 a10 a11 = some (inoPutV s k a0 a1 a2 a3 a4 a5 a6 a7 a8 a9 a10 a11) := by
 unfold inode_Put.f inoPutV
 rw [isPlace_f, Option.bind_some]
 by_cases h : s.size = 508 ∧ 0 ≤ k ∧ k < 12
 ·rw [decide_eq_true h, if_pos rfl, if_pos h, encode_f a0 a1 a2 a3 a4 a5 a6 a7 a8 a9 a10 a11 hw, Option.bind_some]
  by_cases hr : rightV a0 a1 a2 a3 a4 a5 a6 a7 a8 a9 a10 a11 = true
  ·have e1 : wrap64 (k * 42) = k * 42 := IntWalk.wrap64_in _ (by omega)
   have e2 : wrap64 (k * 42 + 42) = k * 42 + 42 := IntWalk.wrap64_in _ (by omega)
   have hz := put_size s k a0 a1 a2 a3 a4 a5 a6 a7 a8 a9 a10 a11 h
   rw [encV_of hr, if_pos hr, e1, e2, show (k * 42).toNat = 42 * k.toNat by omega, show (k * 42 + 42).toNat = 42 * k.toNat + 42 by omega]
   simp only [if_true]
   rw [if_pos (by omega), if_pos (by omega), if_pos (by rw [hz.1, inoB_size]; omega), if_pos (by omega), if_pos (by omega), if_pos (by rw [ByteArray.size_append, hz.1, hz.2, inoB_size]; omega)]
  ·unfold encV
   rw [if_neg hr, if_neg hr]
   show (if (100 : Int) = 0 then _ else _) = _
   rw [if_neg (by decide)]
 ·rw [decide_eq_false h, if_neg (by decide), if_neg h]
end Go.Proofs.Ytpcokafalmafgaa.P

set_option linter.unusedVariables false
set_option linter.unusedSimpArgs false
set_option maxRecDepth 100000
namespace Go.Proofs.Ytpcokafalmafgaa.P
open Go.RowKit Go.Proofs.Ytpcokafalmafgaa.H Go.Proofs.Ytpcokafalmafgaa.Q Go.Proofs.YtpcokafalmafgaaW.PrintWords Go.Proofs.YtpcokafalmafgaaW.PrintLast Go.Proofs.YtpcokafalmafgaaW.PrintMore

/-! ### Lists are the same as themselves -/
theorem inos_loop17 (a : List S42) (ha : a.length ≤ 1000000000) : ∀ d i k, i + d = a.length → d < k → nautilusref17_SameInodes.l0 k a a (i : Int) = some true
 | 0, i, k + 1, hi, hk => by
  simp only [nautilusref17_SameInodes.l0]; rw [if_neg (by omega)]
 | d + 1, i, k + 1, hi, hk => by
  simp only [nautilusref17_SameInodes.l0]
  rw [if_pos (by omega), if_pos (by omega), if_pos (by omega), if_neg (by simp), show wrap64 ((i : Int) + 1) = ((i + 1 : Nat) : Int) by rw [IntWalk.wrap64_in _ (by omega)]; omega]
  exact inos_loop17 a ha d (i + 1) k (by omega) (by omega)
theorem inos_f17 (a : List S42) (ha : a.length ≤ 1000000000) (k : Nat) (hk : a.length < k) : nautilusref17_SameInodes.f k a a = some true := by
 unfold nautilusref17_SameInodes.f
 rw [if_pos rfl]
 exact inos_loop17 a ha a.length 0 k (by omega) hk

/-! ### Inodes as contents -/
def wfI (x : S42) : Prop := inoWf x.f0 x.f1 x.f2 x.f3 x.f4 x.f5 x.f6.f0 x.f6.f1 x.f6.f2 x.f6.f3 x.f6.f4 x.f6.f5
def tabPut (y : List ByteArray) (x : S42) (i : Nat) : ByteArray × Int := inoPutV (y.getD (y.length - 1) ByteArray.empty) ((i % 12 : Nat) : Int) x.f0 x.f1 x.f2 x.f3 x.f4 x.f5 x.f6.f0 x.f6.f1 x.f6.f2 x.f6.f3 x.f6.f4 x.f6.f5
def tabV : List S42 → List ByteArray → Nat → List ByteArray × Int
 | [], out, _ => (out, 0)
 | x :: xs, out, i =>
  if (tabPut (if i % 12 = 0 then out ++ [zerosB 508] else out) x i).2 = 0 then tabV xs ((if i % 12 = 0 then out ++ [zerosB 508] else out).set ((if i % 12 = 0 then out ++ [zerosB 508] else out).length - 1) (tabPut (if i % 12 = 0 then out ++ [zerosB 508] else out) x i).1) (i + 1)
  else ([], 154)
theorem rd_at (l : List S42) (i : Nat) (h : i < l.length) : rd_T42 l (i : Int) = l[i] := by
 unfold rd_T42; rw [Int.toNat_natCast]; simp [h]
theorem rep508 : strings_Repeat.f (⟨#[0]⟩ : ByteArray) 508 = some (zerosB 508) := by
 unfold strings_Repeat.f
 rw [if_pos (by decide)]
 exact congrArg some (repeat_zero 508)
theorem last_eq (y : List ByteArray) (h1 : 1 ≤ y.length) (h2 : y.length ≤ 1000) : wrap64 ((y.length : Int) - 1) = ((y.length - 1 : Nat) : Int) := by
 rw [IntWalk.wrap64_in _ (by omega)]; omega
theorem table_loop (l : List S42) (hl : l.length ≤ 240) (hw : ∀ x ∈ l, wfI x) : ∀ d i k out, i + d = l.length → out.length = (i + 11) / 12 → d < k → vol_Table.l0 k out l (l.length : Int) (i : Int) = some (tabV (l.drop i) out i)
 | 0, i, k + 1, out, hi, ho, hk => by
  simp only [vol_Table.l0]
  rw [if_neg (by omega), List.drop_of_length_le (by omega)]; rfl
 | d + 1, i, k + 1, out, hi, ho, hk => by
  have hlt : i < l.length := by omega
  have hx := hw l[i] (List.getElem_mem hlt)
  have e1 : wrap64 ((i : Int) + 1) = ((i + 1 : Nat) : Int) := by rw [IntWalk.wrap64_in _ (by omega)]; omega
  have e2 : Int.tmod (i : Int) 12 = ((i % 12 : Nat) : Int) := by rw [Int.tmod_eq_emod_of_nonneg (by omega)]; omega
  rw [List.drop_eq_getElem_cons hlt]
  simp only [vol_Table.l0, tabV]
  rw [if_pos (by omega), if_pos (by omega), if_pos (by omega), e1, e2, rd_at l i hlt]
  by_cases hm : i % 12 = 0
  ·rw [if_pos (by omega), rep508, Option.bind_some, if_pos (by omega), Option.bind_some]
   simp only [if_pos hm]
   have hy : (out ++ [zerosB 508]).length = out.length + 1 := by simp
   rw [last_eq _ (by omega) (by omega), if_pos (by omega), if_pos (by omega), inoPut_f _ _ _ _ _ _ _ _ _ _ _ _ _ _ hx, Option.bind_some, Int.toNat_natCast]
   show (if (tabPut (out ++ [zerosB 508]) l[i] i).2 = 0 then _ else _) = _
   by_cases hp : (tabPut (out ++ [zerosB 508]) l[i] i).2 = 0
   ·rw [if_pos hp, if_pos hp]
    exact table_loop l hl hw d (i + 1) k _ (by omega) (by rw [List.length_set, hy]; omega) (by omega)
   ·rw [if_neg hp, if_neg hp]
  ·rw [if_neg (by omega)]
   simp only [if_neg hm]
   rw [last_eq _ (by omega) (by omega), if_pos (by omega), if_pos (by omega), inoPut_f _ _ _ _ _ _ _ _ _ _ _ _ _ _ hx, Option.bind_some, Int.toNat_natCast]
   show (if (tabPut out l[i] i).2 = 0 then _ else _) = _
   by_cases hp : (tabPut out l[i] i).2 = 0
   ·rw [if_pos hp, if_pos hp]
    exact table_loop l hl hw d (i + 1) k _ (by omega) (by rw [List.length_set]; omega) (by omega)
   ·rw [if_neg hp, if_neg hp]
def tableV (l : List S42) : List ByteArray × Int := if (l.length : Int) > 240 then ([], 154) else tabV l [] 0
theorem table_f (l : List S42) (hw : ∀ x ∈ l, wfI x) (k : Nat) (hk : 300 ≤ k) : vol_Table.f k l = some (tableV l) := by
 unfold vol_Table.f tableV
 by_cases h : (l.length : Int) > 240
 ·rw [if_pos h, if_pos h]
 ·rw [if_neg h, if_neg h]
  exact table_loop l (by omega) hw l.length 0 k [] (by omega) rfl (by omega)
/-! ### Contents as inodes -/
theorem rdOf_at (L : List ByteArray) (i : Nat) (h : i < L.length) : rdOf ByteArray.empty L (i : Int) = L[i] := by
 unfold rdOf; rw [Int.toNat_natCast, List.getD_eq_getElem?_getD, List.getElem?_eq_getElem h]; rfl
def bareV17 (s : ByteArray) : Bool := (s.data.toList.drop 504).all (· == 0)
theorem bare17_f (s : ByteArray) (h : s.size = 508) : num_Bare.f s 504 = some (bareV17 s) := by
 unfold num_Bare.f bareV17; rw [if_pos (by omega)]; rfl
def blkV (s : ByteArray) : Nat → Nat → List S42 → Option (List S42)
 | 0, _, acc => some acc
 | d + 1, j, acc => if (inoGetV s (j : Int)).2.2.2.2.2.2.2.2.2.2.2.2 = 0 then blkV s d (j + 1) (acc ++ [(⟨(inoGetV s (j : Int)).1, (inoGetV s (j : Int)).2.1, (inoGetV s (j : Int)).2.2.1, (inoGetV s (j : Int)).2.2.2.1, (inoGetV s (j : Int)).2.2.2.2.1, (inoGetV s (j : Int)).2.2.2.2.2.1, (⟨(inoGetV s (j : Int)).2.2.2.2.2.2.1, (inoGetV s (j : Int)).2.2.2.2.2.2.2.1, (inoGetV s (j : Int)).2.2.2.2.2.2.2.2.1, (inoGetV s (j : Int)).2.2.2.2.2.2.2.2.2.1, (inoGetV s (j : Int)).2.2.2.2.2.2.2.2.2.2.1, (inoGetV s (j : Int)).2.2.2.2.2.2.2.2.2.2.2.1⟩ : S40)⟩ : S42)]) else none
theorem blkV_len (s : ByteArray) : ∀ d j acc a, blkV s d j acc = some a → a.length = acc.length + d
 | 0, j, acc, a, h => by simp only [blkV, Option.some.injEq] at h; subst h; omega
 | d + 1, j, acc, a, h => by
  simp only [blkV] at h
  by_cases hg : (inoGetV s (j : Int)).2.2.2.2.2.2.2.2.2.2.2.2 = 0
  ·rw [if_pos hg] at h
   have := blkV_len s d (j + 1) _ a h
   rw [List.length_append] at this
   simp at this; omega
  ·rw [if_neg hg] at h; cases h
def inosV : List ByteArray → List S42 → List S42 × Int
 | [], acc => (acc, 0)
 | s :: ss, acc => if s.size = 508 then (if bareV17 s = true then (match blkV s 12 0 acc with | some a => inosV ss a | none => ([], 154)) else ([], 154)) else ([], 154)
theorem l1_f (s : ByteArray) (L : List ByteArray) (n i : Int) : ∀ (d j : Nat) (acc : List S42) (k : Nat), j + d = 12 → acc.length + d ≤ 1000 → vol_Inodes.l1 (k + d + 1) acc s L n i (j : Int) = match blkV s d j acc with | some a => vol_Inodes.l0 k a L n (wrap64 (i + 1)) | none => some ([], 154)
 | 0, j, acc, k, hj, ha => by
  simp only [vol_Inodes.l1, blkV]
  rw [if_neg (by omega)]
 | d + 1, j, acc, k, hj, ha => by
  have e1 : wrap64 ((j : Int) + 1) = ((j + 1 : Nat) : Int) := by rw [IntWalk.wrap64_in _ (by omega)]; omega
  obtain ⟨m, hm⟩ : ∃ m, k + d + 1 = m := ⟨_, rfl⟩
  rw [show k + (d + 1) + 1 = m + 1 by omega]
  simp only [vol_Inodes.l1, blkV]
  rw [if_pos (by omega), get_f, Option.bind_some, e1]
  by_cases hg : (inoGetV s (j : Int)).2.2.2.2.2.2.2.2.2.2.2.2 = 0
  ·rw [if_pos hg, if_pos hg, if_pos (by omega)]
   rw [← hm]
   refine l1_f s L n i d (j + 1) _ k (by omega) ?_
   rw [List.length_append, List.length_singleton]; omega
  ·rw [if_neg hg, if_neg hg]
theorem inodes_loop (L : List ByteArray) (hL : L.length ≤ 20) : ∀ d i k acc, i + d = L.length → acc.length = 12 * i → 15 * d < k → vol_Inodes.l0 k acc L (L.length : Int) (i : Int) = some (inosV (L.drop i) acc)
 | 0, i, k + 1, acc, hi, ha, hk => by
  simp only [vol_Inodes.l0]
  rw [if_neg (by omega), List.drop_of_length_le (by omega)]; rfl
 | d + 1, i, k + 1, acc, hi, ha, hk => by
  have hlt : i < L.length := by omega
  have e1 : wrap64 ((i : Int) + 1) = ((i + 1 : Nat) : Int) := by rw [IntWalk.wrap64_in _ (by omega)]; omega
  have e3 : rdOf ByteArray.empty L (i : Int) = L[i] := rdOf_at L i hlt
  obtain ⟨k, rfl⟩ : ∃ m, k = m + 1 := ⟨k - 1, by omega⟩
  rw [List.drop_eq_getElem_cons hlt]
  simp only [vol_Inodes.l0, inosV]
  rw [if_pos (by omega), if_pos (by omega), if_pos (by omega), e3]
  by_cases hs : L[i].size = 508
  ·rw [if_pos (by omega), if_pos hs, bare17_f _ hs, Option.bind_some]
   simp only [vol_Inodes.j1]
   by_cases hb : bareV17 L[i] = true
   ·rw [if_pos hb, hb, if_neg (by decide)]
    obtain ⟨k, rfl⟩ : ∃ m, k = m + 12 + 1 := ⟨k - 13, by omega⟩
    rw [show (0 : Int) = ((0 : Nat) : Int) from rfl, l1_f L[i] L _ _ 12 0 acc k (by omega) (by omega), e1]
    cases hv : blkV L[i] 12 0 acc with
    | none => rfl
    | some a => exact inodes_loop L hL d (i + 1) k a (by omega) (by rw [blkV_len _ _ _ _ _ hv]; omega) (by omega)
   ·rw [if_neg hb, show bareV17 L[i] = false by simpa using hb, if_pos (by decide)]
  ·rw [if_neg (by omega), if_neg hs]
   simp only [vol_Inodes.j1, if_true]
def inodesV (l : List ByteArray) : List S42 × Int := if (l.length : Int) > 20 then ([], 154) else inosV l []
theorem inodes_f (l : List ByteArray) (k : Nat) (hk : 1000 ≤ k) : vol_Inodes.f k l = some (inodesV l) := by
 unfold vol_Inodes.f inodesV
 by_cases h : (l.length : Int) > 20
 ·rw [if_pos h, if_pos h]
 ·rw [if_neg h, if_neg h]
  exact inodes_loop l (by omega) l.length 0 k [] (by omega) rfl (by omega)
end Go.Proofs.Ytpcokafalmafgaa.P
