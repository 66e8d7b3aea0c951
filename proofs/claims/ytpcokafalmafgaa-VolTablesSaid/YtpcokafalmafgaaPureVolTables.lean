/- Files as contents, in plain words. -/
import Derived.Test.YtpcokafalmafgaaQ14
import Derived.KernelRfl
import Derived.Test.YtpcokafalmafgaaQ30
import Derived.Test.YtpcokafalmafgaaQ23
import Derived.Test.YtpcokafalmafgaaQ25
import Derived.Test.YtpcokafalmafgaaQ26
import Derived.Test.YtpcokafalmafgaaQ28
import Derived.Test.YtpcokafalmafgaaQ28
import Derived.Test.YtpcokafalmafgaaQ30
import Derived.Test.YtpcokafalmafgaaPInoH
namespace Go.Proofs.Ytpcokafalmafgaa.P
open Go.RowKit Go.Proofs.Ytpcokafalmafgaa.H Go.Proofs.Ytpcokafalmafgaa.Q Go.Proofs.YtpcokafalmafgaaW.PrintWords Go.Proofs.YtpcokafalmafgaaW.PrintLast Go.Proofs.YtpcokafalmafgaaW.PrintMore

theorem vi64_wf {n : Int} (h : (Lit.int .i64 n).wf = true) : -9223372036854775808 ≤ n ∧ n < 9223372036854775808 := by
 simp [Lit.wf, IntKind.min, IntKind.max, IntKind.bits, IntKind.signed] at h; omega

/-! ### Powers -/
theorem u8_wf {n : Int} (h : (Lit.int .u8 n).wf = true) : 0 ≤ n ∧ n < 256 := by
 simp [Lit.wf, IntKind.min, IntKind.max, IntKind.bits, IntKind.signed] at h; omega

/-! ### Powers -/
/-- A text's bytes. -/
abbrev bl (s : ByteArray) : List UInt8 := s.data.toList
theorem bl_len (s : ByteArray) : (bl s).length = s.size := by rw [Array.length_toList]; rfl
theorem bl_inj {s t : ByteArray} (h : bl s = bl t) : s = t := by apply ByteArray.ext; exact Array.toList_inj.1 h
theorem bl_cut (s : ByteArray) (a b : Nat) : bl (s.extract a b) = ((bl s).drop a).take (b - a) := by
 simp only [bl, ByteArray.data_extract, Array.toList_extract, List.extract_eq_take_drop]
theorem bl_add (s t : ByteArray) : bl (s ++ t) = bl s ++ bl t := by simp [bl, ByteArray.data_append]
theorem rest_bl (s : ByteArray) (k : Nat) : bl (rest s k) = (bl s).drop (508 * k) := by
 unfold rest; rw [bl_cut]; exact List.take_of_length_le (by rw [List.length_drop, bl_len]; omega)
theorem piece_bl (s : ByteArray) (k : Nat) : bl (piece s k) = ((bl s).drop (508 * k)).take 508 := by
 unfold piece; rw [bl_cut, rest_bl, rest_size]
 simp only [List.drop_zero, Nat.sub_zero]
 by_cases h : s.size - 508 * k ≤ 508
 ·rw [Nat.min_eq_left h, List.take_of_length_le (by rw [List.length_drop, bl_len]; omega), List.take_of_length_le (by rw [List.length_drop, bl_len]; omega)]
 ·rw [Nat.min_eq_right (by omega)]
theorem piece_sz (s : ByteArray) (k : Nat) : (piece s k).size = min 508 (s.size - 508 * k) := by
 rw [← bl_len, piece_bl, List.length_take, List.length_drop, bl_len]
theorem sameB_eq (a b : ByteArray) : sameB a b = ((bl a).take (min a.size b.size) == (bl b).take (min a.size b.size) && (((bl a).drop (min a.size b.size)).all (· == 0) && ((bl b).drop (min a.size b.size)).all (· == 0))) := by
 unfold sameB bareB
 rw [ByteArray.toList_eq, ByteArray.toList_eq]
 congr 2
 ·have e := bl_cut a 0 (min a.size b.size); simp only [List.drop_zero, Nat.sub_zero] at e; exact e
 ·have e := bl_cut b 0 (min a.size b.size); simp only [List.drop_zero, Nat.sub_zero] at e; exact e
theorem sameB_size {a b : ByteArray} (h : a.size = b.size) : sameB a b = (bl a == bl b) := by
 rw [sameB_eq, ← h, Nat.min_self, List.drop_of_length_le (by rw [bl_len]; omega), List.drop_of_length_le (by rw [bl_len]; omega), List.take_of_length_le (by rw [bl_len]; omega), List.take_of_length_le (by rw [bl_len]; omega)]
 simp
theorem cut_f (s : ByteArray) (hs : s.size ≤ 140737488355328) : vol_Cut.f s = some (pieceL s (pieces s)) := if_pos hs
theorem changed_f (s t : ByteArray) (hs : s.size ≤ 140737488355328) (ht : t.size ≤ 140737488355328) : vol_Changed.f s t = some ((diffL s t (pieces t)).map fun k : Nat => (k : Int)) := if_pos ⟨hs, ht⟩

theorem sameInts_loop (a b : List Int) (hl : a.length = b.length) (ha : a.length ≤ 1000000000000000) : ∀ d i k, i + d = a.length → d < k → nautilusref17_SameInts.l0 k a b i = some (a.drop i == b.drop i)
 | 0, i, 0, _, h => by omega
 | 0, i, k + 1, hi, _ => by
  unfold nautilusref17_SameInts.l0
  rw [if_neg (by omega), List.drop_of_length_le (by omega), List.drop_of_length_le (by omega)]; simp
 | d + 1, i, 0, _, h => by omega
 | d + 1, i, k + 1, hi, h => by
  have h1 : i < a.length := by omega
  have h2 : i < b.length := by omega
  unfold nautilusref17_SameInts.l0
  rw [if_pos (by omega), if_pos (by omega), if_pos (by omega)]
  have e1 : rd a i = a[i] := by simp [rd, h1]
  have e2 : rd b i = b[i] := by simp [rd, h2]
  have e3 : wrap64 ((i : Int) + 1) = ((i + 1 : Nat) : Int) := by rw [IntWalk.wrap64_in _ (by omega)]; omega
  rw [e1, e2, e3]
  have f1 : a.drop i = a[i] :: a.drop (i + 1) := List.drop_eq_getElem_cons h1
  have f2 : b.drop i = b[i] :: b.drop (i + 1) := List.drop_eq_getElem_cons h2
  rw [f1, f2]
  by_cases hh : a[i] = b[i]
  ·rw [if_pos hh, sameInts_loop a b hl ha d (i + 1) k (by omega) (by omega), hh]; simp only [List.cons_beq_cons, beq_self_eq_true, Bool.true_and]
  ·rw [if_neg hh]; simp only [List.cons_beq_cons, beq_false_of_ne hh, Bool.false_and]
theorem sameInts_f (a b : List Int) (ha : a.length ≤ 1000000000000000) (k : Nat) (hk : a.length < k) : nautilusref17_SameInts.f k a b = some (a == b) := by
 unfold nautilusref17_SameInts.f
 by_cases h : a.length = b.length
 ·rw [if_pos (by omega)]
  have := sameInts_loop a b h ha a.length 0 k (by omega) hk
  simpa using this
 ·rw [if_neg (by omega)]
  have : (a == b) = false := by rw [beq_eq_false_iff_ne]; intro e; exact h (by rw [e])
  rw [this]
theorem cutV_f (s : ByteArray) (hs : s.size ≤ 1000000000000000) : nautiluslaw17_cut.f s = some (s.extract 0 (min s.size 10000)) := by
 have e : mn (s.size : Int) 10000 = ((min s.size 10000 : Nat) : Int) := by unfold mn; split <;> omega
 unfold nautiluslaw17_cut.f
 rw [e, if_pos (by omega), if_pos (by omega)]; simp
def z600 : ByteArray := ⟨(List.replicate 600 (0 : UInt8)).toArray⟩
theorem z600_size : z600.size = 600 := by
 show (List.replicate 600 (0 : UInt8)).toArray.size = 600
 rw [List.size_toArray, List.length_replicate]
theorem zeros600 : strOfNums (List.replicate 600 0) = z600 := by unfold strOfNums z600; rw [List.map_replicate]; rfl
theorem shown_f (k : Nat) (hk : 2 ≤ k) : nautiluslaw17_shown.f k = some true := by
 unfold nautiluslaw17_shown.f
 rw [if_pos (by omega), zeros600, cut_f _ (by rw [z600_size]; omega)]
 have hp : pieces z600 = 2 := by unfold pieces; rw [z600_size]
 rw [hp, Option.bind_some]
 have hz := z600_size
 generalize z600 = z at hz ⊢
 have e0 : rdOf ByteArray.empty (pieceL z 2) 0 = piece z 0 := rfl
 have e1 : rdOf ByteArray.empty (pieceL z 2) 1 = piece z 1 := rfl
 have el : (pieceL z 2).length = 2 := by simp [pieceL]
 have d1 : diffL ⟨#[97, 98]⟩ ⟨#[97, 99]⟩ 1 = [0] := by
  have : diffB ⟨#[97, 98]⟩ ⟨#[97, 99]⟩ 0 = true := by
   unfold diffB; rw [sameB_eq, piece_bl, piece_bl, piece_sz, piece_sz]; decide
  rw [diffL_yes _ _ _ this]; rfl
 have d2 : diffL ⟨#[97]⟩ ⟨#[97, 0]⟩ 1 = [] := by
  have : diffB ⟨#[97]⟩ ⟨#[97, 0]⟩ 0 = false := by
   unfold diffB; rw [sameB_eq, piece_bl, piece_bl, piece_sz, piece_sz]; decide
  rw [diffL_no _ _ _ this]; rfl
 rw [el, e0, e1, piece_sz, piece_sz, changed_f _ _ (by decide) (by decide), changed_f _ _ (by decide) (by decide)]
 have p1 : pieces ⟨#[97, 99]⟩ = 1 := rfl
 have p2 : pieces ⟨#[97, 0]⟩ = 1 := rfl
 rw [p1, p2, d1, d2]
 rw [hz, if_pos (by decide), if_pos (by decide), if_pos (by decide), if_pos (by decide), if_pos (by decide)]
 simp only [Option.bind_some]
 rw [sameInts_f _ _ (by decide) k (by simp; omega)]
 rfl
end Go.Proofs.Ytpcokafalmafgaa.P

set_option linter.unusedVariables false
set_option linter.unusedSimpArgs false
set_option maxRecDepth 100000
namespace Go.Proofs.Ytpcokafalmafgaa.P
open Go.RowKit Go.Proofs.Ytpcokafalmafgaa.H Go.Proofs.Ytpcokafalmafgaa.Q Go.Proofs.YtpcokafalmafgaaW.PrintWords Go.Proofs.YtpcokafalmafgaaW.PrintLast Go.Proofs.YtpcokafalmafgaaW.PrintMore

/-! ### Lists are the same as themselves -/
theorem texts_loop17 (a : List ByteArray) (ha : a.length ≤ 1000000000) : ∀ d i k, i + d = a.length → d < k → nautilusref17_SameTexts.l0 k a a (i : Int) = some true
 | 0, i, k + 1, hi, hk => by
  simp only [nautilusref17_SameTexts.l0]; rw [if_neg (by omega)]
 | d + 1, i, k + 1, hi, hk => by
  simp only [nautilusref17_SameTexts.l0]
  rw [if_pos (by omega), if_pos (by omega), if_pos (by omega), if_pos trivial, show wrap64 ((i : Int) + 1) = ((i + 1 : Nat) : Int) by rw [IntWalk.wrap64_in _ (by omega)]; omega]
  exact texts_loop17 a ha d (i + 1) k (by omega) (by omega)
theorem texts_f17 (a : List ByteArray) (ha : a.length ≤ 1000000000) (k : Nat) (hk : a.length < k) : nautilusref17_SameTexts.f k a a = some true := by
 unfold nautilusref17_SameTexts.f
 rw [if_pos rfl]
 exact texts_loop17 a ha a.length 0 k (by omega) hk
theorem inos_loop17 (a : List S42) (ha : a.length ≤ 1000000000) : ∀ d i k, i + d = a.length → d < k → nautilusref17_SameInodes.l0 k a a (i : Int) = some true
 | 0, i, k + 1, hi, hk => by
  simp only [nautilusref17_SameInodes.l0]; rw [if_neg (by omega)]
 | d + 1, i, k + 1, hi, hk => by
  simp only [nautilusref17_SameInodes.l0]
  rw [if_pos (by omega), if_pos (by omega), if_pos (by omega), if_neg (by simp), show wrap64 ((i : Int) + 1) = ((i + 1 : Nat) : Int) by rw [IntWalk.wrap64_in _ (by omega)]; omega]
  exact inos_loop17 a ha d (i + 1) k (by omega) (by omega)
theorem inos_f17 (a : List S42) (ha : a.length ≤ 1000000000) (k : Nat) (hk : a.length < k) : nautilusref17_SameInodes.f k a a = some true := by
 unfold nautilusref17_SameInodes.f
 rw [if_pos rfl]
 exact inos_loop17 a ha a.length 0 k (by omega) hk

/-! ### Inodes as contents -/
def wfI (x : S42) : Prop := inoWf x.f0 x.f1 x.f2 x.f3 x.f4 x.f5 x.f6.f0 x.f6.f1 x.f6.f2 x.f6.f3 x.f6.f4 x.f6.f5
def tabPut (y : List ByteArray) (x : S42) (i : Nat) : ByteArray × Int := inoPutV (y.getD (y.length - 1) ByteArray.empty) ((i % 12 : Nat) : Int) x.f0 x.f1 x.f2 x.f3 x.f4 x.f5 x.f6.f0 x.f6.f1 x.f6.f2 x.f6.f3 x.f6.f4 x.f6.f5
def tabV : List S42 → List ByteArray → Nat → List ByteArray × Int
 | [], out, _ => (out, 0)
 | x :: xs, out, i =>
  if (tabPut (if i % 12 = 0 then out ++ [zerosB 508] else out) x i).2 = 0 then tabV xs ((if i % 12 = 0 then out ++ [zerosB 508] else out).set ((if i % 12 = 0 then out ++ [zerosB 508] else out).length - 1) (tabPut (if i % 12 = 0 then out ++ [zerosB 508] else out) x i).1) (i + 1)
  else ([], 154)
theorem rd_at (l : List S42) (i : Nat) (h : i < l.length) : rd_T42 l (i : Int) = l[i] := by
 unfold rd_T42; rw [Int.toNat_natCast]; simp [h]
theorem rep508 : strings_Repeat.f (⟨#[0]⟩ : ByteArray) 508 = some (zerosB 508) := by
 unfold strings_Repeat.f
 rw [if_pos (by decide)]
 exact congrArg some (repeat_zero 508)
theorem str508 : strOfNums (List.replicate 508 0) = zerosB 508 := by simp [strOfNums, zerosB]
theorem last_eq (y : List ByteArray) (h1 : 1 ≤ y.length) (h2 : y.length ≤ 1000) : wrap64 ((y.length : Int) - 1) = ((y.length - 1 : Nat) : Int) := by
 rw [IntWalk.wrap64_in _ (by omega)]; omega
theorem table_loop (l : List S42) (hl : l.length ≤ 240) (hw : ∀ x ∈ l, wfI x) : ∀ d i k out, i + d = l.length → out.length = (i + 11) / 12 → d < k → vol_Table.l0 k out l (l.length : Int) (i : Int) = some (tabV (l.drop i) out i)
 | 0, i, k + 1, out, hi, ho, hk => by
  simp only [vol_Table.l0]
  rw [if_neg (by omega), List.drop_of_length_le (by omega)]; rfl
 | d + 1, i, k + 1, out, hi, ho, hk => by
  have hlt : i < l.length := by omega
  have hx := hw l[i] (List.getElem_mem hlt)
  have e1 : wrap64 ((i : Int) + 1) = ((i + 1 : Nat) : Int) := by rw [IntWalk.wrap64_in _ (by omega)]; omega
  have e2 : Int.tmod (i : Int) 12 = ((i % 12 : Nat) : Int) := by rw [Int.tmod_eq_emod_of_nonneg (by omega)]; omega
  rw [List.drop_eq_getElem_cons hlt]
  simp only [vol_Table.l0, tabV]
  rw [if_pos (by omega), if_pos (by omega), if_pos (by omega), e1, e2, rd_at l i hlt]
  by_cases hm : i % 12 = 0
  ·rw [if_pos (by omega), rep508, Option.bind_some, if_pos (by omega), Option.bind_some]
   simp only [if_pos hm]
   have hy : (out ++ [zerosB 508]).length = out.length + 1 := by simp
   rw [last_eq _ (by omega) (by omega), if_pos (by omega), if_pos (by omega), inoPut_f _ _ _ _ _ _ _ _ _ _ _ _ _ _ hx, Option.bind_some, Int.toNat_natCast]
   show (if (tabPut (out ++ [zerosB 508]) l[i] i).2 = 0 then _ else _) = _
   by_cases hp : (tabPut (out ++ [zerosB 508]) l[i] i).2 = 0
   ·rw [if_pos hp, if_pos hp]
    exact table_loop l hl hw d (i + 1) k _ (by omega) (by rw [List.length_set, hy]; omega) (by omega)
   ·rw [if_neg hp, if_neg hp]
  ·rw [if_neg (by omega)]
   simp only [if_neg hm]
   rw [last_eq _ (by omega) (by omega), if_pos (by omega), if_pos (by omega), inoPut_f _ _ _ _ _ _ _ _ _ _ _ _ _ _ hx, Option.bind_some, Int.toNat_natCast]
   show (if (tabPut out l[i] i).2 = 0 then _ else _) = _
   by_cases hp : (tabPut out l[i] i).2 = 0
   ·rw [if_pos hp, if_pos hp]
    exact table_loop l hl hw d (i + 1) k _ (by omega) (by rw [List.length_set]; omega) (by omega)
   ·rw [if_neg hp, if_neg hp]
theorem refTable_loop (l : List S42) (hl : l.length ≤ 240) (hw : ∀ x ∈ l, wfI x) : ∀ d i k out, i + d = l.length → out.length = (i + 11) / 12 → d + 1 < k → nautilusref17_Table.l0 k l out (i : Int) = some (tabV (l.drop i) out i)
 | 0, i, k + 1, out, hi, ho, hk => by
  simp only [nautilusref17_Table.l0]
  rw [if_neg (by omega), List.drop_of_length_le (by omega)]; rfl
 | d + 1, i, k + 1, out, hi, ho, hk => by
  have hlt : i < l.length := by omega
  have hx := hw l[i] (List.getElem_mem hlt)
  have e1 : wrap64 ((i : Int) + 1) = ((i + 1 : Nat) : Int) := by rw [IntWalk.wrap64_in _ (by omega)]; omega
  have e2 : Int.tmod (i : Int) 12 = ((i % 12 : Nat) : Int) := by rw [Int.tmod_eq_emod_of_nonneg (by omega)]; omega
  rw [List.drop_eq_getElem_cons hlt]
  simp only [nautilusref17_Table.l0, tabV]
  rw [if_pos (by omega), e1, e2, rd_at l i hlt, str508]
  by_cases hm : i % 12 = 0
  ·rw [if_pos (by omega), if_pos (by omega), if_pos (by omega), Option.bind_some]
   simp only [if_pos hm]
   have hy : (out ++ [zerosB 508]).length = out.length + 1 := by simp
   rw [last_eq _ (by omega) (by omega), if_pos (by omega), if_pos (by omega), if_pos (by omega), refInoPut_f _ _ _ _ _ _ _ _ _ _ _ _ _ _ hx k (by omega), Option.bind_some, Int.toNat_natCast]
   show (if (tabPut (out ++ [zerosB 508]) l[i] i).2 = 0 then _ else _) = _
   by_cases hp : (tabPut (out ++ [zerosB 508]) l[i] i).2 = 0
   ·rw [if_pos hp, if_pos hp]
    exact refTable_loop l hl hw d (i + 1) k _ (by omega) (by rw [List.length_set, hy]; omega) (by omega)
   ·rw [if_neg hp, if_neg hp]
  ·rw [if_neg (by omega)]
   simp only [if_neg hm]
   rw [last_eq _ (by omega) (by omega), if_pos (by omega), if_pos (by omega), if_pos (by omega), refInoPut_f _ _ _ _ _ _ _ _ _ _ _ _ _ _ hx k (by omega), Option.bind_some, Int.toNat_natCast]
   show (if (tabPut out l[i] i).2 = 0 then _ else _) = _
   by_cases hp : (tabPut out l[i] i).2 = 0
   ·rw [if_pos hp, if_pos hp]
    exact refTable_loop l hl hw d (i + 1) k _ (by omega) (by rw [List.length_set]; omega) (by omega)
   ·rw [if_neg hp, if_neg hp]
def tableV (l : List S42) : List ByteArray × Int := if (l.length : Int) > 240 then ([], 154) else tabV l [] 0
theorem table_f (l : List S42) (hw : ∀ x ∈ l, wfI x) (k : Nat) (hk : 300 ≤ k) : vol_Table.f k l = some (tableV l) := by
 unfold vol_Table.f tableV
 by_cases h : (l.length : Int) > 240
 ·rw [if_pos h, if_pos h]
 ·rw [if_neg h, if_neg h]
  exact table_loop l (by omega) hw l.length 0 k [] (by omega) rfl (by omega)
theorem refTable_f (l : List S42) (hw : ∀ x ∈ l, wfI x) (k : Nat) (hk : 300 ≤ k) : nautilusref17_Table.f k l = some (tableV l) := by
 unfold nautilusref17_Table.f tableV
 by_cases h : (l.length : Int) > 240
 ·rw [if_pos h, if_pos h]
 ·rw [if_neg h, if_neg h]
  exact refTable_loop l (by omega) hw l.length 0 k [] (by omega) rfl (by omega)
theorem tabV_len : ∀ l out i, (tabV l out i).1.length ≤ out.length + l.length
 | [], out, i => by simp [tabV]
 | x :: xs, out, i => by
  simp only [tabV]
  have hy : (if i % 12 = 0 then out ++ [zerosB 508] else out).length ≤ out.length + 1 := by
   by_cases h : i % 12 = 0
   ·rw [if_pos h]; simp
   ·rw [if_neg h]; omega
  generalize (if i % 12 = 0 then out ++ [zerosB 508] else out) = y at hy ⊢
  by_cases hp : (tabPut y x i).2 = 0
  ·rw [if_pos hp]
   refine Nat.le_trans (tabV_len xs _ _) ?_
   rw [List.length_set, List.length_cons]; omega
  ·rw [if_neg hp]; simp

/-! ### Contents as inodes -/
theorem rdOf_at (L : List ByteArray) (i : Nat) (h : i < L.length) : rdOf ByteArray.empty L (i : Int) = L[i] := by
 unfold rdOf; rw [Int.toNat_natCast, List.getD_eq_getElem?_getD, List.getElem?_eq_getElem h]; rfl
def bareV17 (s : ByteArray) : Bool := (s.data.toList.drop 504).all (· == 0)
theorem bare17_f (s : ByteArray) (h : s.size = 508) : num_Bare.f s 504 = some (bareV17 s) := by
 unfold num_Bare.f bareV17; rw [if_pos (by omega)]; rfl
theorem bt_get17 (s : ByteArray) (i : Nat) (h : i < s.size) : bt s i = (s.data.toList[i]'(by rw [Array.length_toList]; exact h)).toNat := by
 unfold bt
 rw [dif_pos (show (i : Int).toNat < s.size by simpa using h)]
 simp only [Int.toNat_natCast, Array.getElem_toList]
 rfl
theorem refBare17_loop (s : ByteArray) (hs : s.size ≤ 140737488355328) : ∀ d i k, i + d = s.size → d < k → nautilusref01_Bare.l0 k s i = some ((s.data.toList.drop i).all (· == 0)) := by
 have hl : s.data.toList.length = s.size := by rw [Array.length_toList]; rfl
 intro d
 induction d with
 | zero =>
  intro i k hi hk
  obtain ⟨k, rfl⟩ : ∃ m, k = m + 1 := ⟨k - 1, by omega⟩
  simp only [nautilusref01_Bare.l0]
  rw [if_neg (by omega), List.drop_of_length_le (by omega)]; rfl
 | succ d ih =>
  intro i k hi hk
  obtain ⟨k, rfl⟩ : ∃ m, k = m + 1 := ⟨k - 1, by omega⟩
  simp only [nautilusref01_Bare.l0]
  have hlt : i < s.size := by omega
  have e2 : wrap64 ((i : Int) + 1) = ((i + 1 : Nat) : Int) := by rw [IntWalk.wrap64_in _ (by omega)]; omega
  rw [if_pos (by omega), if_pos (by omega), bt_get17 s i hlt, e2, List.drop_eq_getElem_cons (by omega), List.all_cons]
  by_cases hz : (s.data.toList[i]'(by omega)) = 0
  ·rw [if_pos (by rw [hz]; rfl), ih (i + 1) k (by omega) (by omega), hz]; rfl
  ·have : (s.data.toList[i]'(by omega) == 0) = false := by simpa using hz
   rw [if_neg, this]; rfl
   intro e
   exact hz (UInt8.toNat_inj.1 (by simpa using e))
theorem refBare17_f (s : ByteArray) (h : s.size = 508) (k : Nat) (hk : 600 ≤ k) : nautilusref01_Bare.f k s 504 = some (bareV17 s) := by
 unfold nautilusref01_Bare.f bareV17
 rw [show mx 0 504 = ((504 : Nat) : Int) by decide]
 exact refBare17_loop s (by omega) 4 504 k (by omega) (by omega)
def blkV (s : ByteArray) : Nat → Nat → List S42 → Option (List S42)
 | 0, _, acc => some acc
 | d + 1, j, acc => if (inoGetV s (j : Int)).2.2.2.2.2.2.2.2.2.2.2.2 = 0 then blkV s d (j + 1) (acc ++ [(⟨(inoGetV s (j : Int)).1, (inoGetV s (j : Int)).2.1, (inoGetV s (j : Int)).2.2.1, (inoGetV s (j : Int)).2.2.2.1, (inoGetV s (j : Int)).2.2.2.2.1, (inoGetV s (j : Int)).2.2.2.2.2.1, (⟨(inoGetV s (j : Int)).2.2.2.2.2.2.1, (inoGetV s (j : Int)).2.2.2.2.2.2.2.1, (inoGetV s (j : Int)).2.2.2.2.2.2.2.2.1, (inoGetV s (j : Int)).2.2.2.2.2.2.2.2.2.1, (inoGetV s (j : Int)).2.2.2.2.2.2.2.2.2.2.1, (inoGetV s (j : Int)).2.2.2.2.2.2.2.2.2.2.2.1⟩ : S40)⟩ : S42)]) else none
theorem blkV_len (s : ByteArray) : ∀ d j acc a, blkV s d j acc = some a → a.length = acc.length + d
 | 0, j, acc, a, h => by simp only [blkV, Option.some.injEq] at h; subst h; omega
 | d + 1, j, acc, a, h => by
  simp only [blkV] at h
  by_cases hg : (inoGetV s (j : Int)).2.2.2.2.2.2.2.2.2.2.2.2 = 0
  ·rw [if_pos hg] at h
   have := blkV_len s d (j + 1) _ a h
   rw [List.length_append] at this
   simp at this; omega
  ·rw [if_neg hg] at h; cases h
def inosV : List ByteArray → List S42 → List S42 × Int
 | [], acc => (acc, 0)
 | s :: ss, acc => if s.size = 508 then (if bareV17 s = true then (match blkV s 12 0 acc with | some a => inosV ss a | none => ([], 154)) else ([], 154)) else ([], 154)
theorem l1_f (s : ByteArray) (L : List ByteArray) (n i : Int) : ∀ (d j : Nat) (acc : List S42) (k : Nat), j + d = 12 → acc.length + d ≤ 1000 → vol_Inodes.l1 (k + d + 1) acc s L n i (j : Int) = match blkV s d j acc with | some a => vol_Inodes.l0 k a L n (wrap64 (i + 1)) | none => some ([], 154)
 | 0, j, acc, k, hj, ha => by
  simp only [vol_Inodes.l1, blkV]
  rw [if_neg (by omega)]
 | d + 1, j, acc, k, hj, ha => by
  have e1 : wrap64 ((j : Int) + 1) = ((j + 1 : Nat) : Int) := by rw [IntWalk.wrap64_in _ (by omega)]; omega
  obtain ⟨m, hm⟩ : ∃ m, k + d + 1 = m := ⟨_, rfl⟩
  rw [show k + (d + 1) + 1 = m + 1 by omega]
  simp only [vol_Inodes.l1, blkV]
  rw [if_pos (by omega), get_f, Option.bind_some, e1]
  by_cases hg : (inoGetV s (j : Int)).2.2.2.2.2.2.2.2.2.2.2.2 = 0
  ·rw [if_pos hg, if_pos hg, if_pos (by omega)]
   rw [← hm]
   refine l1_f s L n i d (j + 1) _ k (by omega) ?_
   rw [List.length_append, List.length_singleton]; omega
  ·rw [if_neg hg, if_neg hg]
theorem inodes_loop (L : List ByteArray) (hL : L.length ≤ 20) : ∀ d i k acc, i + d = L.length → acc.length = 12 * i → 15 * d < k → vol_Inodes.l0 k acc L (L.length : Int) (i : Int) = some (inosV (L.drop i) acc)
 | 0, i, k + 1, acc, hi, ha, hk => by
  simp only [vol_Inodes.l0]
  rw [if_neg (by omega), List.drop_of_length_le (by omega)]; rfl
 | d + 1, i, k + 1, acc, hi, ha, hk => by
  have hlt : i < L.length := by omega
  have e1 : wrap64 ((i : Int) + 1) = ((i + 1 : Nat) : Int) := by rw [IntWalk.wrap64_in _ (by omega)]; omega
  have e3 : rdOf ByteArray.empty L (i : Int) = L[i] := rdOf_at L i hlt
  obtain ⟨k, rfl⟩ : ∃ m, k = m + 1 := ⟨k - 1, by omega⟩
  rw [List.drop_eq_getElem_cons hlt]
  simp only [vol_Inodes.l0, inosV]
  rw [if_pos (by omega), if_pos (by omega), if_pos (by omega), e3]
  by_cases hs : L[i].size = 508
  ·rw [if_pos (by omega), if_pos hs, bare17_f _ hs, Option.bind_some]
   simp only [vol_Inodes.j1]
   by_cases hb : bareV17 L[i] = true
   ·rw [if_pos hb, hb, if_neg (by decide)]
    obtain ⟨k, rfl⟩ : ∃ m, k = m + 12 + 1 := ⟨k - 13, by omega⟩
    rw [show (0 : Int) = ((0 : Nat) : Int) from rfl, l1_f L[i] L _ _ 12 0 acc k (by omega) (by omega), e1]
    cases hv : blkV L[i] 12 0 acc with
    | none => rfl
    | some a => exact inodes_loop L hL d (i + 1) k a (by omega) (by rw [blkV_len _ _ _ _ _ hv]; omega) (by omega)
   ·rw [if_neg hb, show bareV17 L[i] = false by simpa using hb, if_pos (by decide)]
  ·rw [if_neg (by omega), if_neg hs]
   simp only [vol_Inodes.j1, if_true]
theorem refl1_f (L : List ByteArray) (i : Nat) (hi : i < L.length) : ∀ (d j : Nat) (acc : List S42) (k : Nat), j + d = 12 → acc.length + d ≤ 1000 → nautilusref17_Inodes.l1 (k + d + 1) L acc (i : Int) (j : Int) = match blkV L[i] d j acc with | some a => nautilusref17_Inodes.l0 k L a (wrap64 ((i : Int) + 1)) | none => some ([], 154)
 | 0, j, acc, k, hj, ha => by
  simp only [nautilusref17_Inodes.l1, blkV]
  rw [if_neg (by omega)]
 | d + 1, j, acc, k, hj, ha => by
  have e1 : wrap64 ((j : Int) + 1) = ((j + 1 : Nat) : Int) := by rw [IntWalk.wrap64_in _ (by omega)]; omega
  have e3 : rdOf ByteArray.empty L (i : Int) = L[i] := rdOf_at L i hi
  obtain ⟨m, hm⟩ : ∃ m, k + d + 1 = m := ⟨_, rfl⟩
  rw [show k + (d + 1) + 1 = m + 1 by omega]
  simp only [nautilusref17_Inodes.l1, blkV]
  rw [if_pos (by omega), if_pos (by omega), if_pos (by omega), e3, refGet_f, Option.bind_some, e1]
  by_cases hg : (inoGetV L[i] (j : Int)).2.2.2.2.2.2.2.2.2.2.2.2 = 0
  ·rw [if_pos hg, if_pos hg, if_pos (by omega)]
   rw [← hm]
   refine refl1_f L i hi d (j + 1) _ k (by omega) ?_
   rw [List.length_append, List.length_singleton]; omega
  ·rw [if_neg hg, if_neg hg]
theorem refInodes_loop (L : List ByteArray) (hL : L.length ≤ 20) : ∀ d i k acc, i + d = L.length → acc.length = 12 * i → 15 * d + 600 < k → nautilusref17_Inodes.l0 k L acc (i : Int) = some (inosV (L.drop i) acc)
 | 0, i, k + 1, acc, hi, ha, hk => by
  simp only [nautilusref17_Inodes.l0]
  rw [if_neg (by omega), List.drop_of_length_le (by omega)]; rfl
 | d + 1, i, k + 1, acc, hi, ha, hk => by
  have hlt : i < L.length := by omega
  have e1 : wrap64 ((i : Int) + 1) = ((i + 1 : Nat) : Int) := by rw [IntWalk.wrap64_in _ (by omega)]; omega
  have e3 : rdOf ByteArray.empty L (i : Int) = L[i] := rdOf_at L i hlt
  obtain ⟨k, rfl⟩ : ∃ m, k = m + 1 := ⟨k - 1, by omega⟩
  rw [List.drop_eq_getElem_cons hlt]
  simp only [nautilusref17_Inodes.l0, inosV]
  rw [if_pos (by omega), if_pos (by omega), e3]
  by_cases hs : L[i].size = 508
  ·rw [if_pos (by omega), if_pos hs, refBare17_f _ hs (k + 1) (by omega), Option.bind_some]
   simp only [nautilusref17_Inodes.j1]
   by_cases hb : bareV17 L[i] = true
   ·rw [if_pos hb, hb, if_neg (by decide)]
    obtain ⟨k, rfl⟩ : ∃ m, k = m + 12 + 1 := ⟨k - 13, by omega⟩
    rw [show (0 : Int) = ((0 : Nat) : Int) from rfl, refl1_f L i hlt 12 0 acc k (by omega) (by omega), e1]
    cases hv : blkV L[i] 12 0 acc with
    | none => rfl
    | some a => exact refInodes_loop L hL d (i + 1) k a (by omega) (by rw [blkV_len _ _ _ _ _ hv]; omega) (by omega)
   ·rw [if_neg hb, show bareV17 L[i] = false by simpa using hb, if_pos (by decide)]
  ·rw [if_neg (by omega), if_neg hs]
   simp only [nautilusref17_Inodes.j1, if_true]
def inodesV (l : List ByteArray) : List S42 × Int := if (l.length : Int) > 20 then ([], 154) else inosV l []
theorem inodes_f (l : List ByteArray) (k : Nat) (hk : 1000 ≤ k) : vol_Inodes.f k l = some (inodesV l) := by
 unfold vol_Inodes.f inodesV
 by_cases h : (l.length : Int) > 20
 ·rw [if_pos h, if_pos h]
 ·rw [if_neg h, if_neg h]
  exact inodes_loop l (by omega) l.length 0 k [] (by omega) rfl (by omega)
theorem refInodes_f (l : List ByteArray) (k : Nat) (hk : 1000 ≤ k) : nautilusref17_Inodes.f k l = some (inodesV l) := by
 unfold nautilusref17_Inodes.f inodesV
 by_cases h : (l.length : Int) > 20
 ·rw [if_pos h, if_pos h]
 ·rw [if_neg h, if_neg h]
  exact refInodes_loop l (by omega) l.length 0 k [] (by omega) rfl (by omega)
theorem inosV_len : ∀ l acc, (inosV l acc).1.length ≤ acc.length + 12 * l.length
 | [], acc => by simp [inosV]
 | s :: ss, acc => by
  simp only [inosV]
  split
  ·split
   ·cases hv : blkV s 12 0 acc with
    | none => simp
    | some a =>
     refine Nat.le_trans (inosV_len ss a) ?_
     rw [blkV_len _ _ _ _ _ hv, List.length_cons]; omega
   ·simp
  ·simp
end Go.Proofs.Ytpcokafalmafgaa.P

set_option linter.unusedVariables false
set_option maxRecDepth 100000
namespace Go.Proofs.Ytpcokafalmafgaa.Pure
open Go.RowKit Go.Proofs.Ytpcokafalmafgaa.P Go.Proofs.Ytpcokafalmafgaa.H Go.Proofs.Ytpcokafalmafgaa.Q Go.Proofs.YtpcokafalmafgaaW.PrintWords Go.Proofs.YtpcokafalmafgaaW.PrintLast
theorem VolTables : nautiluslaw17_VolTables.Pure := by
 intro l c h1 h2 h3 h4
 refine ⟨2000, ?_⟩
 have hw : ∀ x ∈ l, wfI x := fun x hx => by
  obtain ⟨w0, w1, w2, w3, w4, w5, w6, w7, w8, w9, w10, w11⟩ := h2 x hx
  have q1 := u16_wf w1; have q2 := u16_wf w2; have q3 := u32_wf w3; have q4 := u64_wf w4; have q6 := u32_wf w6; have q7 := u32_wf w7; have q8 := u32_wf w8; have q9 := u32_wf w9; have q10 := u32_wf w10; have q11 := u32_wf w11
  unfold wfI inoWf; omega
 obtain ⟨m, hm, hm2, hm3⟩ : ∃ m : Nat, mn (l.length : Int) 250 = m ∧ m ≤ 250 ∧ m ≤ l.length := ⟨min l.length 250, by unfold mn; omega, by omega, by omega⟩
 obtain ⟨n, hn, hn2, hn3⟩ : ∃ n : Nat, mn (c.length : Int) 30 = n ∧ n ≤ 30 ∧ n ≤ c.length := ⟨min c.length 30, by unfold mn; omega, by omega, by omega⟩
 have hwt : ∀ x ∈ l.take m, wfI x := fun x hx => hw x (List.mem_of_mem_take hx)
 have ht : (tableV (l.take m)).1.length ≤ 1000 := by
  unfold tableV
  split
  ·simp
  ·refine Nat.le_trans (tabV_len _ _ _) ?_
   rw [List.length_take]; simp; omega
 have hi : (inodesV (c.take n)).1.length ≤ 1000 := by
  unfold inodesV
  split
  ·simp
  ·refine Nat.le_trans (inosV_len _ _) ?_
   rw [List.length_take]; simp; omega
 unfold nautiluslaw17_VolTables.f
 rw [shown_f 2000 (by omega), Option.bind_some, hm, hn, if_pos (by omega), if_pos (by omega), Option.bind_some, if_pos (by omega), if_pos (by omega), Int.toNat_natCast, Int.toNat_natCast, table_f _ hwt 2000 (by omega), Option.bind_some, refTable_f _ hwt 2000 (by omega), Option.bind_some,
  inodes_f _ 2000 (by omega), Option.bind_some, refInodes_f _ 2000 (by omega), Option.bind_some, if_pos rfl, texts_f17 _ (by omega) 2000 (by omega), Option.bind_some, if_pos rfl, if_pos rfl, inos_f17 _ (by omega) 2000 (by omega), Option.bind_some, if_pos rfl]
 simp
end Go.Proofs.Ytpcokafalmafgaa.Pure
