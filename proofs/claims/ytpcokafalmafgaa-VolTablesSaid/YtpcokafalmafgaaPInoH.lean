/- Plain laws of layer 10: the reference answers as the program does. -/
import Derived.Test.YtpcokafalmafgaaQ7
import Derived.Test.YtpcokafalmafgaaHIDecR
import Derived.Test.YtpcokafalmafgaaPIno
import Derived.Test.YtpcokafalmafgaaQ23
import Derived.Test.YtpcokafalmafgaaQ26
import Derived.Test.YtpcokafalmafgaaQ25
import Derived.Test.YtpcokafalmafgaaQ28
set_option linter.unusedVariables false
set_option linter.unusedSimpArgs false
set_option maxRecDepth 100000
namespace Go.Proofs.Ytpcokafalmafgaa.P
open Go.RowKit Go.Proofs.Ytpcokafalmafgaa.H Go.Proofs.Ytpcokafalmafgaa.Q Go.Proofs.YtpcokafalmafgaaW.PrintWords Go.Proofs.YtpcokafalmafgaaW.PrintLast Go.Proofs.YtpcokafalmafgaaW.PrintMore

theorem refBlocks_f (a : Int) (h0 : 0 ≤ a) (h1 : a < 4294967296) : nautilusref10_Blocks.f a = some (blk a) := by
 unfold nautilusref10_Blocks.f blk
 rw [IntWalk.u64_in a (by omega), Int.tmod_eq_emod_of_nonneg h0, Int.tdiv_eq_ediv_of_nonneg h0, IntWalk.u64_in (a / 508) (by omega), IntWalk.u64_in (a / 508 + 1) (by omega), IntWalk.wrap64_in _ (by omega), IntWalk.wrap64_in _ (by omega)]
 by_cases h : a % 508 = 0
 ·rw [if_pos h]; congr 1; omega
 ·rw [if_neg h]; congr 1; omega
theorem refDepth_f (a : Int) (h0 : 0 ≤ a) (h1 : a < 4294967296) : nautilusref10_Depth.f a = some (dep a) := by
 unfold nautilusref10_Depth.f dep
 rw [refBlocks_f a h0 h1, Option.bind_some]
 by_cases h : blk a ≤ 6
 ·rw [if_pos h, if_pos h]
 ·rw [if_neg h, if_neg h]
  by_cases h' : blk a ≤ 127
  ·rw [if_pos h', if_pos h']
  ·rw [if_neg h', if_neg h']
theorem zeroF_noneF (l : List Int) (i : Nat) (h : ∀ x ∈ l, 0 ≤ x) : zeroF l i = noneF l i := by
 unfold zeroF noneF
 rw [Bool.eq_iff_iff, List.all_eq_true, List.all_eq_true]
 constructor
 ·intro hz x hx
  have := hz x hx
  simp only [beq_iff_eq] at this
  simp [this]
 ·intro hz x hx
  have := hz x hx
  have h0 := h x (List.mem_of_mem_drop hx)
  simp only [Bool.not_eq_true', decide_eq_false_iff_not] at this
  simp only [beq_iff_eq]
  omega
theorem mapped_f (m0 m1 m2 m3 m4 m5 sz : Int) (h0 : 0 ≤ sz) (h1 : sz < 4294967296) (hm : 0 ≤ m0 ∧ 0 ≤ m1 ∧ 0 ≤ m2 ∧ 0 ≤ m3 ∧ 0 ≤ m4 ∧ 0 ≤ m5) : nautilusref10_mapped.f m0 m1 m2 m3 m4 m5 sz = some (mapV m0 m1 m2 m3 m4 m5 sz) := by
 unfold nautilusref10_mapped.f mapV
 rw [refBlocks_f sz h0 h1, Option.bind_some, refDepth_f sz h0 h1, Option.bind_some]
 by_cases hd : dep sz > 0
 ·rw [if_pos hd, if_pos hd]
  by_cases hz : m0 = 0
  ·rw [if_pos hz, decide_eq_false (by omega), Bool.false_and]
  ·rw [if_neg hz, decide_eq_true (show m0 > 0 by omega), Bool.true_and]
   simp [zeroF]
 ·have hb := blk_range sz h0 h1
  rw [if_neg hd, if_neg hd, if_pos (by omega), zeroF_noneF _ _ (by simp; omega)]
theorem refRight_f (a0 a1 a2 a3 a4 a5 a6 a7 a8 a9 a10 a11 : Int) (hw : inoWf a0 a1 a2 a3 a4 a5 a6 a7 a8 a9 a10 a11) : nautilusref10_Right.f a0 a1 a2 a3 a4 a5 a6 a7 a8 a9 a10 a11 = some (rightV a0 a1 a2 a3 a4 a5 a6 a7 a8 a9 a10 a11) := by
 have h0 := hw.2.2.1.1
 have h1 := hw.2.2.1.2
 unfold nautilusref10_Right.f rightV
 by_cases hz : (a0 == 0 && (a1 == 0 && (a2 == 0 && (a3 == 0 && (a4 == 0 && (a5 == 0 && ((a6 == 0 && (a7 == 0 && (a8 == 0 && (a9 == 0 && (a10 == 0 && (a11 == 0))))))))))))) = true
 ·rw [if_pos hz, hz, Bool.true_or]
 ·rw [if_neg hz]
  rw [show (a0 == 0 && (a1 == 0 && (a2 == 0 && (a3 == 0 && (a4 == 0 && (a5 == 0 && ((a6 == 0 && (a7 == 0 && (a8 == 0 && (a9 == 0 && (a10 == 0 && (a11 == 0))))))))))))) = false by simpa using hz, Bool.false_or]
  by_cases c1 : 1 ≤ a0
  ·rw [if_pos c1, decide_eq_true c1, Bool.true_and]
   by_cases c2 : a0 ≤ 3
   ·rw [if_pos c2, decide_eq_true c2, Bool.true_and]
    by_cases c3 : a1 ≤ 4095
    ·rw [if_pos c3, decide_eq_true c3, Bool.true_and]
     by_cases c4 : a3 ≤ 8193532
     ·rw [if_pos c4, decide_eq_true c4, Bool.true_and]
      by_cases c5 : a4 < 281474976710656
      ·rw [if_pos c5, decide_eq_true c5, Bool.true_and, refDepth_f a3 h0 h1, Option.bind_some]
       by_cases c6 : a5 = dep a3
       ·rw [if_pos c6, mapped_f _ _ _ _ _ _ _ h0 h1 (by unfold inoWf at hw; omega), beq_iff_eq.2 c6, Bool.true_and]
       ·rw [if_neg c6, beq_false_of_ne c6, Bool.false_and]
      ·rw [if_neg c5, decide_eq_false c5, Bool.false_and]
     ·rw [if_neg c4, decide_eq_false c4, Bool.false_and]
    ·rw [if_neg c3, decide_eq_false c3, Bool.false_and]
   ·rw [if_neg c2, decide_eq_false c2, Bool.false_and]
  ·rw [if_neg c1, decide_eq_false c1, Bool.false_and]
theorem refEncode_f (a0 a1 a2 a3 a4 a5 a6 a7 a8 a9 a10 a11 : Int) (hw : inoWf a0 a1 a2 a3 a4 a5 a6 a7 a8 a9 a10 a11) : nautilusref10_Encode.f a0 a1 a2 a3 a4 a5 a6 a7 a8 a9 a10 a11 = some (encV a0 a1 a2 a3 a4 a5 a6 a7 a8 a9 a10 a11) := by
 unfold nautilusref10_Encode.f encV
 rw [refRight_f a0 a1 a2 a3 a4 a5 a6 a7 a8 a9 a10 a11 hw, Option.bind_some]
 by_cases h : rightV a0 a1 a2 a3 a4 a5 a6 a7 a8 a9 a10 a11 = true
 ·rw [if_pos h, if_pos h, if_pos (right_ok a0 a1 a2 a3 a4 a5 a6 a7 a8 a9 a10 a11 hw h)]
 ·rw [if_neg h, if_neg h]
theorem refDecode_f (b : ByteArray) : nautilusref10_Decode.f b = some (decV b) := by
 rw [← decode_f]
 unfold nautilusref10_Decode.f inode_Decode.f
 by_cases hs : b.size = 42
 ·rw [if_pos hs, if_pos hs, refEncode_f _ _ _ _ _ _ _ _ _ _ _ _ (inoN_wf b), encode_f _ _ _ _ _ _ _ _ _ _ _ _ (inoN_wf b)]
 ·rw [if_neg hs, if_neg hs]
end Go.Proofs.Ytpcokafalmafgaa.P

set_option linter.unusedVariables false
set_option linter.unusedSimpArgs false
set_option maxRecDepth 100000
namespace Go.Proofs.Ytpcokafalmafgaa.P
open Go.RowKit Go.Proofs.Ytpcokafalmafgaa.H Go.Proofs.Ytpcokafalmafgaa.Q Go.Proofs.YtpcokafalmafgaaW.PrintWords Go.Proofs.YtpcokafalmafgaaW.PrintLast Go.Proofs.YtpcokafalmafgaaW.PrintMore

theorem isPlace_f (s : ByteArray) (k : Int) : inode_isPlace.f s k = some (decide (s.size = 508 ∧ 0 ≤ k ∧ k < 12)) := by
 unfold inode_isPlace.f
 by_cases hs : (s.size : Int) = 508
 ·rw [if_pos hs]
  by_cases hk : k ≥ 0
  ·rw [if_pos hk]; congr 1; rw [decide_eq_decide]; omega
  ·rw [if_neg hk, decide_eq_false (by omega)]
 ·rw [if_neg hs, decide_eq_false (by omega)]
def inoGetV (s : ByteArray) (k : Int) : Int × Int × Int × Int × Int × Int × Int × Int × Int × Int × Int × Int × Int := if s.size = 508 ∧ 0 ≤ k ∧ k < 12 then decV (s.extract (42 * k.toNat) (42 * k.toNat + 42)) else (0, 0, 0, 0, 0, 0, 0, 0, 0, 0, 0, 0, 2)
theorem get_f (s : ByteArray) (k : Int) : inode_Get.f s k = some (inoGetV s k) := by
 unfold inode_Get.f inoGetV
 rw [isPlace_f, Option.bind_some]
 by_cases h : s.size = 508 ∧ 0 ≤ k ∧ k < 12
 ·rw [decide_eq_true h, if_pos rfl, if_pos h]
  have e1 : wrap64 (k * 42) = k * 42 := IntWalk.wrap64_in _ (by omega)
  have e2 : wrap64 (k * 42 + 42) = k * 42 + 42 := IntWalk.wrap64_in _ (by omega)
  rw [e1, e2, if_pos (by omega), if_pos (by omega), if_pos (by omega), decode_f, Option.bind_some, show (k * 42).toNat = 42 * k.toNat by omega, show (k * 42 + 42).toNat = 42 * k.toNat + 42 by omega]
 ·rw [decide_eq_false h, if_neg (by decide), if_neg h]
def inoPutV (s : ByteArray) (k : Int) (a0 a1 a2 a3 a4 a5 a6 a7 a8 a9 a10 a11 : Int) : ByteArray × Int :=
 if s.size = 508 ∧ 0 ≤ k ∧ k < 12 then (if rightV a0 a1 a2 a3 a4 a5 a6 a7 a8 a9 a10 a11 = true then (s.extract 0 (42 * k.toNat) ++ inoB a0 a1 a2 a3 a4 a5 a6 a7 a8 a9 a10 a11 ++ s.extract (42 * k.toNat + 42) s.size, 0) else (⟨#[]⟩, 100)) else (⟨#[]⟩, 2)
theorem put_size (s : ByteArray) (k : Int) (a0 a1 a2 a3 a4 a5 a6 a7 a8 a9 a10 a11 : Int) (h : s.size = 508 ∧ 0 ≤ k ∧ k < 12) : (s.extract 0 (42 * k.toNat)).size = 42 * k.toNat ∧ (s.extract (42 * k.toNat + 42) s.size).size = 508 - (42 * k.toNat + 42) := by
 rw [ByteArray.size_extract, ByteArray.size_extract]; omega
theorem inoPut_f (s : ByteArray) (k : Int) (a0 a1 a2 a3 a4 a5 a6 a7 a8 a9 a10 a11 : Int) (hw : inoWf a0 a1 a2 a3 a4 a5 a6 a7 a8 a9 a10 a11) : inode_Put.f s k a0 a1 a2 a3 a4 a5 a6 a7 a8 a9 a10 a11 = some (inoPutV s k a0 a1 a2 a3 a4 a5 a6 a7 a8 a9 a10 a11) := by
 unfold inode_Put.f inoPutV
 rw [isPlace_f, Option.bind_some]
 by_cases h : s.size = 508 ∧ 0 ≤ k ∧ k < 12
 ·rw [decide_eq_true h, if_pos rfl, if_pos h, encode_f a0 a1 a2 a3 a4 a5 a6 a7 a8 a9 a10 a11 hw, Option.bind_some]
  by_cases hr : rightV a0 a1 a2 a3 a4 a5 a6 a7 a8 a9 a10 a11 = true
  ·have e1 : wrap64 (k * 42) = k * 42 := IntWalk.wrap64_in _ (by omega)
   have e2 : wrap64 (k * 42 + 42) = k * 42 + 42 := IntWalk.wrap64_in _ (by omega)
   have hz := put_size s k a0 a1 a2 a3 a4 a5 a6 a7 a8 a9 a10 a11 h
   rw [encV_of hr, if_pos hr, e1, e2, show (k * 42).toNat = 42 * k.toNat by omega, show (k * 42 + 42).toNat = 42 * k.toNat + 42 by omega]
   simp only [if_true]
   rw [if_pos (by omega), if_pos (by omega), if_pos (by rw [hz.1, inoB_size]; omega), if_pos (by omega), if_pos (by omega), if_pos (by rw [ByteArray.size_append, hz.1, hz.2, inoB_size]; omega)]
  ·unfold encV
   rw [if_neg hr, if_neg hr]
   show (if (100 : Int) = 0 then _ else _) = _
   rw [if_neg (by decide)]
 ·rw [decide_eq_false h, if_neg (by decide), if_neg h]
end Go.Proofs.Ytpcokafalmafgaa.P

set_option linter.unusedVariables false
set_option linter.unusedSimpArgs false
set_option maxRecDepth 100000
namespace Go.Proofs.Ytpcokafalmafgaa.P
open Go.RowKit Go.Proofs.Ytpcokafalmafgaa.H Go.Proofs.Ytpcokafalmafgaa.Q Go.Proofs.YtpcokafalmafgaaW.PrintWords Go.Proofs.YtpcokafalmafgaaW.PrintLast Go.Proofs.YtpcokafalmafgaaW.PrintMore

theorem refGet_f (s : ByteArray) (k : Int) : nautilusref10_Get.f s k = some (inoGetV s k) := by
 unfold nautilusref10_Get.f inoGetV
 by_cases hs : (s.size : Int) = 508
 ·rw [if_pos hs]
  by_cases c1 : k < 0
  ·rw [if_pos c1, if_neg (by omega)]
  ·rw [if_neg c1]
   by_cases c2 : k ≥ 12
   ·rw [if_pos c2, if_neg (by omega)]
   ·have e1 : wrap64 (k * 42) = k * 42 := IntWalk.wrap64_in _ (by omega)
    have e2 : wrap64 (k * 42 + 42) = k * 42 + 42 := IntWalk.wrap64_in _ (by omega)
    rw [if_neg c2, e1, e2, if_pos (by omega), if_pos (by omega), if_pos (by omega), refDecode_f, Option.bind_some, show (k * 42).toNat = 42 * k.toNat by omega, show (k * 42 + 42).toNat = 42 * k.toNat + 42 by omega, if_pos (by omega)]
 ·rw [if_neg hs, if_neg (by omega)]
theorem refPut_j (s : ByteArray) (k : Int) (b : Bool) (a0 a1 a2 a3 a4 a5 a6 a7 a8 a9 a10 a11 : Int) (hw : inoWf a0 a1 a2 a3 a4 a5 a6 a7 a8 a9 a10 a11) (j : Nat) (hb : b = !decide (s.size = 508 ∧ 0 ≤ k ∧ k < 12)) : nautilusref10_Put.j0 (j + 1) s k b a0 a1 a2 a3 a4 a5 a6 a7 a8 a9 a10 a11 = some (inoPutV s k a0 a1 a2 a3 a4 a5 a6 a7 a8 a9 a10 a11) := by
 subst hb
 unfold inoPutV
 by_cases h : s.size = 508 ∧ 0 ≤ k ∧ k < 12
 ·rw [decide_eq_true h, if_pos h]
  simp only [nautilusref10_Put.j0, Bool.not_true, Bool.false_eq_true, if_false]
  rw [refEncode_f a0 a1 a2 a3 a4 a5 a6 a7 a8 a9 a10 a11 hw, Option.bind_some]
  by_cases hr : rightV a0 a1 a2 a3 a4 a5 a6 a7 a8 a9 a10 a11 = true
  ·have e1 : wrap64 (k * 42) = k * 42 := IntWalk.wrap64_in _ (by omega)
   have e2 : wrap64 (k * 42 + 42) = k * 42 + 42 := IntWalk.wrap64_in _ (by omega)
   have hz := put_size s k a0 a1 a2 a3 a4 a5 a6 a7 a8 a9 a10 a11 h
   rw [encV_of hr, if_pos hr, e1, e2, show (k * 42).toNat = 42 * k.toNat by omega, show (k * 42 + 42).toNat = 42 * k.toNat + 42 by omega]
   simp only [if_true]
   rw [if_pos (by omega), if_pos (by omega), if_pos (by rw [hz.1, inoB_size]; omega), if_pos (by omega), if_pos (by omega), if_pos (by rw [ByteArray.size_append, hz.1, hz.2, inoB_size]; omega)]
  ·unfold encV
   rw [if_neg hr, if_neg hr]
   show (if (100 : Int) = 0 then _ else _) = _
   rw [if_neg (by decide)]
 ·rw [decide_eq_false h, if_neg h]
  rfl
theorem refInoPut_f (s : ByteArray) (k : Int) (a0 a1 a2 a3 a4 a5 a6 a7 a8 a9 a10 a11 : Int) (hw : inoWf a0 a1 a2 a3 a4 a5 a6 a7 a8 a9 a10 a11) (j : Nat) (hj : 1 ≤ j) : nautilusref10_Put.f j s k a0 a1 a2 a3 a4 a5 a6 a7 a8 a9 a10 a11 = some (inoPutV s k a0 a1 a2 a3 a4 a5 a6 a7 a8 a9 a10 a11) := by
 obtain ⟨j, rfl⟩ : ∃ m, j = m + 1 := ⟨j - 1, by omega⟩
 unfold nautilusref10_Put.f
 by_cases hs : (s.size : Int) = 508
 ·rw [if_pos hs]
  by_cases c1 : k < 0
  ·rw [if_pos c1]; exact refPut_j s k _ a0 a1 a2 a3 a4 a5 a6 a7 a8 a9 a10 a11 hw j (by rw [decide_eq_false (by omega)]; rfl)
  ·rw [if_neg c1]; exact refPut_j s k _ a0 a1 a2 a3 a4 a5 a6 a7 a8 a9 a10 a11 hw j (by
    by_cases c2 : k ≥ 12
    ·rw [decide_eq_true c2, decide_eq_false (by omega)]; rfl
    ·rw [decide_eq_false c2, decide_eq_true (by omega)]; rfl)
 ·rw [if_neg hs]; exact refPut_j s k _ a0 a1 a2 a3 a4 a5 a6 a7 a8 a9 a10 a11 hw j (by rw [decide_eq_false (by omega)]; rfl)
end Go.Proofs.Ytpcokafalmafgaa.P
