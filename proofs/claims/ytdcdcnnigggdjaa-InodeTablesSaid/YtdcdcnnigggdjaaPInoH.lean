/- Plain laws of layer 10: inodes of a block, by the reference. -/
import Derived.Test.YtdcdcnnigggdjaaQ14
import Derived.Test.YtdcdcnnigggdjaaQ16
import Derived.Test.YtdcdcnnigggdjaaPInoR
import Derived.Test.YtdcdcnnigggdjaaPInoG
set_option linter.unusedVariables false
set_option linter.unusedSimpArgs false
set_option maxRecDepth 100000
namespace Go.Proofs.Ytdcdcnnigggdjaa.P
open Go.RowKit Go.Proofs.Ytdcdcnnigggdjaa.H Go.Proofs.Ytdcdcnnigggdjaa.Q Go.Proofs.YtdcdcnnigggdjaaW.PrintWords Go.Proofs.YtdcdcnnigggdjaaW.PrintLast Go.Proofs.YtdcdcnnigggdjaaW.PrintMore

theorem refGet_f (s : ByteArray) (k : Int) : nautilusref10_Get.f s k = some (inoGetV s k) := by
  unfold nautilusref10_Get.f inoGetV
  by_cases hs : (s.size : Int) = 508
  · rw [if_pos hs]
    by_cases c1 : k < 0
    · rw [if_pos c1, if_neg (by omega)]
    · rw [if_neg c1]
      by_cases c2 : k ≥ 12
      · rw [if_pos c2, if_neg (by omega)]
      · have e1 : wrap64 (k * 42) = k * 42 := IntWalk.wrap64_in _ (by omega)
        have e2 : wrap64 (k * 42 + 42) = k * 42 + 42 := IntWalk.wrap64_in _ (by omega)
        rw [if_neg c2, e1, e2, if_pos (by omega), if_pos (by omega), if_pos (by omega), refDecode_f, Option.bind_some, show (k * 42).toNat = 42 * k.toNat by omega, show (k * 42 + 42).toNat = 42 * k.toNat + 42 by omega, if_pos (by omega)]
  · rw [if_neg hs, if_neg (by omega)]
theorem refPut_j (s : ByteArray) (k : Int) (b : Bool) (a0 a1 a2 a3 a4 a5 a6 a7 a8 a9 a10 a11 : Int) (hw : inoWf a0 a1 a2 a3 a4 a5 a6 a7 a8 a9 a10 a11) (j : Nat) (hb : b = !decide (s.size = 508 ∧ 0 ≤ k ∧ k < 12)) : nautilusref10_Put.j0 (j + 1) s k b a0 a1 a2 a3 a4 a5 a6 a7 a8 a9 a10 a11 = some (inoPutV s k a0 a1 a2 a3 a4 a5 a6 a7 a8 a9 a10 a11) := by
  subst hb
  unfold inoPutV
  by_cases h : s.size = 508 ∧ 0 ≤ k ∧ k < 12
  · rw [decide_eq_true h, if_pos h]
    simp only [nautilusref10_Put.j0, Bool.not_true, Bool.false_eq_true, if_false]
    rw [refEncode_f a0 a1 a2 a3 a4 a5 a6 a7 a8 a9 a10 a11 hw, Option.bind_some]
    by_cases hr : rightV a0 a1 a2 a3 a4 a5 a6 a7 a8 a9 a10 a11 = true
    · have e1 : wrap64 (k * 42) = k * 42 := IntWalk.wrap64_in _ (by omega)
      have e2 : wrap64 (k * 42 + 42) = k * 42 + 42 := IntWalk.wrap64_in _ (by omega)
      have hz := put_size s k a0 a1 a2 a3 a4 a5 a6 a7 a8 a9 a10 a11 h
      rw [encV_of hr, if_pos hr, e1, e2, show (k * 42).toNat = 42 * k.toNat by omega, show (k * 42 + 42).toNat = 42 * k.toNat + 42 by omega]
      simp only [if_true]
      rw [if_pos (by omega), if_pos (by omega), if_pos (by rw [hz.1, inoB_size]; omega), if_pos (by omega), if_pos (by omega), if_pos (by rw [ByteArray.size_append, hz.1, hz.2, inoB_size]; omega)]
    · unfold encV
      rw [if_neg hr, if_neg hr]
      show (if (100 : Int) = 0 then _ else _) = _
      rw [if_neg (by decide)]
  · rw [decide_eq_false h, if_neg h]
    rfl
theorem refInoPut_f (s : ByteArray) (k : Int) (a0 a1 a2 a3 a4 a5 a6 a7 a8 a9 a10 a11 : Int) (hw : inoWf a0 a1 a2 a3 a4 a5 a6 a7 a8 a9 a10 a11) (j : Nat) (hj : 1 ≤ j) : nautilusref10_Put.f j s k a0 a1 a2 a3 a4 a5 a6 a7 a8 a9 a10 a11 = some (inoPutV s k a0 a1 a2 a3 a4 a5 a6 a7 a8 a9 a10 a11) := by
  obtain ⟨j, rfl⟩ : ∃ m, j = m + 1 := ⟨j - 1, by omega⟩
  unfold nautilusref10_Put.f
  by_cases hs : (s.size : Int) = 508
  · rw [if_pos hs]
    by_cases c1 : k < 0
    · rw [if_pos c1]; exact refPut_j s k _ a0 a1 a2 a3 a4 a5 a6 a7 a8 a9 a10 a11 hw j (by rw [decide_eq_false (by omega)]; rfl)
    · rw [if_neg c1]; exact refPut_j s k _ a0 a1 a2 a3 a4 a5 a6 a7 a8 a9 a10 a11 hw j (by
        by_cases c2 : k ≥ 12
        · rw [decide_eq_true c2, decide_eq_false (by omega)]; rfl
        · rw [decide_eq_false c2, decide_eq_true (by omega)]; rfl)
  · rw [if_neg hs]; exact refPut_j s k _ a0 a1 a2 a3 a4 a5 a6 a7 a8 a9 a10 a11 hw j (by rw [decide_eq_false (by omega)]; rfl)
end Go.Proofs.Ytdcdcnnigggdjaa.P
