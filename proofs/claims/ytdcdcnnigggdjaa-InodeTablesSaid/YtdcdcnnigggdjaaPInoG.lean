/- Plain laws of layer 10: inodes of a block. -/
import Derived.Test.YtdcdcnnigggdjaaQ13
import Derived.Test.YtdcdcnnigggdjaaQ15
import Derived.Test.YtdcdcnnigggdjaaPIno
set_option linter.unusedVariables false
set_option linter.unusedSimpArgs false
set_option maxRecDepth 100000
namespace Go.Proofs.Ytdcdcnnigggdjaa.P
open Go.RowKit Go.Proofs.Ytdcdcnnigggdjaa.H Go.Proofs.Ytdcdcnnigggdjaa.Q Go.Proofs.YtdcdcnnigggdjaaW.PrintWords Go.Proofs.YtdcdcnnigggdjaaW.PrintLast Go.Proofs.YtdcdcnnigggdjaaW.PrintMore

theorem zero_wf (a0 a3 : Int) (h : 0 ≤ a3 ∧ a3 < 4294967296) : inoWf a0 0 0 a3 0 0 0 0 0 0 0 0 := by unfold inoWf; omega
theorem shown_f : nautiluslaw10_shown.f = some true := by
  unfold nautiluslaw10_shown.f
  rw [encode_f _ _ _ _ _ _ _ _ _ _ _ _ (zero_wf 4 0 (by omega)), Option.bind_some, encode_f _ _ _ _ _ _ _ _ _ _ _ _ (zero_wf 1 0 (by omega)), Option.bind_some, blocks_f 508 (by omega) (by omega), Option.bind_some, if_pos (show blk 508 = 1 by decide),
    blocks_f 3049 (by omega) (by omega), Option.bind_some, if_pos (show blk 3049 = 7 by decide), depth_f 3049 (by omega) (by omega), Option.bind_some, if_pos (show dep 3049 = 1 by decide), depth_f 64517 (by omega) (by omega), Option.bind_some, if_pos (show dep 64517 = 2 by decide)]
  rw [show encV 4 0 0 0 0 0 0 0 0 0 0 0 = (⟨#[]⟩, 100) by unfold encV; rw [if_neg (by decide)], encV_of (show rightV 1 0 0 0 0 0 0 0 0 0 0 0 = true by decide)]
  rw [if_pos rfl, if_pos rfl]
  simp only [inoB_size]
  rfl
theorem isPlace_f (s : ByteArray) (k : Int) : inode_isPlace.f s k = some (decide (s.size = 508 ∧ 0 ≤ k ∧ k < 12)) := by
  unfold inode_isPlace.f
  by_cases hs : (s.size : Int) = 508
  · rw [if_pos hs]
    by_cases hk : k ≥ 0
    · rw [if_pos hk]; congr 1; rw [decide_eq_decide]; omega
    · rw [if_neg hk, decide_eq_false (by omega)]
  · rw [if_neg hs, decide_eq_false (by omega)]
def inoGetV (s : ByteArray) (k : Int) : Int × Int × Int × Int × Int × Int × Int × Int × Int × Int × Int × Int × Int := if s.size = 508 ∧ 0 ≤ k ∧ k < 12 then decV (s.extract (42 * k.toNat) (42 * k.toNat + 42)) else (0, 0, 0, 0, 0, 0, 0, 0, 0, 0, 0, 0, 2)
theorem get_f (s : ByteArray) (k : Int) : inode_Get.f s k = some (inoGetV s k) := by
  unfold inode_Get.f inoGetV
  rw [isPlace_f, Option.bind_some]
  by_cases h : s.size = 508 ∧ 0 ≤ k ∧ k < 12
  · rw [decide_eq_true h, if_pos rfl, if_pos h]
    have e1 : wrap64 (k * 42) = k * 42 := IntWalk.wrap64_in _ (by omega)
    have e2 : wrap64 (k * 42 + 42) = k * 42 + 42 := IntWalk.wrap64_in _ (by omega)
    rw [e1, e2, if_pos (by omega), if_pos (by omega), if_pos (by omega), decode_f, Option.bind_some, show (k * 42).toNat = 42 * k.toNat by omega, show (k * 42 + 42).toNat = 42 * k.toNat + 42 by omega]
  · rw [decide_eq_false h, if_neg (by decide), if_neg h]
def inoPutV (s : ByteArray) (k : Int) (a0 a1 a2 a3 a4 a5 a6 a7 a8 a9 a10 a11 : Int) : ByteArray × Int :=
  if s.size = 508 ∧ 0 ≤ k ∧ k < 12 then (if rightV a0 a1 a2 a3 a4 a5 a6 a7 a8 a9 a10 a11 = true then (s.extract 0 (42 * k.toNat) ++ inoB a0 a1 a2 a3 a4 a5 a6 a7 a8 a9 a10 a11 ++ s.extract (42 * k.toNat + 42) s.size, 0) else (⟨#[]⟩, 100)) else (⟨#[]⟩, 2)
theorem put_size (s : ByteArray) (k : Int) (a0 a1 a2 a3 a4 a5 a6 a7 a8 a9 a10 a11 : Int) (h : s.size = 508 ∧ 0 ≤ k ∧ k < 12) : (s.extract 0 (42 * k.toNat)).size = 42 * k.toNat ∧ (s.extract (42 * k.toNat + 42) s.size).size = 508 - (42 * k.toNat + 42) := by
  rw [ByteArray.size_extract, ByteArray.size_extract]; omega
theorem inoPut_f (s : ByteArray) (k : Int) (a0 a1 a2 a3 a4 a5 a6 a7 a8 a9 a10 a11 : Int) (hw : inoWf a0 a1 a2 a3 a4 a5 a6 a7 a8 a9 a10 a11) : inode_Put.f s k a0 a1 a2 a3 a4 a5 a6 a7 a8 a9 a10 a11 = some (inoPutV s k a0 a1 a2 a3 a4 a5 a6 a7 a8 a9 a10 a11) := by
  unfold inode_Put.f inoPutV
  rw [isPlace_f, Option.bind_some]
  by_cases h : s.size = 508 ∧ 0 ≤ k ∧ k < 12
  · rw [decide_eq_true h, if_pos rfl, if_pos h, encode_f a0 a1 a2 a3 a4 a5 a6 a7 a8 a9 a10 a11 hw, Option.bind_some]
    by_cases hr : rightV a0 a1 a2 a3 a4 a5 a6 a7 a8 a9 a10 a11 = true
    · have e1 : wrap64 (k * 42) = k * 42 := IntWalk.wrap64_in _ (by omega)
      have e2 : wrap64 (k * 42 + 42) = k * 42 + 42 := IntWalk.wrap64_in _ (by omega)
      have hz := put_size s k a0 a1 a2 a3 a4 a5 a6 a7 a8 a9 a10 a11 h
      rw [encV_of hr, if_pos hr, e1, e2, show (k * 42).toNat = 42 * k.toNat by omega, show (k * 42 + 42).toNat = 42 * k.toNat + 42 by omega]
      simp only [if_true]
      rw [if_pos (by omega), if_pos (by omega), if_pos (by rw [hz.1, inoB_size]; omega), if_pos (by omega), if_pos (by omega), if_pos (by rw [ByteArray.size_append, hz.1, hz.2, inoB_size]; omega)]
    · unfold encV
      rw [if_neg hr, if_neg hr]
      show (if (100 : Int) = 0 then _ else _) = _
      rw [if_neg (by decide)]
  · rw [decide_eq_false h, if_neg (by decide), if_neg h]
end Go.Proofs.Ytdcdcnnigggdjaa.P
