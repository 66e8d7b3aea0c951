/- The law SuperBack, in plain words: a super block is read as it was, whatever its second sector is. -/
import Derived.Test.YtpcejkhipnkhfaaQ18
import Derived.Test.YtpcejkhipnkhfaaPSupN
set_option linter.unusedVariables false
namespace Go.Proofs.Ytpcejkhipnkhfaa.Pure
open Go.RowKit Go.Proofs.Ytpcejkhipnkhfaa.P Go.Proofs.Ytpcejkhipnkhfaa.H Go.Proofs.Ytpcejkhipnkhfaa.Q Go.Proofs.YtpcejkhipnkhfaaW.PrintWords Go.Proofs.YtpcejkhipnkhfaaW.PrintLast
theorem first_append (x y : ByteArray) (m : Nat) (h : x.size = m) : (x ++ y).extract 0 m = x := by
  subst h
  apply ByteArray.ext
  apply Array.toList_inj.1
  have e : x.size = x.data.size := rfl
  simp only [ByteArray.data_append, ByteArray.data_extract, Array.toList_append, Array.toList_extract, List.extract_eq_take_drop, List.drop_zero, Nat.sub_zero]
  rw [e, ← Array.length_toList, List.take_left']
  rfl
theorem SuperBack : nautiluslaw05_SuperBack.Pure := by
  intro a b c d m h0 h1 h2 h3 hm
  refine ⟨0 + 1, ?_⟩
  unfold nautiluslaw05_SuperBack.f
  rw [shown_f, Option.bind_some, encode_f, Option.bind_some]
  by_cases hr : supR a b c d = true
  · rw [if_pos hr]
    obtain ⟨k, hk, hk2⟩ : ∃ k : Nat, mn (m.size : Int) 256 = k ∧ k ≤ 256 ∧ k ≤ m.size := by
      refine ⟨min m.size 256, ?_, ?_, ?_⟩
      · unfold mn; omega
      · omega
      · omega
    have hz : (encB a b c d).size = 512 := encB_size a b c d
    have hks : (m.extract 0 k).size = k := by rw [ByteArray.size_extract]; omega
    have hw : wrap64 (256 + ((k : Nat) : Int)) = ((256 + k : Nat) : Int) := by rw [IntWalk.wrap64_in _ (by omega)]; omega
    rw [if_pos (show ((encB a b c d, (0 : Int)).2 = 0) from rfl)]
    have hbn : (((encB a b c d).size : Int) != 512) = false := by rw [hz]; decide
    simp only [nautiluslaw05_SuperBack.j0, hk, Int.toNat_natCast, hks, hw, hz]
    have s1 : ((encB a b c d).extract 0 256).size = 256 := by rw [ByteArray.size_extract, hz]; omega
    have s2 : ((encB a b c d).extract (256 + k) 512).size = 256 - k := by rw [ByteArray.size_extract, hz]; omega
    have hcs : (((encB a b c d).extract 0 256 ++ m.extract 0 k) ++ (encB a b c d).extract (256 + k) 512).size = 512 := by rw [ByteArray.size_append, ByteArray.size_append, s1, s2, hks]; omega
    have hcf : (((encB a b c d).extract 0 256 ++ m.extract 0 k) ++ (encB a b c d).extract (256 + k) 512).extract 0 256 = secB a b c d := by
      rw [ByteArray.append_assoc, first_append _ _ 256 s1, secB_enc]
    have hd := decode_enc hr _ hcs hcf
    have hd2 := decode_own hr
    rw [if_neg (by decide), if_pos (by omega), if_pos (by omega), if_pos (by omega), if_pos (by omega), if_pos (by rw [s1]; omega), if_pos (by omega), if_pos (by omega), if_pos (by rw [ByteArray.size_append, s1, s2, hks]; omega)]
    rw [decode_f _ (by rw [hcs]; omega), Option.bind_some, newest_f _ _ a (by rw [hcs]; omega) (by rw [hz]; omega), Option.bind_some, hd, hd2]
    simp [refNewV]
  · rw [if_neg hr]
    rw [if_neg (show ¬ (((⟨#[]⟩ : ByteArray), (50 : Int)).2 = 0) by decide)]
    simp only [nautiluslaw05_SuperBack.j0, if_true]
    rw [right_f, Option.bind_some]
    simp at hr
    rw [hr]; rfl
end Go.Proofs.Ytpcejkhipnkhfaa.Pure
