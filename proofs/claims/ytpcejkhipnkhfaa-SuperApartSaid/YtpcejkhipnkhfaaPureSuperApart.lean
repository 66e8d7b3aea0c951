/- The law SuperApart, in plain words: unlike super blocks have unlike bytes; of one that lies twice the first counts. -/
import Derived.Test.YtpcejkhipnkhfaaQ19
import Derived.Test.YtpcejkhipnkhfaaPSupN
set_option linter.unusedVariables false
namespace Go.Proofs.Ytpcejkhipnkhfaa.Pure
open Go.RowKit Go.Proofs.Ytpcejkhipnkhfaa.P Go.Proofs.Ytpcejkhipnkhfaa.H Go.Proofs.Ytpcejkhipnkhfaa.Q Go.Proofs.YtpcejkhipnkhfaaW.PrintWords Go.Proofs.YtpcejkhipnkhfaaW.PrintLast
theorem enc_inj {a b c d a' b' c' d' : Int} (h : supR a b c d = true) (h' : supR a' b' c' d' = true) (e : encB a b c d = encB a' b' c' d') : a = a' ∧ b = b' ∧ c = c' ∧ d = d' := by
  have h1 := decode_own h
  rw [e, decode_own h'] at h1
  simp only [Prod.mk.injEq] at h1
  exact ⟨h1.1.symm, h1.2.1.symm, h1.2.2.1.symm, h1.2.2.2.1.symm⟩
theorem same_iff {a b c d a' b' c' d' : Int} (h : supR a b c d = true) (h' : supR a' b' c' d' = true) : ((encB a b c d).toList == (encB a' b' c' d').toList) = (a == a' && (b == b' && (c == c' && d == d'))) := by
  rw [Bool.eq_iff_iff]
  simp only [beq_iff_eq, Bool.and_eq_true]
  constructor
  · intro e
    rw [ByteArray.toList_eq, ByteArray.toList_eq] at e
    exact enc_inj h h' (ByteArray.ext (Array.toList_inj.1 e))
  · rintro ⟨rfl, rfl, rfl, rfl⟩; rfl
theorem SuperApart : nautiluslaw05_SuperApart.Pure := by
  intro a b c d a' b' c' d' _ _ _ _ _ _ _ _
  refine ⟨0 + 1, ?_⟩
  unfold nautiluslaw05_SuperApart.f
  rw [shown_f, Option.bind_some, encode_f, Option.bind_some, encode_f, Option.bind_some]
  by_cases hr : supR a b c d = true
  · rw [if_pos hr]
    by_cases hr' : supR a' b' c' d' = true
    · rw [if_pos hr']
      rw [if_pos (show ((encB a b c d, (0 : Int)).2 = 0) from rfl)]
      simp only [nautiluslaw05_SuperApart.j0]
      have z : (encB a b c d).size ≤ 140737488351232 := by rw [encB_size]; omega
      have z' : (encB a' b' c' d').size ≤ 140737488351232 := by rw [encB_size]; omega
      rw [if_neg (by decide), newest_f _ _ a z z, Option.bind_some, newest_f _ _ a z z', Option.bind_some, decode_own hr, decode_own hr', same_iff hr hr']
      have e1 : refNewV a (a, b, c, d, 0) (a, b, c, d, 0) = (a, b, c, d, 0, 0) := by simp [refNewV]
      rw [e1]
      by_cases h1 : a' = a
      · by_cases h2 : b' ≤ b
        · have e2 : refNewV a (a, b, c, d, 0) (a', b', c', d', 0) = (a, b, c, d, 0, 0) := by simp [refNewV, h1, h2]
          rw [e2]
          simp [h1, show ¬ b < b' by omega]
        · have e2 : refNewV a (a, b, c, d, 0) (a', b', c', d', 0) = (a', b', c', d', 1, 0) := by simp [refNewV, h1, h2]
          rw [e2]
          simp [h1, show b < b' by omega]
      · have e2 : refNewV a (a, b, c, d, 0) (a', b', c', d', 0) = (a, b, c, d, 0, 0) := by simp [refNewV, h1]
        rw [e2]
        simp [h1]
    · rw [if_neg hr']
      rw [if_pos (show ((encB a b c d, (0 : Int)).2 = 0) from rfl)]
      simp only [nautiluslaw05_SuperApart.j0]
      rw [if_pos (by decide)]
  · rw [if_neg hr]
    rw [if_neg (show ¬ (((⟨#[]⟩ : ByteArray), (50 : Int)).2 = 0) by decide)]
    simp only [nautiluslaw05_SuperApart.j0, if_true]
end Go.Proofs.Ytpcejkhipnkhfaa.Pure
