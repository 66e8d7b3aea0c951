/- The law RootApart, in plain words: unlike roots have unlike contents. -/
import Derived.Test.YtmpcpcfdomlehaaQ12
import Derived.Test.YtmpcpcfdomlehaaPRootD
set_option linter.unusedVariables false
namespace Go.Proofs.Ytmpcpcfdomlehaa.Pure
open Go.RowKit Go.Proofs.Ytmpcpcfdomlehaa.P Go.Proofs.Ytmpcpcfdomlehaa.H Go.Proofs.Ytmpcpcfdomlehaa.Q Go.Proofs.YtmpcpcfdomlehaaW.PrintWords Go.Proofs.YtmpcpcfdomlehaaW.PrintLast Go.Proofs.YtmpcpcfdomlehaaW.PrintMore
theorem RootApart : nautiluslaw16_RootApart.Pure := by
  intro a b d c a' b' d' c' ha hb hd _ hc _ ha' hb' hd' _ hc' _
  refine ⟨9000, ?_⟩
  obtain ⟨n, en, n1, n2⟩ := cut_at d
  obtain ⟨m, em, m1, m2⟩ := cut_at c
  have l1 : (d.take n).length = n := by rw [List.length_take]; omega
  have l2 : (c.take m).length = m := by rw [List.length_take]; omega
  have ha := u64_range ha
  have hb := u64_range hb
  obtain ⟨n', en', n1', n2'⟩ := cut_at d'
  obtain ⟨m', em', m1', m2'⟩ := cut_at c'
  have l1' : (d'.take n').length = n' := by rw [List.length_take]; omega
  have l2' : (c'.take m').length = m' := by rw [List.length_take]; omega
  have ha' := u64_range ha'
  have hb' := u64_range hb'
  unfold nautiluslaw16_RootApart.f
  rw [shown_f _ (by omega), Option.bind_some, en, em, en', em', if_pos (by omega), if_pos (by omega), if_pos (by omega), if_pos (by omega), if_pos (by omega), if_pos (by omega), if_pos (by omega), if_pos (by omega), Int.toNat_natCast, Int.toNat_natCast, Int.toNat_natCast, Int.toNat_natCast]
  generalize d.take n = D at l1 ⊢
  generalize c.take m = C at l2 ⊢
  generalize d'.take n' = D' at l1' ⊢
  generalize c'.take m' = C' at l2' ⊢
  rw [encode_f _ _ _ _ ha hb, Option.bind_some, encode_f _ _ _ _ ha' hb', Option.bind_some, same_f _ _ _ _ _ _ _ _ (by omega) (by omega) _ (by omega), Option.bind_some, if_pos rfl]
  by_cases hr : rightV a b D C = true
  · have e : encV a b D C = (rootB a b D C, 0) := by unfold encV; rw [if_pos hr]
    rw [e, if_pos rfl]
    by_cases hr' : rightV a' b' D' C' = true
    · have e' : encV a' b' D' C' = (rootB a' b' D' C', 0) := by unfold encV; rw [if_pos hr']
      rw [e', if_pos rfl]
      by_cases h : a = a' ∧ b = b' ∧ D = D' ∧ C = C'
      · rw [decide_eq_true h]
        obtain ⟨rfl, rfl, rfl, rfl⟩ := h
        simp
      · rw [decide_eq_false h]
        have : ¬ (rootB a b D C).toList = (rootB a' b' D' C').toList := fun q => h (rootB_inj ha hb ha' hb' hr hr' (bytes_eq q))
        simp [this]
    · have e' : encV a' b' D' C' = (⟨#[]⟩, 153) := by unfold encV; rw [if_neg hr']
      rw [e', if_neg (by decide)]
  · have e : encV a b D C = (⟨#[]⟩, 153) := by unfold encV; rw [if_neg hr]
    rw [e, if_neg (by decide)]
end Go.Proofs.Ytmpcpcfdomlehaa.Pure
