/- The law CpsMarks, in plain words: what is marked, deleted, expires is what the document says. -/
import Derived.Test.YtllcmalgahnnhaaQ14
import Derived.Test.YtllcmalgahnnhaaPCpsM
set_option linter.unusedVariables false
namespace Go.Proofs.Ytllcmalgahnnhaa.Pure
open Go.RowKit Go.Proofs.Ytllcmalgahnnhaa.P Go.Proofs.Ytllcmalgahnnhaa.H Go.Proofs.Ytllcmalgahnnhaa.Q Go.Proofs.YtllcmalgahnnhaaW.PrintWords Go.Proofs.YtllcmalgahnnhaaW.PrintLast

/-- YOURS -/
theorem CpsMarks : nautiluslaw09_CpsMarks.Pure := by
  intro l0 a1 a2 a3 a4 hl hx _ _ _
  refine ⟨400, ?_⟩
  unfold nautiluslaw09_CpsMarks.f
  rw [shown_f _ (by omega), Option.bind_some, cut_e, if_pos (by omega), if_pos (by omega), Option.bind_some]
  have hz : (List.take ((min l0.length 200 : Nat) : Int).toNat l0).length ≤ 200 := by rw [List.length_take]; omega
  generalize List.take ((min l0.length 200 : Nat) : Int).toNat l0 = l at hz ⊢
  rw [if_pos (by omega), if_pos (by omega), Option.bind_some, if_pos (by simp; omega)]
  rw [mark_f l a1 a2 400 (by omega) (by omega), Option.bind_some, refmark_f l a1 a2 400 (by omega) (by omega), Option.bind_some, del_f l a1 (by omega), Option.bind_some, refdel_f l a1 400 (by omega) (by omega), Option.bind_some,
    exp_f l a3 a4 (by omega), Option.bind_some, refexp_f l a3 a4 400 (by omega) (by omega), Option.bind_some]
  have h1 := markV_len l a1 a2
  have h2 := delV_len l a1
  have h3 := expV_len l a3 a4
  rw [if_pos rfl, same_refl _ 400 (by omega) (by omega), Option.bind_some, if_pos rfl, if_pos rfl, same_refl _ 400 (by omega) (by omega), Option.bind_some, if_pos rfl, if_pos rfl, same_refl _ 400 (by omega) (by omega), Option.bind_some, if_pos rfl, if_pos rfl, if_pos rfl]
  rw [show List.replicate 0 z33 ++ l = l from rfl, same_refl _ 400 (by omega) (by omega)]; rfl
end Go.Proofs.Ytllcmalgahnnhaa.Pure
