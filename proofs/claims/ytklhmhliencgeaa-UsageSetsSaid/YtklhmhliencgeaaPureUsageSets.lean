import Derived.Test.YtklhmhliencgeaaQ17
import Derived.Test.YtklhmhliencgeaaPSets
set_option linter.unusedVariables false
namespace Go.Proofs.Ytklhmhliencgeaa.Pure
open Go.RowKit Go.Proofs.Ytklhmhliencgeaa.P Go.Proofs.Ytklhmhliencgeaa.H Go.Proofs.Ytklhmhliencgeaa.Q Go.Proofs.YtklhmhliencgeaaW.PrintWords Go.Proofs.YtklhmhliencgeaaW.PrintLast

/-- YOURS -/
theorem UsageSets : nautiluslaw06_UsageSets.Pure := by
  intro l0 at_ x0 x1 x2 hl hx _ _ _ _
  refine ⟨400 + 1, ?_⟩
  have e : mn (l0.length : Int) 300 = ((min l0.length 300 : Nat) : Int) := by unfold mn; split <;> omega
  unfold nautiluslaw06_UsageSets.f
  rw [shown_f _ (by omega), Option.bind_some, e, if_pos (by omega), if_pos (by omega), Option.bind_some]
  have hz : (List.take ((min l0.length 300 : Nat) : Int).toNat l0).length ≤ 300 := by rw [List.length_take]; omega
  generalize List.take ((min l0.length 300 : Nat) : Int).toNat l0 = l at hz ⊢
  rw [if_pos (by omega), if_pos (by omega), Option.bind_some, if_pos (by simp; omega), set_f l at_ x0 x1 x2 hz, Option.bind_some, refSet_f l at_ x0 x1 x2 hz 400 (by omega), Option.bind_some, if_pos rfl, same_f _ (setV_len l at_ _ hz) _ (by omega), Option.bind_some, if_pos rfl, if_pos rfl]
  have e2 : List.replicate 0 z30 ++ l = l := rfl
  rw [e2, same_f l hz _ (by omega)]; rfl
end Go.Proofs.Ytklhmhliencgeaa.Pure
