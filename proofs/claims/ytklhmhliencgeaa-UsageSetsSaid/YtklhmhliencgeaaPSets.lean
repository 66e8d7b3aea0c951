/- What Set answers, in plain words. -/
import Derived.Test.YtklhmhliencgeaaQ13
import Derived.Test.YtklhmhliencgeaaQ14
import Derived.Test.YtklhmhliencgeaaPUsage
import Derived.Test.YtklhmhliencgeaaPSetsA
set_option linter.unusedVariables false
namespace Go.Proofs.Ytklhmhliencgeaa.P
open Go.RowKit Go.Proofs.Ytklhmhliencgeaa.H Go.Proofs.Ytklhmhliencgeaa.Q Go.Proofs.YtklhmhliencgeaaW.PrintWords Go.Proofs.YtklhmhliencgeaaW.PrintLast Go.Proofs.YtklhmhliencgeaaW.PrintMore

theorem refSet_f (l : List E) (at_ x0 x1 x2 : Int) (hl : l.length ≤ 300) (k : Nat) (hk : 260 ≤ k) : nautilusref06_Set.f (k + 1) l at_ x0 x1 x2 = some (setV l at_ ⟨x0, x1, x2⟩) := by
  unfold nautilusref06_Set.f setV
  by_cases h : at_ < 0
  · rw [if_pos h, if_pos (.inl h), nautilusref06_Set.j0, if_pos rfl]
  · rw [if_neg h, nautilusref06_Set.j0]
    by_cases h2 : at_ ≥ (l.length : Int)
    · rw [if_pos (decide_eq_true h2), if_pos (show at_ < 0 ∨ at_ ≥ (l.length : Int) from .inr h2)]
    · rw [if_neg (show ¬ (at_ < 0 ∨ at_ ≥ (l.length : Int)) by omega), if_neg (show ¬ decide (at_ ≥ (l.length : Int)) = true by simp; omega), refRight_f l k hk, Option.bind_some, if_pos (by omega), if_pos (by omega), Option.bind_some, if_pos (by simp; omega), Option.bind_some]
      have e : List.replicate 0 z30 ++ l = l := rfl
      rw [e, if_pos (by omega), if_pos (by omega), Option.bind_some, refRight_f _ k hk, Option.bind_some]
      cases rightV l <;> cases rightV (l.set at_.toNat ⟨x0, x1, x2⟩) <;> simp
end Go.Proofs.Ytklhmhliencgeaa.P
