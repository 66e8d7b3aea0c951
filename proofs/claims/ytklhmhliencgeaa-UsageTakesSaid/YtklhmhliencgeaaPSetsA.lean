/- What Set answers, in plain words. -/
import Derived.Test.YtklhmhliencgeaaQ13
import Derived.Test.YtklhmhliencgeaaQ14
import Derived.Test.YtklhmhliencgeaaPUsageA
set_option linter.unusedVariables false
namespace Go.Proofs.Ytklhmhliencgeaa.P
open Go.RowKit Go.Proofs.Ytklhmhliencgeaa.H Go.Proofs.Ytklhmhliencgeaa.Q Go.Proofs.YtklhmhliencgeaaW.PrintWords Go.Proofs.YtklhmhliencgeaaW.PrintLast Go.Proofs.YtklhmhliencgeaaW.PrintMore

def setV (l : List E) (at_ : Int) (x : E) : List E × Int :=
  if at_ < 0 ∨ at_ ≥ (l.length : Int) then ([], 2) else if rightV l = true ∧ rightV (l.set at_.toNat x) = true then (l.set at_.toNat x, 0) else ([], 60)
theorem set_f (l : List E) (at_ x0 x1 x2 : Int) (hl : l.length ≤ 300) (k : Nat) : usage_Set.f (k + 1) l at_ x0 x1 x2 = some (setV l at_ ⟨x0, x1, x2⟩) := by
  unfold usage_Set.f setV
  by_cases h : at_ < 0
  · rw [if_pos h, if_pos (.inl h), usage_Set.j0, if_pos rfl]
  · rw [if_neg h, usage_Set.j0]
    by_cases h2 : at_ ≥ (l.length : Int)
    · rw [if_pos (decide_eq_true h2), if_pos (show at_ < 0 ∨ at_ ≥ (l.length : Int) from .inr h2)]
    · rw [if_neg (show ¬ (at_ < 0 ∨ at_ ≥ (l.length : Int)) by omega), if_neg (show ¬ decide (at_ ≥ (l.length : Int)) = true by simp; omega)]
      unfold api_Seg_25.f
      rw [if_pos (by omega), Option.bind_some, if_pos (by omega), if_pos (by omega), Option.bind_some, right_f, Option.bind_some, right_f]
      cases rightV l <;> cases rightV (l.set at_.toNat ⟨x0, x1, x2⟩) <;> simp
theorem same_loop (l : List E) (hl : l.length ≤ 300) : ∀ d i k, i + d = l.length → d < k → nautilusref06_Same.l0 k l l i = some true
  | 0, i, 0, _, h => by omega
  | 0, i, k + 1, hi, _ => by rw [nautilusref06_Same.l0, if_neg (by omega)]
  | d + 1, i, 0, _, h => by omega
  | d + 1, i, k + 1, hi, h => by
    have e3 : wrap64 ((i : Int) + 1) = ((i + 1 : Nat) : Int) := by rw [IntWalk.wrap64_in _ (by omega)]; omega
    rw [nautilusref06_Same.l0, if_pos (by omega), if_pos (by omega), if_pos (by omega), if_neg (by simp), e3]
    exact same_loop l hl d (i + 1) k (by omega) (by omega)
theorem same_f (l : List E) (hl : l.length ≤ 300) (k : Nat) (hk : 301 ≤ k) : nautilusref06_Same.f k l l = some true := by
  unfold nautilusref06_Same.f
  rw [if_pos rfl]
  exact same_loop l hl l.length 0 k (by omega) (by omega)
theorem setV_len (l : List E) (at_ : Int) (x : E) (hl : l.length ≤ 300) : (setV l at_ x).1.length ≤ 300 := by
  unfold setV
  split
  · simp
  · split
    · simpa using hl
    · simp
end Go.Proofs.Ytklhmhliencgeaa.P
