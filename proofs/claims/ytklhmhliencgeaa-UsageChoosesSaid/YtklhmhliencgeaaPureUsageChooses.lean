import Derived.Test.YtklhmhliencgeaaQ15
import Derived.Test.YtklhmhliencgeaaPUsage
namespace Go.Proofs.Ytklhmhliencgeaa.Pure
open Go.RowKit Go.Proofs.Ytklhmhliencgeaa.P Go.Proofs.Ytklhmhliencgeaa.H Go.Proofs.Ytklhmhliencgeaa.Q Go.Proofs.YtklhmhliencgeaaW.PrintWords Go.Proofs.YtklhmhliencgeaaW.PrintLast

/-- YOURS -/
theorem UsageChooses : nautiluslaw06_UsageChooses.Pure := by
  intro l way now hl hx hw hn
  refine ⟨261, ?_⟩
  have e : mn (l.length : Int) 300 = ((min l.length 300 : Nat) : Int) := by unfold mn; split <;> omega
  unfold nautiluslaw06_UsageChooses.f
  rw [shown_f 261 (by omega), Option.bind_some, e, if_pos (by omega), if_pos (by omega), Option.bind_some, choose_f, Option.bind_some, refChoose_f _ _ _ 260 (by omega), Option.bind_some, if_pos rfl, if_pos rfl]
  simp
end Go.Proofs.Ytklhmhliencgeaa.Pure
