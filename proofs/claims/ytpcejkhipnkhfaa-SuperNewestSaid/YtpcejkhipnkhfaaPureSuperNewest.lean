/- The law SuperNewest, in plain words: the newer one of two, and where one lies, are the document's. -/
import Derived.Test.YtpcejkhipnkhfaaQ17
import Derived.Test.YtpcejkhipnkhfaaQ17
import Derived.Test.YtpcejkhipnkhfaaPSupN
set_option linter.unusedVariables false
namespace Go.Proofs.Ytpcejkhipnkhfaa.Pure
open Go.RowKit Go.Proofs.Ytpcejkhipnkhfaa.P Go.Proofs.Ytpcejkhipnkhfaa.H Go.Proofs.Ytpcejkhipnkhfaa.Q Go.Proofs.YtpcejkhipnkhfaaW.PrintWords Go.Proofs.YtpcejkhipnkhfaaW.PrintLast
theorem place_f (n : Int) : super_Place.f n = some (if Int.tmod n 2 = 1 then 0 else 8) := by unfold super_Place.f; split <;> rfl
theorem SuperNewest : nautiluslaw05_SuperNewest.Pure := by
  intro one two n seq h1 h2 _ _
  refine ⟨9 + 3, ?_⟩
  unfold nautiluslaw05_SuperNewest.f
  rw [shown_f, Option.bind_some, newest_f one two n h1 h2, Option.bind_some, refNewest_f one two n h1 h2 9 (by omega), Option.bind_some, place_f]
  by_cases h : Int.tmod seq 2 = 1
  · rw [if_pos h]; simp [h]
  · rw [if_neg h]; simp [h]
end Go.Proofs.Ytpcejkhipnkhfaa.Pure
