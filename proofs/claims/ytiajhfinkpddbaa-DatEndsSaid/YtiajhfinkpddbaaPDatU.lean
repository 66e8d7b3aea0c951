/- The document's 'used'. -/
import Derived.Test.YtiajhfinkpddbaaQ12
import Derived.Test.YtiajhfinkpddbaaPDatR
set_option linter.unusedVariables false
namespace Go.Proofs.Ytiajhfinkpddbaa.P
open Go.RowKit Go.Proofs.Ytiajhfinkpddbaa.H Go.Proofs.Ytiajhfinkpddbaa.Q Go.Proofs.YtiajhfinkpddbaaW.PrintWords Go.Proofs.YtiajhfinkpddbaaW.PrintLast Go.Proofs.YtiajhfinkpddbaaW.PrintMore

theorem refused_f (l : List E) (v : Nat) (hv : v < 4294967296) (hl : l.length ≤ 1000000000) : nautilusref08_used.f l (v : Int) = some (if h : v < l.length then !freeE l[v] else false) := by
  unfold nautilusref08_used.f
  rw [IntWalk.u64_in _ (by omega), IntWalk.u64_in _ (by omega)]
  by_cases h : v < l.length
  · rw [if_pos (by omega), if_pos (by omega), if_pos (by omega), rd_at l v h, reffree_f, Option.bind_some, dif_pos h]
  · rw [if_neg (by omega), dif_neg h]
theorem usedV_right {l : List E} (hr : rightV l = true) (v : Nat) : usedV l v = if h : v < l.length then (if freeE l[v] = true then (tr 0 0 0, 82) else (l[v], 0)) else (tr 0 0 0, 82) := by
  unfold usedV; rw [if_pos hr]
theorem usedV_wrong {l : List E} (hr : ¬ rightV l = true) (v : Nat) : usedV l v = (tr 0 0 0, 80) := by
  unfold usedV; rw [if_neg hr]
end Go.Proofs.Ytiajhfinkpddbaa.P
