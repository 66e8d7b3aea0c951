/- The law BmapWays, in plain words: how many blocks a map has, and the way to a block, are as the document says. -/
import Derived.Test.YtpgdcpbbfphbiaaQ20
import Derived.Test.YtpgdcpbbfphbiaaPBmB
set_option linter.unusedVariables false
namespace Go.Proofs.Ytpgdcpbbfphbiaa.Pure
open Go.RowKit Go.Proofs.Ytpgdcpbbfphbiaa.P Go.Proofs.Ytpgdcpbbfphbiaa.H Go.Proofs.Ytpgdcpbbfphbiaa.Q Go.Proofs.YtpgdcpbbfphbiaaW.PrintWords Go.Proofs.YtpgdcpbbfphbiaaW.PrintLast Go.Proofs.YtpgdcpbbfphbiaaW.PrintMore
theorem way_len (a i : Int) : (wayV a i).1.length ≤ 3 := by
  unfold wayV
  split
  · split
    · simp
    · split <;> simp
  · simp
theorem BmapWays : nautiluslaw13_BmapWays.Pure := by
  intro a i ha hi
  obtain ⟨h0, h1⟩ := u32_wf ha
  have hl := way_len a i
  refine ⟨100, ?_⟩
  unfold nautiluslaw13_BmapWays.f
  rw [shown_f _ (by omega), Option.bind_some, way_f _ _ h0 h1 _ (by omega), Option.bind_some, refWay_f _ _ h0 h1 _ (by omega), Option.bind_some, if_pos rfl, count_f _ h0 h1, Option.bind_some, refCount_f _ h0 h1, Option.bind_some, if_pos rfl,
    sameInts_f _ _ (by omega) _ (by omega), Option.bind_some, if_pos (decide_eq_true rfl)]
  simp
end Go.Proofs.Ytpgdcpbbfphbiaa.Pure
