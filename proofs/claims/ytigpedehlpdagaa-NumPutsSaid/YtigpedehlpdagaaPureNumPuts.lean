/- NumPuts: numbers as bytes, and bytes as numbers, as the reference has them: the plain law. -/
import Derived.Test.YtigpedehlpdagaaQ3
import Derived.Test.YtigpedehlpdagaaPShown01
namespace Go.Proofs.Ytigpedehlpdagaa.Pure
open Go.RowKit Go.Proofs.Ytigpedehlpdagaa.H Go.Proofs.Ytigpedehlpdagaa.Q Go.Proofs.Ytigpedehlpdagaa.P Go.Proofs.YtigpedehlpdagaaW.PrintWords Go.Proofs.YtigpedehlpdagaaW.PrintLast Go.Proofs.YtigpedehlpdagaaW.PrintMore

theorem NumPuts : nautiluslaw01_NumPuts.Pure := by
  intro n w s a hn hw hs ha
  have ⟨hn0, hn1⟩ := u64_wf hn
  have ⟨ha0, ha1⟩ := i64_wf ha
  refine ⟨20, ?_⟩
  unfold nautiluslaw01_NumPuts.f
  rw [shown_f, put_f n w hn0 hn1, refPut_f n w hn0 hn1 20 (by omega), take_f s a w (by omega) ha0 ha1 20 (by omega), refTake_f s a w (by omega) ha0 ha1 20 (by omega)]
  simp

end Go.Proofs.Ytigpedehlpdagaa.Pure
