/- NumFits: what is fitted to a size, and what is bare, as the reference has it: the plain law. -/
import Derived.Test.YtigpedehlpdagaaQ6
import Derived.Test.YtigpedehlpdagaaPShown01
import Derived.Test.YtigpedehlpdagaaPFits
namespace Go.Proofs.Ytigpedehlpdagaa.Pure
open Go.RowKit Go.Proofs.Ytigpedehlpdagaa.H Go.Proofs.Ytigpedehlpdagaa.Q Go.Proofs.Ytigpedehlpdagaa.P Go.Proofs.YtigpedehlpdagaaW.PrintWords Go.Proofs.YtigpedehlpdagaaW.PrintLast Go.Proofs.YtigpedehlpdagaaW.PrintMore

theorem NumFits : nautiluslaw01_NumFits.Pure := by
  intro s n i hs hn hi
  have ⟨hn0, hn1⟩ := i64_wf hn
  refine ⟨s.size + 1, ?_⟩
  unfold nautiluslaw01_NumFits.f
  rw [shown_f, fit_f s n (by omega), refFit_f s n (by omega) hn0 hn1, bare_f s i (by omega), refBare_f s i (by omega) _ (by omega)]
  simp

end Go.Proofs.Ytigpedehlpdagaa.Pure
