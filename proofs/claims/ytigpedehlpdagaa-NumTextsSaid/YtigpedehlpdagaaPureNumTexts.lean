/- NumTexts: texts as bytes, and bytes as texts, as the reference has them: the plain law. -/
import Derived.Test.YtigpedehlpdagaaQ3
import Derived.Test.YtigpedehlpdagaaQ4
import Derived.Test.YtigpedehlpdagaaPTexts
namespace Go.Proofs.Ytigpedehlpdagaa.Pure
open Go.RowKit Go.Proofs.Ytigpedehlpdagaa.H Go.Proofs.Ytigpedehlpdagaa.Q Go.Proofs.Ytigpedehlpdagaa.P Go.Proofs.YtigpedehlpdagaaW.PrintWords Go.Proofs.YtigpedehlpdagaaW.PrintLast Go.Proofs.YtigpedehlpdagaaW.PrintMore

theorem NumTexts : nautiluslaw01_NumTexts.Pure := by
  intro t s a ht hs ha
  have ⟨ha0, ha1⟩ := i64_wf ha
  refine ⟨20, ?_⟩
  unfold nautiluslaw01_NumTexts.f
  rw [shown_f, text_f, refText_f t (by omega) 20 (by omega), takeText_f s a hs ha0 ha1 20 (by omega), refTakeText_f s a hs ha0 ha1 20 (by omega)]
  simp

end Go.Proofs.Ytigpedehlpdagaa.Pure
