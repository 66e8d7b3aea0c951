/- The pure law InodeTables. -/
import Derived.Test.YtdcdcnnigggdjaaQ20
import Derived.Test.YtdcdcnnigggdjaaPInoH
set_option linter.unusedVariables false
set_option linter.unusedSimpArgs false
set_option maxRecDepth 100000
namespace Go.Proofs.Ytdcdcnnigggdjaa.Pure
open Go.RowKit Go.Proofs.Ytdcdcnnigggdjaa.H Go.Proofs.Ytdcdcnnigggdjaa.Q Go.Proofs.Ytdcdcnnigggdjaa.P Go.Proofs.YtdcdcnnigggdjaaW.PrintWords Go.Proofs.YtdcdcnnigggdjaaW.PrintLast Go.Proofs.YtdcdcnnigggdjaaW.PrintMore
theorem InodeTables : nautiluslaw10_InodeTables.Pure := by
  intro s k a2_0 a2_1 a2_2 a2_3 a2_4 a2_5 a2_6 a2_7 a2_8 a2_9 a2_10 a2_11 ws wk w2_0 w2_1 w2_2 w2_3 w2_4 w2_5 w2_6 w2_7 w2_8 w2_9 w2_10 w2_11
  have h0 : inoWf a2_0 a2_1 a2_2 a2_3 a2_4 a2_5 a2_6 a2_7 a2_8 a2_9 a2_10 a2_11 := (by have q1 := u16_wf w2_1; have q2 := u16_wf w2_2; have q3 := u32_wf w2_3; have q4 := u64_wf w2_4; have q6 := u32_wf w2_6; have q7 := u32_wf w2_7; have q8 := u32_wf w2_8; have q9 := u32_wf w2_9; have q10 := u32_wf w2_10; have q11 := u32_wf w2_11; unfold inoWf; omega)
  refine ⟨5, ?_⟩
  unfold nautiluslaw10_InodeTables.f
  rw [shown_f, Option.bind_some, get_f, Option.bind_some, refGet_f, Option.bind_some, inoPut_f s k a2_0 a2_1 a2_2 a2_3 a2_4 a2_5 a2_6 a2_7 a2_8 a2_9 a2_10 a2_11 h0, Option.bind_some, refInoPut_f s k a2_0 a2_1 a2_2 a2_3 a2_4 a2_5 a2_6 a2_7 a2_8 a2_9 a2_10 a2_11 h0 5 (by omega), Option.bind_some, if_pos rfl]
  simp
end Go.Proofs.Ytdcdcnnigggdjaa.Pure
