/- The pure law InodeBytes. -/
import Derived.Test.YtdcdcnnigggdjaaQ19
import Derived.Test.YtdcdcnnigggdjaaPInoG
import Derived.Test.YtdcdcnnigggdjaaPInoR
set_option linter.unusedVariables false
set_option linter.unusedSimpArgs false
set_option maxRecDepth 100000
namespace Go.Proofs.Ytdcdcnnigggdjaa.Pure
open Go.RowKit Go.Proofs.Ytdcdcnnigggdjaa.H Go.Proofs.Ytdcdcnnigggdjaa.Q Go.Proofs.Ytdcdcnnigggdjaa.P Go.Proofs.YtdcdcnnigggdjaaW.PrintWords Go.Proofs.YtdcdcnnigggdjaaW.PrintLast Go.Proofs.YtdcdcnnigggdjaaW.PrintMore
theorem InodeBytes : nautiluslaw10_InodeBytes.Pure := by
  intro a0_0 a0_1 a0_2 a0_3 a0_4 a0_5 a0_6 a0_7 a0_8 a0_9 a0_10 a0_11 b sz w0_0 w0_1 w0_2 w0_3 w0_4 w0_5 w0_6 w0_7 w0_8 w0_9 w0_10 w0_11 wb ws
  have h0 : inoWf a0_0 a0_1 a0_2 a0_3 a0_4 a0_5 a0_6 a0_7 a0_8 a0_9 a0_10 a0_11 := (by have q1 := u16_wf w0_1; have q2 := u16_wf w0_2; have q3 := u32_wf w0_3; have q4 := u64_wf w0_4; have q6 := u32_wf w0_6; have q7 := u32_wf w0_7; have q8 := u32_wf w0_8; have q9 := u32_wf w0_9; have q10 := u32_wf w0_10; have q11 := u32_wf w0_11; unfold inoWf; omega)
  have hs := u32_wf ws
  refine ⟨5, ?_⟩
  unfold nautiluslaw10_InodeBytes.f
  rw [shown_f, Option.bind_some, encode_f a0_0 a0_1 a0_2 a0_3 a0_4 a0_5 a0_6 a0_7 a0_8 a0_9 a0_10 a0_11 h0, Option.bind_some, refEncode_f a0_0 a0_1 a0_2 a0_3 a0_4 a0_5 a0_6 a0_7 a0_8 a0_9 a0_10 a0_11 h0, Option.bind_some, decode_f, Option.bind_some, refDecode_f, Option.bind_some, if_pos rfl, right_f a0_0 a0_1 a0_2 a0_3 a0_4 a0_5 a0_6 a0_7 a0_8 a0_9 a0_10 a0_11 5 (by omega) h0.2.2.1.1 h0.2.2.1.2, Option.bind_some, refRight_f a0_0 a0_1 a0_2 a0_3 a0_4 a0_5 a0_6 a0_7 a0_8 a0_9 a0_10 a0_11 h0, Option.bind_some,
    blocks_f sz hs.1 hs.2, refBlocks_f sz hs.1 hs.2, depth_f sz hs.1 hs.2, refDepth_f sz hs.1 hs.2]
  simp
end Go.Proofs.Ytdcdcnnigggdjaa.Pure
