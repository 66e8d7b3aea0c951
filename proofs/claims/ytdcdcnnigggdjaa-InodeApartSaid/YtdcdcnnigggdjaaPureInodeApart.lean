/- The pure law InodeApart. -/
import Derived.Test.YtdcdcnnigggdjaaQ18
import Derived.Test.YtdcdcnnigggdjaaPInoG
set_option linter.unusedVariables false
set_option linter.unusedSimpArgs false
set_option maxRecDepth 100000
namespace Go.Proofs.Ytdcdcnnigggdjaa.Pure
open Go.RowKit Go.Proofs.Ytdcdcnnigggdjaa.H Go.Proofs.Ytdcdcnnigggdjaa.Q Go.Proofs.Ytdcdcnnigggdjaa.P Go.Proofs.YtdcdcnnigggdjaaW.PrintWords Go.Proofs.YtdcdcnnigggdjaaW.PrintLast Go.Proofs.YtdcdcnnigggdjaaW.PrintMore
theorem InodeApart : nautiluslaw10_InodeApart.Pure := by
  intro a0_0 a0_1 a0_2 a0_3 a0_4 a0_5 a0_6 a0_7 a0_8 a0_9 a0_10 a0_11 a1_0 a1_1 a1_2 a1_3 a1_4 a1_5 a1_6 a1_7 a1_8 a1_9 a1_10 a1_11 w0_0 w0_1 w0_2 w0_3 w0_4 w0_5 w0_6 w0_7 w0_8 w0_9 w0_10 w0_11 w1_0 w1_1 w1_2 w1_3 w1_4 w1_5 w1_6 w1_7 w1_8 w1_9 w1_10 w1_11
  have h0 : inoWf a0_0 a0_1 a0_2 a0_3 a0_4 a0_5 a0_6 a0_7 a0_8 a0_9 a0_10 a0_11 := (by have q1 := u16_wf w0_1; have q2 := u16_wf w0_2; have q3 := u32_wf w0_3; have q4 := u64_wf w0_4; have q6 := u32_wf w0_6; have q7 := u32_wf w0_7; have q8 := u32_wf w0_8; have q9 := u32_wf w0_9; have q10 := u32_wf w0_10; have q11 := u32_wf w0_11; unfold inoWf; omega)
  have h1 : inoWf a1_0 a1_1 a1_2 a1_3 a1_4 a1_5 a1_6 a1_7 a1_8 a1_9 a1_10 a1_11 := (by have q1 := u16_wf w1_1; have q2 := u16_wf w1_2; have q3 := u32_wf w1_3; have q4 := u64_wf w1_4; have q6 := u32_wf w1_6; have q7 := u32_wf w1_7; have q8 := u32_wf w1_8; have q9 := u32_wf w1_9; have q10 := u32_wf w1_10; have q11 := u32_wf w1_11; unfold inoWf; omega)
  unfold nautiluslaw10_InodeApart.f
  rw [shown_f, Option.bind_some, encode_f a0_0 a0_1 a0_2 a0_3 a0_4 a0_5 a0_6 a0_7 a0_8 a0_9 a0_10 a0_11 h0, Option.bind_some, encode_f a1_0 a1_1 a1_2 a1_3 a1_4 a1_5 a1_6 a1_7 a1_8 a1_9 a1_10 a1_11 h1, Option.bind_some, if_pos rfl]
  by_cases r0 : rightV a0_0 a0_1 a0_2 a0_3 a0_4 a0_5 a0_6 a0_7 a0_8 a0_9 a0_10 a0_11 = true
  · by_cases r1 : rightV a1_0 a1_1 a1_2 a1_3 a1_4 a1_5 a1_6 a1_7 a1_8 a1_9 a1_10 a1_11 = true
    · rw [encV_of r0, encV_of r1, if_pos rfl, if_pos rfl]
      simp only [inoB_size]
      rw [if_pos ?_]
      · rfl
      · have hi := inoB_inj a0_0 a0_1 a0_2 a0_3 a0_4 a0_5 a0_6 a0_7 a0_8 a0_9 a0_10 a0_11 a1_0 a1_1 a1_2 a1_3 a1_4 a1_5 a1_6 a1_7 a1_8 a1_9 a1_10 a1_11 (right_ok a0_0 a0_1 a0_2 a0_3 a0_4 a0_5 a0_6 a0_7 a0_8 a0_9 a0_10 a0_11 h0 r0) (right_ok a1_0 a1_1 a1_2 a1_3 a1_4 a1_5 a1_6 a1_7 a1_8 a1_9 a1_10 a1_11 h1 r1)
        rw [beq_iff_eq, Bool.eq_iff_iff]
        simp only [beq_iff_eq, Bool.and_eq_true]
        constructor
        · intro h
          exact hi (by rw [ByteArray.toList_eq, ByteArray.toList_eq] at h; exact ByteArray.ext (Array.toList_inj.1 h))
        · rintro ⟨rfl, rfl, rfl, rfl, rfl, rfl, rfl, rfl, rfl, rfl, rfl, rfl⟩; rfl
    · rw [encV_of r0, if_pos rfl]
      unfold encV
      rw [if_neg r1]
      exact if_neg (show ¬ (100 : Int) = 0 by decide)
  · unfold encV
    rw [if_neg r0]
    exact if_neg (show ¬ (100 : Int) = 0 by decide)
end Go.Proofs.Ytdcdcnnigggdjaa.Pure
