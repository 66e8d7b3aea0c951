/- The pure law InodeSizes. -/
import Derived.Test.YtdcdcnnigggdjaaQ17
import Derived.Test.YtdcdcnnigggdjaaPInoG
set_option linter.unusedVariables false
set_option linter.unusedSimpArgs false
set_option maxRecDepth 100000
namespace Go.Proofs.Ytdcdcnnigggdjaa.Pure
open Go.RowKit Go.Proofs.Ytdcdcnnigggdjaa.H Go.Proofs.Ytdcdcnnigggdjaa.Q Go.Proofs.Ytdcdcnnigggdjaa.P Go.Proofs.YtdcdcnnigggdjaaW.PrintWords Go.Proofs.YtdcdcnnigggdjaaW.PrintLast Go.Proofs.YtdcdcnnigggdjaaW.PrintMore
theorem InodeSizes : nautiluslaw10_InodeSizes.Pure := by
  intro a b wa wb
  have ha := u32_wf wa
  have hb := u32_wf wb
  have ra := blk_range a ha.1 ha.2
  have ea : blk a = (a + 507) / 508 := rfl
  have eb : blk b = (b + 507) / 508 := rfl
  have u1 : IntKind.u64.wrap (IntKind.u64.wrap (blk a) * 508) = blk a * 508 := by rw [IntWalk.u64_in (blk a) (by omega), IntWalk.u64_in _ (by omega)]
  have u2 : IntKind.u64.wrap a = a := IntWalk.u64_in a (by omega)
  have u3 : IntKind.u64.wrap (a + 508) = a + 508 := IntWalk.u64_in _ (by omega)
  have da := dep_range a
  unfold nautiluslaw10_InodeSizes.f
  rw [shown_f, Option.bind_some, blocks_f a ha.1 ha.2, Option.bind_some, blocks_f b hb.1 hb.2, Option.bind_some, if_pos rfl, u1, u2, u3, depth_f a ha.1 ha.2, depth_f b hb.1 hb.2]
  simp only [Option.bind_some]
  have tail : (if blk a * 508 ≥ a then (if blk a * 508 < a + 508 then (if dep a ≥ 0 then some (decide (dep a ≤ 2)) else none) else none) else none) = some true := by
    rw [if_pos (by omega), if_pos (by omega), if_pos (by omega), decide_eq_true (by omega)]
  by_cases h : a > b
  · rw [if_pos h]; exact tail
  · rw [if_neg h, if_pos (by omega), if_pos (by
      unfold dep
      by_cases h1 : blk a ≤ 6
      · rw [if_pos h1]; have := dep_range b; unfold dep at this; omega
      · rw [if_neg h1, if_neg (show ¬ blk b ≤ 6 by omega)]
        by_cases h2 : blk a ≤ 127
        · rw [if_pos h2]; split <;> omega
        · rw [if_neg h2, if_neg (by omega)]; omega)]
    exact tail
end Go.Proofs.Ytdcdcnnigggdjaa.Pure
