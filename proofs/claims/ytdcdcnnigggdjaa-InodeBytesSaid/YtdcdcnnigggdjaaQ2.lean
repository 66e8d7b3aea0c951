/- Functions of the translation as plain Lean functions, and that the translation computes them: printed by this session's driver of the print. -/
import Derived.Test.YtdcdcnnigggdjaaQ0
namespace Go.Proofs.Ytdcdcnnigggdjaa.Q
open Go.Proofs.Ytdcdcnnigggdjaa.H
open Go.RowKit Go.Proofs.YtdcdcnnigggdjaaW.PrintWords Go.Proofs.YtdcdcnnigggdjaaW.PrintLast Go.Proofs.YtdcdcnnigggdjaaW.PrintMore
attribute [local go_sem] max2_int min2_int max_two min_two max_three min_three max_four min_four   -- for this text's walks alone
set_option linter.unusedVariables false
set_option linter.unusedSimpArgs false

/-! ### inode_Blocks: function 9 -/
def inode_Blocks.f (a0 : Int) : Option (Int) := some (wrap64 (IntKind.u64.wrap (Int.tdiv (IntKind.u64.wrap ((IntKind.u64.wrap ((IntKind.u64.wrap (a0)) + 508)) - 1)) 508)))
set_option maxHeartbeats 8000000 in
set_option maxRecDepth 100000 in
theorem inode_Blocks.calls (a0 : Int) (r : Int) (w : World) (h : inode_Blocks.f a0 = some r) :
    Calls Try.prog 9 #[.int .u32 a0] w fun e w' => e = .returned (.int .i64 r) ∧ Drawn0 w w' := by
  have H : (some (wrap64 (IntKind.u64.wrap (Int.tdiv (IntKind.u64.wrap ((IntKind.u64.wrap ((IntKind.u64.wrap (a0)) + 508)) - 1)) 508)))) = some r := h
  clear h
  obtain rfl := Option.some.inj H
  go_enter Try.func9, Try.ntmps9
  go_wp2
  go_ret
  exact ⟨by first | rfl | (simp; done) | (simp [*]; done), by repeat (first | exact Drawn0.refl _ | apply Drawn0.step)⟩

end Go.Proofs.Ytdcdcnnigggdjaa.Q
