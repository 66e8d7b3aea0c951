/- Functions of the translation as plain Lean functions, and that the translation computes them: printed by this session's driver of the print. -/
import Derived.Test.YtdcdcnnigggdjaaQ0
namespace Go.Proofs.Ytdcdcnnigggdjaa.Q
open Go.Proofs.Ytdcdcnnigggdjaa.H
open Go.RowKit Go.Proofs.YtdcdcnnigggdjaaW.PrintWords Go.Proofs.YtdcdcnnigggdjaaW.PrintLast Go.Proofs.YtdcdcnnigggdjaaW.PrintMore
attribute [local go_sem] max2_int min2_int max_two min_two max_three min_three max_four min_four   -- for this text's walks alone
set_option linter.unusedVariables false
set_option linter.unusedSimpArgs false

/-! ### nautilusref10_Blocks: function 17 -/
def nautilusref10_Blocks.f (a0 : Int) : Option (Int) := if (Int.tmod (IntKind.u64.wrap (a0)) 508) = 0 then (some (wrap64 (IntKind.u64.wrap (Int.tdiv (IntKind.u64.wrap (a0)) 508)))) else (some (wrap64 (IntKind.u64.wrap ((IntKind.u64.wrap (Int.tdiv (IntKind.u64.wrap (a0)) 508)) + 1))))
set_option maxHeartbeats 8000000 in
set_option maxRecDepth 100000 in
theorem nautilusref10_Blocks.calls (a0 : Int) (r : Int) (w : World) (h : nautilusref10_Blocks.f a0 = some r) :
    Calls Try.prog 17 #[.int .u32 a0] w fun e w' => e = .returned (.int .i64 r) ∧ Drawn0 w w' := by
  have H : (if (Int.tmod (IntKind.u64.wrap (a0)) 508) = 0 then (some (wrap64 (IntKind.u64.wrap (Int.tdiv (IntKind.u64.wrap (a0)) 508)))) else (some (wrap64 (IntKind.u64.wrap ((IntKind.u64.wrap (Int.tdiv (IntKind.u64.wrap (a0)) 508)) + 1))))) = some r := h
  clear h
  by_cases c2 : (Int.tmod (IntKind.u64.wrap (a0)) 508) = 0
  · rw [if_pos c2] at H
    have c2b0 : ((Int.tmod (IntKind.u64.wrap (a0)) 508) == 0) = true := beq_iff_eq.mpr c2
    have c2b1 : ((Int.tmod (IntKind.u64.wrap (a0)) 508) != 0) = false := bne_eq_false_iff_eq.mpr c2
    clear c2
    obtain rfl := Option.some.inj H
    go_enter Try.func17, Try.ntmps17
    go_wp2
    go_ret
    exact ⟨by first | rfl | (simp; done) | (simp [*]; done), by repeat (first | exact Drawn0.refl _ | apply Drawn0.step)⟩
  · rw [if_neg c2] at H
    have c2b0 : ((Int.tmod (IntKind.u64.wrap (a0)) 508) == 0) = false := beq_eq_false_iff_ne.mpr c2
    have c2b1 : ((Int.tmod (IntKind.u64.wrap (a0)) 508) != 0) = true := bne_iff_ne.mpr c2
    obtain rfl := Option.some.inj H
    go_enter Try.func17, Try.ntmps17
    go_wp2
    go_ret
    exact ⟨by first | rfl | (simp; done) | (simp [*]; done), by repeat (first | exact Drawn0.refl _ | apply Drawn0.step)⟩

end Go.Proofs.Ytdcdcnnigggdjaa.Q
