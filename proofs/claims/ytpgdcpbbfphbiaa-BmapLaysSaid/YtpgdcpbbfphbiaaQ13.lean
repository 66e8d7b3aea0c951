/- Functions of the translation as plain Lean functions, and that the translation computes them: printed by this session's driver of the print. -/
import Derived.Test.YtpgdcpbbfphbiaaQ0
import Derived.Test.YtpgdcpbbfphbiaaQ11
namespace Go.Proofs.Ytpgdcpbbfphbiaa.Q
open Go.Proofs.Ytpgdcpbbfphbiaa.H
open Go.RowKit Go.Proofs.YtpgdcpbbfphbiaaW.PrintWords Go.Proofs.YtpgdcpbbfphbiaaW.PrintLast Go.Proofs.YtpgdcpbbfphbiaaW.PrintMore
attribute [local go_sem] max2_int min2_int max_two min_two max_three min_three max_four min_four   -- for this text's walks alone
set_option linter.unusedVariables false
set_option linter.unusedSimpArgs false

/-! ### nautilusref13_lower: function 27 -/
def nautilusref13_lower.f (a0 : Int) : Option (Int) := (nautilusref10_Blocks.f a0).bind fun t110 => (some (wrap64 (Int.tdiv (wrap64 ((wrap64 (t110 + 127)) - 1)) 127)))
set_option maxHeartbeats 8000000 in
set_option maxRecDepth 100000 in
theorem nautilusref13_lower.calls (a0 : Int) (r : Int) (w : World) (h : nautilusref13_lower.f a0 = some r) :
    Calls Try.prog 27 #[.int .u32 a0] w fun e w' => e = .returned (.int .i64 r) ∧ Drawn0 w w' := by
  have H : ((nautilusref10_Blocks.f a0).bind fun t110 => (some (wrap64 (Int.tdiv (wrap64 ((wrap64 (t110 + 127)) - 1)) 127)))) = some r := h
  clear h
  replace H := Option.bind_eq_some_iff.mp H
  obtain ⟨t110, A20, H⟩ := H
  replace H : (some (wrap64 (Int.tdiv (wrap64 ((wrap64 (t110 + 127)) - 1)) 127))) = some r := H
  have A2 := Aside0.mk A20
  clear A20
  obtain rfl := Option.some.inj H
  go_enter Try.func27, Try.ntmps27
  go_wp2_with (first | ((with_reducible refine gate_callee (f := 24) rfl ?_); refine goesL_ (some 4) rfl rfl Try.func24 (by kernel_rfl) rfl #[.int .u32 a0] rfl (by (try simp only [List.map_toArray, List.map_cons, List.map_nil]); first | done | rfl | (simp only [List.length_drop, List.length_take]; rfl)) ?_; (with_reducible refine (nautilusref10_Blocks.calls a0 t110 _ A2.out).mono ?_); rintro e w' ⟨rfl, ⟨nd, rfl⟩⟩; refine ⟨_, rfl, ?_⟩))
  go_ret
  exact ⟨by first | rfl | (simp; done) | (simp [*]; done), by repeat (first | exact Drawn0.refl _ | apply Drawn0.step)⟩

end Go.Proofs.Ytpgdcpbbfphbiaa.Q

namespace Go.Proofs.Ytpgdcpbbfphbiaa.Q
open Go.Proofs.Ytpgdcpbbfphbiaa.H
open Go.RowKit Go.Proofs.YtpgdcpbbfphbiaaW.PrintWords Go.Proofs.YtpgdcpbbfphbiaaW.PrintLast Go.Proofs.YtpgdcpbbfphbiaaW.PrintMore
attribute [local go_sem] max2_int min2_int max_two min_two max_three min_three max_four min_four   -- for this text's walks alone
set_option linter.unusedVariables false
set_option linter.unusedSimpArgs false

/-! ### nautilusref13_Count: function 13 -/
def nautilusref13_Count.f (a0 : Int) : Option (Int) := if a0 > 8193532 then (some 0) else ((nautilusref10_Depth.f a0).bind fun t111 => (if t111 = 2 then ((nautilusref13_lower.f a0).bind fun t112 => (some (wrap64 (1 + t112)))) else (some t111)))
set_option maxHeartbeats 8000000 in
set_option maxRecDepth 100000 in
theorem nautilusref13_Count.calls (a0 : Int) (r : Int) (w : World) (h : nautilusref13_Count.f a0 = some r) :
    Calls Try.prog 13 #[.int .u32 a0] w fun e w' => e = .returned (.int .i64 r) ∧ Drawn0 w w' := by
  have H : (if a0 > 8193532 then (some 0) else ((nautilusref10_Depth.f a0).bind fun t111 => (if t111 = 2 then ((nautilusref13_lower.f a0).bind fun t112 => (some (wrap64 (1 + t112)))) else (some t111)))) = some r := h
  clear h
  by_cases c2 : a0 > 8193532
  · rw [if_pos c2] at H
    have c2b0 : decide (8193532 < a0) = true := decide_eq_true c2
    clear c2
    obtain rfl := Option.some.inj H
    go_enter Try.func13, Try.ntmps13
    go_wp2
    go_ret
    exact ⟨by first | rfl | (simp; done) | (simp [*]; done), by repeat (first | exact Drawn0.refl _ | apply Drawn0.step)⟩
  · rw [if_neg c2] at H
    have c2b0 : decide (8193532 < a0) = false := decide_eq_false c2
    clear c2
    replace H := Option.bind_eq_some_iff.mp H
    obtain ⟨t111, A30, H⟩ := H
    replace H : (if t111 = 2 then ((nautilusref13_lower.f a0).bind fun t112 => (some (wrap64 (1 + t112)))) else (some t111)) = some r := H
    have A3 := Aside0.mk A30
    clear A30
    by_cases c4 : t111 = 2
    · rw [if_pos c4] at H
      have c4b0 : (t111 == 2) = true := beq_iff_eq.mpr c4
      have c4b1 : (t111 != 2) = false := bne_eq_false_iff_eq.mpr c4
      clear c4
      replace H := Option.bind_eq_some_iff.mp H
      obtain ⟨t112, A50, H⟩ := H
      replace H : (some (wrap64 (1 + t112))) = some r := H
      have A5 := Aside0.mk A50
      clear A50
      obtain rfl := Option.some.inj H
      go_enter Try.func13, Try.ntmps13
      go_wp2_with (first | ((with_reducible refine gate_callee (f := 25) rfl ?_); refine goesL_ (some 7) rfl rfl Try.func25 (by kernel_rfl) rfl #[.int .u32 a0] rfl (by (try simp only [List.map_toArray, List.map_cons, List.map_nil]); first | done | rfl | (simp only [List.length_drop, List.length_take]; rfl)) ?_; (with_reducible refine (nautilusref10_Depth.calls a0 t111 _ A3.out).mono ?_); rintro e w' ⟨rfl, ⟨nd, rfl⟩⟩; refine ⟨_, rfl, ?_⟩) | ((with_reducible refine gate_callee (f := 27) rfl ?_); refine goesL_ (some 11) rfl rfl Try.func27 (by kernel_rfl) rfl #[.int .u32 a0] rfl (by (try simp only [List.map_toArray, List.map_cons, List.map_nil]); first | done | rfl | (simp only [List.length_drop, List.length_take]; rfl)) ?_; (with_reducible refine (nautilusref13_lower.calls a0 t112 _ A5.out).mono ?_); rintro e w' ⟨rfl, ⟨nd, rfl⟩⟩; refine ⟨_, rfl, ?_⟩))
      go_ret
      exact ⟨by first | rfl | (simp; done) | (simp [*]; done), by repeat (first | exact Drawn0.refl _ | apply Drawn0.step)⟩
    · rw [if_neg c4] at H
      have c4b0 : (t111 == 2) = false := beq_eq_false_iff_ne.mpr c4
      have c4b1 : (t111 != 2) = true := bne_iff_ne.mpr c4
      obtain rfl := Option.some.inj H
      go_enter Try.func13, Try.ntmps13
      go_wp2_with (first | ((with_reducible refine gate_callee (f := 25) rfl ?_); refine goesL_ (some 7) rfl rfl Try.func25 (by kernel_rfl) rfl #[.int .u32 a0] rfl (by (try simp only [List.map_toArray, List.map_cons, List.map_nil]); first | done | rfl | (simp only [List.length_drop, List.length_take]; rfl)) ?_; (with_reducible refine (nautilusref10_Depth.calls a0 t111 _ A3.out).mono ?_); rintro e w' ⟨rfl, ⟨nd, rfl⟩⟩; refine ⟨_, rfl, ?_⟩))
      go_ret
      exact ⟨by first | rfl | (simp; done) | (simp [*]; done), by repeat (first | exact Drawn0.refl _ | apply Drawn0.step)⟩

end Go.Proofs.Ytpgdcpbbfphbiaa.Q
