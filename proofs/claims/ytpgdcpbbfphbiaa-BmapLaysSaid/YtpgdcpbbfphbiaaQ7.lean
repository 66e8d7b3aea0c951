/- Functions of the translation as plain Lean functions, and that the translation computes them: printed by this session's driver of the print. -/
import Derived.Test.YtpgdcpbbfphbiaaQ0
import Derived.Test.YtpgdcpbbfphbiaaQ3
namespace Go.Proofs.Ytpgdcpbbfphbiaa.Q
open Go.Proofs.Ytpgdcpbbfphbiaa.H
open Go.RowKit Go.Proofs.YtpgdcpbbfphbiaaW.PrintWords Go.Proofs.YtpgdcpbbfphbiaaW.PrintLast Go.Proofs.YtpgdcpbbfphbiaaW.PrintMore
attribute [local go_sem] max2_int min2_int max_two min_two max_three min_three max_four min_four   -- for this text's walks alone
set_option linter.unusedVariables false
set_option linter.unusedSimpArgs false

/-! ### bmap_lower: function 26 -/
def bmap_lower.f (a0 : Int) : Option (Int) := (inode_Blocks.f a0).bind fun t103 => (some (wrap64 (Int.tdiv (wrap64 ((wrap64 (t103 + 127)) - 1)) 127)))
set_option maxHeartbeats 8000000 in
set_option maxRecDepth 100000 in
theorem bmap_lower.calls (a0 : Int) (r : Int) (w : World) (h : bmap_lower.f a0 = some r) :
    Calls Try.prog 26 #[.int .u32 a0] w fun e w' => e = .returned (.int .i64 r) ∧ Drawn0 w w' := by
  have H : ((inode_Blocks.f a0).bind fun t103 => (some (wrap64 (Int.tdiv (wrap64 ((wrap64 (t103 + 127)) - 1)) 127)))) = some r := h
  clear h
  replace H := Option.bind_eq_some_iff.mp H
  obtain ⟨t103, A20, H⟩ := H
  replace H : (some (wrap64 (Int.tdiv (wrap64 ((wrap64 (t103 + 127)) - 1)) 127))) = some r := H
  have A2 := Aside0.mk A20
  clear A20
  obtain rfl := Option.some.inj H
  go_enter Try.func26, Try.ntmps26
  go_wp2_with (first | ((with_reducible refine gate_callee (f := 22) rfl ?_); refine goesL_ (some 4) rfl rfl Try.func22 (by kernel_rfl) rfl #[.int .u32 a0] rfl (by (try simp only [List.map_toArray, List.map_cons, List.map_nil]); first | done | rfl | (simp only [List.length_drop, List.length_take]; rfl)) ?_; (with_reducible refine (inode_Blocks.calls a0 t103 _ A2.out).mono ?_); rintro e w' ⟨rfl, ⟨nd, rfl⟩⟩; refine ⟨_, rfl, ?_⟩))
  go_ret
  exact ⟨by first | rfl | (simp; done) | (simp [*]; done), by repeat (first | exact Drawn0.refl _ | apply Drawn0.step)⟩

end Go.Proofs.Ytpgdcpbbfphbiaa.Q

namespace Go.Proofs.Ytpgdcpbbfphbiaa.Q
open Go.Proofs.Ytpgdcpbbfphbiaa.H
open Go.RowKit Go.Proofs.YtpgdcpbbfphbiaaW.PrintWords Go.Proofs.YtpgdcpbbfphbiaaW.PrintLast Go.Proofs.YtpgdcpbbfphbiaaW.PrintMore
attribute [local go_sem] max2_int min2_int max_two min_two max_three min_three max_four min_four   -- for this text's walks alone
set_option linter.unusedVariables false
set_option linter.unusedSimpArgs false

/-! ### bmap_Count: function 12 -/
def bmap_Count.f (a0 : Int) : Option (Int) := if a0 > 8193532 then (some 0) else ((inode_Depth.f a0).bind fun t104 => (if t104 = 2 then ((bmap_lower.f a0).bind fun t105 => (some (wrap64 (t105 + 1)))) else ((inode_Depth.f a0).bind fun t106 => (some t106))))
set_option maxHeartbeats 8000000 in
set_option maxRecDepth 100000 in
theorem bmap_Count.calls (a0 : Int) (r : Int) (w : World) (h : bmap_Count.f a0 = some r) :
    Calls Try.prog 12 #[.int .u32 a0] w fun e w' => e = .returned (.int .i64 r) ∧ Drawn0 w w' := by
  have H : (if a0 > 8193532 then (some 0) else ((inode_Depth.f a0).bind fun t104 => (if t104 = 2 then ((bmap_lower.f a0).bind fun t105 => (some (wrap64 (t105 + 1)))) else ((inode_Depth.f a0).bind fun t106 => (some t106))))) = some r := h
  clear h
  by_cases c2 : a0 > 8193532
  · rw [if_pos c2] at H
    have c2b0 : decide (8193532 < a0) = true := decide_eq_true c2
    clear c2
    obtain rfl := Option.some.inj H
    go_enter Try.func12, Try.ntmps12
    go_wp2
    go_ret
    exact ⟨by first | rfl | (simp; done) | (simp [*]; done), by repeat (first | exact Drawn0.refl _ | apply Drawn0.step)⟩
  · rw [if_neg c2] at H
    have c2b0 : decide (8193532 < a0) = false := decide_eq_false c2
    clear c2
    replace H := Option.bind_eq_some_iff.mp H
    obtain ⟨t104, A30, H⟩ := H
    replace H : (if t104 = 2 then ((bmap_lower.f a0).bind fun t105 => (some (wrap64 (t105 + 1)))) else ((inode_Depth.f a0).bind fun t106 => (some t106))) = some r := H
    have A3 := Aside0.mk A30
    clear A30
    by_cases c4 : t104 = 2
    · rw [if_pos c4] at H
      have c4b0 : (t104 == 2) = true := beq_iff_eq.mpr c4
      have c4b1 : (t104 != 2) = false := bne_eq_false_iff_eq.mpr c4
      clear c4
      replace H := Option.bind_eq_some_iff.mp H
      obtain ⟨t105, A50, H⟩ := H
      replace H : (some (wrap64 (t105 + 1))) = some r := H
      have A5 := Aside0.mk A50
      clear A50
      obtain rfl := Option.some.inj H
      go_enter Try.func12, Try.ntmps12
      go_wp2_with (first | ((with_reducible refine gate_callee (f := 23) rfl ?_); refine goesL_ (some 8) rfl rfl Try.func23 (by kernel_rfl) rfl #[.int .u32 a0] rfl (by (try simp only [List.map_toArray, List.map_cons, List.map_nil]); first | done | rfl | (simp only [List.length_drop, List.length_take]; rfl)) ?_; (with_reducible refine (inode_Depth.calls a0 t104 _ A3.out).mono ?_); rintro e w' ⟨rfl, ⟨nd, rfl⟩⟩; refine ⟨_, rfl, ?_⟩) | ((with_reducible refine gate_callee (f := 26) rfl ?_); refine goesL_ (some 11) rfl rfl Try.func26 (by kernel_rfl) rfl #[.int .u32 a0] rfl (by (try simp only [List.map_toArray, List.map_cons, List.map_nil]); first | done | rfl | (simp only [List.length_drop, List.length_take]; rfl)) ?_; (with_reducible refine (bmap_lower.calls a0 t105 _ A5.out).mono ?_); rintro e w' ⟨rfl, ⟨nd, rfl⟩⟩; refine ⟨_, rfl, ?_⟩))
      go_ret
      exact ⟨by first | rfl | (simp; done) | (simp [*]; done), by repeat (first | exact Drawn0.refl _ | apply Drawn0.step)⟩
    · rw [if_neg c4] at H
      have c4b0 : (t104 == 2) = false := beq_eq_false_iff_ne.mpr c4
      have c4b1 : (t104 != 2) = true := bne_iff_ne.mpr c4
      replace H := Option.bind_eq_some_iff.mp H
      obtain ⟨t106, A60, H⟩ := H
      replace H : (some t106) = some r := H
      have A6 := Aside0.mk A60
      obtain rfl : t104 = t106 := Option.some.inj (A3.out.symm.trans A6.out)
      clear A60
      obtain rfl := Option.some.inj H
      go_enter Try.func12, Try.ntmps12
      go_wp2_with (first | ((with_reducible refine gate_callee (f := 23) rfl ?_); refine goesL_ (some 8) rfl rfl Try.func23 (by kernel_rfl) rfl #[.int .u32 a0] rfl (by (try simp only [List.map_toArray, List.map_cons, List.map_nil]); first | done | rfl | (simp only [List.length_drop, List.length_take]; rfl)) ?_; (with_reducible refine (inode_Depth.calls a0 t104 _ A3.out).mono ?_); rintro e w' ⟨rfl, ⟨nd, rfl⟩⟩; refine ⟨_, rfl, ?_⟩) | ((with_reducible refine gate_callee (f := 23) rfl ?_); refine goesL_ (some 14) rfl rfl Try.func23 (by kernel_rfl) rfl #[.int .u32 a0] rfl (by (try simp only [List.map_toArray, List.map_cons, List.map_nil]); first | done | rfl | (simp only [List.length_drop, List.length_take]; rfl)) ?_; (with_reducible refine (inode_Depth.calls a0 t104 _ A6.out).mono ?_); rintro e w' ⟨rfl, ⟨nd, rfl⟩⟩; refine ⟨_, rfl, ?_⟩))
      go_ret
      exact ⟨by first | rfl | (simp; done) | (simp [*]; done), by repeat (first | exact Drawn0.refl _ | apply Drawn0.step)⟩

end Go.Proofs.Ytpgdcpbbfphbiaa.Q
