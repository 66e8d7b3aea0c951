/- Functions of the translation as plain Lean functions, and that the translation computes them: printed by this session's driver of the print. -/
import Derived.Test.YtklhmhliencgeaaQ0
import Derived.Test.YtklhmhliencgeaaHFuncs
namespace Go.Proofs.Ytklhmhliencgeaa.Q
open Go.Proofs.Ytklhmhliencgeaa.H
open Go.RowKit Go.Proofs.YtklhmhliencgeaaW.PrintWords Go.Proofs.YtklhmhliencgeaaW.PrintLast Go.Proofs.YtklhmhliencgeaaW.PrintMore
attribute [local go_sem] max2_int min2_int max_two min_two max_three min_three max_four min_four   -- for this text's walks alone
set_option linter.unusedVariables false
set_option linter.unusedSimpArgs false

/-! ### usage_Right: function 14 -/
def usage_Right.f (l0 : List (S30)) : Option (Bool) := if (l0.length : Int) ≥ 8 then (if (l0.length : Int) ≤ 256 then (if 0 < (l0.length : Int) then (if ((rd_T30 l0 0).f2) = 1 then ((api_Seg_26.f l0 27).bind fun t109 => (some (!t109))) else (some false)) else (none)) else (some false)) else (some false)
set_option maxHeartbeats 8000000 in
set_option maxRecDepth 100000 in
theorem usage_Right.calls (A0 : Option Addr) (c0 : Nat) (l0 : List (S30)) (r : Bool) (w : World) (hr0 : Kd.C k30 w A0 l0.length l0) (hc0 : l0.length ≤ c0) (h : usage_Right.f l0 = some r) :
    Calls Try.prog 14 #[.slice A0 l0.length c0] w fun e w' => e = .returned (.bool r) ∧ Below w.heap.size w w' := by
  have HR0 := Aside0.mk hr0
  have HC0 := Aside0.mk hc0
  clear hr0 hc0
  have HB := Aside0.mk (Below.refl w.heap.size w)
  have H : (if (l0.length : Int) ≥ 8 then (if (l0.length : Int) ≤ 256 then (if 0 < (l0.length : Int) then (if ((rd_T30 l0 0).f2) = 1 then ((api_Seg_26.f l0 27).bind fun t109 => (some (!t109))) else (some false)) else (none)) else (some false)) else (some false)) = some r := h
  clear h
  by_cases c2 : (l0.length : Int) ≥ 8
  · rw [if_pos c2] at H
    have c2b0 : decide (8 ≤ (l0.length : Int)) = true := decide_eq_true c2
    have c2b1 : decide (8 ≤ l0.length) = true := decide_eq_true (by omega)
    clear c2
    by_cases c3 : (l0.length : Int) ≤ 256
    · rw [if_pos c3] at H
      have c3b0 : decide ((l0.length : Int) ≤ 256) = true := decide_eq_true c3
      have c3b1 : decide (l0.length ≤ 256) = true := decide_eq_true (by omega)
      clear c3
      by_cases c4 : 0 < (l0.length : Int)
      · rw [if_pos c4] at H
        have c4b0 : decide (0 < (l0.length : Int)) = true := decide_eq_true c4
        have c4b1 : decide (0 < l0.length) = true := decide_eq_true (by omega)
        clear c4
        by_cases c5 : ((rd_T30 l0 0).f2) = 1
        · rw [if_pos c5] at H
          have c5b0 : (((rd_T30 l0 0).f2) == 1) = true := beq_iff_eq.mpr c5
          have c5b1 : (((rd_T30 l0 0).f2) != 1) = false := bne_eq_false_iff_eq.mpr c5
          clear c5
          replace H := Option.bind_eq_some_iff.mp H
          obtain ⟨t109, A60, H⟩ := H
          replace H : (some (!t109)) = some r := H
          have A6 := Aside0.mk A60
          clear A60
          obtain rfl := Option.some.inj H
          have p108 : 0 ≤ (0 : Int) := (by omega)
          have q108 : 0 < (l0.length : Int) := of_decide_eq_true (by first | (with_reducible assumption) | assumption)
          obtain ⟨ad108, e108, hx108_0, hx108_1, hx108_2⟩ := at_T30 HR0.out 0 p108 q108
          cases e108
          have qi108 : (0 < l0.length) = True := eq_true (by omega)
          (try rw [show ((0 : Int)).toNat = 0 from rfl] at hx108_0)
          (try rw [show 0 * 3 = 0 from rfl] at hx108_0)
          (try rw [Addr.add_zero'] at hx108_0)
          (try rw [show ((0 : Int)).toNat = 0 from rfl] at hx108_1)
          (try rw [show 0 * 3 = 0 from rfl] at hx108_1)
          (try rw [Addr.add_zero'] at hx108_1)
          (try rw [show ((0 : Int)).toNat = 0 from rfl] at hx108_2)
          (try rw [show 0 * 3 = 0 from rfl] at hx108_2)
          (try rw [Addr.add_zero'] at hx108_2)
          replace p108 := eq_true p108
          replace q108 := eq_true q108
          go_enter Try.func14, Try.ntmps14
          go_wp2_with (first | (go_at_call 26; (with_reducible refine (api_Seg_26.calls _ _ l0 27 t109 _ ?side1 ?side2 A6.out).mono ?_); (case side1 => repeat (first | exact HR0.out | (with_reducible refine Kd.C_alloc ?_ _) | (with_reducible refine Kd.C_drewN ?_ _) | (with_reducible refine Kd.C_drew ?_))); (case side2 => exact HC0.out); rintro e w7 ⟨rfl, hb⟩; have n0_ := Aside0.mk (below_step (by repeat (first | (with_reducible first | exact HB.out | apply below_alloc | apply pw_below_drewN | apply below_drew1) | exact HB.out)) hb); clear HB; have HB := n0_; clear n0_; (try clear hb); (try clear hb2); (try clear hk); (try clear hi)))
          go_ret
          exact ⟨by first | rfl | (simp [errW_none, errW_some] <;> rfl) | (simp [*, errW_none, errW_some] <;> rfl) | (simp [show IntKind.u64.wrap 0 = 0 from rfl, Int.zero_tdiv]; done), by repeat (first | (with_reducible first | exact HB.out | apply below_alloc | apply pw_below_drewN | apply below_drew1) | exact HB.out)⟩
        · rw [if_neg c5] at H
          have c5b0 : (((rd_T30 l0 0).f2) == 1) = false := beq_eq_false_iff_ne.mpr c5
          have c5b1 : (((rd_T30 l0 0).f2) != 1) = true := bne_iff_ne.mpr c5
          obtain rfl := Option.some.inj H
          have p108 : 0 ≤ (0 : Int) := (by omega)
          have q108 : 0 < (l0.length : Int) := of_decide_eq_true (by first | (with_reducible assumption) | assumption)
          obtain ⟨ad108, e108, hx108_0, hx108_1, hx108_2⟩ := at_T30 HR0.out 0 p108 q108
          cases e108
          have qi108 : (0 < l0.length) = True := eq_true (by omega)
          (try rw [show ((0 : Int)).toNat = 0 from rfl] at hx108_0)
          (try rw [show 0 * 3 = 0 from rfl] at hx108_0)
          (try rw [Addr.add_zero'] at hx108_0)
          (try rw [show ((0 : Int)).toNat = 0 from rfl] at hx108_1)
          (try rw [show 0 * 3 = 0 from rfl] at hx108_1)
          (try rw [Addr.add_zero'] at hx108_1)
          (try rw [show ((0 : Int)).toNat = 0 from rfl] at hx108_2)
          (try rw [show 0 * 3 = 0 from rfl] at hx108_2)
          (try rw [Addr.add_zero'] at hx108_2)
          replace p108 := eq_true p108
          replace q108 := eq_true q108
          go_enter Try.func14, Try.ntmps14
          go_wp2
          go_ret
          exact ⟨by first | rfl | (simp [errW_none, errW_some] <;> rfl) | (simp [*, errW_none, errW_some] <;> rfl) | (simp [show IntKind.u64.wrap 0 = 0 from rfl, Int.zero_tdiv]; done), by repeat (first | (with_reducible first | exact HB.out | apply below_alloc | apply pw_below_drewN | apply below_drew1) | exact HB.out)⟩
      · rw [if_neg c4] at H
        exact absurd H (by simp)
    · rw [if_neg c3] at H
      have c3b0 : decide ((l0.length : Int) ≤ 256) = false := decide_eq_false c3
      have c3b1 : decide (l0.length ≤ 256) = false := decide_eq_false (by omega)
      clear c3
      obtain rfl := Option.some.inj H
      go_enter Try.func14, Try.ntmps14
      go_wp2
      go_ret
      exact ⟨by first | rfl | (simp [errW_none, errW_some] <;> rfl) | (simp [*, errW_none, errW_some] <;> rfl) | (simp [show IntKind.u64.wrap 0 = 0 from rfl, Int.zero_tdiv]; done), by repeat (first | (with_reducible first | exact HB.out | apply below_alloc | apply pw_below_drewN | apply below_drew1) | exact HB.out)⟩
  · rw [if_neg c2] at H
    have c2b0 : decide (8 ≤ (l0.length : Int)) = false := decide_eq_false c2
    have c2b1 : decide (8 ≤ l0.length) = false := decide_eq_false (by omega)
    clear c2
    obtain rfl := Option.some.inj H
    go_enter Try.func14, Try.ntmps14
    go_wp2
    go_ret
    exact ⟨by first | rfl | (simp [errW_none, errW_some] <;> rfl) | (simp [*, errW_none, errW_some] <;> rfl) | (simp [show IntKind.u64.wrap 0 = 0 from rfl, Int.zero_tdiv]; done), by repeat (first | (with_reducible first | exact HB.out | apply below_alloc | apply pw_below_drewN | apply below_drew1) | exact HB.out)⟩

end Go.Proofs.Ytklhmhliencgeaa.Q
