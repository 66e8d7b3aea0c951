/- Functions of the translation as plain Lean functions, and that the translation computes them: printed by this session's driver of the print. -/
import Derived.Test.YthgefgjaihagoaaQ0
import Derived.Test.YthgefgjaihagoaaQ3
import Derived.Test.YthgefgjaihagoaaHFuncs
namespace Go.Proofs.Ythgefgjaihagoaa.Q
open Go.Proofs.Ythgefgjaihagoaa.H
open Go.RowKit Go.Proofs.YthgefgjaihagoaaW.PrintWords Go.Proofs.YthgefgjaihagoaaW.PrintLast Go.Proofs.YthgefgjaihagoaaW.PrintMore
attribute [local go_sem] max2_int min2_int max_two min_two max_three min_three max_four min_four   -- for this text's walks alone
set_option linter.unusedVariables false
set_option linter.unusedSimpArgs false

/-! ### dat_Right: function 45 -/
def dat_Right.f (l0 : List (S106)) : Option (Bool) := if (l0.length : Int) = 0 then (some false) else (if (l0.length : Int) > 1860 then (some false) else (if 0 < (l0.length : Int) then ((dat_isFree.f ((rd_T106 l0 0).f0) ((rd_T106 l0 0).f1) ((rd_T106 l0 0).f2)).bind fun t103 => (if t103 = true then ((api_Trans_79.f l0 80).bind fun t104 => (some (!t104))) else (some false))) else (none)))
set_option maxHeartbeats 8000000 in
set_option maxRecDepth 100000 in
theorem dat_Right.calls (A0 : Option Addr) (c0 : Nat) (l0 : List (S106)) (r : Bool) (w : World) (hr0 : Kd.C k106 w A0 l0.length l0) (hc0 : l0.length ≤ c0) (h : dat_Right.f l0 = some r) :
  Calls Try.prog 45 #[.slice A0 l0.length c0] w fun e w' => e = .returned (.bool r) ∧ Below w.heap.size w w' := by
 have hu106 := Try.underlying106
 have HR0 := Aside0.mk hr0
 have HC0 := Aside0.mk hc0
 clear hr0 hc0
 have HB := Aside0.mk (Below.refl w.heap.size w)
 have H : (if (l0.length : Int) = 0 then (some false) else (if (l0.length : Int) > 1860 then (some false) else (if 0 < (l0.length : Int) then ((dat_isFree.f ((rd_T106 l0 0).f0) ((rd_T106 l0 0).f1) ((rd_T106 l0 0).f2)).bind fun t103 => (if t103 = true then ((api_Trans_79.f l0 80).bind fun t104 => (some (!t104))) else (some false))) else (none)))) = some r := h
 clear h
 by_cases c2 : (l0.length : Int) = 0
 ·rw [if_pos c2] at H
  have c2b0 : ((l0.length : Int) == 0) = true := beq_iff_eq.mpr c2
  have c2b1 : ((l0.length : Int) != 0) = false := bne_eq_false_iff_eq.mpr c2
  clear c2
  obtain rfl := Option.some.inj H
  go_enter Try.func45, Try.ntmps45
  go_wp2
  go_ret
  exact ⟨by first | rfl | (simp [errW_none, errW_some] <;> rfl) | (simp [*, errW_none, errW_some] <;> rfl) | (simp [show IntKind.u64.wrap 0 = 0 from rfl, Int.zero_tdiv]; done), by repeat (first | (with_reducible first | exact HB.out | apply below_alloc | apply pw_below_drewN | apply below_drew1) | exact HB.out)⟩
 ·rw [if_neg c2] at H
  have c2b0 : ((l0.length : Int) == 0) = false := beq_eq_false_iff_ne.mpr c2
  have c2b1 : ((l0.length : Int) != 0) = true := bne_iff_ne.mpr c2
  have c2b2 : ¬ (l0 = []) := fun h_ => c2 (by rw [h_]; rfl)
  by_cases c3 : (l0.length : Int) > 1860
  ·rw [if_pos c3] at H
   have c3b0 : decide (1860 < (l0.length : Int)) = true := decide_eq_true c3
   have c3b1 : decide (1860 < l0.length) = true := decide_eq_true (by omega)
   clear c3
   obtain rfl := Option.some.inj H
   go_enter Try.func45, Try.ntmps45
   go_wp2
   go_ret
   exact ⟨by first | rfl | (simp [errW_none, errW_some] <;> rfl) | (simp [*, errW_none, errW_some] <;> rfl) | (simp [show IntKind.u64.wrap 0 = 0 from rfl, Int.zero_tdiv]; done), by repeat (first | (with_reducible first | exact HB.out | apply below_alloc | apply pw_below_drewN | apply below_drew1) | exact HB.out)⟩
  ·rw [if_neg c3] at H
   have c3b0 : decide (1860 < (l0.length : Int)) = false := decide_eq_false c3
   have c3b1 : decide (1860 < l0.length) = false := decide_eq_false (by omega)
   clear c3
   by_cases c4 : 0 < (l0.length : Int)
   ·rw [if_pos c4] at H
    have c4b0 : decide (0 < (l0.length : Int)) = true := decide_eq_true c4
    have c4b1 : decide (0 < l0.length) = true := decide_eq_true (by omega)
    clear c4
    replace H := Option.bind_eq_some_iff.mp H
    obtain ⟨t103, A50, H⟩ := H
    replace H : (if t103 = true then ((api_Trans_79.f l0 80).bind fun t104 => (some (!t104))) else (some false)) = some r := H
    have A5 := Aside0.mk A50
    clear A50
    by_cases c6 : t103 = true
    ·subst c6
     have H1 : ((api_Trans_79.f l0 80).bind fun t104 => (some (!t104))) = some r := by rw [if_pos rfl] at H; exact H
     clear H
     have H := H1
     clear H1
     replace H := Option.bind_eq_some_iff.mp H
     obtain ⟨t104, A70, H⟩ := H
     replace H : (some (!t104)) = some r := H
     have A7 := Aside0.mk A70
     clear A70
     obtain rfl := Option.some.inj H
     have p102 : 0 ≤ (0 : Int) := (by omega)
     have q102 : 0 < (l0.length : Int) := of_decide_eq_true (by first | (with_reducible assumption) | assumption)
     obtain ⟨ad102, e102, hx102_0, hx102_1, hx102_2⟩ := at_T106 HR0.out 0 p102 q102
     cases e102
     have qi102 : (0 < l0.length) = True := eq_true (by omega)
     (try rw [show ((0 : Int)).toNat = 0 from rfl] at hx102_0)
     (try rw [show 0 * 3 = 0 from rfl] at hx102_0)
     (try rw [Addr.add_zero'] at hx102_0)
     (try rw [show ((0 : Int)).toNat = 0 from rfl] at hx102_1)
     (try rw [show 0 * 3 = 0 from rfl] at hx102_1)
     (try rw [Addr.add_zero'] at hx102_1)
     (try rw [show ((0 : Int)).toNat = 0 from rfl] at hx102_2)
     (try rw [show 0 * 3 = 0 from rfl] at hx102_2)
     (try rw [Addr.add_zero'] at hx102_2)
     replace p102 := eq_true p102
     replace q102 := eq_true q102
     go_enter Try.func45, Try.ntmps45
     go_wp2_with (first | (go_at_call 47; (with_reducible refine (dat_isFree.calls ((rd_T106 l0 0).f0) ((rd_T106 l0 0).f1) ((rd_T106 l0 0).f2) true _ A5.out).mono ?_); rintro e w8 ⟨rfl, hb⟩; have n0_ := Aside0.mk (below_step (by repeat (first | (with_reducible first | exact HB.out | apply below_alloc | apply pw_below_drewN | apply below_drew1) | exact HB.out)) hb); clear HB; have HB := n0_; clear n0_; (try clear hb); (try clear hb2); (try clear hk); (try clear hi)) | ((with_reducible refine gate_callee (f := 79) rfl ?_); refine goesL_ (some 19) rfl rfl Try.func79 (by kernel_rfl) rfl #[.slice (some ad102) l0.length c0, .func (.func 80) #[] #[]] rfl (by (try simp only [List.map_toArray, List.map_cons, List.map_nil]); first | done | rfl | (simp only [List.length_drop, List.length_take]; rfl)) ?_; (with_reducible refine (api_Trans_79.calls _ _ l0 80 t104 _ ?side1 ?side2 A7.out).mono ?_); (case side1 => repeat (first | exact (Kd.C_below HR0.out HB.out) | (with_reducible refine Kd.C_alloc ?_ _) | (with_reducible refine Kd.C_drewN ?_ _) | (with_reducible refine Kd.C_drew ?_))); (case side2 => exact HC0.out); rintro e w9 ⟨rfl, hb⟩; refine ⟨_, rfl, ?_⟩; have n0_ := Aside0.mk (below_step (by repeat (first | (with_reducible first | exact HB.out | apply below_alloc | apply pw_below_drewN | apply below_drew1) | exact HB.out)) hb); clear HB; have HB := n0_; clear n0_; (try clear hb); (try clear hb2); (try clear hk); (try clear hi)))
     go_ret
     exact ⟨by first | rfl | (simp [errW_none, errW_some] <;> rfl) | (simp [*, errW_none, errW_some] <;> rfl) | (simp [show IntKind.u64.wrap 0 = 0 from rfl, Int.zero_tdiv]; done), by repeat (first | (with_reducible first | exact HB.out | apply below_alloc | apply pw_below_drewN | apply below_drew1) | exact HB.out)⟩
    ·replace c6 := Bool.eq_false_iff.mpr c6
     subst c6
     have H1 : (some false) = some r := by rw [if_neg (show ¬ (false = true) by decide)] at H; exact H
     clear H
     have H := H1
     clear H1
     obtain rfl := Option.some.inj H
     have p102 : 0 ≤ (0 : Int) := (by omega)
     have q102 : 0 < (l0.length : Int) := of_decide_eq_true (by first | (with_reducible assumption) | assumption)
     obtain ⟨ad102, e102, hx102_0, hx102_1, hx102_2⟩ := at_T106 HR0.out 0 p102 q102
     cases e102
     have qi102 : (0 < l0.length) = True := eq_true (by omega)
     (try rw [show ((0 : Int)).toNat = 0 from rfl] at hx102_0)
     (try rw [show 0 * 3 = 0 from rfl] at hx102_0)
     (try rw [Addr.add_zero'] at hx102_0)
     (try rw [show ((0 : Int)).toNat = 0 from rfl] at hx102_1)
     (try rw [show 0 * 3 = 0 from rfl] at hx102_1)
     (try rw [Addr.add_zero'] at hx102_1)
     (try rw [show ((0 : Int)).toNat = 0 from rfl] at hx102_2)
     (try rw [show 0 * 3 = 0 from rfl] at hx102_2)
     (try rw [Addr.add_zero'] at hx102_2)
     replace p102 := eq_true p102
     replace q102 := eq_true q102
     go_enter Try.func45, Try.ntmps45
     go_wp2_with (first | (go_at_call 47; (with_reducible refine (dat_isFree.calls ((rd_T106 l0 0).f0) ((rd_T106 l0 0).f1) ((rd_T106 l0 0).f2) false _ A5.out).mono ?_); rintro e w10 ⟨rfl, hb⟩; have n0_ := Aside0.mk (below_step (by repeat (first | (with_reducible first | exact HB.out | apply below_alloc | apply pw_below_drewN | apply below_drew1) | exact HB.out)) hb); clear HB; have HB := n0_; clear n0_; (try clear hb); (try clear hb2); (try clear hk); (try clear hi)))
     go_ret
     exact ⟨by first | rfl | (simp [errW_none, errW_some] <;> rfl) | (simp [*, errW_none, errW_some] <;> rfl) | (simp [show IntKind.u64.wrap 0 = 0 from rfl, Int.zero_tdiv]; done), by repeat (first | (with_reducible first | exact HB.out | apply below_alloc | apply pw_below_drewN | apply below_drew1) | exact HB.out)⟩
   ·rw [if_neg c4] at H
    exact absurd H (by simp)

end Go.Proofs.Ythgefgjaihagoaa.Q
