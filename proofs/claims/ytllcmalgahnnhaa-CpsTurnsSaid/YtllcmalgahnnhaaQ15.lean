/- Functions of the translation as plain Lean functions, and that the translation computes them: printed by this session's driver of the print. -/
import Derived.Test.YtllcmalgahnnhaaQ0
import Derived.Test.YtllcmalgahnnhaaQ2
import Derived.Test.YtllcmalgahnnhaaQ4
import Derived.Test.YtllcmalgahnnhaaQ5
import Derived.Test.YtllcmalgahnnhaaQ9
import Derived.Test.YtllcmalgahnnhaaHCut
import Derived.Test.YtllcmalgahnnhaaHKept
namespace Go.Proofs.Ytllcmalgahnnhaa.Q
open Go.Proofs.Ytllcmalgahnnhaa.H
open Go.RowKit Go.Proofs.YtllcmalgahnnhaaW.PrintWords Go.Proofs.YtllcmalgahnnhaaW.PrintLast Go.Proofs.YtllcmalgahnnhaaW.PrintMore
attribute [local go_sem] max2_int min2_int max_two min_two max_three min_three max_four min_four   -- for this text's walks alone
set_option linter.unusedVariables false
set_option linter.unusedSimpArgs false

/-! ### nautiluslaw09_CpsTurns: function 5 -/
mutual
def nautiluslaw09_CpsTurns.j0 : Nat → List (S33) → Int → Int → Bool → Bool → Option (Bool)
  | 0, _, _, _, _, _ => none
  | k + 1, x0, x4, x5, x13, x74 => if x74 = true then (some false) else ((cps_Expire.f x0 x4 x5).bind fun bt331 => ((cps_Expire.f bt331.1 x4 x5).bind fun bt336 => ((cps_Numbers.f k x0).bind fun t341 => (nautiluslaw09_CpsTurns.l0 k x0 x13 bt331.1 bt331.2.2 bt336.1 bt336.2.1 bt336.2.2 t341 0))))
def nautiluslaw09_CpsTurns.l0 : Nat → List (S33) → Bool → List (S33) → Int → List (S33) → Int → Int → List Int → Int → Option (Bool)
  | 0, _, _, _, _, _, _, _, _, _ => none
  | k + 1, x0, x13, x20, x22, x23, x24, x25, x26, x27 => if x27 < (x26.length : Int) then (if 0 ≤ x27 then ((cps_Find.f k x0 (rd x26 x27)).bind fun bt345 => (if bt345.2.2.2.2 = 0 then (if bt345.1 = (rd x26 x27) then (if x27 > 0 then (if 0 ≤ (wrap64 (x27 - 1)) then (if (wrap64 (x27 - 1)) < (x26.length : Int) then (if (rd x26 (wrap64 (x27 - 1))) ≥ (rd x26 x27) then (some false) else (nautiluslaw09_CpsTurns.l0 k x0 x13 x20 x22 x23 x24 x25 x26 (wrap64 (x27 + 1)))) else (none)) else (none)) else (nautiluslaw09_CpsTurns.l0 k x0 x13 x20 x22 x23 x24 x25 x26 (wrap64 (x27 + 1)))) else (some false)) else (some false))) else (none)) else (if x13 = true then (if x22 = 0 then (if x25 = 0 then (if x24 = 0 then ((nautilusref09_Same.f k x20 x23).bind fun t354 => (if t354 = true then (some ((x26.length : Int) == (x0.length : Int))) else (some false))) else (some false)) else (some false)) else (some false)) else (some false))
end
def nautiluslaw09_CpsTurns.f (k : Nat) (l0 : List (S33)) (a1 : Int) (a2 : Bool) (a3 : Bool) (a4 : Int) (a5 : Int) : Option (Bool) := (nautiluslaw09_shown.f k).bind fun t312 => (if 0 ≤ (mn (l0.length : Int) 200) then (if (mn (l0.length : Int) 200) ≤ (l0.length : Int) then ((some (l0.take (mn (l0.length : Int) 200 : Int).toNat : List (S33))).bind fun y313 => ((cps_Right.f k y313).bind fun t317 => (if t317 = true then ((cps_Mark.f k y313 a1 a2).bind fun bt318 => ((cps_Mark.f k bt318.1 a1 a3).bind fun bt322 => ((cps_Mark.f k y313 a1 a3).bind fun bt326 => (if bt318.2 = bt326.2 then (if bt318.2 = 0 then (if bt322.2 = 0 then ((nautilusref09_Same.f k bt322.1 bt326.1).bind fun t330 => (nautiluslaw09_CpsTurns.j0 k y313 a4 a5 t312 (!t330))) else (nautiluslaw09_CpsTurns.j0 k y313 a4 a5 t312 true)) else (nautiluslaw09_CpsTurns.j0 k y313 a4 a5 t312 false)) else (nautiluslaw09_CpsTurns.j0 k y313 a4 a5 t312 true))))) else (some t312)))) else (none)) else (none))
theorem nautiluslaw09_CpsTurns.mono_l : ∀ k, (∀ y0 y1 y2 y3 y4, LeO (nautiluslaw09_CpsTurns.j0 k y0 y1 y2 y3 y4) (nautiluslaw09_CpsTurns.j0 (k + 1) y0 y1 y2 y3 y4)) ∧ (∀ y0 y1 y2 y3 y4 y5 y6 y7 y8, LeO (nautiluslaw09_CpsTurns.l0 k y0 y1 y2 y3 y4 y5 y6 y7 y8) (nautiluslaw09_CpsTurns.l0 (k + 1) y0 y1 y2 y3 y4 y5 y6 y7 y8))
  | 0 => ⟨fun _ _ _ _ _ r h => by simp [nautiluslaw09_CpsTurns.j0] at h, fun _ _ _ _ _ _ _ _ _ r h => by simp [nautiluslaw09_CpsTurns.l0] at h⟩
  | k + 1 => by
    obtain ⟨ih0, ih1⟩ := nautiluslaw09_CpsTurns.mono_l k
    refine ⟨?_, ?_⟩
    · intro y0 y1 y2 y3 y4
      unfold nautiluslaw09_CpsTurns.j0
      repeat' first
      | (with_reducible exact ih0 _ _ _ _ _)
      | (with_reducible exact ih1 _ _ _ _ _ _ _ _ _)
      | (with_reducible exact cps_Find.mono _ _ _)
      | (with_reducible exact cps_Mark.mono _ _ _ _)
      | (with_reducible exact cps_Numbers.mono _ _)
      | (with_reducible exact cps_Right.mono _ _)
      | (with_reducible exact nautiluslaw09_shown.mono _)
      | (with_reducible exact nautilusref09_Same.mono _ _ _)
      | (with_reducible exact LeO.refl _)
      | (with_reducible exact LeO.none _)
      | (with_reducible refine LeO.ite ?_ ?_)
      | (with_reducible refine LeO.bind ?_ (fun _ => ?_))
      | exact ih0 _ _ _ _ _
      | exact ih1 _ _ _ _ _ _ _ _ _
      | exact cps_Find.mono _ _ _
      | exact cps_Mark.mono _ _ _ _
      | exact cps_Numbers.mono _ _
      | exact cps_Right.mono _ _
      | exact nautiluslaw09_shown.mono _
      | exact nautilusref09_Same.mono _ _ _
      | exact LeO.none _
      | refine LeO.ite ?_ ?_
      | refine LeO.bind ?_ (fun _ => ?_)
    · intro y0 y1 y2 y3 y4 y5 y6 y7 y8
      unfold nautiluslaw09_CpsTurns.l0
      repeat' first
      | (with_reducible exact ih0 _ _ _ _ _)
      | (with_reducible exact ih1 _ _ _ _ _ _ _ _ _)
      | (with_reducible exact cps_Find.mono _ _ _)
      | (with_reducible exact cps_Mark.mono _ _ _ _)
      | (with_reducible exact cps_Numbers.mono _ _)
      | (with_reducible exact cps_Right.mono _ _)
      | (with_reducible exact nautiluslaw09_shown.mono _)
      | (with_reducible exact nautilusref09_Same.mono _ _ _)
      | (with_reducible exact LeO.refl _)
      | (with_reducible exact LeO.none _)
      | (with_reducible refine LeO.ite ?_ ?_)
      | (with_reducible refine LeO.bind ?_ (fun _ => ?_))
      | exact ih0 _ _ _ _ _
      | exact ih1 _ _ _ _ _ _ _ _ _
      | exact cps_Find.mono _ _ _
      | exact cps_Mark.mono _ _ _ _
      | exact cps_Numbers.mono _ _
      | exact cps_Right.mono _ _
      | exact nautiluslaw09_shown.mono _
      | exact nautilusref09_Same.mono _ _ _
      | exact LeO.none _
      | refine LeO.ite ?_ ?_
      | refine LeO.bind ?_ (fun _ => ?_)
theorem nautiluslaw09_CpsTurns.mono : ∀ a0 a1 a2 a3 a4 a5 k, LeO (nautiluslaw09_CpsTurns.f k a0 a1 a2 a3 a4 a5) (nautiluslaw09_CpsTurns.f (k + 1) a0 a1 a2 a3 a4 a5) := by
  intro a0 a1 a2 a3 a4 a5 k
  obtain ⟨ih0, ih1⟩ := nautiluslaw09_CpsTurns.mono_l k
  unfold nautiluslaw09_CpsTurns.f
  repeat' first
      | (with_reducible exact ih0 _ _ _ _ _)
      | (with_reducible exact ih1 _ _ _ _ _ _ _ _ _)
      | (with_reducible exact cps_Find.mono _ _ _)
      | (with_reducible exact cps_Mark.mono _ _ _ _)
      | (with_reducible exact cps_Numbers.mono _ _)
      | (with_reducible exact cps_Right.mono _ _)
      | (with_reducible exact nautiluslaw09_shown.mono _)
      | (with_reducible exact nautilusref09_Same.mono _ _ _)
      | (with_reducible exact LeO.refl _)
      | (with_reducible exact LeO.none _)
      | (with_reducible refine LeO.ite ?_ ?_)
      | (with_reducible refine LeO.bind ?_ (fun _ => ?_))
      | exact ih0 _ _ _ _ _
      | exact ih1 _ _ _ _ _ _ _ _ _
      | exact cps_Find.mono _ _ _
      | exact cps_Mark.mono _ _ _ _
      | exact cps_Numbers.mono _ _
      | exact cps_Right.mono _ _
      | exact nautiluslaw09_shown.mono _
      | exact nautilusref09_Same.mono _ _ _
      | exact LeO.none _
      | refine LeO.ite ?_ ?_
      | refine LeO.bind ?_ (fun _ => ?_)
set_option maxHeartbeats 8000000 in
set_option maxRecDepth 100000 in
theorem nautiluslaw09_CpsTurns.calls (k : Nat) (A0 : Option Addr) (c0 : Nat) (l0 : List (S33)) (a1 : Int) (a2 : Bool) (a3 : Bool) (a4 : Int) (a5 : Int) (r : Bool) (w : World) (hr0 : Kd.C k33 w A0 l0.length l0) (hc0 : l0.length ≤ c0) (h : nautiluslaw09_CpsTurns.f k l0 a1 a2 a3 a4 a5 = some r) :
    Calls Try.prog 5 #[.slice A0 l0.length c0, .int .u64 a1, .bool a2, .bool a3, .int .u64 a4, .int .u64 a5] w fun e w' => e = .returned (.bool r) ∧ Below w.heap.size w w' := by
  have hu33 := Try.underlying33
  have HR0 := Aside0.mk hr0
  have HC0 := Aside0.mk hc0
  clear hr0 hc0
  have HB := Aside0.mk (Below.refl w.heap.size w)
  have H : ((nautiluslaw09_shown.f k).bind fun t312 => (if 0 ≤ (mn (l0.length : Int) 200) then (if (mn (l0.length : Int) 200) ≤ (l0.length : Int) then ((some (l0.take (mn (l0.length : Int) 200 : Int).toNat : List (S33))).bind fun y313 => ((cps_Right.f k y313).bind fun t317 => (if t317 = true then ((cps_Mark.f k y313 a1 a2).bind fun bt318 => ((cps_Mark.f k bt318.1 a1 a3).bind fun bt322 => ((cps_Mark.f k y313 a1 a3).bind fun bt326 => (if bt318.2 = bt326.2 then (if bt318.2 = 0 then (if bt322.2 = 0 then ((nautilusref09_Same.f k bt322.1 bt326.1).bind fun t330 => (nautiluslaw09_CpsTurns.j0 k y313 a4 a5 t312 (!t330))) else (nautiluslaw09_CpsTurns.j0 k y313 a4 a5 t312 true)) else (nautiluslaw09_CpsTurns.j0 k y313 a4 a5 t312 false)) else (nautiluslaw09_CpsTurns.j0 k y313 a4 a5 t312 true))))) else (some t312)))) else (none)) else (none))) = some r := h
  clear h
  replace H := Option.bind_eq_some_iff.mp H
  obtain ⟨t312, A70, H⟩ := H
  replace H : (if 0 ≤ (mn (l0.length : Int) 200) then (if (mn (l0.length : Int) 200) ≤ (l0.length : Int) then ((some (l0.take (mn (l0.length : Int) 200 : Int).toNat : List (S33))).bind fun y313 => ((cps_Right.f k y313).bind fun t317 => (if t317 = true then ((cps_Mark.f k y313 a1 a2).bind fun bt318 => ((cps_Mark.f k bt318.1 a1 a3).bind fun bt322 => ((cps_Mark.f k y313 a1 a3).bind fun bt326 => (if bt318.2 = bt326.2 then (if bt318.2 = 0 then (if bt322.2 = 0 then ((nautilusref09_Same.f k bt322.1 bt326.1).bind fun t330 => (nautiluslaw09_CpsTurns.j0 k y313 a4 a5 t312 (!t330))) else (nautiluslaw09_CpsTurns.j0 k y313 a4 a5 t312 true)) else (nautiluslaw09_CpsTurns.j0 k y313 a4 a5 t312 false)) else (nautiluslaw09_CpsTurns.j0 k y313 a4 a5 t312 true))))) else (some t312)))) else (none)) else (none)) = some r := H
  have A7 := Aside0.mk A70
  clear A70
  by_cases c8 : 0 ≤ (mn (l0.length : Int) 200)
  · rw [if_pos c8] at H
    have c8b0 := eq_true c8
    have c8b1 : decide (0 ≤ (mn (l0.length : Int) 200)) = true := decide_eq_true c8
    clear c8
    by_cases c9 : (mn (l0.length : Int) 200) ≤ (l0.length : Int)
    · rw [if_pos c9] at H
      have c9b0 := eq_true c9
      have c9b1 : decide ((mn (l0.length : Int) 200) ≤ (l0.length : Int)) = true := decide_eq_true c9
      clear c9
      obtain ⟨y313, hy313⟩ : ∃ y_ : List (S33), y_ = (l0.take (mn (l0.length : Int) 200 : Int).toNat) := ⟨_, rfl⟩
      replace H : ((cps_Right.f k y313).bind fun t317 => (if t317 = true then ((cps_Mark.f k y313 a1 a2).bind fun bt318 => ((cps_Mark.f k bt318.1 a1 a3).bind fun bt322 => ((cps_Mark.f k y313 a1 a3).bind fun bt326 => (if bt318.2 = bt326.2 then (if bt318.2 = 0 then (if bt322.2 = 0 then ((nautilusref09_Same.f k bt322.1 bt326.1).bind fun t330 => (nautiluslaw09_CpsTurns.j0 k y313 a4 a5 t312 (!t330))) else (nautiluslaw09_CpsTurns.j0 k y313 a4 a5 t312 true)) else (nautiluslaw09_CpsTurns.j0 k y313 a4 a5 t312 false)) else (nautiluslaw09_CpsTurns.j0 k y313 a4 a5 t312 true))))) else (some t312))) = some r := by first | (rw [hy313]; with_reducible exact H) | (have H2_ := (Option.bind_some _ _).symm.trans H; rw [hy313]; with_reducible exact H2_) | (have H2_ := (Option.bind_some _ _).symm.trans H; with_reducible exact H2_) | with_reducible exact H | (rw [hy313]; exact H) | exact H
      have Ny313 := Aside0.mk hy313
      clear hy313
      replace H := Option.bind_eq_some_iff.mp H
      obtain ⟨t317, A100, H⟩ := H
      replace H : (if t317 = true then ((cps_Mark.f k y313 a1 a2).bind fun bt318 => ((cps_Mark.f k bt318.1 a1 a3).bind fun bt322 => ((cps_Mark.f k y313 a1 a3).bind fun bt326 => (if bt318.2 = bt326.2 then (if bt318.2 = 0 then (if bt322.2 = 0 then ((nautilusref09_Same.f k bt322.1 bt326.1).bind fun t330 => (nautiluslaw09_CpsTurns.j0 k y313 a4 a5 t312 (!t330))) else (nautiluslaw09_CpsTurns.j0 k y313 a4 a5 t312 true)) else (nautiluslaw09_CpsTurns.j0 k y313 a4 a5 t312 false)) else (nautiluslaw09_CpsTurns.j0 k y313 a4 a5 t312 true))))) else (some t312)) = some r := H
      have A10 := Aside0.mk A100
      clear A100
      by_cases c11 : t317 = true
      · subst c11
        have H1 : ((cps_Mark.f k y313 a1 a2).bind fun bt318 => ((cps_Mark.f k bt318.1 a1 a3).bind fun bt322 => ((cps_Mark.f k y313 a1 a3).bind fun bt326 => (if bt318.2 = bt326.2 then (if bt318.2 = 0 then (if bt322.2 = 0 then ((nautilusref09_Same.f k bt322.1 bt326.1).bind fun t330 => (nautiluslaw09_CpsTurns.j0 k y313 a4 a5 t312 (!t330))) else (nautiluslaw09_CpsTurns.j0 k y313 a4 a5 t312 true)) else (nautiluslaw09_CpsTurns.j0 k y313 a4 a5 t312 false)) else (nautiluslaw09_CpsTurns.j0 k y313 a4 a5 t312 true))))) = some r := by rw [if_pos rfl] at H; exact H
        clear H
        have H := H1
        clear H1
        replace H := Option.bind_eq_some_iff.mp H
        obtain ⟨⟨t318, t319⟩, A120, H⟩ := H
        replace H : ((cps_Mark.f k t318 a1 a3).bind fun bt322 => ((cps_Mark.f k y313 a1 a3).bind fun bt326 => (if t319 = bt326.2 then (if t319 = 0 then (if bt322.2 = 0 then ((nautilusref09_Same.f k bt322.1 bt326.1).bind fun t330 => (nautiluslaw09_CpsTurns.j0 k y313 a4 a5 t312 (!t330))) else (nautiluslaw09_CpsTurns.j0 k y313 a4 a5 t312 true)) else (nautiluslaw09_CpsTurns.j0 k y313 a4 a5 t312 false)) else (nautiluslaw09_CpsTurns.j0 k y313 a4 a5 t312 true)))) = some r := H
        have A12 := Aside0.mk A120
        clear A120
        replace H := Option.bind_eq_some_iff.mp H
        obtain ⟨⟨t322, t323⟩, A130, H⟩ := H
        replace H : ((cps_Mark.f k y313 a1 a3).bind fun bt326 => (if t319 = bt326.2 then (if t319 = 0 then (if t323 = 0 then ((nautilusref09_Same.f k t322 bt326.1).bind fun t330 => (nautiluslaw09_CpsTurns.j0 k y313 a4 a5 t312 (!t330))) else (nautiluslaw09_CpsTurns.j0 k y313 a4 a5 t312 true)) else (nautiluslaw09_CpsTurns.j0 k y313 a4 a5 t312 false)) else (nautiluslaw09_CpsTurns.j0 k y313 a4 a5 t312 true))) = some r := H
        have A13 := Aside0.mk A130
        clear A130
        replace H := Option.bind_eq_some_iff.mp H
        obtain ⟨⟨t326, t327⟩, A140, H⟩ := H
        replace H : (if t319 = t327 then (if t319 = 0 then (if t323 = 0 then ((nautilusref09_Same.f k t322 t326).bind fun t330 => (nautiluslaw09_CpsTurns.j0 k y313 a4 a5 t312 (!t330))) else (nautiluslaw09_CpsTurns.j0 k y313 a4 a5 t312 true)) else (nautiluslaw09_CpsTurns.j0 k y313 a4 a5 t312 false)) else (nautiluslaw09_CpsTurns.j0 k y313 a4 a5 t312 true)) = some r := H
        have A14 := Aside0.mk A140
        clear A140
        have HC15 := Aside0.mk H
        clear H
        go_enter Try.func5, Try.ntmps5
        go_upto_region 8 with (first | (go_at_call 11; (with_reducible refine (nautiluslaw09_shown.calls k  t312 _ A7.out).mono ?_); rintro e w16 ⟨rfl, hb⟩; have n0_ := Aside0.mk (below_step (by repeat (first | (with_reducible first | exact HB.out | apply below_alloc | apply pw_below_drewN | apply below_drew1) | exact HB.out)) hb); clear HB; have HB := n0_; clear n0_; (try clear hb); (try clear hb2); (try clear hk); (try clear hi); have q17 : ((mn (l0.length : Int) 200) : Int) ≤ ((l0.length : Int) : Int) := of_decide_eq_true (by first | (with_reducible assumption) | assumption); obtain ⟨i017, hi017, _, hsz17, _⟩ := info_parts info33; have hroom17 : l0.length ≤ c0 := HC0.out; have hC17 : Kd.C k33 _ A0 l0.length l0 := HR0.out; have hcut17 := cut_to (P := Try.prog) 22 33 .i64 Try.underlying22 hi017 A0 l0.length c0 (mn (l0.length : Int) 200) (of_decide_eq_true (by first | (with_reducible assumption) | assumption)) q17 hroom17; have hr17 := Kd.C_take (m := ((mn (l0.length : Int) 200) : Int).toNat) hC17 (by omega); have hy17 : y313.length = ((mn (l0.length : Int) 200) : Int).toNat := (by rw [Ny313.out, List.length_take]; omega); rw [← Ny313.out] at hr17; rw [← hy17] at hcut17; have HR316 := Aside0.mk hr17; have HC316 := Aside0.mk (show y313.length ≤ c0 from by omega); clear hr17 hC17 hroom17 hi017 hsz17; have KY17 := Aside0.mk hy17; clear hy17; clear hcut17; replace q17 := eq_true q17) | ((with_reducible refine gate_callee (f := 12) rfl ?_); refine goesL_ (some 32) rfl rfl Try.func12 (by kernel_rfl) rfl #[.slice A0 l0.length c0] rfl (by (try simp only [List.map_toArray, List.map_cons, List.map_nil]); first | done | rfl | (simp only [List.length_drop, List.length_take]; rfl)) ?_; (refine (nautiluslaw09_cut.calls A0 l0.length c0 y313.length _ ?side1 ?side2 ?side3).mono ?_); (case side1 => exact Kd.C_max HR0.out); (case side2 => exact HC0.out); (case side3 => exact KY17.out); rintro e w' ⟨rfl, rfl⟩; refine ⟨_, rfl, ?_⟩) | (go_at_call 14; (with_reducible refine (cps_Right.calls k _ _ y313 true _ ?side1 ?side2 A10.out).mono ?_); (case side1 => repeat (first | exact (Kd.C_below HR316.out HB.out) | (with_reducible refine Kd.C_alloc ?_ _) | (with_reducible refine Kd.C_drewN ?_ _) | (with_reducible refine Kd.C_drew ?_))); (case side2 => exact HC316.out); rintro e w18 ⟨rfl, hb⟩; have n0_ := Aside0.mk (below_step (by repeat (first | (with_reducible first | exact HB.out | apply below_alloc | apply pw_below_drewN | apply below_drew1) | exact HB.out)) hb); clear HB; have HB := n0_; clear n0_; (try clear hb); (try clear hb2); (try clear hk); (try clear hi)) | (go_at_call 17; (with_reducible refine (cps_Mark.calls k _ _ y313 a1 a2 t318 t319 _ ?side1 ?side2 A12.out).mono ?_); (case side1 => repeat (first | exact (Kd.C_below HR316.out HB.out) | (with_reducible refine Kd.C_alloc ?_ _) | (with_reducible refine Kd.C_drewN ?_ _) | (with_reducible refine Kd.C_drew ?_))); (case side2 => exact HC316.out); rintro e w19 ⟨v320, rfl, ho0, hb⟩; have n0_ := Aside0.mk (Kd.R_lower ho0 (below_size (by repeat (first | (with_reducible first | exact HB.out | apply below_alloc | apply pw_below_drewN | apply below_drew1) | exact HB.out)))); have n1_ := Aside0.mk (below_step (by repeat (first | (with_reducible first | exact HB.out | apply below_alloc | apply pw_below_drewN | apply below_drew1) | exact HB.out)) hb); clear HB; have HO321 := n0_; have HB := n1_; clear n0_ n1_; (try clear hb); (try clear hb2); (try clear hk); (try clear hi); (try clear ho0); obtain ⟨Ao20, co20, eo20⟩ := Kd.R_slice HO321.out; subst eo20) | (go_at_call 17; (with_reducible refine (cps_Mark.calls k _ _ t318 a1 a3 t322 t323 _ ?side1 ?side2 A13.out).mono ?_); (case side1 => repeat (first | exact (Kd.R_reads' HO321.out).2.2 | (with_reducible refine Kd.C_alloc ?_ _) | (with_reducible refine Kd.C_drewN ?_ _) | (with_reducible refine Kd.C_drew ?_))); (case side2 => exact (Kd.R_reads' HO321.out).2.1); rintro e w21 ⟨v324, rfl, ho0, hb⟩; have n0_ := Aside0.mk (Kd.R_elder' (by (with_reducible repeat (first | apply Kd.R_alloc | apply Kd.R_drewN | apply Kd.R_drew)); exact HO321.out) (Kd.R_base ho0) hb); have n1_ := Aside0.mk (Kd.R_lower (Kd.R_new' ho0 (Kd.R_lt (by (with_reducible repeat (first | apply Kd.R_alloc | apply Kd.R_drewN | apply Kd.R_drew)); exact HO321.out))) (below_size (by repeat (first | (with_reducible first | exact HB.out | apply below_alloc | apply pw_below_drewN | apply below_drew1) | exact HB.out)))); have n2_ := Aside0.mk (below_step (by repeat (first | (with_reducible first | exact HB.out | apply below_alloc | apply pw_below_drewN | apply below_drew1) | exact HB.out)) hb); clear HO321; clear HB; have HO321 := n0_; have HO325 := n1_; have HB := n2_; clear n0_ n1_ n2_; (try clear hb); (try clear hb2); (try clear hk); (try clear hi); (try clear ho0)) | (go_at_call 17; (with_reducible refine (cps_Mark.calls k _ _ y313 a1 a3 t326 t327 _ ?side1 ?side2 A14.out).mono ?_); (case side1 => repeat (first | exact (Kd.C_below HR316.out HB.out) | (with_reducible refine Kd.C_alloc ?_ _) | (with_reducible refine Kd.C_drewN ?_ _) | (with_reducible refine Kd.C_drew ?_))); (case side2 => exact HC316.out); rintro e w22 ⟨v328, rfl, ho0, hb⟩; have n0_ := Aside0.mk (Kd.R_elder' (by (with_reducible repeat (first | apply Kd.R_alloc | apply Kd.R_drewN | apply Kd.R_drew)); exact HO321.out) (Kd.R_base ho0) hb); have n1_ := Aside0.mk (Kd.R_elder' (by (with_reducible repeat (first | apply Kd.R_alloc | apply Kd.R_drewN | apply Kd.R_drew)); exact HO325.out) (Kd.R_base ho0) hb); have n2_ := Aside0.mk (Kd.R_lower (Kd.R_new' (Kd.R_new' ho0 (Kd.R_lt (by (with_reducible repeat (first | apply Kd.R_alloc | apply Kd.R_drewN | apply Kd.R_drew)); exact HO321.out))) (Kd.R_lt (by (with_reducible repeat (first | apply Kd.R_alloc | apply Kd.R_drewN | apply Kd.R_drew)); exact HO325.out))) (below_size (by repeat (first | (with_reducible first | exact HB.out | apply below_alloc | apply pw_below_drewN | apply below_drew1) | exact HB.out)))); have n3_ := Aside0.mk (below_step (by repeat (first | (with_reducible first | exact HB.out | apply below_alloc | apply pw_below_drewN | apply below_drew1) | exact HB.out)) hb); clear HO321; clear HO325; clear HB; have HO321 := n0_; have HO325 := n1_; have HO329 := n2_; have HB := n3_; clear n0_ n1_ n2_ n3_; (try clear hb); (try clear hb2); (try clear hk); (try clear hi); (try clear ho0)))
        repeat (go_quiet (first | (go_at_call 11; (with_reducible refine (nautiluslaw09_shown.calls k  t312 _ A7.out).mono ?_); rintro e w16 ⟨rfl, hb⟩; have n0_ := Aside0.mk (below_step (by repeat (first | (with_reducible first | exact HB.out | apply below_alloc | apply pw_below_drewN | apply below_drew1) | exact HB.out)) hb); clear HB; have HB := n0_; clear n0_; (try clear hb); (try clear hb2); (try clear hk); (try clear hi); have q17 : ((mn (l0.length : Int) 200) : Int) ≤ ((l0.length : Int) : Int) := of_decide_eq_true (by first | (with_reducible assumption) | assumption); obtain ⟨i017, hi017, _, hsz17, _⟩ := info_parts info33; have hroom17 : l0.length ≤ c0 := HC0.out; have hC17 : Kd.C k33 _ A0 l0.length l0 := HR0.out; have hcut17 := cut_to (P := Try.prog) 22 33 .i64 Try.underlying22 hi017 A0 l0.length c0 (mn (l0.length : Int) 200) (of_decide_eq_true (by first | (with_reducible assumption) | assumption)) q17 hroom17; have hr17 := Kd.C_take (m := ((mn (l0.length : Int) 200) : Int).toNat) hC17 (by omega); have hy17 : y313.length = ((mn (l0.length : Int) 200) : Int).toNat := (by rw [Ny313.out, List.length_take]; omega); rw [← Ny313.out] at hr17; rw [← hy17] at hcut17; have HR316 := Aside0.mk hr17; have HC316 := Aside0.mk (show y313.length ≤ c0 from by omega); clear hr17 hC17 hroom17 hi017 hsz17; have KY17 := Aside0.mk hy17; clear hy17; clear hcut17; replace q17 := eq_true q17) | ((with_reducible refine gate_callee (f := 12) rfl ?_); refine goesL_ (some 32) rfl rfl Try.func12 (by kernel_rfl) rfl #[.slice A0 l0.length c0] rfl (by (try simp only [List.map_toArray, List.map_cons, List.map_nil]); first | done | rfl | (simp only [List.length_drop, List.length_take]; rfl)) ?_; (refine (nautiluslaw09_cut.calls A0 l0.length c0 y313.length _ ?side1 ?side2 ?side3).mono ?_); (case side1 => exact Kd.C_max HR0.out); (case side2 => exact HC0.out); (case side3 => exact KY17.out); rintro e w' ⟨rfl, rfl⟩; refine ⟨_, rfl, ?_⟩) | (go_at_call 14; (with_reducible refine (cps_Right.calls k _ _ y313 true _ ?side1 ?side2 A10.out).mono ?_); (case side1 => repeat (first | exact (Kd.C_below HR316.out HB.out) | (with_reducible refine Kd.C_alloc ?_ _) | (with_reducible refine Kd.C_drewN ?_ _) | (with_reducible refine Kd.C_drew ?_))); (case side2 => exact HC316.out); rintro e w18 ⟨rfl, hb⟩; have n0_ := Aside0.mk (below_step (by repeat (first | (with_reducible first | exact HB.out | apply below_alloc | apply pw_below_drewN | apply below_drew1) | exact HB.out)) hb); clear HB; have HB := n0_; clear n0_; (try clear hb); (try clear hb2); (try clear hk); (try clear hi)) | (go_at_call 17; (with_reducible refine (cps_Mark.calls k _ _ y313 a1 a2 t318 t319 _ ?side1 ?side2 A12.out).mono ?_); (case side1 => repeat (first | exact (Kd.C_below HR316.out HB.out) | (with_reducible refine Kd.C_alloc ?_ _) | (with_reducible refine Kd.C_drewN ?_ _) | (with_reducible refine Kd.C_drew ?_))); (case side2 => exact HC316.out); rintro e w19 ⟨v320, rfl, ho0, hb⟩; have n0_ := Aside0.mk (Kd.R_lower ho0 (below_size (by repeat (first | (with_reducible first | exact HB.out | apply below_alloc | apply pw_below_drewN | apply below_drew1) | exact HB.out)))); have n1_ := Aside0.mk (below_step (by repeat (first | (with_reducible first | exact HB.out | apply below_alloc | apply pw_below_drewN | apply below_drew1) | exact HB.out)) hb); clear HB; have HO321 := n0_; have HB := n1_; clear n0_ n1_; (try clear hb); (try clear hb2); (try clear hk); (try clear hi); (try clear ho0); obtain ⟨Ao20, co20, eo20⟩ := Kd.R_slice HO321.out; subst eo20) | (go_at_call 17; (with_reducible refine (cps_Mark.calls k _ _ t318 a1 a3 t322 t323 _ ?side1 ?side2 A13.out).mono ?_); (case side1 => repeat (first | exact (Kd.R_reads' HO321.out).2.2 | (with_reducible refine Kd.C_alloc ?_ _) | (with_reducible refine Kd.C_drewN ?_ _) | (with_reducible refine Kd.C_drew ?_))); (case side2 => exact (Kd.R_reads' HO321.out).2.1); rintro e w21 ⟨v324, rfl, ho0, hb⟩; have n0_ := Aside0.mk (Kd.R_elder' (by (with_reducible repeat (first | apply Kd.R_alloc | apply Kd.R_drewN | apply Kd.R_drew)); exact HO321.out) (Kd.R_base ho0) hb); have n1_ := Aside0.mk (Kd.R_lower (Kd.R_new' ho0 (Kd.R_lt (by (with_reducible repeat (first | apply Kd.R_alloc | apply Kd.R_drewN | apply Kd.R_drew)); exact HO321.out))) (below_size (by repeat (first | (with_reducible first | exact HB.out | apply below_alloc | apply pw_below_drewN | apply below_drew1) | exact HB.out)))); have n2_ := Aside0.mk (below_step (by repeat (first | (with_reducible first | exact HB.out | apply below_alloc | apply pw_below_drewN | apply below_drew1) | exact HB.out)) hb); clear HO321; clear HB; have HO321 := n0_; have HO325 := n1_; have HB := n2_; clear n0_ n1_ n2_; (try clear hb); (try clear hb2); (try clear hk); (try clear hi); (try clear ho0)) | (go_at_call 17; (with_reducible refine (cps_Mark.calls k _ _ y313 a1 a3 t326 t327 _ ?side1 ?side2 A14.out).mono ?_); (case side1 => repeat (first | exact (Kd.C_below HR316.out HB.out) | (with_reducible refine Kd.C_alloc ?_ _) | (with_reducible refine Kd.C_drewN ?_ _) | (with_reducible refine Kd.C_drew ?_))); (case side2 => exact HC316.out); rintro e w22 ⟨v328, rfl, ho0, hb⟩; have n0_ := Aside0.mk (Kd.R_elder' (by (with_reducible repeat (first | apply Kd.R_alloc | apply Kd.R_drewN | apply Kd.R_drew)); exact HO321.out) (Kd.R_base ho0) hb); have n1_ := Aside0.mk (Kd.R_elder' (by (with_reducible repeat (first | apply Kd.R_alloc | apply Kd.R_drewN | apply Kd.R_drew)); exact HO325.out) (Kd.R_base ho0) hb); have n2_ := Aside0.mk (Kd.R_lower (Kd.R_new' (Kd.R_new' ho0 (Kd.R_lt (by (with_reducible repeat (first | apply Kd.R_alloc | apply Kd.R_drewN | apply Kd.R_drew)); exact HO321.out))) (Kd.R_lt (by (with_reducible repeat (first | apply Kd.R_alloc | apply Kd.R_drewN | apply Kd.R_drew)); exact HO325.out))) (below_size (by repeat (first | (with_reducible first | exact HB.out | apply below_alloc | apply pw_below_drewN | apply below_drew1) | exact HB.out)))); have n3_ := Aside0.mk (below_step (by repeat (first | (with_reducible first | exact HB.out | apply below_alloc | apply pw_below_drewN | apply below_drew1) | exact HB.out)) hb); clear HO321; clear HO325; clear HB; have HO321 := n0_; have HO325 := n1_; have HO329 := n2_; have HB := n3_; clear n0_ n1_ n2_ n3_; (try clear hb); (try clear hb2); (try clear hk); (try clear hi); (try clear ho0))); go_upto_region 8 with (first | (go_at_call 11; (with_reducible refine (nautiluslaw09_shown.calls k  t312 _ A7.out).mono ?_); rintro e w16 ⟨rfl, hb⟩; have n0_ := Aside0.mk (below_step (by repeat (first | (with_reducible first | exact HB.out | apply below_alloc | apply pw_below_drewN | apply below_drew1) | exact HB.out)) hb); clear HB; have HB := n0_; clear n0_; (try clear hb); (try clear hb2); (try clear hk); (try clear hi); have q17 : ((mn (l0.length : Int) 200) : Int) ≤ ((l0.length : Int) : Int) := of_decide_eq_true (by first | (with_reducible assumption) | assumption); obtain ⟨i017, hi017, _, hsz17, _⟩ := info_parts info33; have hroom17 : l0.length ≤ c0 := HC0.out; have hC17 : Kd.C k33 _ A0 l0.length l0 := HR0.out; have hcut17 := cut_to (P := Try.prog) 22 33 .i64 Try.underlying22 hi017 A0 l0.length c0 (mn (l0.length : Int) 200) (of_decide_eq_true (by first | (with_reducible assumption) | assumption)) q17 hroom17; have hr17 := Kd.C_take (m := ((mn (l0.length : Int) 200) : Int).toNat) hC17 (by omega); have hy17 : y313.length = ((mn (l0.length : Int) 200) : Int).toNat := (by rw [Ny313.out, List.length_take]; omega); rw [← Ny313.out] at hr17; rw [← hy17] at hcut17; have HR316 := Aside0.mk hr17; have HC316 := Aside0.mk (show y313.length ≤ c0 from by omega); clear hr17 hC17 hroom17 hi017 hsz17; have KY17 := Aside0.mk hy17; clear hy17; clear hcut17; replace q17 := eq_true q17) | ((with_reducible refine gate_callee (f := 12) rfl ?_); refine goesL_ (some 32) rfl rfl Try.func12 (by kernel_rfl) rfl #[.slice A0 l0.length c0] rfl (by (try simp only [List.map_toArray, List.map_cons, List.map_nil]); first | done | rfl | (simp only [List.length_drop, List.length_take]; rfl)) ?_; (refine (nautiluslaw09_cut.calls A0 l0.length c0 y313.length _ ?side1 ?side2 ?side3).mono ?_); (case side1 => exact Kd.C_max HR0.out); (case side2 => exact HC0.out); (case side3 => exact KY17.out); rintro e w' ⟨rfl, rfl⟩; refine ⟨_, rfl, ?_⟩) | (go_at_call 14; (with_reducible refine (cps_Right.calls k _ _ y313 true _ ?side1 ?side2 A10.out).mono ?_); (case side1 => repeat (first | exact (Kd.C_below HR316.out HB.out) | (with_reducible refine Kd.C_alloc ?_ _) | (with_reducible refine Kd.C_drewN ?_ _) | (with_reducible refine Kd.C_drew ?_))); (case side2 => exact HC316.out); rintro e w18 ⟨rfl, hb⟩; have n0_ := Aside0.mk (below_step (by repeat (first | (with_reducible first | exact HB.out | apply below_alloc | apply pw_below_drewN | apply below_drew1) | exact HB.out)) hb); clear HB; have HB := n0_; clear n0_; (try clear hb); (try clear hb2); (try clear hk); (try clear hi)) | (go_at_call 17; (with_reducible refine (cps_Mark.calls k _ _ y313 a1 a2 t318 t319 _ ?side1 ?side2 A12.out).mono ?_); (case side1 => repeat (first | exact (Kd.C_below HR316.out HB.out) | (with_reducible refine Kd.C_alloc ?_ _) | (with_reducible refine Kd.C_drewN ?_ _) | (with_reducible refine Kd.C_drew ?_))); (case side2 => exact HC316.out); rintro e w19 ⟨v320, rfl, ho0, hb⟩; have n0_ := Aside0.mk (Kd.R_lower ho0 (below_size (by repeat (first | (with_reducible first | exact HB.out | apply below_alloc | apply pw_below_drewN | apply below_drew1) | exact HB.out)))); have n1_ := Aside0.mk (below_step (by repeat (first | (with_reducible first | exact HB.out | apply below_alloc | apply pw_below_drewN | apply below_drew1) | exact HB.out)) hb); clear HB; have HO321 := n0_; have HB := n1_; clear n0_ n1_; (try clear hb); (try clear hb2); (try clear hk); (try clear hi); (try clear ho0); obtain ⟨Ao20, co20, eo20⟩ := Kd.R_slice HO321.out; subst eo20) | (go_at_call 17; (with_reducible refine (cps_Mark.calls k _ _ t318 a1 a3 t322 t323 _ ?side1 ?side2 A13.out).mono ?_); (case side1 => repeat (first | exact (Kd.R_reads' HO321.out).2.2 | (with_reducible refine Kd.C_alloc ?_ _) | (with_reducible refine Kd.C_drewN ?_ _) | (with_reducible refine Kd.C_drew ?_))); (case side2 => exact (Kd.R_reads' HO321.out).2.1); rintro e w21 ⟨v324, rfl, ho0, hb⟩; have n0_ := Aside0.mk (Kd.R_elder' (by (with_reducible repeat (first | apply Kd.R_alloc | apply Kd.R_drewN | apply Kd.R_drew)); exact HO321.out) (Kd.R_base ho0) hb); have n1_ := Aside0.mk (Kd.R_lower (Kd.R_new' ho0 (Kd.R_lt (by (with_reducible repeat (first | apply Kd.R_alloc | apply Kd.R_drewN | apply Kd.R_drew)); exact HO321.out))) (below_size (by repeat (first | (with_reducible first | exact HB.out | apply below_alloc | apply pw_below_drewN | apply below_drew1) | exact HB.out)))); have n2_ := Aside0.mk (below_step (by repeat (first | (with_reducible first | exact HB.out | apply below_alloc | apply pw_below_drewN | apply below_drew1) | exact HB.out)) hb); clear HO321; clear HB; have HO321 := n0_; have HO325 := n1_; have HB := n2_; clear n0_ n1_ n2_; (try clear hb); (try clear hb2); (try clear hk); (try clear hi); (try clear ho0)) | (go_at_call 17; (with_reducible refine (cps_Mark.calls k _ _ y313 a1 a3 t326 t327 _ ?side1 ?side2 A14.out).mono ?_); (case side1 => repeat (first | exact (Kd.C_below HR316.out HB.out) | (with_reducible refine Kd.C_alloc ?_ _) | (with_reducible refine Kd.C_drewN ?_ _) | (with_reducible refine Kd.C_drew ?_))); (case side2 => exact HC316.out); rintro e w22 ⟨v328, rfl, ho0, hb⟩; have n0_ := Aside0.mk (Kd.R_elder' (by (with_reducible repeat (first | apply Kd.R_alloc | apply Kd.R_drewN | apply Kd.R_drew)); exact HO321.out) (Kd.R_base ho0) hb); have n1_ := Aside0.mk (Kd.R_elder' (by (with_reducible repeat (first | apply Kd.R_alloc | apply Kd.R_drewN | apply Kd.R_drew)); exact HO325.out) (Kd.R_base ho0) hb); have n2_ := Aside0.mk (Kd.R_lower (Kd.R_new' (Kd.R_new' ho0 (Kd.R_lt (by (with_reducible repeat (first | apply Kd.R_alloc | apply Kd.R_drewN | apply Kd.R_drew)); exact HO321.out))) (Kd.R_lt (by (with_reducible repeat (first | apply Kd.R_alloc | apply Kd.R_drewN | apply Kd.R_drew)); exact HO325.out))) (below_size (by repeat (first | (with_reducible first | exact HB.out | apply below_alloc | apply pw_below_drewN | apply below_drew1) | exact HB.out)))); have n3_ := Aside0.mk (below_step (by repeat (first | (with_reducible first | exact HB.out | apply below_alloc | apply pw_below_drewN | apply below_drew1) | exact HB.out)) hb); clear HO321; clear HO325; clear HB; have HO321 := n0_; have HO325 := n1_; have HO329 := n2_; have HB := n3_; clear n0_ n1_ n2_ n3_; (try clear hb); (try clear hb2); (try clear hk); (try clear hi); (try clear ho0))))
        (try simp only [Act.put, List.setIfInBounds_toArray, List.set_cons_zero, List.set_cons_succ])
        go_cut [74] (fun v74 wc => ∃ (kq : Nat) (x74_14 : Bool), v74 = .bool x74_14 ∧ Aside0 (nautiluslaw09_CpsTurns.j0 kq y313 a4 a5 t312 x74_14 = some r) ∧ Aside0 (kq ≤ k) ∧ Aside0 (Below w.heap.size w wc))
        case first =>
          have H := HC15.out
          clear HC15
          by_cases c23 : t319 = t327
          · rw [if_pos c23] at H
            have c23b0 : (t319 == t327) = true := beq_iff_eq.mpr c23
            have c23b1 : (t319 != t327) = false := bne_eq_false_iff_eq.mpr c23
            clear c23
            (first | rw [c23b0] | (simp only [i64_w, i32_w]; rw [c23b0]) | skip)
            by_cases c24 : t319 = 0
            · rw [if_pos c24] at H
              have c24b0 : (t319 == 0) = true := beq_iff_eq.mpr c24
              have c24b1 : (t319 != 0) = false := bne_eq_false_iff_eq.mpr c24
              clear c24
              by_cases c25 : t323 = 0
              · rw [if_pos c25] at H
                have c25b0 : (t323 == 0) = true := beq_iff_eq.mpr c25
                have c25b1 : (t323 != 0) = false := bne_eq_false_iff_eq.mpr c25
                clear c25
                replace H := Option.bind_eq_some_iff.mp H
                obtain ⟨t330, A260, H⟩ := H
                replace H : (nautiluslaw09_CpsTurns.j0 k y313 a4 a5 t312 (!t330)) = some r := H
                have A26 := Aside0.mk A260
                clear A260
                have H' := Aside0.mk H
                clear H
                obtain ⟨Ao27, co27, eo27⟩ := Kd.R_slice HO325.out
                subst eo27
                obtain ⟨Ao28, co28, eo28⟩ := Kd.R_slice HO329.out
                subst eo28
                iterate 3 ((try go_wp2_with (first | (go_at_call 21; (with_reducible refine (nautilusref09_Same.calls k _ _ t322 _ _ t326 t330 _ ?side1 ?side2 ?side3 ?side4 A26.out).mono ?_); (case side1 => repeat (first | exact (Kd.R_reads' HO325.out).2.2 | (with_reducible refine Kd.C_alloc ?_ _) | (with_reducible refine Kd.C_drewN ?_ _) | (with_reducible refine Kd.C_drew ?_))); (case side2 => exact (Kd.R_reads' HO325.out).2.1); (case side3 => repeat (first | exact (Kd.R_reads' HO329.out).2.2 | (with_reducible refine Kd.C_alloc ?_ _) | (with_reducible refine Kd.C_drewN ?_ _) | (with_reducible refine Kd.C_drew ?_))); (case side4 => exact (Kd.R_reads' HO329.out).2.1); rintro e w' ⟨rfl, ⟨nd, rfl⟩⟩; (try first | exact ⟨rfl, _, World.drewN_drewN _ _ _⟩ | exact ⟨rfl, _, Eq.trans (World.drewN_drewN _ _ _) (congrArg (World.drewN _) (Nat.add_assoc _ _ _))⟩)))); (try go_quiet (first | (go_at_call 21; (with_reducible refine (nautilusref09_Same.calls k _ _ t322 _ _ t326 t330 _ ?side1 ?side2 ?side3 ?side4 A26.out).mono ?_); (case side1 => repeat (first | exact (Kd.R_reads' HO325.out).2.2 | (with_reducible refine Kd.C_alloc ?_ _) | (with_reducible refine Kd.C_drewN ?_ _) | (with_reducible refine Kd.C_drew ?_))); (case side2 => exact (Kd.R_reads' HO325.out).2.1); (case side3 => repeat (first | exact (Kd.R_reads' HO329.out).2.2 | (with_reducible refine Kd.C_alloc ?_ _) | (with_reducible refine Kd.C_drewN ?_ _) | (with_reducible refine Kd.C_drew ?_))); (case side4 => exact (Kd.R_reads' HO329.out).2.1); rintro e w' ⟨rfl, ⟨nd, rfl⟩⟩; (try first | exact ⟨rfl, _, World.drewN_drewN _ _ _⟩ | exact ⟨rfl, _, Eq.trans (World.drewN_drewN _ _ _) (congrArg (World.drewN _) (Nat.add_assoc _ _ _))⟩)))))
                go_meet
                case rel => exact ⟨_, (!t330), (by first | rfl | (simp; done) | (simp [*]; done)), H', ⟨by first | omega | exact Nat.le_refl _⟩, ⟨by repeat (first | (with_reducible first | exact HB.out | apply below_alloc | apply pw_below_drewN | apply below_drew1) | exact HB.out)⟩⟩
              · rw [if_neg c25] at H
                have c25b0 : (t323 == 0) = false := beq_eq_false_iff_ne.mpr c25
                have c25b1 : (t323 != 0) = true := bne_iff_ne.mpr c25
                have H' := Aside0.mk H
                clear H
                go_wp2
                repeat (go_quiet (fail); try go_wp2)
                go_meet
                case rel => exact ⟨_, (true), (by first | rfl | (simp; done) | (simp [*]; done)), H', ⟨by first | omega | exact Nat.le_refl _⟩, ⟨by repeat (first | (with_reducible first | exact HB.out | apply below_alloc | apply pw_below_drewN | apply below_drew1) | exact HB.out)⟩⟩
            · rw [if_neg c24] at H
              have c24b0 : (t319 == 0) = false := beq_eq_false_iff_ne.mpr c24
              have c24b1 : (t319 != 0) = true := bne_iff_ne.mpr c24
              have H' := Aside0.mk H
              clear H
              go_wp2
              repeat (go_quiet (fail); try go_wp2)
              go_meet
              case rel => exact ⟨_, (false), (by first | rfl | (simp; done) | (simp [*]; done)), H', ⟨by first | omega | exact Nat.le_refl _⟩, ⟨by repeat (first | (with_reducible first | exact HB.out | apply below_alloc | apply pw_below_drewN | apply below_drew1) | exact HB.out)⟩⟩
          · rw [if_neg c23] at H
            have c23b0 : (t319 == t327) = false := beq_eq_false_iff_ne.mpr c23
            have c23b1 : (t319 != t327) = true := bne_iff_ne.mpr c23
            (first | rw [c23b0] | (simp only [i64_w, i32_w]; rw [c23b0]) | skip)
            have H' := Aside0.mk H
            clear H
            go_wp2
            repeat (go_quiet (fail); try go_wp2)
            go_meet
            case rel => exact ⟨_, (true), (by first | rfl | (simp; done) | (simp [*]; done)), H', ⟨by first | omega | exact Nat.le_refl _⟩, ⟨by repeat (first | (with_reducible first | exact HB.out | apply below_alloc | apply pw_below_drewN | apply below_drew1) | exact HB.out)⟩⟩
        case rest =>
          clear HC15
          try clear c1
          try clear q1
          try clear c2
          try clear p2
          try clear c5
          try clear c8
          try clear c8b0
          try clear c8b1
          try clear c9
          try clear c9b0
          try clear c9b1
          try clear c11
          try clear c12
          try clear q17
          try clear c23
          try clear c23b0
          try clear c23b1
          try clear c24
          try clear c24b0
          try clear c24b1
          try clear c25
          try clear c25b0
          try clear c25b1
          try clear q17
          obtain ⟨kq, x74_14, rfl, HA, HJ14, HB⟩ := hcut
          cases kq with
          | zero => exact absurd HA.out (by simp [nautiluslaw09_CpsTurns.j0])
          | succ kj14 =>
            have H := HA.out
            clear HA
            simp only [nautiluslaw09_CpsTurns.j0] at H
            by_cases c29 : x74_14 = true
            · subst c29
              have H1 : (some false) = some r := by rw [if_pos rfl] at H; exact H
              clear H
              have H := H1
              clear H1
              obtain rfl := Option.some.inj H
              go_wp2
              repeat (go_quiet (fail); try go_wp2)
              go_ret
              exact ⟨by first | rfl | (simp [errW_none, errW_some] <;> rfl) | (simp [*, errW_none, errW_some] <;> rfl) | (simp [show IntKind.u64.wrap 0 = 0 from rfl, Int.zero_tdiv]; done), by repeat (first | (with_reducible first | exact HB.out | apply below_alloc | apply pw_below_drewN | apply below_drew1) | exact HB.out)⟩
            · replace c29 := Bool.eq_false_iff.mpr c29
              subst c29
              have H1 : ((cps_Expire.f y313 a4 a5).bind fun bt331 => ((cps_Expire.f bt331.1 a4 a5).bind fun bt336 => ((cps_Numbers.f kj14 y313).bind fun t341 => (nautiluslaw09_CpsTurns.l0 kj14 y313 t312 bt331.1 bt331.2.2 bt336.1 bt336.2.1 bt336.2.2 t341 0)))) = some r := by rw [if_neg (show ¬ (false = true) by decide)] at H; exact H
              clear H
              have H := H1
              clear H1
              replace H := Option.bind_eq_some_iff.mp H
              obtain ⟨⟨t331, t332, t333⟩, A300, H⟩ := H
              replace H : ((cps_Expire.f t331 a4 a5).bind fun bt336 => ((cps_Numbers.f kj14 y313).bind fun t341 => (nautiluslaw09_CpsTurns.l0 kj14 y313 t312 t331 t333 bt336.1 bt336.2.1 bt336.2.2 t341 0))) = some r := H
              have A30 := Aside0.mk A300
              clear A300
              replace H := Option.bind_eq_some_iff.mp H
              obtain ⟨⟨t336, t337, t338⟩, A310, H⟩ := H
              replace H : ((cps_Numbers.f kj14 y313).bind fun t341 => (nautiluslaw09_CpsTurns.l0 kj14 y313 t312 t331 t333 t336 t337 t338 t341 0)) = some r := H
              have A31 := Aside0.mk A310
              clear A310
              replace H := Option.bind_eq_some_iff.mp H
              obtain ⟨t341, A320, H⟩ := H
              replace H : (nautiluslaw09_CpsTurns.l0 kj14 y313 t312 t331 t333 t336 t337 t338 t341 0) = some r := H
              have A32 := Aside0.mk A320
              clear A320
              have H' := Aside0.mk H
              clear H
              iterate 3 ((try go_wp2_with (first | (go_at_call 13; (with_reducible refine (cps_Expire.calls _ _ y313 a4 a5 t331 t332 t333 _ ?side1 ?side2 A30.out).mono ?_); (case side1 => repeat (first | exact (Kd.C_below HR316.out HB.out) | (with_reducible refine Kd.C_alloc ?_ _) | (with_reducible refine Kd.C_drewN ?_ _) | (with_reducible refine Kd.C_drew ?_))); (case side2 => exact HC316.out); rintro e w33 ⟨v334, rfl, ho0, hb⟩; have n0_ := Aside0.mk (Kd.R_lower ho0 (below_size (by repeat (first | (with_reducible first | exact HB.out | apply below_alloc | apply pw_below_drewN | apply below_drew1) | exact HB.out)))); have n1_ := Aside0.mk (below_step (by repeat (first | (with_reducible first | exact HB.out | apply below_alloc | apply pw_below_drewN | apply below_drew1) | exact HB.out)) hb); clear HB; have HO335 := n0_; have HB := n1_; clear n0_ n1_; (try clear hb); (try clear hb2); (try clear hk); (try clear hi); (try clear ho0); obtain ⟨Ao34, co34, eo34⟩ := Kd.R_slice HO335.out; subst eo34) | (go_at_call 13; (with_reducible refine (cps_Expire.calls _ _ t331 a4 a5 t336 t337 t338 _ ?side1 ?side2 A31.out).mono ?_); (case side1 => repeat (first | exact (Kd.R_reads' HO335.out).2.2 | (with_reducible refine Kd.C_alloc ?_ _) | (with_reducible refine Kd.C_drewN ?_ _) | (with_reducible refine Kd.C_drew ?_))); (case side2 => exact (Kd.R_reads' HO335.out).2.1); rintro e w35 ⟨v339, rfl, ho0, hb⟩; have n0_ := Aside0.mk (Kd.R_elder' (by (with_reducible repeat (first | apply Kd.R_alloc | apply Kd.R_drewN | apply Kd.R_drew)); exact HO335.out) (Kd.R_base ho0) hb); have n1_ := Aside0.mk (Kd.R_lower (Kd.R_new' ho0 (Kd.R_lt (by (with_reducible repeat (first | apply Kd.R_alloc | apply Kd.R_drewN | apply Kd.R_drew)); exact HO335.out))) (below_size (by repeat (first | (with_reducible first | exact HB.out | apply below_alloc | apply pw_below_drewN | apply below_drew1) | exact HB.out)))); have n2_ := Aside0.mk (below_step (by repeat (first | (with_reducible first | exact HB.out | apply below_alloc | apply pw_below_drewN | apply below_drew1) | exact HB.out)) hb); clear HO335; clear HB; have HO335 := n0_; have HO340 := n1_; have HB := n2_; clear n0_ n1_ n2_; (try clear hb); (try clear hb2); (try clear hk); (try clear hi); (try clear ho0)) | (go_at_call 22; (with_reducible refine (cps_Numbers.calls kj14 _ _ y313 t341 _ ?side1 ?side2 A32.out).mono ?_); (case side1 => repeat (first | exact (Kd.C_below HR316.out HB.out) | (with_reducible refine Kd.C_alloc ?_ _) | (with_reducible refine Kd.C_drewN ?_ _) | (with_reducible refine Kd.C_drew ?_))); (case side2 => exact HC316.out); rintro e w36 ⟨v342, rfl, ho0, hb⟩; have n0_ := Aside0.mk (Kd.R_below (by (with_reducible repeat (first | apply Kd.R_alloc | apply Kd.R_drewN | apply Kd.R_drew)); exact HO335.out) hb); have n1_ := Aside0.mk (Kd.R_below (by (with_reducible repeat (first | apply Kd.R_alloc | apply Kd.R_drewN | apply Kd.R_drew)); exact HO340.out) hb); have n2_ := Aside0.mk (Kd.R_lower ho0 (below_size (by repeat (first | (with_reducible first | exact HB.out | apply below_alloc | apply pw_below_drewN | apply below_drew1) | exact HB.out)))); have n3_ := Aside0.mk (below_step (by repeat (first | (with_reducible first | exact HB.out | apply below_alloc | apply pw_below_drewN | apply below_drew1) | exact HB.out)) hb); clear HO335; clear HO340; clear HB; have HO335 := n0_; have HO340 := n1_; have HO343 := n2_; have HB := n3_; clear n0_ n1_ n2_ n3_; (try clear hb); (try clear hb2); (try clear hk); (try clear hi); (try clear ho0)))); (try go_quiet (fail)))
              go_loopg [27] kj14 (fun kq v27 w' => ∃ (x27_2 : Int), v27 = .int .i64 x27_2 ∧ Aside0 (nautiluslaw09_CpsTurns.l0 kq y313 t312 t331 t333 t336 t337 t338 t341 x27_2 = some r) ∧ Aside0 (kq ≤ kj14) ∧ Aside0 (Kd.R k33 33 w' w.heap.size (fun k_ => some k_ ≠ (v339 : Value).ownBlock) (.slice Ao34 t331.length co34) t331) ∧ Aside0 (Kd.R k33 33 w' w.heap.size (fun k_ => some k_ ≠ ((.slice Ao34 t331.length co34) : Value).ownBlock) v339 t336) ∧ Aside0 (Kd.R (Kd.int .u64) 23 w' w.heap.size (fun _ => True) v342 t341) ∧ Aside0 (Below w.heap.size w w'))
              case atStart => exact ⟨(0), (by first | rfl | (simp; done) | (simp [*]; done)), H', ⟨Nat.le_refl _⟩, ⟨by (with_reducible repeat (first | apply Kd.R_alloc | apply Kd.R_drewN | apply Kd.R_drew)); exact Kd.R_mono HO335.out (fun _ hk => hk.2)⟩, ⟨by (with_reducible repeat (first | apply Kd.R_alloc | apply Kd.R_drewN | apply Kd.R_drew)); exact Kd.R_mono HO340.out (fun _ hk => hk.2)⟩, ⟨by (with_reducible repeat (first | apply Kd.R_alloc | apply Kd.R_drewN | apply Kd.R_drew)); exact HO343.out⟩, ⟨by repeat (first | (with_reducible first | exact HB.out | apply below_alloc | apply pw_below_drewN | apply below_drew1) | exact HB.out)⟩⟩
              case round =>
                clear H'
                try clear c1
                try clear q1
                try clear c2
                try clear p2
                try clear c5
                try clear c8
                try clear c8b0
                try clear c8b1
                try clear c9
                try clear c9b0
                try clear c9b1
                try clear c11
                try clear c12
                try clear q17
                try clear c23
                try clear c23b0
                try clear c23b1
                try clear c24
                try clear c24b0
                try clear c24b1
                try clear c25
                try clear c25b0
                try clear c25b1
                try clear c29
                try clear p2
                try clear q1
                try clear q17
                obtain ⟨x27_2, rfl, HA, HK2, HO_20, HO_23, HO_26, HB⟩ := hrel
                cases gk with
                | zero => exact absurd HA.out (by simp [nautiluslaw09_CpsTurns.l0])
                | succ k2 =>
                  have H := HA.out
                  clear HA
                  simp only [nautiluslaw09_CpsTurns.l0] at H
                  by_cases c37 : x27_2 < (t341.length : Int)
                  · rw [if_pos c37] at H
                    have c37b0 : decide (x27_2 < (t341.length : Int)) = true := decide_eq_true c37
                    clear c37
                    by_cases c38 : 0 ≤ x27_2
                    · rw [if_pos c38] at H
                      have c38b0 : decide (0 ≤ x27_2) = true := decide_eq_true c38
                      clear c38
                      replace H := Option.bind_eq_some_iff.mp H
                      obtain ⟨⟨t345, t346, t347, t348, t349⟩, A390, H⟩ := H
                      replace H : (if t349 = 0 then (if t345 = (rd t341 x27_2) then (if x27_2 > 0 then (if 0 ≤ (wrap64 (x27_2 - 1)) then (if (wrap64 (x27_2 - 1)) < (t341.length : Int) then (if (rd t341 (wrap64 (x27_2 - 1))) ≥ (rd t341 x27_2) then (some false) else (nautiluslaw09_CpsTurns.l0 k2 y313 t312 t331 t333 t336 t337 t338 t341 (wrap64 (x27_2 + 1)))) else (none)) else (none)) else (nautiluslaw09_CpsTurns.l0 k2 y313 t312 t331 t333 t336 t337 t338 t341 (wrap64 (x27_2 + 1)))) else (some false)) else (some false)) = some r := H
                      have A39 := Aside0.mk A390
                      clear A390
                      by_cases c40 : t349 = 0
                      · rw [if_pos c40] at H
                        have c40b0 : (t349 == 0) = true := beq_iff_eq.mpr c40
                        have c40b1 : (t349 != 0) = false := bne_eq_false_iff_eq.mpr c40
                        clear c40
                        by_cases c41 : t345 = (rd t341 x27_2)
                        · rw [if_pos c41] at H
                          have c41b0 : (t345 == (rd t341 x27_2)) = true := beq_iff_eq.mpr c41
                          have c41b1 : (t345 != (rd t341 x27_2)) = false := bne_eq_false_iff_eq.mpr c41
                          clear c41
                          by_cases c42 : x27_2 > 0
                          · rw [if_pos c42] at H
                            have c42b0 : decide (0 < x27_2) = true := decide_eq_true c42
                            clear c42
                            obtain ⟨ji43, hji43⟩ : ∃ j_ : Int, (wrap64 (x27_2 - 1)) = j_ := ⟨_, rfl⟩
                            replace H : (if 0 ≤ (ji43) then (if (ji43) < (t341.length : Int) then (if (rd t341 (ji43)) ≥ (rd t341 x27_2) then (some false) else (nautiluslaw09_CpsTurns.l0 k2 y313 t312 t331 t333 t336 t337 t338 t341 (wrap64 (x27_2 + 1)))) else (none)) else (none)) = some r := by first | (rw [hji43] at H; exact H) | (simp only [hji43] at H ⊢; exact H)
                            (try rw [hji43] at A39)
                            have hji43w : (IntKind.i64.wrap (x27_2 - 1)) = ji43 := (i64_w _).trans hji43
                            by_cases c44 : 0 ≤ (ji43)
                            · rw [if_pos c44] at H
                              have c44b0 : decide (0 ≤ (ji43)) = true := decide_eq_true c44
                              clear c44
                              by_cases c45 : (ji43) < (t341.length : Int)
                              · rw [if_pos c45] at H
                                have c45b0 : decide ((ji43) < (t341.length : Int)) = true := decide_eq_true c45
                                clear c45
                                by_cases c46 : (rd t341 (ji43)) ≥ (rd t341 x27_2)
                                · rw [if_pos c46] at H
                                  have c46b0 : decide ((rd t341 x27_2) ≤ (rd t341 (ji43))) = true := decide_eq_true c46
                                  clear c46
                                  obtain rfl := Option.some.inj H
                                  obtain ⟨Ao47, co47, eo47⟩ := Kd.R_slice HO_26.out
                                  subst eo47
                                  have p344 : 0 ≤ (x27_2 : Int) := of_decide_eq_true (by first | (with_reducible assumption) | assumption)
                                  have q344 : x27_2 < (t341.length : Int) := of_decide_eq_true (by first | (with_reducible assumption) | assumption)
                                  obtain ⟨ad344, e344, hx344_0⟩ := Kd.at_int (Kd.R_reads' HO_26.out).2.2 x27_2 p344 q344
                                  cases e344
                                  replace p344 := eq_true p344
                                  replace q344 := eq_true q344
                                  iterate 3 ((try go_wp2_with (first | (go_at_call 16; (with_reducible refine (cps_Find.calls k2 _ _ y313 (rd t341 x27_2) t345 t346 t347 t348 t349 _ ?side1 ?side2 A39.out).mono ?_); (case side1 => repeat (first | exact (Kd.C_below HR316.out HB.out) | (with_reducible refine Kd.C_alloc ?_ _) | (with_reducible refine Kd.C_drewN ?_ _) | (with_reducible refine Kd.C_drew ?_))); (case side2 => exact HC316.out); rintro e w48 ⟨rfl, hb⟩; have n0_ := Aside0.mk (Kd.R_below (by (with_reducible repeat (first | apply Kd.R_alloc | apply Kd.R_drewN | apply Kd.R_drew)); exact HO_20.out) hb); have n1_ := Aside0.mk (Kd.R_below (by (with_reducible repeat (first | apply Kd.R_alloc | apply Kd.R_drewN | apply Kd.R_drew)); exact HO_23.out) hb); have n2_ := Aside0.mk (Kd.R_below (by (with_reducible repeat (first | apply Kd.R_alloc | apply Kd.R_drewN | apply Kd.R_drew)); exact HO_26.out) hb); have n3_ := Aside0.mk (below_step (by repeat (first | (with_reducible first | exact HB.out | apply below_alloc | apply pw_below_drewN | apply below_drew1) | exact HB.out)) hb); clear HO_20; clear HO_23; clear HO_26; clear HB; have HO_20 := n0_; have HO_23 := n1_; have HO_26 := n2_; have HB := n3_; clear n0_ n1_ n2_ n3_; (try clear hb); (try clear hb2); (try clear hk); (try clear hi)) | ((with_reducible refine gate_dst (N := 28) rfl ?_); (try (refine gate_guard (by rfl) ?_; dsimp only)); refine box_event ?hg (N := 28) ?hd (cs := #[.int .u64 0, .int .u64 0, .bool false, .string (⟨#[]⟩ : ByteArray)]) (t := 33) ?hr ?_; (case hd => rfl); (case hg => rfl); (case hr => first | (go_simp; done) | (go_simp; rfl)); intro gb350 hg w49 hbox hb; have n0_ := Aside0.mk (Kd.R_below (Kd.R_elderB (by (with_reducible repeat (first | apply Kd.R_alloc | apply Kd.R_drewN | apply Kd.R_drew)); exact HO_20.out) gb350 (Nat.le_of_eq hg.symm)) hb); have n1_ := Aside0.mk (Kd.R_below (Kd.R_elderB (by (with_reducible repeat (first | apply Kd.R_alloc | apply Kd.R_drewN | apply Kd.R_drew)); exact HO_23.out) gb350 (Nat.le_of_eq hg.symm)) hb); have n2_ := Aside0.mk (Kd.R_below (by (with_reducible repeat (first | apply Kd.R_alloc | apply Kd.R_drewN | apply Kd.R_drew)); exact HO_26.out) hb); have n3_ := Aside0.mk (below_step (by repeat (first | (with_reducible first | exact HB.out | apply below_alloc | apply pw_below_drewN | apply below_drew1) | exact HB.out)) hb); have n4_ := Aside0.mk (hbox); have n5_ := Aside0.mk ((by rw [hg]; exact (below_size (by repeat (first | (with_reducible first | exact HB.out | apply below_alloc | apply pw_below_drewN | apply below_drew1) | exact HB.out))) : w.heap.size ≤ gb350)); have n6_ := Aside0.mk ((by rw [hg]; exact (below_size (by repeat (first | (with_reducible first | exact HB.out | apply below_alloc | apply pw_below_drewN | apply below_drew1) | exact HB.out))) : w.heap.size ≤ gb350)); clear HO_20; clear HO_23; clear HO_26; clear HB; have HO_20 := n0_; have HO_23 := n1_; have HO_26 := n2_; have HB := n3_; have BK350 := n4_; have GW350 := n5_; have GE350 := n6_; clear n0_ n1_ n2_ n3_ n4_ n5_ n6_; clear hb hbox hg; have hcz50_0 : w49.cell? ⟨gb350, 0, none⟩ = some (.int .u64 0) := (blk_cell BK350.out 0).trans rfl; have hcz50_1 : w49.cell? ⟨gb350, 1, none⟩ = some (.int .u64 0) := (blk_cell BK350.out 1).trans rfl; have hcz50_2 : w49.cell? ⟨gb350, 2, none⟩ = some (.bool false) := (blk_cell BK350.out 2).trans rfl; have hcz50_3 : w49.cell? ⟨gb350, 3, none⟩ = some (.string (⟨#[]⟩ : ByteArray)) := (blk_cell BK350.out 3).trans rfl; have hfz50_0 := blk_frozen BK350.out 0; have hfz50_1 := blk_frozen BK350.out 1; have hfz50_2 := blk_frozen BK350.out 2; have hfz50_3 := blk_frozen BK350.out 3; have p351 : 0 ≤ (x27_2 : Int) := of_decide_eq_true (by first | (with_reducible assumption) | assumption); have q351 : x27_2 < (t341.length : Int) := of_decide_eq_true (by first | (with_reducible assumption) | assumption); obtain ⟨ad351, e351, hx351_0⟩ := Kd.at_int (Kd.R_reads' HO_26.out).2.2 x27_2 p351 q351; obtain rfl : ad344 = ad351 := (by injection e351); have hn351_0 : ad344.block ≠ gb350 := Kd.own_blk (Kd.R_ne HO_26.out BK350.out (by decide)); have hn351_1 : ad344.block ≠ gb350 := Kd.own_blk (Kd.R_ne HO_26.out BK350.out (by decide)); have hn351_2 : ad344.block ≠ gb350 := Kd.own_blk (Kd.R_ne HO_26.out BK350.out (by decide)); have hn351_3 : ad344.block ≠ gb350 := Kd.own_blk (Kd.R_ne HO_26.out BK350.out (by decide)); replace hx351_0 := (cell_far (p := ⟨gb350, 0, none⟩) (by first | (rw [add_block]; exact hn351_0) | (show (Addr.add _ _).block ≠ _; rw [add_block]; exact hn351_0) | exact hn351_0) (.int .u64 t345)).trans hx351_0; replace hx351_0 := (cell_far (p := ⟨gb350, 1, none⟩) (by first | (rw [add_block]; exact hn351_1) | (show (Addr.add _ _).block ≠ _; rw [add_block]; exact hn351_1) | exact hn351_1) (.int .u64 t346)).trans hx351_0; replace hx351_0 := (cell_far (p := ⟨gb350, 2, none⟩) (by first | (rw [add_block]; exact hn351_2) | (show (Addr.add _ _).block ≠ _; rw [add_block]; exact hn351_2) | exact hn351_2) (.bool t347)).trans hx351_0; replace hx351_0 := (cell_far (p := ⟨gb350, 3, none⟩) (by first | (rw [add_block]; exact hn351_3) | (show (Addr.add _ _).block ≠ _; rw [add_block]; exact hn351_3) | exact hn351_3) (.string t348)).trans hx351_0; (try have hy351_0 := fun (n_ : Nat) => (show ((((((w49.drewN n_).setCell ⟨gb350, 0, none⟩ (.int .u64 t345)).setCell ⟨gb350, 1, none⟩ (.int .u64 t346)).setCell ⟨gb350, 2, none⟩ (.bool t347)).setCell ⟨gb350, 3, none⟩ (.string t348))).cell? _ = some _ from hx351_0)); clear hn351_0; clear hn351_1; clear hn351_2; clear hn351_3; replace p351 := eq_true p351; replace q351 := eq_true q351; have p352 : 0 ≤ ((ji43) : Int) := of_decide_eq_true (by first | (with_reducible assumption) | assumption); have q352 : (ji43) < (t341.length : Int) := of_decide_eq_true (by first | (with_reducible assumption) | assumption); obtain ⟨ad352, e352, hx352_0⟩ := Kd.at_int (Kd.R_reads' HO_26.out).2.2 (ji43) p352 q352; obtain rfl : ad344 = ad352 := (by injection e352); have hn352_0 : ad344.block ≠ gb350 := Kd.own_blk (Kd.R_ne HO_26.out BK350.out (by decide)); have hn352_1 : ad344.block ≠ gb350 := Kd.own_blk (Kd.R_ne HO_26.out BK350.out (by decide)); have hn352_2 : ad344.block ≠ gb350 := Kd.own_blk (Kd.R_ne HO_26.out BK350.out (by decide)); have hn352_3 : ad344.block ≠ gb350 := Kd.own_blk (Kd.R_ne HO_26.out BK350.out (by decide)); replace hx352_0 := (cell_far (p := ⟨gb350, 0, none⟩) (by first | (rw [add_block]; exact hn352_0) | (show (Addr.add _ _).block ≠ _; rw [add_block]; exact hn352_0) | exact hn352_0) (.int .u64 t345)).trans hx352_0; replace hx352_0 := (cell_far (p := ⟨gb350, 1, none⟩) (by first | (rw [add_block]; exact hn352_1) | (show (Addr.add _ _).block ≠ _; rw [add_block]; exact hn352_1) | exact hn352_1) (.int .u64 t346)).trans hx352_0; replace hx352_0 := (cell_far (p := ⟨gb350, 2, none⟩) (by first | (rw [add_block]; exact hn352_2) | (show (Addr.add _ _).block ≠ _; rw [add_block]; exact hn352_2) | exact hn352_2) (.bool t347)).trans hx352_0; replace hx352_0 := (cell_far (p := ⟨gb350, 3, none⟩) (by first | (rw [add_block]; exact hn352_3) | (show (Addr.add _ _).block ≠ _; rw [add_block]; exact hn352_3) | exact hn352_3) (.string t348)).trans hx352_0; (try have hy352_0 := fun (n_ : Nat) => (show ((((((w49.drewN n_).setCell ⟨gb350, 0, none⟩ (.int .u64 t345)).setCell ⟨gb350, 1, none⟩ (.int .u64 t346)).setCell ⟨gb350, 2, none⟩ (.bool t347)).setCell ⟨gb350, 3, none⟩ (.string t348))).cell? _ = some _ from hx352_0)); clear hn352_0; clear hn352_1; clear hn352_2; clear hn352_3; replace p352 := eq_true p352; replace q352 := eq_true q352; have p353 : 0 ≤ (x27_2 : Int) := of_decide_eq_true (by first | (with_reducible assumption) | assumption); have q353 : x27_2 < (t341.length : Int) := of_decide_eq_true (by first | (with_reducible assumption) | assumption); obtain ⟨ad353, e353, hx353_0⟩ := Kd.at_int (Kd.R_reads' HO_26.out).2.2 x27_2 p353 q353; obtain rfl : ad344 = ad353 := (by injection e353); have hn353_0 : ad344.block ≠ gb350 := Kd.own_blk (Kd.R_ne HO_26.out BK350.out (by decide)); have hn353_1 : ad344.block ≠ gb350 := Kd.own_blk (Kd.R_ne HO_26.out BK350.out (by decide)); have hn353_2 : ad344.block ≠ gb350 := Kd.own_blk (Kd.R_ne HO_26.out BK350.out (by decide)); have hn353_3 : ad344.block ≠ gb350 := Kd.own_blk (Kd.R_ne HO_26.out BK350.out (by decide)); replace hx353_0 := (cell_far (p := ⟨gb350, 0, none⟩) (by first | (rw [add_block]; exact hn353_0) | (show (Addr.add _ _).block ≠ _; rw [add_block]; exact hn353_0) | exact hn353_0) (.int .u64 t345)).trans hx353_0; replace hx353_0 := (cell_far (p := ⟨gb350, 1, none⟩) (by first | (rw [add_block]; exact hn353_1) | (show (Addr.add _ _).block ≠ _; rw [add_block]; exact hn353_1) | exact hn353_1) (.int .u64 t346)).trans hx353_0; replace hx353_0 := (cell_far (p := ⟨gb350, 2, none⟩) (by first | (rw [add_block]; exact hn353_2) | (show (Addr.add _ _).block ≠ _; rw [add_block]; exact hn353_2) | exact hn353_2) (.bool t347)).trans hx353_0; replace hx353_0 := (cell_far (p := ⟨gb350, 3, none⟩) (by first | (rw [add_block]; exact hn353_3) | (show (Addr.add _ _).block ≠ _; rw [add_block]; exact hn353_3) | exact hn353_3) (.string t348)).trans hx353_0; (try have hy353_0 := fun (n_ : Nat) => (show ((((((w49.drewN n_).setCell ⟨gb350, 0, none⟩ (.int .u64 t345)).setCell ⟨gb350, 1, none⟩ (.int .u64 t346)).setCell ⟨gb350, 2, none⟩ (.bool t347)).setCell ⟨gb350, 3, none⟩ (.string t348))).cell? _ = some _ from hx353_0)); clear hn353_0; clear hn353_1; clear hn353_2; clear hn353_3; replace p353 := eq_true p353; replace q353 := eq_true q353))); (try go_quiet (fail)))
                                  go_ret
                                  exact ⟨by first | rfl | (simp [errW_none, errW_some] <;> rfl) | (simp only [← hji43]; first | rfl | (simp [errW_none, errW_some] <;> rfl)) | (simp [*, errW_none, errW_some] <;> rfl) | (simp [show IntKind.u64.wrap 0 = 0 from rfl, Int.zero_tdiv]; done), by repeat (first | (with_reducible first | exact HB.out | apply below_alloc | apply pw_below_drewN | apply below_drew1 | refine below_set ?_ GE350.out) | exact HB.out)⟩
                                · rw [if_neg c46] at H
                                  have c46b0 : decide ((rd t341 x27_2) ≤ (rd t341 (ji43))) = false := decide_eq_false c46
                                  clear c46
                                  have H' := Aside0.mk H
                                  clear H
                                  obtain ⟨Ao51, co51, eo51⟩ := Kd.R_slice HO_26.out
                                  subst eo51
                                  have p344 : 0 ≤ (x27_2 : Int) := of_decide_eq_true (by first | (with_reducible assumption) | assumption)
                                  have q344 : x27_2 < (t341.length : Int) := of_decide_eq_true (by first | (with_reducible assumption) | assumption)
                                  obtain ⟨ad344, e344, hx344_0⟩ := Kd.at_int (Kd.R_reads' HO_26.out).2.2 x27_2 p344 q344
                                  cases e344
                                  replace p344 := eq_true p344
                                  replace q344 := eq_true q344
                                  iterate 3 ((try go_wp2_with (first | (go_at_call 16; (with_reducible refine (cps_Find.calls k2 _ _ y313 (rd t341 x27_2) t345 t346 t347 t348 t349 _ ?side1 ?side2 A39.out).mono ?_); (case side1 => repeat (first | exact (Kd.C_below HR316.out HB.out) | (with_reducible refine Kd.C_alloc ?_ _) | (with_reducible refine Kd.C_drewN ?_ _) | (with_reducible refine Kd.C_drew ?_))); (case side2 => exact HC316.out); rintro e w52 ⟨rfl, hb⟩; have n0_ := Aside0.mk (Kd.R_below (by (with_reducible repeat (first | apply Kd.R_alloc | apply Kd.R_drewN | apply Kd.R_drew)); exact HO_20.out) hb); have n1_ := Aside0.mk (Kd.R_below (by (with_reducible repeat (first | apply Kd.R_alloc | apply Kd.R_drewN | apply Kd.R_drew)); exact HO_23.out) hb); have n2_ := Aside0.mk (Kd.R_below (by (with_reducible repeat (first | apply Kd.R_alloc | apply Kd.R_drewN | apply Kd.R_drew)); exact HO_26.out) hb); have n3_ := Aside0.mk (below_step (by repeat (first | (with_reducible first | exact HB.out | apply below_alloc | apply pw_below_drewN | apply below_drew1) | exact HB.out)) hb); clear HO_20; clear HO_23; clear HO_26; clear HB; have HO_20 := n0_; have HO_23 := n1_; have HO_26 := n2_; have HB := n3_; clear n0_ n1_ n2_ n3_; (try clear hb); (try clear hb2); (try clear hk); (try clear hi)) | ((with_reducible refine gate_dst (N := 28) rfl ?_); (try (refine gate_guard (by rfl) ?_; dsimp only)); refine box_event ?hg (N := 28) ?hd (cs := #[.int .u64 0, .int .u64 0, .bool false, .string (⟨#[]⟩ : ByteArray)]) (t := 33) ?hr ?_; (case hd => rfl); (case hg => rfl); (case hr => first | (go_simp; done) | (go_simp; rfl)); intro gb350 hg w53 hbox hb; have n0_ := Aside0.mk (Kd.R_below (Kd.R_elderB (by (with_reducible repeat (first | apply Kd.R_alloc | apply Kd.R_drewN | apply Kd.R_drew)); exact HO_20.out) gb350 (Nat.le_of_eq hg.symm)) hb); have n1_ := Aside0.mk (Kd.R_below (Kd.R_elderB (by (with_reducible repeat (first | apply Kd.R_alloc | apply Kd.R_drewN | apply Kd.R_drew)); exact HO_23.out) gb350 (Nat.le_of_eq hg.symm)) hb); have n2_ := Aside0.mk (Kd.R_below (by (with_reducible repeat (first | apply Kd.R_alloc | apply Kd.R_drewN | apply Kd.R_drew)); exact HO_26.out) hb); have n3_ := Aside0.mk (below_step (by repeat (first | (with_reducible first | exact HB.out | apply below_alloc | apply pw_below_drewN | apply below_drew1) | exact HB.out)) hb); have n4_ := Aside0.mk (hbox); have n5_ := Aside0.mk ((by rw [hg]; exact (below_size (by repeat (first | (with_reducible first | exact HB.out | apply below_alloc | apply pw_below_drewN | apply below_drew1) | exact HB.out))) : w.heap.size ≤ gb350)); have n6_ := Aside0.mk ((by rw [hg]; exact (below_size (by repeat (first | (with_reducible first | exact HB.out | apply below_alloc | apply pw_below_drewN | apply below_drew1) | exact HB.out))) : w.heap.size ≤ gb350)); clear HO_20; clear HO_23; clear HO_26; clear HB; have HO_20 := n0_; have HO_23 := n1_; have HO_26 := n2_; have HB := n3_; have BK350 := n4_; have GW350 := n5_; have GE350 := n6_; clear n0_ n1_ n2_ n3_ n4_ n5_ n6_; clear hb hbox hg; have hcz54_0 : w53.cell? ⟨gb350, 0, none⟩ = some (.int .u64 0) := (blk_cell BK350.out 0).trans rfl; have hcz54_1 : w53.cell? ⟨gb350, 1, none⟩ = some (.int .u64 0) := (blk_cell BK350.out 1).trans rfl; have hcz54_2 : w53.cell? ⟨gb350, 2, none⟩ = some (.bool false) := (blk_cell BK350.out 2).trans rfl; have hcz54_3 : w53.cell? ⟨gb350, 3, none⟩ = some (.string (⟨#[]⟩ : ByteArray)) := (blk_cell BK350.out 3).trans rfl; have hfz54_0 := blk_frozen BK350.out 0; have hfz54_1 := blk_frozen BK350.out 1; have hfz54_2 := blk_frozen BK350.out 2; have hfz54_3 := blk_frozen BK350.out 3; have p351 : 0 ≤ (x27_2 : Int) := of_decide_eq_true (by first | (with_reducible assumption) | assumption); have q351 : x27_2 < (t341.length : Int) := of_decide_eq_true (by first | (with_reducible assumption) | assumption); obtain ⟨ad351, e351, hx351_0⟩ := Kd.at_int (Kd.R_reads' HO_26.out).2.2 x27_2 p351 q351; obtain rfl : ad344 = ad351 := (by injection e351); have hn351_0 : ad344.block ≠ gb350 := Kd.own_blk (Kd.R_ne HO_26.out BK350.out (by decide)); have hn351_1 : ad344.block ≠ gb350 := Kd.own_blk (Kd.R_ne HO_26.out BK350.out (by decide)); have hn351_2 : ad344.block ≠ gb350 := Kd.own_blk (Kd.R_ne HO_26.out BK350.out (by decide)); have hn351_3 : ad344.block ≠ gb350 := Kd.own_blk (Kd.R_ne HO_26.out BK350.out (by decide)); replace hx351_0 := (cell_far (p := ⟨gb350, 0, none⟩) (by first | (rw [add_block]; exact hn351_0) | (show (Addr.add _ _).block ≠ _; rw [add_block]; exact hn351_0) | exact hn351_0) (.int .u64 t345)).trans hx351_0; replace hx351_0 := (cell_far (p := ⟨gb350, 1, none⟩) (by first | (rw [add_block]; exact hn351_1) | (show (Addr.add _ _).block ≠ _; rw [add_block]; exact hn351_1) | exact hn351_1) (.int .u64 t346)).trans hx351_0; replace hx351_0 := (cell_far (p := ⟨gb350, 2, none⟩) (by first | (rw [add_block]; exact hn351_2) | (show (Addr.add _ _).block ≠ _; rw [add_block]; exact hn351_2) | exact hn351_2) (.bool t347)).trans hx351_0; replace hx351_0 := (cell_far (p := ⟨gb350, 3, none⟩) (by first | (rw [add_block]; exact hn351_3) | (show (Addr.add _ _).block ≠ _; rw [add_block]; exact hn351_3) | exact hn351_3) (.string t348)).trans hx351_0; (try have hy351_0 := fun (n_ : Nat) => (show ((((((w53.drewN n_).setCell ⟨gb350, 0, none⟩ (.int .u64 t345)).setCell ⟨gb350, 1, none⟩ (.int .u64 t346)).setCell ⟨gb350, 2, none⟩ (.bool t347)).setCell ⟨gb350, 3, none⟩ (.string t348))).cell? _ = some _ from hx351_0)); clear hn351_0; clear hn351_1; clear hn351_2; clear hn351_3; replace p351 := eq_true p351; replace q351 := eq_true q351; have p352 : 0 ≤ ((ji43) : Int) := of_decide_eq_true (by first | (with_reducible assumption) | assumption); have q352 : (ji43) < (t341.length : Int) := of_decide_eq_true (by first | (with_reducible assumption) | assumption); obtain ⟨ad352, e352, hx352_0⟩ := Kd.at_int (Kd.R_reads' HO_26.out).2.2 (ji43) p352 q352; obtain rfl : ad344 = ad352 := (by injection e352); have hn352_0 : ad344.block ≠ gb350 := Kd.own_blk (Kd.R_ne HO_26.out BK350.out (by decide)); have hn352_1 : ad344.block ≠ gb350 := Kd.own_blk (Kd.R_ne HO_26.out BK350.out (by decide)); have hn352_2 : ad344.block ≠ gb350 := Kd.own_blk (Kd.R_ne HO_26.out BK350.out (by decide)); have hn352_3 : ad344.block ≠ gb350 := Kd.own_blk (Kd.R_ne HO_26.out BK350.out (by decide)); replace hx352_0 := (cell_far (p := ⟨gb350, 0, none⟩) (by first | (rw [add_block]; exact hn352_0) | (show (Addr.add _ _).block ≠ _; rw [add_block]; exact hn352_0) | exact hn352_0) (.int .u64 t345)).trans hx352_0; replace hx352_0 := (cell_far (p := ⟨gb350, 1, none⟩) (by first | (rw [add_block]; exact hn352_1) | (show (Addr.add _ _).block ≠ _; rw [add_block]; exact hn352_1) | exact hn352_1) (.int .u64 t346)).trans hx352_0; replace hx352_0 := (cell_far (p := ⟨gb350, 2, none⟩) (by first | (rw [add_block]; exact hn352_2) | (show (Addr.add _ _).block ≠ _; rw [add_block]; exact hn352_2) | exact hn352_2) (.bool t347)).trans hx352_0; replace hx352_0 := (cell_far (p := ⟨gb350, 3, none⟩) (by first | (rw [add_block]; exact hn352_3) | (show (Addr.add _ _).block ≠ _; rw [add_block]; exact hn352_3) | exact hn352_3) (.string t348)).trans hx352_0; (try have hy352_0 := fun (n_ : Nat) => (show ((((((w53.drewN n_).setCell ⟨gb350, 0, none⟩ (.int .u64 t345)).setCell ⟨gb350, 1, none⟩ (.int .u64 t346)).setCell ⟨gb350, 2, none⟩ (.bool t347)).setCell ⟨gb350, 3, none⟩ (.string t348))).cell? _ = some _ from hx352_0)); clear hn352_0; clear hn352_1; clear hn352_2; clear hn352_3; replace p352 := eq_true p352; replace q352 := eq_true q352; have p353 : 0 ≤ (x27_2 : Int) := of_decide_eq_true (by first | (with_reducible assumption) | assumption); have q353 : x27_2 < (t341.length : Int) := of_decide_eq_true (by first | (with_reducible assumption) | assumption); obtain ⟨ad353, e353, hx353_0⟩ := Kd.at_int (Kd.R_reads' HO_26.out).2.2 x27_2 p353 q353; obtain rfl : ad344 = ad353 := (by injection e353); have hn353_0 : ad344.block ≠ gb350 := Kd.own_blk (Kd.R_ne HO_26.out BK350.out (by decide)); have hn353_1 : ad344.block ≠ gb350 := Kd.own_blk (Kd.R_ne HO_26.out BK350.out (by decide)); have hn353_2 : ad344.block ≠ gb350 := Kd.own_blk (Kd.R_ne HO_26.out BK350.out (by decide)); have hn353_3 : ad344.block ≠ gb350 := Kd.own_blk (Kd.R_ne HO_26.out BK350.out (by decide)); replace hx353_0 := (cell_far (p := ⟨gb350, 0, none⟩) (by first | (rw [add_block]; exact hn353_0) | (show (Addr.add _ _).block ≠ _; rw [add_block]; exact hn353_0) | exact hn353_0) (.int .u64 t345)).trans hx353_0; replace hx353_0 := (cell_far (p := ⟨gb350, 1, none⟩) (by first | (rw [add_block]; exact hn353_1) | (show (Addr.add _ _).block ≠ _; rw [add_block]; exact hn353_1) | exact hn353_1) (.int .u64 t346)).trans hx353_0; replace hx353_0 := (cell_far (p := ⟨gb350, 2, none⟩) (by first | (rw [add_block]; exact hn353_2) | (show (Addr.add _ _).block ≠ _; rw [add_block]; exact hn353_2) | exact hn353_2) (.bool t347)).trans hx353_0; replace hx353_0 := (cell_far (p := ⟨gb350, 3, none⟩) (by first | (rw [add_block]; exact hn353_3) | (show (Addr.add _ _).block ≠ _; rw [add_block]; exact hn353_3) | exact hn353_3) (.string t348)).trans hx353_0; (try have hy353_0 := fun (n_ : Nat) => (show ((((((w53.drewN n_).setCell ⟨gb350, 0, none⟩ (.int .u64 t345)).setCell ⟨gb350, 1, none⟩ (.int .u64 t346)).setCell ⟨gb350, 2, none⟩ (.bool t347)).setCell ⟨gb350, 3, none⟩ (.string t348))).cell? _ = some _ from hx353_0)); clear hn353_0; clear hn353_1; clear hn353_2; clear hn353_3; replace p353 := eq_true p353; replace q353 := eq_true q353))); (try go_quiet (fail)))
                                  go_roundg k2
                                  case measure => have := HJ14.out; have := HK2.out; omega
                                  case rel => exact ⟨(wrap64 (x27_2 + 1)), (by first | rfl | (simp; done) | (simp [*]; done)), H', ⟨by have := HJ14.out; have := HK2.out; omega⟩, ⟨by (with_reducible repeat (first | apply Kd.R_alloc | apply Kd.R_drewN | apply Kd.R_drew)); exact Kd.R_mono (Kd.R_far (p := ⟨gb350, 3, none⟩) (Kd.R_far (p := ⟨gb350, 2, none⟩) (Kd.R_far (p := ⟨gb350, 1, none⟩) (Kd.R_far (p := ⟨gb350, 0, none⟩) (Kd.R_mono HO_20.out (fun k_ hk => (⟨hk, hk.2⟩ : _ ∧ k_ ≠ gb350))) (fun _ hk => hk.2) (.int .u64 t345)) (fun _ hk => hk.2) (.int .u64 t346)) (fun _ hk => hk.2) (.bool t347)) (fun _ hk => hk.2) (.string t348)) (fun _ hk => hk.1.1)⟩, ⟨by (with_reducible repeat (first | apply Kd.R_alloc | apply Kd.R_drewN | apply Kd.R_drew)); exact Kd.R_mono (Kd.R_far (p := ⟨gb350, 3, none⟩) (Kd.R_far (p := ⟨gb350, 2, none⟩) (Kd.R_far (p := ⟨gb350, 1, none⟩) (Kd.R_far (p := ⟨gb350, 0, none⟩) (Kd.R_mono HO_23.out (fun k_ hk => (⟨hk, hk.2⟩ : _ ∧ k_ ≠ gb350))) (fun _ hk => hk.2) (.int .u64 t345)) (fun _ hk => hk.2) (.int .u64 t346)) (fun _ hk => hk.2) (.bool t347)) (fun _ hk => hk.2) (.string t348)) (fun _ hk => hk.1.1)⟩, ⟨by (with_reducible repeat (first | apply Kd.R_alloc | apply Kd.R_drewN | apply Kd.R_drew)); exact Kd.R_mono (Kd.R_far (p := ⟨gb350, 3, none⟩) (Kd.R_far (p := ⟨gb350, 2, none⟩) (Kd.R_far (p := ⟨gb350, 1, none⟩) (Kd.R_far (p := ⟨gb350, 0, none⟩) (Kd.R_types HO_26.out BK350.out (by decide)) (fun _ hk => hk.2) (.int .u64 t345)) (fun _ hk => hk.2) (.int .u64 t346)) (fun _ hk => hk.2) (.bool t347)) (fun _ hk => hk.2) (.string t348)) (fun _ hk => trivial)⟩, ⟨by repeat (first | (with_reducible first | exact HB.out | apply below_alloc | apply pw_below_drewN | apply below_drew1 | refine below_set ?_ GE350.out) | exact HB.out)⟩⟩
                              · rw [if_neg c45] at H
                                exact absurd H (by simp)
                            · rw [if_neg c44] at H
                              exact absurd H (by simp)
                          · rw [if_neg c42] at H
                            have c42b0 : decide (0 < x27_2) = false := decide_eq_false c42
                            clear c42
                            have H' := Aside0.mk H
                            clear H
                            obtain ⟨Ao55, co55, eo55⟩ := Kd.R_slice HO_26.out
                            subst eo55
                            have p344 : 0 ≤ (x27_2 : Int) := of_decide_eq_true (by first | (with_reducible assumption) | assumption)
                            have q344 : x27_2 < (t341.length : Int) := of_decide_eq_true (by first | (with_reducible assumption) | assumption)
                            obtain ⟨ad344, e344, hx344_0⟩ := Kd.at_int (Kd.R_reads' HO_26.out).2.2 x27_2 p344 q344
                            cases e344
                            replace p344 := eq_true p344
                            replace q344 := eq_true q344
                            iterate 3 ((try go_wp2_with (first | (go_at_call 16; (with_reducible refine (cps_Find.calls k2 _ _ y313 (rd t341 x27_2) t345 t346 t347 t348 t349 _ ?side1 ?side2 A39.out).mono ?_); (case side1 => repeat (first | exact (Kd.C_below HR316.out HB.out) | (with_reducible refine Kd.C_alloc ?_ _) | (with_reducible refine Kd.C_drewN ?_ _) | (with_reducible refine Kd.C_drew ?_))); (case side2 => exact HC316.out); rintro e w56 ⟨rfl, hb⟩; have n0_ := Aside0.mk (Kd.R_below (by (with_reducible repeat (first | apply Kd.R_alloc | apply Kd.R_drewN | apply Kd.R_drew)); exact HO_20.out) hb); have n1_ := Aside0.mk (Kd.R_below (by (with_reducible repeat (first | apply Kd.R_alloc | apply Kd.R_drewN | apply Kd.R_drew)); exact HO_23.out) hb); have n2_ := Aside0.mk (Kd.R_below (by (with_reducible repeat (first | apply Kd.R_alloc | apply Kd.R_drewN | apply Kd.R_drew)); exact HO_26.out) hb); have n3_ := Aside0.mk (below_step (by repeat (first | (with_reducible first | exact HB.out | apply below_alloc | apply pw_below_drewN | apply below_drew1) | exact HB.out)) hb); clear HO_20; clear HO_23; clear HO_26; clear HB; have HO_20 := n0_; have HO_23 := n1_; have HO_26 := n2_; have HB := n3_; clear n0_ n1_ n2_ n3_; (try clear hb); (try clear hb2); (try clear hk); (try clear hi)) | ((with_reducible refine gate_dst (N := 28) rfl ?_); (try (refine gate_guard (by rfl) ?_; dsimp only)); refine box_event ?hg (N := 28) ?hd (cs := #[.int .u64 0, .int .u64 0, .bool false, .string (⟨#[]⟩ : ByteArray)]) (t := 33) ?hr ?_; (case hd => rfl); (case hg => rfl); (case hr => first | (go_simp; done) | (go_simp; rfl)); intro gb350 hg w57 hbox hb; have n0_ := Aside0.mk (Kd.R_below (Kd.R_elderB (by (with_reducible repeat (first | apply Kd.R_alloc | apply Kd.R_drewN | apply Kd.R_drew)); exact HO_20.out) gb350 (Nat.le_of_eq hg.symm)) hb); have n1_ := Aside0.mk (Kd.R_below (Kd.R_elderB (by (with_reducible repeat (first | apply Kd.R_alloc | apply Kd.R_drewN | apply Kd.R_drew)); exact HO_23.out) gb350 (Nat.le_of_eq hg.symm)) hb); have n2_ := Aside0.mk (Kd.R_below (by (with_reducible repeat (first | apply Kd.R_alloc | apply Kd.R_drewN | apply Kd.R_drew)); exact HO_26.out) hb); have n3_ := Aside0.mk (below_step (by repeat (first | (with_reducible first | exact HB.out | apply below_alloc | apply pw_below_drewN | apply below_drew1) | exact HB.out)) hb); have n4_ := Aside0.mk (hbox); have n5_ := Aside0.mk ((by rw [hg]; exact (below_size (by repeat (first | (with_reducible first | exact HB.out | apply below_alloc | apply pw_below_drewN | apply below_drew1) | exact HB.out))) : w.heap.size ≤ gb350)); have n6_ := Aside0.mk ((by rw [hg]; exact (below_size (by repeat (first | (with_reducible first | exact HB.out | apply below_alloc | apply pw_below_drewN | apply below_drew1) | exact HB.out))) : w.heap.size ≤ gb350)); clear HO_20; clear HO_23; clear HO_26; clear HB; have HO_20 := n0_; have HO_23 := n1_; have HO_26 := n2_; have HB := n3_; have BK350 := n4_; have GW350 := n5_; have GE350 := n6_; clear n0_ n1_ n2_ n3_ n4_ n5_ n6_; clear hb hbox hg; have hcz58_0 : w57.cell? ⟨gb350, 0, none⟩ = some (.int .u64 0) := (blk_cell BK350.out 0).trans rfl; have hcz58_1 : w57.cell? ⟨gb350, 1, none⟩ = some (.int .u64 0) := (blk_cell BK350.out 1).trans rfl; have hcz58_2 : w57.cell? ⟨gb350, 2, none⟩ = some (.bool false) := (blk_cell BK350.out 2).trans rfl; have hcz58_3 : w57.cell? ⟨gb350, 3, none⟩ = some (.string (⟨#[]⟩ : ByteArray)) := (blk_cell BK350.out 3).trans rfl; have hfz58_0 := blk_frozen BK350.out 0; have hfz58_1 := blk_frozen BK350.out 1; have hfz58_2 := blk_frozen BK350.out 2; have hfz58_3 := blk_frozen BK350.out 3; have p351 : 0 ≤ (x27_2 : Int) := of_decide_eq_true (by first | (with_reducible assumption) | assumption); have q351 : x27_2 < (t341.length : Int) := of_decide_eq_true (by first | (with_reducible assumption) | assumption); obtain ⟨ad351, e351, hx351_0⟩ := Kd.at_int (Kd.R_reads' HO_26.out).2.2 x27_2 p351 q351; obtain rfl : ad344 = ad351 := (by injection e351); have hn351_0 : ad344.block ≠ gb350 := Kd.own_blk (Kd.R_ne HO_26.out BK350.out (by decide)); have hn351_1 : ad344.block ≠ gb350 := Kd.own_blk (Kd.R_ne HO_26.out BK350.out (by decide)); have hn351_2 : ad344.block ≠ gb350 := Kd.own_blk (Kd.R_ne HO_26.out BK350.out (by decide)); have hn351_3 : ad344.block ≠ gb350 := Kd.own_blk (Kd.R_ne HO_26.out BK350.out (by decide)); replace hx351_0 := (cell_far (p := ⟨gb350, 0, none⟩) (by first | (rw [add_block]; exact hn351_0) | (show (Addr.add _ _).block ≠ _; rw [add_block]; exact hn351_0) | exact hn351_0) (.int .u64 t345)).trans hx351_0; replace hx351_0 := (cell_far (p := ⟨gb350, 1, none⟩) (by first | (rw [add_block]; exact hn351_1) | (show (Addr.add _ _).block ≠ _; rw [add_block]; exact hn351_1) | exact hn351_1) (.int .u64 t346)).trans hx351_0; replace hx351_0 := (cell_far (p := ⟨gb350, 2, none⟩) (by first | (rw [add_block]; exact hn351_2) | (show (Addr.add _ _).block ≠ _; rw [add_block]; exact hn351_2) | exact hn351_2) (.bool t347)).trans hx351_0; replace hx351_0 := (cell_far (p := ⟨gb350, 3, none⟩) (by first | (rw [add_block]; exact hn351_3) | (show (Addr.add _ _).block ≠ _; rw [add_block]; exact hn351_3) | exact hn351_3) (.string t348)).trans hx351_0; (try have hy351_0 := fun (n_ : Nat) => (show ((((((w57.drewN n_).setCell ⟨gb350, 0, none⟩ (.int .u64 t345)).setCell ⟨gb350, 1, none⟩ (.int .u64 t346)).setCell ⟨gb350, 2, none⟩ (.bool t347)).setCell ⟨gb350, 3, none⟩ (.string t348))).cell? _ = some _ from hx351_0)); clear hn351_0; clear hn351_1; clear hn351_2; clear hn351_3; replace p351 := eq_true p351; replace q351 := eq_true q351))); (try go_quiet (fail)))
                            go_roundg k2
                            case measure => have := HJ14.out; have := HK2.out; omega
                            case rel => exact ⟨(wrap64 (x27_2 + 1)), (by first | rfl | (simp; done) | (simp [*]; done)), H', ⟨by have := HJ14.out; have := HK2.out; omega⟩, ⟨by (with_reducible repeat (first | apply Kd.R_alloc | apply Kd.R_drewN | apply Kd.R_drew)); exact Kd.R_mono (Kd.R_far (p := ⟨gb350, 3, none⟩) (Kd.R_far (p := ⟨gb350, 2, none⟩) (Kd.R_far (p := ⟨gb350, 1, none⟩) (Kd.R_far (p := ⟨gb350, 0, none⟩) (Kd.R_mono HO_20.out (fun k_ hk => (⟨hk, hk.2⟩ : _ ∧ k_ ≠ gb350))) (fun _ hk => hk.2) (.int .u64 t345)) (fun _ hk => hk.2) (.int .u64 t346)) (fun _ hk => hk.2) (.bool t347)) (fun _ hk => hk.2) (.string t348)) (fun _ hk => hk.1.1)⟩, ⟨by (with_reducible repeat (first | apply Kd.R_alloc | apply Kd.R_drewN | apply Kd.R_drew)); exact Kd.R_mono (Kd.R_far (p := ⟨gb350, 3, none⟩) (Kd.R_far (p := ⟨gb350, 2, none⟩) (Kd.R_far (p := ⟨gb350, 1, none⟩) (Kd.R_far (p := ⟨gb350, 0, none⟩) (Kd.R_mono HO_23.out (fun k_ hk => (⟨hk, hk.2⟩ : _ ∧ k_ ≠ gb350))) (fun _ hk => hk.2) (.int .u64 t345)) (fun _ hk => hk.2) (.int .u64 t346)) (fun _ hk => hk.2) (.bool t347)) (fun _ hk => hk.2) (.string t348)) (fun _ hk => hk.1.1)⟩, ⟨by (with_reducible repeat (first | apply Kd.R_alloc | apply Kd.R_drewN | apply Kd.R_drew)); exact Kd.R_mono (Kd.R_far (p := ⟨gb350, 3, none⟩) (Kd.R_far (p := ⟨gb350, 2, none⟩) (Kd.R_far (p := ⟨gb350, 1, none⟩) (Kd.R_far (p := ⟨gb350, 0, none⟩) (Kd.R_types HO_26.out BK350.out (by decide)) (fun _ hk => hk.2) (.int .u64 t345)) (fun _ hk => hk.2) (.int .u64 t346)) (fun _ hk => hk.2) (.bool t347)) (fun _ hk => hk.2) (.string t348)) (fun _ hk => trivial)⟩, ⟨by repeat (first | (with_reducible first | exact HB.out | apply below_alloc | apply pw_below_drewN | apply below_drew1 | refine below_set ?_ GE350.out) | exact HB.out)⟩⟩
                        · rw [if_neg c41] at H
                          have c41b0 : (t345 == (rd t341 x27_2)) = false := beq_eq_false_iff_ne.mpr c41
                          have c41b1 : (t345 != (rd t341 x27_2)) = true := bne_iff_ne.mpr c41
                          obtain rfl := Option.some.inj H
                          obtain ⟨Ao59, co59, eo59⟩ := Kd.R_slice HO_26.out
                          subst eo59
                          have p344 : 0 ≤ (x27_2 : Int) := of_decide_eq_true (by first | (with_reducible assumption) | assumption)
                          have q344 : x27_2 < (t341.length : Int) := of_decide_eq_true (by first | (with_reducible assumption) | assumption)
                          obtain ⟨ad344, e344, hx344_0⟩ := Kd.at_int (Kd.R_reads' HO_26.out).2.2 x27_2 p344 q344
                          cases e344
                          replace p344 := eq_true p344
                          replace q344 := eq_true q344
                          iterate 3 ((try go_wp2_with (first | (go_at_call 16; (with_reducible refine (cps_Find.calls k2 _ _ y313 (rd t341 x27_2) t345 t346 t347 t348 t349 _ ?side1 ?side2 A39.out).mono ?_); (case side1 => repeat (first | exact (Kd.C_below HR316.out HB.out) | (with_reducible refine Kd.C_alloc ?_ _) | (with_reducible refine Kd.C_drewN ?_ _) | (with_reducible refine Kd.C_drew ?_))); (case side2 => exact HC316.out); rintro e w60 ⟨rfl, hb⟩; have n0_ := Aside0.mk (Kd.R_below (by (with_reducible repeat (first | apply Kd.R_alloc | apply Kd.R_drewN | apply Kd.R_drew)); exact HO_20.out) hb); have n1_ := Aside0.mk (Kd.R_below (by (with_reducible repeat (first | apply Kd.R_alloc | apply Kd.R_drewN | apply Kd.R_drew)); exact HO_23.out) hb); have n2_ := Aside0.mk (Kd.R_below (by (with_reducible repeat (first | apply Kd.R_alloc | apply Kd.R_drewN | apply Kd.R_drew)); exact HO_26.out) hb); have n3_ := Aside0.mk (below_step (by repeat (first | (with_reducible first | exact HB.out | apply below_alloc | apply pw_below_drewN | apply below_drew1) | exact HB.out)) hb); clear HO_20; clear HO_23; clear HO_26; clear HB; have HO_20 := n0_; have HO_23 := n1_; have HO_26 := n2_; have HB := n3_; clear n0_ n1_ n2_ n3_; (try clear hb); (try clear hb2); (try clear hk); (try clear hi)) | ((with_reducible refine gate_dst (N := 28) rfl ?_); (try (refine gate_guard (by rfl) ?_; dsimp only)); refine box_event ?hg (N := 28) ?hd (cs := #[.int .u64 0, .int .u64 0, .bool false, .string (⟨#[]⟩ : ByteArray)]) (t := 33) ?hr ?_; (case hd => rfl); (case hg => rfl); (case hr => first | (go_simp; done) | (go_simp; rfl)); intro gb350 hg w61 hbox hb; have n0_ := Aside0.mk (Kd.R_below (Kd.R_elderB (by (with_reducible repeat (first | apply Kd.R_alloc | apply Kd.R_drewN | apply Kd.R_drew)); exact HO_20.out) gb350 (Nat.le_of_eq hg.symm)) hb); have n1_ := Aside0.mk (Kd.R_below (Kd.R_elderB (by (with_reducible repeat (first | apply Kd.R_alloc | apply Kd.R_drewN | apply Kd.R_drew)); exact HO_23.out) gb350 (Nat.le_of_eq hg.symm)) hb); have n2_ := Aside0.mk (Kd.R_below (by (with_reducible repeat (first | apply Kd.R_alloc | apply Kd.R_drewN | apply Kd.R_drew)); exact HO_26.out) hb); have n3_ := Aside0.mk (below_step (by repeat (first | (with_reducible first | exact HB.out | apply below_alloc | apply pw_below_drewN | apply below_drew1) | exact HB.out)) hb); have n4_ := Aside0.mk (hbox); have n5_ := Aside0.mk ((by rw [hg]; exact (below_size (by repeat (first | (with_reducible first | exact HB.out | apply below_alloc | apply pw_below_drewN | apply below_drew1) | exact HB.out))) : w.heap.size ≤ gb350)); have n6_ := Aside0.mk ((by rw [hg]; exact (below_size (by repeat (first | (with_reducible first | exact HB.out | apply below_alloc | apply pw_below_drewN | apply below_drew1) | exact HB.out))) : w.heap.size ≤ gb350)); clear HO_20; clear HO_23; clear HO_26; clear HB; have HO_20 := n0_; have HO_23 := n1_; have HO_26 := n2_; have HB := n3_; have BK350 := n4_; have GW350 := n5_; have GE350 := n6_; clear n0_ n1_ n2_ n3_ n4_ n5_ n6_; clear hb hbox hg; have hcz62_0 : w61.cell? ⟨gb350, 0, none⟩ = some (.int .u64 0) := (blk_cell BK350.out 0).trans rfl; have hcz62_1 : w61.cell? ⟨gb350, 1, none⟩ = some (.int .u64 0) := (blk_cell BK350.out 1).trans rfl; have hcz62_2 : w61.cell? ⟨gb350, 2, none⟩ = some (.bool false) := (blk_cell BK350.out 2).trans rfl; have hcz62_3 : w61.cell? ⟨gb350, 3, none⟩ = some (.string (⟨#[]⟩ : ByteArray)) := (blk_cell BK350.out 3).trans rfl; have hfz62_0 := blk_frozen BK350.out 0; have hfz62_1 := blk_frozen BK350.out 1; have hfz62_2 := blk_frozen BK350.out 2; have hfz62_3 := blk_frozen BK350.out 3; have p351 : 0 ≤ (x27_2 : Int) := of_decide_eq_true (by first | (with_reducible assumption) | assumption); have q351 : x27_2 < (t341.length : Int) := of_decide_eq_true (by first | (with_reducible assumption) | assumption); obtain ⟨ad351, e351, hx351_0⟩ := Kd.at_int (Kd.R_reads' HO_26.out).2.2 x27_2 p351 q351; obtain rfl : ad344 = ad351 := (by injection e351); have hn351_0 : ad344.block ≠ gb350 := Kd.own_blk (Kd.R_ne HO_26.out BK350.out (by decide)); have hn351_1 : ad344.block ≠ gb350 := Kd.own_blk (Kd.R_ne HO_26.out BK350.out (by decide)); have hn351_2 : ad344.block ≠ gb350 := Kd.own_blk (Kd.R_ne HO_26.out BK350.out (by decide)); have hn351_3 : ad344.block ≠ gb350 := Kd.own_blk (Kd.R_ne HO_26.out BK350.out (by decide)); replace hx351_0 := (cell_far (p := ⟨gb350, 0, none⟩) (by first | (rw [add_block]; exact hn351_0) | (show (Addr.add _ _).block ≠ _; rw [add_block]; exact hn351_0) | exact hn351_0) (.int .u64 t345)).trans hx351_0; replace hx351_0 := (cell_far (p := ⟨gb350, 1, none⟩) (by first | (rw [add_block]; exact hn351_1) | (show (Addr.add _ _).block ≠ _; rw [add_block]; exact hn351_1) | exact hn351_1) (.int .u64 t346)).trans hx351_0; replace hx351_0 := (cell_far (p := ⟨gb350, 2, none⟩) (by first | (rw [add_block]; exact hn351_2) | (show (Addr.add _ _).block ≠ _; rw [add_block]; exact hn351_2) | exact hn351_2) (.bool t347)).trans hx351_0; replace hx351_0 := (cell_far (p := ⟨gb350, 3, none⟩) (by first | (rw [add_block]; exact hn351_3) | (show (Addr.add _ _).block ≠ _; rw [add_block]; exact hn351_3) | exact hn351_3) (.string t348)).trans hx351_0; (try have hy351_0 := fun (n_ : Nat) => (show ((((((w61.drewN n_).setCell ⟨gb350, 0, none⟩ (.int .u64 t345)).setCell ⟨gb350, 1, none⟩ (.int .u64 t346)).setCell ⟨gb350, 2, none⟩ (.bool t347)).setCell ⟨gb350, 3, none⟩ (.string t348))).cell? _ = some _ from hx351_0)); clear hn351_0; clear hn351_1; clear hn351_2; clear hn351_3; replace p351 := eq_true p351; replace q351 := eq_true q351))); (try go_quiet (fail)))
                          go_ret
                          exact ⟨by first | rfl | (simp [errW_none, errW_some] <;> rfl) | (simp [*, errW_none, errW_some] <;> rfl) | (simp [show IntKind.u64.wrap 0 = 0 from rfl, Int.zero_tdiv]; done), by repeat (first | (with_reducible first | exact HB.out | apply below_alloc | apply pw_below_drewN | apply below_drew1 | refine below_set ?_ GE350.out) | exact HB.out)⟩
                      · rw [if_neg c40] at H
                        have c40b0 : (t349 == 0) = false := beq_eq_false_iff_ne.mpr c40
                        have c40b1 : (t349 != 0) = true := bne_iff_ne.mpr c40
                        obtain rfl := Option.some.inj H
                        obtain ⟨Ao63, co63, eo63⟩ := Kd.R_slice HO_26.out
                        subst eo63
                        have p344 : 0 ≤ (x27_2 : Int) := of_decide_eq_true (by first | (with_reducible assumption) | assumption)
                        have q344 : x27_2 < (t341.length : Int) := of_decide_eq_true (by first | (with_reducible assumption) | assumption)
                        obtain ⟨ad344, e344, hx344_0⟩ := Kd.at_int (Kd.R_reads' HO_26.out).2.2 x27_2 p344 q344
                        cases e344
                        replace p344 := eq_true p344
                        replace q344 := eq_true q344
                        iterate 3 ((try go_wp2_with (first | (go_at_call 16; (with_reducible refine (cps_Find.calls k2 _ _ y313 (rd t341 x27_2) t345 t346 t347 t348 t349 _ ?side1 ?side2 A39.out).mono ?_); (case side1 => repeat (first | exact (Kd.C_below HR316.out HB.out) | (with_reducible refine Kd.C_alloc ?_ _) | (with_reducible refine Kd.C_drewN ?_ _) | (with_reducible refine Kd.C_drew ?_))); (case side2 => exact HC316.out); rintro e w64 ⟨rfl, hb⟩; have n0_ := Aside0.mk (Kd.R_below (by (with_reducible repeat (first | apply Kd.R_alloc | apply Kd.R_drewN | apply Kd.R_drew)); exact HO_20.out) hb); have n1_ := Aside0.mk (Kd.R_below (by (with_reducible repeat (first | apply Kd.R_alloc | apply Kd.R_drewN | apply Kd.R_drew)); exact HO_23.out) hb); have n2_ := Aside0.mk (Kd.R_below (by (with_reducible repeat (first | apply Kd.R_alloc | apply Kd.R_drewN | apply Kd.R_drew)); exact HO_26.out) hb); have n3_ := Aside0.mk (below_step (by repeat (first | (with_reducible first | exact HB.out | apply below_alloc | apply pw_below_drewN | apply below_drew1) | exact HB.out)) hb); clear HO_20; clear HO_23; clear HO_26; clear HB; have HO_20 := n0_; have HO_23 := n1_; have HO_26 := n2_; have HB := n3_; clear n0_ n1_ n2_ n3_; (try clear hb); (try clear hb2); (try clear hk); (try clear hi)) | ((with_reducible refine gate_dst (N := 28) rfl ?_); (try (refine gate_guard (by rfl) ?_; dsimp only)); refine box_event ?hg (N := 28) ?hd (cs := #[.int .u64 0, .int .u64 0, .bool false, .string (⟨#[]⟩ : ByteArray)]) (t := 33) ?hr ?_; (case hd => rfl); (case hg => rfl); (case hr => first | (go_simp; done) | (go_simp; rfl)); intro gb350 hg w65 hbox hb; have n0_ := Aside0.mk (Kd.R_below (Kd.R_elderB (by (with_reducible repeat (first | apply Kd.R_alloc | apply Kd.R_drewN | apply Kd.R_drew)); exact HO_20.out) gb350 (Nat.le_of_eq hg.symm)) hb); have n1_ := Aside0.mk (Kd.R_below (Kd.R_elderB (by (with_reducible repeat (first | apply Kd.R_alloc | apply Kd.R_drewN | apply Kd.R_drew)); exact HO_23.out) gb350 (Nat.le_of_eq hg.symm)) hb); have n2_ := Aside0.mk (Kd.R_below (by (with_reducible repeat (first | apply Kd.R_alloc | apply Kd.R_drewN | apply Kd.R_drew)); exact HO_26.out) hb); have n3_ := Aside0.mk (below_step (by repeat (first | (with_reducible first | exact HB.out | apply below_alloc | apply pw_below_drewN | apply below_drew1) | exact HB.out)) hb); have n4_ := Aside0.mk (hbox); have n5_ := Aside0.mk ((by rw [hg]; exact (below_size (by repeat (first | (with_reducible first | exact HB.out | apply below_alloc | apply pw_below_drewN | apply below_drew1) | exact HB.out))) : w.heap.size ≤ gb350)); have n6_ := Aside0.mk ((by rw [hg]; exact (below_size (by repeat (first | (with_reducible first | exact HB.out | apply below_alloc | apply pw_below_drewN | apply below_drew1) | exact HB.out))) : w.heap.size ≤ gb350)); clear HO_20; clear HO_23; clear HO_26; clear HB; have HO_20 := n0_; have HO_23 := n1_; have HO_26 := n2_; have HB := n3_; have BK350 := n4_; have GW350 := n5_; have GE350 := n6_; clear n0_ n1_ n2_ n3_ n4_ n5_ n6_; clear hb hbox hg; have hcz66_0 : w65.cell? ⟨gb350, 0, none⟩ = some (.int .u64 0) := (blk_cell BK350.out 0).trans rfl; have hcz66_1 : w65.cell? ⟨gb350, 1, none⟩ = some (.int .u64 0) := (blk_cell BK350.out 1).trans rfl; have hcz66_2 : w65.cell? ⟨gb350, 2, none⟩ = some (.bool false) := (blk_cell BK350.out 2).trans rfl; have hcz66_3 : w65.cell? ⟨gb350, 3, none⟩ = some (.string (⟨#[]⟩ : ByteArray)) := (blk_cell BK350.out 3).trans rfl; have hfz66_0 := blk_frozen BK350.out 0; have hfz66_1 := blk_frozen BK350.out 1; have hfz66_2 := blk_frozen BK350.out 2; have hfz66_3 := blk_frozen BK350.out 3))); (try go_quiet (fail)))
                        go_ret
                        exact ⟨by first | rfl | (simp [errW_none, errW_some] <;> rfl) | (simp [*, errW_none, errW_some] <;> rfl) | (simp [show IntKind.u64.wrap 0 = 0 from rfl, Int.zero_tdiv]; done), by repeat (first | (with_reducible first | exact HB.out | apply below_alloc | apply pw_below_drewN | apply below_drew1 | refine below_set ?_ GE350.out) | exact HB.out)⟩
                    · rw [if_neg c38] at H
                      exact absurd H (by simp)
                  · rw [if_neg c37] at H
                    have c37b0 : decide (x27_2 < (t341.length : Int)) = false := decide_eq_false c37
                    clear c37
                    by_cases c67 : t312 = true
                    · subst c67
                      have H1 : (if t333 = 0 then (if t338 = 0 then (if t337 = 0 then ((nautilusref09_Same.f k2 t331 t336).bind fun t354 => (if t354 = true then (some ((t341.length : Int) == (y313.length : Int))) else (some false))) else (some false)) else (some false)) else (some false)) = some r := by rw [if_pos rfl] at H; exact H
                      clear H
                      have H := H1
                      clear H1
                      by_cases c68 : t333 = 0
                      · rw [if_pos c68] at H
                        have c68b0 : (t333 == 0) = true := beq_iff_eq.mpr c68
                        have c68b1 : (t333 != 0) = false := bne_eq_false_iff_eq.mpr c68
                        clear c68
                        by_cases c69 : t338 = 0
                        · rw [if_pos c69] at H
                          have c69b0 : (t338 == 0) = true := beq_iff_eq.mpr c69
                          have c69b1 : (t338 != 0) = false := bne_eq_false_iff_eq.mpr c69
                          clear c69
                          by_cases c70 : t337 = 0
                          · rw [if_pos c70] at H
                            have c70b0 : (t337 == 0) = true := beq_iff_eq.mpr c70
                            have c70b1 : (t337 != 0) = false := bne_eq_false_iff_eq.mpr c70
                            clear c70
                            replace H := Option.bind_eq_some_iff.mp H
                            obtain ⟨t354, A710, H⟩ := H
                            replace H : (if t354 = true then (some ((t341.length : Int) == (y313.length : Int))) else (some false)) = some r := H
                            have A71 := Aside0.mk A710
                            clear A710
                            by_cases c72 : t354 = true
                            · subst c72
                              have H1 : (some ((t341.length : Int) == (y313.length : Int))) = some r := by rw [if_pos rfl] at H; exact H
                              clear H
                              have H := H1
                              clear H1
                              obtain rfl := Option.some.inj H
                              obtain ⟨Ao73, co73, eo73⟩ := Kd.R_slice HO_26.out
                              subst eo73
                              obtain ⟨Ao74, co74, eo74⟩ := Kd.R_slice HO_23.out
                              subst eo74
                              iterate 3 ((try go_wp2_with (first | (go_at_call 21; (with_reducible refine (nautilusref09_Same.calls k2 _ _ t331 _ _ t336 true _ ?side1 ?side2 ?side3 ?side4 A71.out).mono ?_); (case side1 => repeat (first | exact (Kd.R_reads' HO_20.out).2.2 | (with_reducible refine Kd.C_alloc ?_ _) | (with_reducible refine Kd.C_drewN ?_ _) | (with_reducible refine Kd.C_drew ?_))); (case side2 => exact (Kd.R_reads' HO_20.out).2.1); (case side3 => repeat (first | exact (Kd.R_reads' HO_23.out).2.2 | (with_reducible refine Kd.C_alloc ?_ _) | (with_reducible refine Kd.C_drewN ?_ _) | (with_reducible refine Kd.C_drew ?_))); (case side4 => exact (Kd.R_reads' HO_23.out).2.1); rintro e w' ⟨rfl, ⟨nd, rfl⟩⟩; (try first | exact ⟨rfl, _, World.drewN_drewN _ _ _⟩ | exact ⟨rfl, _, Eq.trans (World.drewN_drewN _ _ _) (congrArg (World.drewN _) (Nat.add_assoc _ _ _))⟩)))); (try go_quiet (first | (go_at_call 21; (with_reducible refine (nautilusref09_Same.calls k2 _ _ t331 _ _ t336 true _ ?side1 ?side2 ?side3 ?side4 A71.out).mono ?_); (case side1 => repeat (first | exact (Kd.R_reads' HO_20.out).2.2 | (with_reducible refine Kd.C_alloc ?_ _) | (with_reducible refine Kd.C_drewN ?_ _) | (with_reducible refine Kd.C_drew ?_))); (case side2 => exact (Kd.R_reads' HO_20.out).2.1); (case side3 => repeat (first | exact (Kd.R_reads' HO_23.out).2.2 | (with_reducible refine Kd.C_alloc ?_ _) | (with_reducible refine Kd.C_drewN ?_ _) | (with_reducible refine Kd.C_drew ?_))); (case side4 => exact (Kd.R_reads' HO_23.out).2.1); rintro e w' ⟨rfl, ⟨nd, rfl⟩⟩; (try first | exact ⟨rfl, _, World.drewN_drewN _ _ _⟩ | exact ⟨rfl, _, Eq.trans (World.drewN_drewN _ _ _) (congrArg (World.drewN _) (Nat.add_assoc _ _ _))⟩)))))
                              go_ret
                              exact ⟨by first | rfl | (simp [errW_none, errW_some] <;> rfl) | (simp [*, errW_none, errW_some] <;> rfl) | (simp [show IntKind.u64.wrap 0 = 0 from rfl, Int.zero_tdiv]; done), by repeat (first | (with_reducible first | exact HB.out | apply below_alloc | apply pw_below_drewN | apply below_drew1) | exact HB.out)⟩
                            · replace c72 := Bool.eq_false_iff.mpr c72
                              subst c72
                              have H1 : (some false) = some r := by rw [if_neg (show ¬ (false = true) by decide)] at H; exact H
                              clear H
                              have H := H1
                              clear H1
                              obtain rfl := Option.some.inj H
                              obtain ⟨Ao75, co75, eo75⟩ := Kd.R_slice HO_26.out
                              subst eo75
                              obtain ⟨Ao76, co76, eo76⟩ := Kd.R_slice HO_23.out
                              subst eo76
                              iterate 3 ((try go_wp2_with (first | (go_at_call 21; (with_reducible refine (nautilusref09_Same.calls k2 _ _ t331 _ _ t336 false _ ?side1 ?side2 ?side3 ?side4 A71.out).mono ?_); (case side1 => repeat (first | exact (Kd.R_reads' HO_20.out).2.2 | (with_reducible refine Kd.C_alloc ?_ _) | (with_reducible refine Kd.C_drewN ?_ _) | (with_reducible refine Kd.C_drew ?_))); (case side2 => exact (Kd.R_reads' HO_20.out).2.1); (case side3 => repeat (first | exact (Kd.R_reads' HO_23.out).2.2 | (with_reducible refine Kd.C_alloc ?_ _) | (with_reducible refine Kd.C_drewN ?_ _) | (with_reducible refine Kd.C_drew ?_))); (case side4 => exact (Kd.R_reads' HO_23.out).2.1); rintro e w' ⟨rfl, ⟨nd, rfl⟩⟩; (try first | exact ⟨rfl, _, World.drewN_drewN _ _ _⟩ | exact ⟨rfl, _, Eq.trans (World.drewN_drewN _ _ _) (congrArg (World.drewN _) (Nat.add_assoc _ _ _))⟩)))); (try go_quiet (first | (go_at_call 21; (with_reducible refine (nautilusref09_Same.calls k2 _ _ t331 _ _ t336 false _ ?side1 ?side2 ?side3 ?side4 A71.out).mono ?_); (case side1 => repeat (first | exact (Kd.R_reads' HO_20.out).2.2 | (with_reducible refine Kd.C_alloc ?_ _) | (with_reducible refine Kd.C_drewN ?_ _) | (with_reducible refine Kd.C_drew ?_))); (case side2 => exact (Kd.R_reads' HO_20.out).2.1); (case side3 => repeat (first | exact (Kd.R_reads' HO_23.out).2.2 | (with_reducible refine Kd.C_alloc ?_ _) | (with_reducible refine Kd.C_drewN ?_ _) | (with_reducible refine Kd.C_drew ?_))); (case side4 => exact (Kd.R_reads' HO_23.out).2.1); rintro e w' ⟨rfl, ⟨nd, rfl⟩⟩; (try first | exact ⟨rfl, _, World.drewN_drewN _ _ _⟩ | exact ⟨rfl, _, Eq.trans (World.drewN_drewN _ _ _) (congrArg (World.drewN _) (Nat.add_assoc _ _ _))⟩)))))
                              go_ret
                              exact ⟨by first | rfl | (simp [errW_none, errW_some] <;> rfl) | (simp [*, errW_none, errW_some] <;> rfl) | (simp [show IntKind.u64.wrap 0 = 0 from rfl, Int.zero_tdiv]; done), by repeat (first | (with_reducible first | exact HB.out | apply below_alloc | apply pw_below_drewN | apply below_drew1) | exact HB.out)⟩
                          · rw [if_neg c70] at H
                            have c70b0 : (t337 == 0) = false := beq_eq_false_iff_ne.mpr c70
                            have c70b1 : (t337 != 0) = true := bne_iff_ne.mpr c70
                            obtain rfl := Option.some.inj H
                            obtain ⟨Ao77, co77, eo77⟩ := Kd.R_slice HO_26.out
                            subst eo77
                            go_wp2
                            repeat (go_quiet (fail); try go_wp2)
                            go_ret
                            exact ⟨by first | rfl | (simp [errW_none, errW_some] <;> rfl) | (simp [*, errW_none, errW_some] <;> rfl) | (simp [show IntKind.u64.wrap 0 = 0 from rfl, Int.zero_tdiv]; done), by repeat (first | (with_reducible first | exact HB.out | apply below_alloc | apply pw_below_drewN | apply below_drew1) | exact HB.out)⟩
                        · rw [if_neg c69] at H
                          have c69b0 : (t338 == 0) = false := beq_eq_false_iff_ne.mpr c69
                          have c69b1 : (t338 != 0) = true := bne_iff_ne.mpr c69
                          obtain rfl := Option.some.inj H
                          obtain ⟨Ao78, co78, eo78⟩ := Kd.R_slice HO_26.out
                          subst eo78
                          go_wp2
                          repeat (go_quiet (fail); try go_wp2)
                          go_ret
                          exact ⟨by first | rfl | (simp [errW_none, errW_some] <;> rfl) | (simp [*, errW_none, errW_some] <;> rfl) | (simp [show IntKind.u64.wrap 0 = 0 from rfl, Int.zero_tdiv]; done), by repeat (first | (with_reducible first | exact HB.out | apply below_alloc | apply pw_below_drewN | apply below_drew1) | exact HB.out)⟩
                      · rw [if_neg c68] at H
                        have c68b0 : (t333 == 0) = false := beq_eq_false_iff_ne.mpr c68
                        have c68b1 : (t333 != 0) = true := bne_iff_ne.mpr c68
                        obtain rfl := Option.some.inj H
                        obtain ⟨Ao79, co79, eo79⟩ := Kd.R_slice HO_26.out
                        subst eo79
                        go_wp2
                        repeat (go_quiet (fail); try go_wp2)
                        go_ret
                        exact ⟨by first | rfl | (simp [errW_none, errW_some] <;> rfl) | (simp [*, errW_none, errW_some] <;> rfl) | (simp [show IntKind.u64.wrap 0 = 0 from rfl, Int.zero_tdiv]; done), by repeat (first | (with_reducible first | exact HB.out | apply below_alloc | apply pw_below_drewN | apply below_drew1) | exact HB.out)⟩
                    · replace c67 := Bool.eq_false_iff.mpr c67
                      subst c67
                      have H1 : (some false) = some r := by rw [if_neg (show ¬ (false = true) by decide)] at H; exact H
                      clear H
                      have H := H1
                      clear H1
                      obtain rfl := Option.some.inj H
                      obtain ⟨Ao80, co80, eo80⟩ := Kd.R_slice HO_26.out
                      subst eo80
                      go_wp2
                      repeat (go_quiet (fail); try go_wp2)
                      go_ret
                      exact ⟨by first | rfl | (simp [errW_none, errW_some] <;> rfl) | (simp [*, errW_none, errW_some] <;> rfl) | (simp [show IntKind.u64.wrap 0 = 0 from rfl, Int.zero_tdiv]; done), by repeat (first | (with_reducible first | exact HB.out | apply below_alloc | apply pw_below_drewN | apply below_drew1) | exact HB.out)⟩
      · replace c11 := Bool.eq_false_iff.mpr c11
        subst c11
        have H1 : (some t312) = some r := by rw [if_neg (show ¬ (false = true) by decide)] at H; exact H
        clear H
        have H := H1
        clear H1
        obtain rfl := Option.some.inj H
        go_enter Try.func5, Try.ntmps5
        iterate 3 ((try go_wp2_with (first | (go_at_call 11; (with_reducible refine (nautiluslaw09_shown.calls k  t312 _ A7.out).mono ?_); rintro e w81 ⟨rfl, hb⟩; have n0_ := Aside0.mk (below_step (by repeat (first | (with_reducible first | exact HB.out | apply below_alloc | apply pw_below_drewN | apply below_drew1) | exact HB.out)) hb); clear HB; have HB := n0_; clear n0_; (try clear hb); (try clear hb2); (try clear hk); (try clear hi); have q82 : ((mn (l0.length : Int) 200) : Int) ≤ ((l0.length : Int) : Int) := of_decide_eq_true (by first | (with_reducible assumption) | assumption); obtain ⟨i082, hi082, _, hsz82, _⟩ := info_parts info33; have hroom82 : l0.length ≤ c0 := HC0.out; have hC82 : Kd.C k33 _ A0 l0.length l0 := HR0.out; have hcut82 := cut_to (P := Try.prog) 22 33 .i64 Try.underlying22 hi082 A0 l0.length c0 (mn (l0.length : Int) 200) (of_decide_eq_true (by first | (with_reducible assumption) | assumption)) q82 hroom82; have hr82 := Kd.C_take (m := ((mn (l0.length : Int) 200) : Int).toNat) hC82 (by omega); have hy82 : y313.length = ((mn (l0.length : Int) 200) : Int).toNat := (by rw [Ny313.out, List.length_take]; omega); rw [← Ny313.out] at hr82; rw [← hy82] at hcut82; have HR316 := Aside0.mk hr82; have HC316 := Aside0.mk (show y313.length ≤ c0 from by omega); clear hr82 hC82 hroom82 hi082 hsz82; have KY82 := Aside0.mk hy82; clear hy82; clear hcut82; replace q82 := eq_true q82) | ((with_reducible refine gate_callee (f := 12) rfl ?_); refine goesL_ (some 32) rfl rfl Try.func12 (by kernel_rfl) rfl #[.slice A0 l0.length c0] rfl (by (try simp only [List.map_toArray, List.map_cons, List.map_nil]); first | done | rfl | (simp only [List.length_drop, List.length_take]; rfl)) ?_; (refine (nautiluslaw09_cut.calls A0 l0.length c0 y313.length _ ?side1 ?side2 ?side3).mono ?_); (case side1 => exact Kd.C_max HR0.out); (case side2 => exact HC0.out); (case side3 => exact KY82.out); rintro e w' ⟨rfl, rfl⟩; refine ⟨_, rfl, ?_⟩) | (go_at_call 14; (with_reducible refine (cps_Right.calls k _ _ y313 false _ ?side1 ?side2 A10.out).mono ?_); (case side1 => repeat (first | exact (Kd.C_below HR316.out HB.out) | (with_reducible refine Kd.C_alloc ?_ _) | (with_reducible refine Kd.C_drewN ?_ _) | (with_reducible refine Kd.C_drew ?_))); (case side2 => exact HC316.out); rintro e w83 ⟨rfl, hb⟩; have n0_ := Aside0.mk (below_step (by repeat (first | (with_reducible first | exact HB.out | apply below_alloc | apply pw_below_drewN | apply below_drew1) | exact HB.out)) hb); clear HB; have HB := n0_; clear n0_; (try clear hb); (try clear hb2); (try clear hk); (try clear hi)))); (try go_quiet (fail)))
        go_ret
        exact ⟨by first | rfl | (simp [errW_none, errW_some] <;> rfl) | (simp [*, errW_none, errW_some] <;> rfl) | (simp [show IntKind.u64.wrap 0 = 0 from rfl, Int.zero_tdiv]; done), by repeat (first | (with_reducible first | exact HB.out | apply below_alloc | apply pw_below_drewN | apply below_drew1) | exact HB.out)⟩
    · rw [if_neg c9] at H
      exact absurd H (by simp)
  · rw [if_neg c8] at H
    exact absurd H (by simp)

/-- THE ONE PURE STATEMENT of nautiluslaw09_CpsTurns: yours. -/
def nautiluslaw09_CpsTurns.Pure : Prop := ∀ (l0 : List (S33)) (a1 : Int) (a2 : Bool) (a3 : Bool) (a4 : Int) (a5 : Int), l0.length ≤ maxLen → (∀ x ∈ l0, (Lit.int .u64 x.f0).wf = true ∧ (Lit.int .u64 x.f1).wf = true ∧ x.f3.size ≤ maxLen) → (Lit.int .u64 a1).wf = true → (Lit.int .u64 a4).wf = true → (Lit.int .u64 a5).wf = true → ∃ k, nautiluslaw09_CpsTurns.f k l0 a1 a2 a3 a4 a5 = some true
theorem nautiluslaw09_CpsTurns.walk (P : nautiluslaw09_CpsTurns.Pure) (a0 : Option Addr) (len0 cap0 : Nat) (z0 : List (S33)) (a1 : Int) (a2 : Bool) (a3 : Bool) (a4 : Int) (a5 : Int) (w : World) (w0 : z0.length = len0 ∧ len0 ≤ cap0 ∧ len0 ≤ maxLen ∧ Kd.C k33 w a0 len0 z0 ∧ ∀ x ∈ z0, (Lit.int .u64 x.f0).wf = true ∧ (Lit.int .u64 x.f1).wf = true ∧ x.f3.size ≤ maxLen) (w1 : (Lit.int .u64 a1).wf = true) (w4 : (Lit.int .u64 a4).wf = true) (w5 : (Lit.int .u64 a5).wf = true) :
    Calls Try.prog 5 #[.slice a0 len0 cap0, .int .u64 a1, .bool a2, .bool a3, .int .u64 a4, .int .u64 a5] w fun e w' => e = .returned (.bool true) ∧ Below w.heap.size w w' := by
  obtain ⟨hl0, hc0, hm0, hC0, hw0⟩ := w0
  subst hl0
  obtain ⟨k, h⟩ := P z0 a1 a2 a3 a4 a5 hm0 hw0 w1 w4 w5
  refine (nautiluslaw09_CpsTurns.calls k _ _ z0 a1 a2 a3 a4 a5 true w hC0 hc0 h).mono ?_
  rintro e w' ⟨rfl, hd⟩
  exact ⟨rfl, hd⟩

end Go.Proofs.Ytllcmalgahnnhaa.Q
