/- Functions of the translation as plain Lean functions, and that the translation computes them: printed by this session's driver of the print. -/
import Derived.Test.YtllcmalgahnnhaaQ0
import Derived.Test.YtllcmalgahnnhaaQ1
import Derived.Test.YtllcmalgahnnhaaQ2
import Derived.Test.YtllcmalgahnnhaaQ4
import Derived.Test.YtllcmalgahnnhaaQ5
import Derived.Test.YtllcmalgahnnhaaHCut
import Derived.Test.YtllcmalgahnnhaaHKept
namespace Go.Proofs.Ytllcmalgahnnhaa.Q
open Go.Proofs.Ytllcmalgahnnhaa.H
open Go.RowKit Go.Proofs.YtllcmalgahnnhaaW.PrintWords Go.Proofs.YtllcmalgahnnhaaW.PrintLast Go.Proofs.YtllcmalgahnnhaaW.PrintMore
attribute [local go_sem] max2_int min2_int max_two min_two max_three min_three max_four min_four   -- for this text's walks alone
set_option linter.unusedVariables false
set_option linter.unusedSimpArgs false

attribute [local go_sem high] eqA33
/-! ### nautiluslaw09_CpsStays: function 3 -/
mutual
def nautiluslaw09_CpsStays.l0 : Nat → List (S33) → Int → Bool → List (S33) → Int → List (S33) → Int → Int → Option (Bool)
  | 0, _, _, _, _, _, _, _, _ => none
  | k + 1, x0, x1, x9, x10, x11, x13, x14, x15 => if x15 < (x0.length : Int) then (if 0 ≤ x15 then ((cps_Find.f k x10 ((rd_T33 x0 x15).f0)).bind fun bt178 => (if (rd_T33 x0 x15).f2 = true then (if bt178.2.2.2.2 = 0 then (nautiluslaw09_CpsStays.j1 k x0 x1 x9 x10 x11 x13 x14 x15 (!(bt178.1 == ((rd_T33 x0 x15).f0)) || (!(bt178.2.1 == ((rd_T33 x0 x15).f1)) || (!(bt178.2.2.1 == ((rd_T33 x0 x15).f2)) || (!(bt178.2.2.2.1.toList == (((rd_T33 x0 x15).f3).toList))))))) else (nautiluslaw09_CpsStays.j1 k x0 x1 x9 x10 x11 x13 x14 x15 true)) else (if x15 = (wrap64 ((x0.length : Int) - 1)) then (if bt178.2.2.2.2 = 0 then (nautiluslaw09_CpsStays.j1 k x0 x1 x9 x10 x11 x13 x14 x15 (!(bt178.1 == ((rd_T33 x0 x15).f0)) || (!(bt178.2.1 == ((rd_T33 x0 x15).f1)) || (!(bt178.2.2.1 == ((rd_T33 x0 x15).f2)) || (!(bt178.2.2.2.1.toList == (((rd_T33 x0 x15).f3).toList))))))) else (nautiluslaw09_CpsStays.j1 k x0 x1 x9 x10 x11 x13 x14 x15 true)) else (nautiluslaw09_CpsStays.j1 k x0 x1 x9 x10 x11 x13 x14 x15 false)))) else (none)) else (if x9 = true then (if (wrap64 ((x10.length : Int) + x11)) = (x0.length : Int) then ((cps_Right.f k x10).bind fun t176 => (some t176)) else (some false)) else (some false))
def nautiluslaw09_CpsStays.j1 : Nat → List (S33) → Int → Bool → List (S33) → Int → List (S33) → Int → Int → Bool → Option (Bool)
  | 0, _, _, _, _, _, _, _, _, _ => none
  | k + 1, x0, x1, x9, x10, x11, x13, x14, x15, x84 => if x84 = true then (some false) else (if 0 ≤ x15 then (if x15 < (x0.length : Int) then ((cps_Find.f k x13 ((rd_T33 x0 x15).f0)).bind fun bt188 => (if x14 = 0 then (if ((bt188.2.2.2.2 == 0) != (((rd_T33 x0 x15).f0) != x1)) = true then (nautiluslaw09_CpsStays.j2 k x0 x1 x9 x10 x11 x13 x14 x15 true) else (if bt188.2.2.2.2 = 0 then (nautiluslaw09_CpsStays.j2 k x0 x1 x9 x10 x11 x13 x14 x15 (!(bt188.1 == ((rd_T33 x0 x15).f0)) || (!(bt188.2.1 == ((rd_T33 x0 x15).f1)) || (!(bt188.2.2.1 == ((rd_T33 x0 x15).f2)) || (!(bt188.2.2.2.1.toList == (((rd_T33 x0 x15).f3).toList))))))) else (nautiluslaw09_CpsStays.j2 k x0 x1 x9 x10 x11 x13 x14 x15 false))) else (nautiluslaw09_CpsStays.j2 k x0 x1 x9 x10 x11 x13 x14 x15 false))) else (none)) else (none))
def nautiluslaw09_CpsStays.j2 : Nat → List (S33) → Int → Bool → List (S33) → Int → List (S33) → Int → Int → Bool → Option (Bool)
  | 0, _, _, _, _, _, _, _, _, _ => none
  | k + 1, x0, x1, x9, x10, x11, x13, x14, x15, x124 => if x124 = true then (some false) else (nautiluslaw09_CpsStays.l0 k x0 x1 x9 x10 x11 x13 x14 (wrap64 (x15 + 1)))
end
def nautiluslaw09_CpsStays.f (k : Nat) (l0 : List (S33)) (a1 : Int) (a2 : Int) (a3 : Int) : Option (Bool) := (nautiluslaw09_shown.f k).bind fun t161 => (if 0 ≤ (mn (l0.length : Int) 200) then (if (mn (l0.length : Int) 200) ≤ (l0.length : Int) then ((some (l0.take (mn (l0.length : Int) 200 : Int).toNat : List (S33))).bind fun y162 => ((cps_Expire.f y162 a2 a3).bind fun bt166 => (if bt166.2.2 = 0 then ((cps_Delete.f y162 a1).bind fun bt172 => (nautiluslaw09_CpsStays.l0 k y162 a1 t161 bt166.1 bt166.2.1 bt172.1 bt172.2 0)) else (if t161 = true then ((cps_Right.f k y162).bind fun t171 => (some (!t171))) else (some false))))) else (none)) else (none))
theorem nautiluslaw09_CpsStays.mono_l : ∀ k, (∀ y0 y1 y2 y3 y4 y5 y6 y7, LeO (nautiluslaw09_CpsStays.l0 k y0 y1 y2 y3 y4 y5 y6 y7) (nautiluslaw09_CpsStays.l0 (k + 1) y0 y1 y2 y3 y4 y5 y6 y7)) ∧ (∀ y0 y1 y2 y3 y4 y5 y6 y7 y8, LeO (nautiluslaw09_CpsStays.j1 k y0 y1 y2 y3 y4 y5 y6 y7 y8) (nautiluslaw09_CpsStays.j1 (k + 1) y0 y1 y2 y3 y4 y5 y6 y7 y8)) ∧ (∀ y0 y1 y2 y3 y4 y5 y6 y7 y8, LeO (nautiluslaw09_CpsStays.j2 k y0 y1 y2 y3 y4 y5 y6 y7 y8) (nautiluslaw09_CpsStays.j2 (k + 1) y0 y1 y2 y3 y4 y5 y6 y7 y8))
  | 0 => ⟨fun _ _ _ _ _ _ _ _ r h => by simp [nautiluslaw09_CpsStays.l0] at h, fun _ _ _ _ _ _ _ _ _ r h => by simp [nautiluslaw09_CpsStays.j1] at h, fun _ _ _ _ _ _ _ _ _ r h => by simp [nautiluslaw09_CpsStays.j2] at h⟩
  | k + 1 => by
    obtain ⟨ih0, ih1, ih2⟩ := nautiluslaw09_CpsStays.mono_l k
    refine ⟨?_, ?_, ?_⟩
    · intro y0 y1 y2 y3 y4 y5 y6 y7
      unfold nautiluslaw09_CpsStays.l0
      repeat' first
      | (with_reducible exact ih0 _ _ _ _ _ _ _ _)
      | (with_reducible exact ih1 _ _ _ _ _ _ _ _ _)
      | (with_reducible exact ih2 _ _ _ _ _ _ _ _ _)
      | (with_reducible exact cps_Find.mono _ _ _)
      | (with_reducible exact cps_Right.mono _ _)
      | (with_reducible exact nautiluslaw09_shown.mono _)
      | (with_reducible exact LeO.refl _)
      | (with_reducible exact LeO.none _)
      | (with_reducible refine LeO.ite ?_ ?_)
      | (with_reducible refine LeO.bind ?_ (fun _ => ?_))
      | exact ih0 _ _ _ _ _ _ _ _
      | exact ih1 _ _ _ _ _ _ _ _ _
      | exact ih2 _ _ _ _ _ _ _ _ _
      | exact cps_Find.mono _ _ _
      | exact cps_Right.mono _ _
      | exact nautiluslaw09_shown.mono _
      | exact LeO.none _
      | refine LeO.ite ?_ ?_
      | refine LeO.bind ?_ (fun _ => ?_)
    · intro y0 y1 y2 y3 y4 y5 y6 y7 y8
      unfold nautiluslaw09_CpsStays.j1
      repeat' first
      | (with_reducible exact ih0 _ _ _ _ _ _ _ _)
      | (with_reducible exact ih1 _ _ _ _ _ _ _ _ _)
      | (with_reducible exact ih2 _ _ _ _ _ _ _ _ _)
      | (with_reducible exact cps_Find.mono _ _ _)
      | (with_reducible exact cps_Right.mono _ _)
      | (with_reducible exact nautiluslaw09_shown.mono _)
      | (with_reducible exact LeO.refl _)
      | (with_reducible exact LeO.none _)
      | (with_reducible refine LeO.ite ?_ ?_)
      | (with_reducible refine LeO.bind ?_ (fun _ => ?_))
      | exact ih0 _ _ _ _ _ _ _ _
      | exact ih1 _ _ _ _ _ _ _ _ _
      | exact ih2 _ _ _ _ _ _ _ _ _
      | exact cps_Find.mono _ _ _
      | exact cps_Right.mono _ _
      | exact nautiluslaw09_shown.mono _
      | exact LeO.none _
      | refine LeO.ite ?_ ?_
      | refine LeO.bind ?_ (fun _ => ?_)
    · intro y0 y1 y2 y3 y4 y5 y6 y7 y8
      unfold nautiluslaw09_CpsStays.j2
      repeat' first
      | (with_reducible exact ih0 _ _ _ _ _ _ _ _)
      | (with_reducible exact ih1 _ _ _ _ _ _ _ _ _)
      | (with_reducible exact ih2 _ _ _ _ _ _ _ _ _)
      | (with_reducible exact cps_Find.mono _ _ _)
      | (with_reducible exact cps_Right.mono _ _)
      | (with_reducible exact nautiluslaw09_shown.mono _)
      | (with_reducible exact LeO.refl _)
      | (with_reducible exact LeO.none _)
      | (with_reducible refine LeO.ite ?_ ?_)
      | (with_reducible refine LeO.bind ?_ (fun _ => ?_))
      | exact ih0 _ _ _ _ _ _ _ _
      | exact ih1 _ _ _ _ _ _ _ _ _
      | exact ih2 _ _ _ _ _ _ _ _ _
      | exact cps_Find.mono _ _ _
      | exact cps_Right.mono _ _
      | exact nautiluslaw09_shown.mono _
      | exact LeO.none _
      | refine LeO.ite ?_ ?_
      | refine LeO.bind ?_ (fun _ => ?_)
theorem nautiluslaw09_CpsStays.mono : ∀ a0 a1 a2 a3 k, LeO (nautiluslaw09_CpsStays.f k a0 a1 a2 a3) (nautiluslaw09_CpsStays.f (k + 1) a0 a1 a2 a3) := by
  intro a0 a1 a2 a3 k
  obtain ⟨ih0, ih1, ih2⟩ := nautiluslaw09_CpsStays.mono_l k
  unfold nautiluslaw09_CpsStays.f
  repeat' first
      | (with_reducible exact ih0 _ _ _ _ _ _ _ _)
      | (with_reducible exact ih1 _ _ _ _ _ _ _ _ _)
      | (with_reducible exact ih2 _ _ _ _ _ _ _ _ _)
      | (with_reducible exact cps_Find.mono _ _ _)
      | (with_reducible exact cps_Right.mono _ _)
      | (with_reducible exact nautiluslaw09_shown.mono _)
      | (with_reducible exact LeO.refl _)
      | (with_reducible exact LeO.none _)
      | (with_reducible refine LeO.ite ?_ ?_)
      | (with_reducible refine LeO.bind ?_ (fun _ => ?_))
      | exact ih0 _ _ _ _ _ _ _ _
      | exact ih1 _ _ _ _ _ _ _ _ _
      | exact ih2 _ _ _ _ _ _ _ _ _
      | exact cps_Find.mono _ _ _
      | exact cps_Right.mono _ _
      | exact nautiluslaw09_shown.mono _
      | exact LeO.none _
      | refine LeO.ite ?_ ?_
      | refine LeO.bind ?_ (fun _ => ?_)
set_option maxHeartbeats 8000000 in
set_option maxRecDepth 100000 in
theorem nautiluslaw09_CpsStays.calls (k : Nat) (A0 : Option Addr) (c0 : Nat) (l0 : List (S33)) (a1 : Int) (a2 : Int) (a3 : Int) (r : Bool) (w : World) (hr0 : Kd.C k33 w A0 l0.length l0) (hc0 : l0.length ≤ c0) (h : nautiluslaw09_CpsStays.f k l0 a1 a2 a3 = some r) :
    Calls Try.prog 3 #[.slice A0 l0.length c0, .int .u64 a1, .int .u64 a2, .int .u64 a3] w fun e w' => e = .returned (.bool r) ∧ Below w.heap.size w w' := by
  have hu33 := Try.underlying33
  have HR0 := Aside0.mk hr0
  have HC0 := Aside0.mk hc0
  clear hr0 hc0
  have HB := Aside0.mk (Below.refl w.heap.size w)
  have H : ((nautiluslaw09_shown.f k).bind fun t161 => (if 0 ≤ (mn (l0.length : Int) 200) then (if (mn (l0.length : Int) 200) ≤ (l0.length : Int) then ((some (l0.take (mn (l0.length : Int) 200 : Int).toNat : List (S33))).bind fun y162 => ((cps_Expire.f y162 a2 a3).bind fun bt166 => (if bt166.2.2 = 0 then ((cps_Delete.f y162 a1).bind fun bt172 => (nautiluslaw09_CpsStays.l0 k y162 a1 t161 bt166.1 bt166.2.1 bt172.1 bt172.2 0)) else (if t161 = true then ((cps_Right.f k y162).bind fun t171 => (some (!t171))) else (some false))))) else (none)) else (none))) = some r := h
  clear h
  replace H := Option.bind_eq_some_iff.mp H
  obtain ⟨t161, A50, H⟩ := H
  replace H : (if 0 ≤ (mn (l0.length : Int) 200) then (if (mn (l0.length : Int) 200) ≤ (l0.length : Int) then ((some (l0.take (mn (l0.length : Int) 200 : Int).toNat : List (S33))).bind fun y162 => ((cps_Expire.f y162 a2 a3).bind fun bt166 => (if bt166.2.2 = 0 then ((cps_Delete.f y162 a1).bind fun bt172 => (nautiluslaw09_CpsStays.l0 k y162 a1 t161 bt166.1 bt166.2.1 bt172.1 bt172.2 0)) else (if t161 = true then ((cps_Right.f k y162).bind fun t171 => (some (!t171))) else (some false))))) else (none)) else (none)) = some r := H
  have A5 := Aside0.mk A50
  clear A50
  by_cases c6 : 0 ≤ (mn (l0.length : Int) 200)
  · rw [if_pos c6] at H
    have c6b0 := eq_true c6
    have c6b1 : decide (0 ≤ (mn (l0.length : Int) 200)) = true := decide_eq_true c6
    clear c6
    by_cases c7 : (mn (l0.length : Int) 200) ≤ (l0.length : Int)
    · rw [if_pos c7] at H
      have c7b0 := eq_true c7
      have c7b1 : decide ((mn (l0.length : Int) 200) ≤ (l0.length : Int)) = true := decide_eq_true c7
      clear c7
      obtain ⟨y162, hy162⟩ : ∃ y_ : List (S33), y_ = (l0.take (mn (l0.length : Int) 200 : Int).toNat) := ⟨_, rfl⟩
      replace H : ((cps_Expire.f y162 a2 a3).bind fun bt166 => (if bt166.2.2 = 0 then ((cps_Delete.f y162 a1).bind fun bt172 => (nautiluslaw09_CpsStays.l0 k y162 a1 t161 bt166.1 bt166.2.1 bt172.1 bt172.2 0)) else (if t161 = true then ((cps_Right.f k y162).bind fun t171 => (some (!t171))) else (some false)))) = some r := by first | (rw [hy162]; with_reducible exact H) | (have H2_ := (Option.bind_some _ _).symm.trans H; rw [hy162]; with_reducible exact H2_) | (have H2_ := (Option.bind_some _ _).symm.trans H; with_reducible exact H2_) | with_reducible exact H | (rw [hy162]; exact H) | exact H
      have Ny162 := Aside0.mk hy162
      clear hy162
      replace H := Option.bind_eq_some_iff.mp H
      obtain ⟨⟨t166, t167, t168⟩, A80, H⟩ := H
      replace H : (if t168 = 0 then ((cps_Delete.f y162 a1).bind fun bt172 => (nautiluslaw09_CpsStays.l0 k y162 a1 t161 t166 t167 bt172.1 bt172.2 0)) else (if t161 = true then ((cps_Right.f k y162).bind fun t171 => (some (!t171))) else (some false))) = some r := H
      have A8 := Aside0.mk A80
      clear A80
      by_cases c9 : t168 = 0
      · rw [if_pos c9] at H
        have c9b0 : (t168 == 0) = true := beq_iff_eq.mpr c9
        have c9b1 : (t168 != 0) = false := bne_eq_false_iff_eq.mpr c9
        clear c9
        replace H := Option.bind_eq_some_iff.mp H
        obtain ⟨⟨t172, t173⟩, A100, H⟩ := H
        replace H : (nautiluslaw09_CpsStays.l0 k y162 a1 t161 t166 t167 t172 t173 0) = some r := H
        have A10 := Aside0.mk A100
        clear A100
        have H' := Aside0.mk H
        clear H
        go_enter Try.func3, Try.ntmps3
        go_wp2_with (first | (go_at_call 11; (with_reducible refine (nautiluslaw09_shown.calls k  t161 _ A5.out).mono ?_); rintro e w11 ⟨rfl, hb⟩; have n0_ := Aside0.mk (below_step (by repeat (first | (with_reducible first | exact HB.out | apply below_alloc | apply pw_below_drewN | apply below_drew1) | exact HB.out)) hb); clear HB; have HB := n0_; clear n0_; (try clear hb); (try clear hb2); (try clear hk); (try clear hi); have q12 : ((mn (l0.length : Int) 200) : Int) ≤ ((l0.length : Int) : Int) := of_decide_eq_true (by first | (with_reducible assumption) | assumption); obtain ⟨i012, hi012, _, hsz12, _⟩ := info_parts info33; have hroom12 : l0.length ≤ c0 := HC0.out; have hC12 : Kd.C k33 _ A0 l0.length l0 := HR0.out; have hcut12 := cut_to (P := Try.prog) 22 33 .i64 Try.underlying22 hi012 A0 l0.length c0 (mn (l0.length : Int) 200) (of_decide_eq_true (by first | (with_reducible assumption) | assumption)) q12 hroom12; have hr12 := Kd.C_take (m := ((mn (l0.length : Int) 200) : Int).toNat) hC12 (by omega); have hy12 : y162.length = ((mn (l0.length : Int) 200) : Int).toNat := (by rw [Ny162.out, List.length_take]; omega); rw [← Ny162.out] at hr12; rw [← hy12] at hcut12; have HR165 := Aside0.mk hr12; have HC165 := Aside0.mk (show y162.length ≤ c0 from by omega); clear hr12 hC12 hroom12 hi012 hsz12; have KY12 := Aside0.mk hy12; clear hy12; clear hcut12; replace q12 := eq_true q12) | ((with_reducible refine gate_callee (f := 12) rfl ?_); refine goesL_ (some 22) rfl rfl Try.func12 (by kernel_rfl) rfl #[.slice A0 l0.length c0] rfl (by (try simp only [List.map_toArray, List.map_cons, List.map_nil]); first | done | rfl | (simp only [List.length_drop, List.length_take]; rfl)) ?_; (refine (nautiluslaw09_cut.calls A0 l0.length c0 y162.length _ ?side1 ?side2 ?side3).mono ?_); (case side1 => exact Kd.C_max HR0.out); (case side2 => exact HC0.out); (case side3 => exact KY12.out); rintro e w' ⟨rfl, rfl⟩; refine ⟨_, rfl, ?_⟩) | (go_at_call 13; (with_reducible refine (cps_Expire.calls _ _ y162 a2 a3 t166 t167 t168 _ ?side1 ?side2 A8.out).mono ?_); (case side1 => repeat (first | exact (Kd.C_below HR165.out HB.out) | (with_reducible refine Kd.C_alloc ?_ _) | (with_reducible refine Kd.C_drewN ?_ _) | (with_reducible refine Kd.C_drew ?_))); (case side2 => exact HC165.out); rintro e w13 ⟨v169, rfl, ho0, hb⟩; have n0_ := Aside0.mk (Kd.R_lower ho0 (below_size (by repeat (first | (with_reducible first | exact HB.out | apply below_alloc | apply pw_below_drewN | apply below_drew1) | exact HB.out)))); have n1_ := Aside0.mk (below_step (by repeat (first | (with_reducible first | exact HB.out | apply below_alloc | apply pw_below_drewN | apply below_drew1) | exact HB.out)) hb); clear HB; have HO170 := n0_; have HB := n1_; clear n0_ n1_; (try clear hb); (try clear hb2); (try clear hk); (try clear hi); (try clear ho0)) | (go_at_call 15; (with_reducible refine (cps_Delete.calls _ _ y162 a1 t172 t173 _ ?side1 ?side2 A10.out).mono ?_); (case side1 => repeat (first | exact (Kd.C_below HR165.out HB.out) | (with_reducible refine Kd.C_alloc ?_ _) | (with_reducible refine Kd.C_drewN ?_ _) | (with_reducible refine Kd.C_drew ?_))); (case side2 => exact HC165.out); rintro e w14 ⟨v174, rfl, ho0, hb⟩; have n0_ := Aside0.mk (Kd.R_elder' (by (with_reducible repeat (first | apply Kd.R_alloc | apply Kd.R_drewN | apply Kd.R_drew)); exact HO170.out) (Kd.R_base ho0) hb); have n1_ := Aside0.mk (Kd.R_lower (Kd.R_new' ho0 (Kd.R_lt (by (with_reducible repeat (first | apply Kd.R_alloc | apply Kd.R_drewN | apply Kd.R_drew)); exact HO170.out))) (below_size (by repeat (first | (with_reducible first | exact HB.out | apply below_alloc | apply pw_below_drewN | apply below_drew1) | exact HB.out)))); have n2_ := Aside0.mk (below_step (by repeat (first | (with_reducible first | exact HB.out | apply below_alloc | apply pw_below_drewN | apply below_drew1) | exact HB.out)) hb); clear HO170; clear HB; have HO170 := n0_; have HO175 := n1_; have HB := n2_; clear n0_ n1_ n2_; (try clear hb); (try clear hb2); (try clear hk); (try clear hi); (try clear ho0)))
        repeat (go_quiet (first | (go_at_call 11; (with_reducible refine (nautiluslaw09_shown.calls k  t161 _ A5.out).mono ?_); rintro e w11 ⟨rfl, hb⟩; have n0_ := Aside0.mk (below_step (by repeat (first | (with_reducible first | exact HB.out | apply below_alloc | apply pw_below_drewN | apply below_drew1) | exact HB.out)) hb); clear HB; have HB := n0_; clear n0_; (try clear hb); (try clear hb2); (try clear hk); (try clear hi); have q12 : ((mn (l0.length : Int) 200) : Int) ≤ ((l0.length : Int) : Int) := of_decide_eq_true (by first | (with_reducible assumption) | assumption); obtain ⟨i012, hi012, _, hsz12, _⟩ := info_parts info33; have hroom12 : l0.length ≤ c0 := HC0.out; have hC12 : Kd.C k33 _ A0 l0.length l0 := HR0.out; have hcut12 := cut_to (P := Try.prog) 22 33 .i64 Try.underlying22 hi012 A0 l0.length c0 (mn (l0.length : Int) 200) (of_decide_eq_true (by first | (with_reducible assumption) | assumption)) q12 hroom12; have hr12 := Kd.C_take (m := ((mn (l0.length : Int) 200) : Int).toNat) hC12 (by omega); have hy12 : y162.length = ((mn (l0.length : Int) 200) : Int).toNat := (by rw [Ny162.out, List.length_take]; omega); rw [← Ny162.out] at hr12; rw [← hy12] at hcut12; have HR165 := Aside0.mk hr12; have HC165 := Aside0.mk (show y162.length ≤ c0 from by omega); clear hr12 hC12 hroom12 hi012 hsz12; have KY12 := Aside0.mk hy12; clear hy12; clear hcut12; replace q12 := eq_true q12) | ((with_reducible refine gate_callee (f := 12) rfl ?_); refine goesL_ (some 22) rfl rfl Try.func12 (by kernel_rfl) rfl #[.slice A0 l0.length c0] rfl (by (try simp only [List.map_toArray, List.map_cons, List.map_nil]); first | done | rfl | (simp only [List.length_drop, List.length_take]; rfl)) ?_; (refine (nautiluslaw09_cut.calls A0 l0.length c0 y162.length _ ?side1 ?side2 ?side3).mono ?_); (case side1 => exact Kd.C_max HR0.out); (case side2 => exact HC0.out); (case side3 => exact KY12.out); rintro e w' ⟨rfl, rfl⟩; refine ⟨_, rfl, ?_⟩) | (go_at_call 13; (with_reducible refine (cps_Expire.calls _ _ y162 a2 a3 t166 t167 t168 _ ?side1 ?side2 A8.out).mono ?_); (case side1 => repeat (first | exact (Kd.C_below HR165.out HB.out) | (with_reducible refine Kd.C_alloc ?_ _) | (with_reducible refine Kd.C_drewN ?_ _) | (with_reducible refine Kd.C_drew ?_))); (case side2 => exact HC165.out); rintro e w13 ⟨v169, rfl, ho0, hb⟩; have n0_ := Aside0.mk (Kd.R_lower ho0 (below_size (by repeat (first | (with_reducible first | exact HB.out | apply below_alloc | apply pw_below_drewN | apply below_drew1) | exact HB.out)))); have n1_ := Aside0.mk (below_step (by repeat (first | (with_reducible first | exact HB.out | apply below_alloc | apply pw_below_drewN | apply below_drew1) | exact HB.out)) hb); clear HB; have HO170 := n0_; have HB := n1_; clear n0_ n1_; (try clear hb); (try clear hb2); (try clear hk); (try clear hi); (try clear ho0)) | (go_at_call 15; (with_reducible refine (cps_Delete.calls _ _ y162 a1 t172 t173 _ ?side1 ?side2 A10.out).mono ?_); (case side1 => repeat (first | exact (Kd.C_below HR165.out HB.out) | (with_reducible refine Kd.C_alloc ?_ _) | (with_reducible refine Kd.C_drewN ?_ _) | (with_reducible refine Kd.C_drew ?_))); (case side2 => exact HC165.out); rintro e w14 ⟨v174, rfl, ho0, hb⟩; have n0_ := Aside0.mk (Kd.R_elder' (by (with_reducible repeat (first | apply Kd.R_alloc | apply Kd.R_drewN | apply Kd.R_drew)); exact HO170.out) (Kd.R_base ho0) hb); have n1_ := Aside0.mk (Kd.R_lower (Kd.R_new' ho0 (Kd.R_lt (by (with_reducible repeat (first | apply Kd.R_alloc | apply Kd.R_drewN | apply Kd.R_drew)); exact HO170.out))) (below_size (by repeat (first | (with_reducible first | exact HB.out | apply below_alloc | apply pw_below_drewN | apply below_drew1) | exact HB.out)))); have n2_ := Aside0.mk (below_step (by repeat (first | (with_reducible first | exact HB.out | apply below_alloc | apply pw_below_drewN | apply below_drew1) | exact HB.out)) hb); clear HO170; clear HB; have HO170 := n0_; have HO175 := n1_; have HB := n2_; clear n0_ n1_ n2_; (try clear hb); (try clear hb2); (try clear hk); (try clear hi); (try clear ho0))); try go_wp2_with (first | (go_at_call 11; (with_reducible refine (nautiluslaw09_shown.calls k  t161 _ A5.out).mono ?_); rintro e w11 ⟨rfl, hb⟩; have n0_ := Aside0.mk (below_step (by repeat (first | (with_reducible first | exact HB.out | apply below_alloc | apply pw_below_drewN | apply below_drew1) | exact HB.out)) hb); clear HB; have HB := n0_; clear n0_; (try clear hb); (try clear hb2); (try clear hk); (try clear hi); have q12 : ((mn (l0.length : Int) 200) : Int) ≤ ((l0.length : Int) : Int) := of_decide_eq_true (by first | (with_reducible assumption) | assumption); obtain ⟨i012, hi012, _, hsz12, _⟩ := info_parts info33; have hroom12 : l0.length ≤ c0 := HC0.out; have hC12 : Kd.C k33 _ A0 l0.length l0 := HR0.out; have hcut12 := cut_to (P := Try.prog) 22 33 .i64 Try.underlying22 hi012 A0 l0.length c0 (mn (l0.length : Int) 200) (of_decide_eq_true (by first | (with_reducible assumption) | assumption)) q12 hroom12; have hr12 := Kd.C_take (m := ((mn (l0.length : Int) 200) : Int).toNat) hC12 (by omega); have hy12 : y162.length = ((mn (l0.length : Int) 200) : Int).toNat := (by rw [Ny162.out, List.length_take]; omega); rw [← Ny162.out] at hr12; rw [← hy12] at hcut12; have HR165 := Aside0.mk hr12; have HC165 := Aside0.mk (show y162.length ≤ c0 from by omega); clear hr12 hC12 hroom12 hi012 hsz12; have KY12 := Aside0.mk hy12; clear hy12; clear hcut12; replace q12 := eq_true q12) | ((with_reducible refine gate_callee (f := 12) rfl ?_); refine goesL_ (some 22) rfl rfl Try.func12 (by kernel_rfl) rfl #[.slice A0 l0.length c0] rfl (by (try simp only [List.map_toArray, List.map_cons, List.map_nil]); first | done | rfl | (simp only [List.length_drop, List.length_take]; rfl)) ?_; (refine (nautiluslaw09_cut.calls A0 l0.length c0 y162.length _ ?side1 ?side2 ?side3).mono ?_); (case side1 => exact Kd.C_max HR0.out); (case side2 => exact HC0.out); (case side3 => exact KY12.out); rintro e w' ⟨rfl, rfl⟩; refine ⟨_, rfl, ?_⟩) | (go_at_call 13; (with_reducible refine (cps_Expire.calls _ _ y162 a2 a3 t166 t167 t168 _ ?side1 ?side2 A8.out).mono ?_); (case side1 => repeat (first | exact (Kd.C_below HR165.out HB.out) | (with_reducible refine Kd.C_alloc ?_ _) | (with_reducible refine Kd.C_drewN ?_ _) | (with_reducible refine Kd.C_drew ?_))); (case side2 => exact HC165.out); rintro e w13 ⟨v169, rfl, ho0, hb⟩; have n0_ := Aside0.mk (Kd.R_lower ho0 (below_size (by repeat (first | (with_reducible first | exact HB.out | apply below_alloc | apply pw_below_drewN | apply below_drew1) | exact HB.out)))); have n1_ := Aside0.mk (below_step (by repeat (first | (with_reducible first | exact HB.out | apply below_alloc | apply pw_below_drewN | apply below_drew1) | exact HB.out)) hb); clear HB; have HO170 := n0_; have HB := n1_; clear n0_ n1_; (try clear hb); (try clear hb2); (try clear hk); (try clear hi); (try clear ho0)) | (go_at_call 15; (with_reducible refine (cps_Delete.calls _ _ y162 a1 t172 t173 _ ?side1 ?side2 A10.out).mono ?_); (case side1 => repeat (first | exact (Kd.C_below HR165.out HB.out) | (with_reducible refine Kd.C_alloc ?_ _) | (with_reducible refine Kd.C_drewN ?_ _) | (with_reducible refine Kd.C_drew ?_))); (case side2 => exact HC165.out); rintro e w14 ⟨v174, rfl, ho0, hb⟩; have n0_ := Aside0.mk (Kd.R_elder' (by (with_reducible repeat (first | apply Kd.R_alloc | apply Kd.R_drewN | apply Kd.R_drew)); exact HO170.out) (Kd.R_base ho0) hb); have n1_ := Aside0.mk (Kd.R_lower (Kd.R_new' ho0 (Kd.R_lt (by (with_reducible repeat (first | apply Kd.R_alloc | apply Kd.R_drewN | apply Kd.R_drew)); exact HO170.out))) (below_size (by repeat (first | (with_reducible first | exact HB.out | apply below_alloc | apply pw_below_drewN | apply below_drew1) | exact HB.out)))); have n2_ := Aside0.mk (below_step (by repeat (first | (with_reducible first | exact HB.out | apply below_alloc | apply pw_below_drewN | apply below_drew1) | exact HB.out)) hb); clear HO170; clear HB; have HO170 := n0_; have HO175 := n1_; have HB := n2_; clear n0_ n1_ n2_; (try clear hb); (try clear hb2); (try clear hk); (try clear hi); (try clear ho0))))
        go_loopg [15] k (fun kq v15 w' => ∃ (x15_1 : Int), v15 = .int .i64 x15_1 ∧ Aside0 (nautiluslaw09_CpsStays.l0 kq y162 a1 t161 t166 t167 t172 t173 x15_1 = some r) ∧ Aside0 (kq ≤ k) ∧ Aside0 (Kd.R k33 33 w' w.heap.size (fun k_ => some k_ ≠ (v174 : Value).ownBlock) v169 t166) ∧ Aside0 (Kd.R k33 33 w' w.heap.size (fun k_ => some k_ ≠ (v169 : Value).ownBlock) v174 t172) ∧ Aside0 (Below w.heap.size w w'))
        case atStart => exact ⟨(0), (by first | rfl | (simp; done) | (simp [*]; done)), H', ⟨Nat.le_refl _⟩, ⟨by (with_reducible repeat (first | apply Kd.R_alloc | apply Kd.R_drewN | apply Kd.R_drew)); exact Kd.R_mono HO170.out (fun _ hk => hk.2)⟩, ⟨by (with_reducible repeat (first | apply Kd.R_alloc | apply Kd.R_drewN | apply Kd.R_drew)); exact Kd.R_mono HO175.out (fun _ hk => hk.2)⟩, ⟨by repeat (first | (with_reducible first | exact HB.out | apply below_alloc | apply pw_below_drewN | apply below_drew1) | exact HB.out)⟩⟩
        case round =>
          clear H'
          try clear c1
          try clear q1
          try clear p2
          try clear c3
          try clear c6
          try clear c6b0
          try clear c6b1
          try clear c7
          try clear c7b0
          try clear c7b1
          try clear c9
          try clear c9b0
          try clear c9b1
          try clear c12
          try clear q12
          try clear q12
          obtain ⟨x15_1, rfl, HA, HK1, HO_10, HO_13, HB⟩ := hrel
          cases gk with
          | zero => exact absurd HA.out (by simp [nautiluslaw09_CpsStays.l0])
          | succ k1 =>
            have H := HA.out
            clear HA
            simp only [nautiluslaw09_CpsStays.l0] at H
            by_cases c15 : x15_1 < (y162.length : Int)
            · rw [if_pos c15] at H
              have c15b0 : decide (x15_1 < (y162.length : Int)) = true := decide_eq_true c15
              clear c15
              by_cases c16 : 0 ≤ x15_1
              · rw [if_pos c16] at H
                have c16b0 : decide (0 ≤ x15_1) = true := decide_eq_true c16
                clear c16
                replace H := Option.bind_eq_some_iff.mp H
                obtain ⟨⟨t178, t179, t180, t181, t182⟩, A170, H⟩ := H
                replace H : (if (rd_T33 y162 x15_1).f2 = true then (if t182 = 0 then (nautiluslaw09_CpsStays.j1 k1 y162 a1 t161 t166 t167 t172 t173 x15_1 (!(t178 == ((rd_T33 y162 x15_1).f0)) || (!(t179 == ((rd_T33 y162 x15_1).f1)) || (!(t180 == ((rd_T33 y162 x15_1).f2)) || (!(t181.toList == (((rd_T33 y162 x15_1).f3).toList))))))) else (nautiluslaw09_CpsStays.j1 k1 y162 a1 t161 t166 t167 t172 t173 x15_1 true)) else (if x15_1 = (wrap64 ((y162.length : Int) - 1)) then (if t182 = 0 then (nautiluslaw09_CpsStays.j1 k1 y162 a1 t161 t166 t167 t172 t173 x15_1 (!(t178 == ((rd_T33 y162 x15_1).f0)) || (!(t179 == ((rd_T33 y162 x15_1).f1)) || (!(t180 == ((rd_T33 y162 x15_1).f2)) || (!(t181.toList == (((rd_T33 y162 x15_1).f3).toList))))))) else (nautiluslaw09_CpsStays.j1 k1 y162 a1 t161 t166 t167 t172 t173 x15_1 true)) else (nautiluslaw09_CpsStays.j1 k1 y162 a1 t161 t166 t167 t172 t173 x15_1 false))) = some r := H
                have A17 := Aside0.mk A170
                clear A170
                have HC18 := Aside0.mk H
                clear H
                have p177 : 0 ≤ (x15_1 : Int) := of_decide_eq_true (by first | (with_reducible assumption) | assumption)
                have q177 : x15_1 < (y162.length : Int) := of_decide_eq_true (by first | (with_reducible assumption) | assumption)
                obtain ⟨ad177, e177, hx177_0, hx177_1, hx177_2, hx177_3⟩ := at_T33 HR165.out x15_1 p177 q177
                cases e177
                replace hx177_0 := (HB.out.cell (World.block_lt_of_cell? w _ hx177_0)).trans hx177_0
                replace hx177_1 := (HB.out.cell (World.block_lt_of_cell? w _ hx177_1)).trans hx177_1
                replace hx177_2 := (HB.out.cell (World.block_lt_of_cell? w _ hx177_2)).trans hx177_2
                replace hx177_3 := (HB.out.cell (World.block_lt_of_cell? w _ hx177_3)).trans hx177_3
                replace p177 := eq_true p177
                replace q177 := eq_true q177
                obtain ⟨Ao19, co19, eo19⟩ := Kd.R_slice HO_10.out
                subst eo19
                go_upto_region 11 with (first | (go_at_call 16; (with_reducible refine (cps_Find.calls k1 _ _ t166 ((rd_T33 y162 x15_1).f0) t178 t179 t180 t181 t182 _ ?side1 ?side2 A17.out).mono ?_); (case side1 => repeat (first | exact (Kd.R_reads' HO_10.out).2.2 | (with_reducible refine Kd.C_alloc ?_ _) | (with_reducible refine Kd.C_drewN ?_ _) | (with_reducible refine Kd.C_drew ?_))); (case side2 => exact (Kd.R_reads' HO_10.out).2.1); rintro e w20 ⟨rfl, hb⟩; have n0_ := Aside0.mk (Kd.R_below (by (with_reducible repeat (first | apply Kd.R_alloc | apply Kd.R_drewN | apply Kd.R_drew)); exact HO_10.out) hb); have n1_ := Aside0.mk (Kd.R_below (by (with_reducible repeat (first | apply Kd.R_alloc | apply Kd.R_drewN | apply Kd.R_drew)); exact HO_13.out) hb); have n2_ := Aside0.mk (below_step (by repeat (first | (with_reducible first | exact HB.out | apply below_alloc | apply pw_below_drewN | apply below_drew1) | exact HB.out)) hb); clear HO_10; clear HO_13; clear HB; have HO_10 := n0_; have HO_13 := n1_; have HB := n2_; clear n0_ n1_ n2_; (try clear hb); (try clear hb2); (try clear hk); (try clear hi)) | ((with_reducible refine gate_dst (N := 16) rfl ?_); (try (refine gate_guard (by rfl) ?_; dsimp only)); refine box_event ?hg (N := 16) ?hd (cs := #[.int .u64 0, .int .u64 0, .bool false, .string (⟨#[]⟩ : ByteArray)]) (t := 33) ?hr ?_; (case hd => rfl); (case hg => rfl); (case hr => first | (go_simp; done) | (go_simp; rfl)); intro gb183 hg w21 hbox hb; have n0_ := Aside0.mk (Kd.R_below (Kd.R_elderB (by (with_reducible repeat (first | apply Kd.R_alloc | apply Kd.R_drewN | apply Kd.R_drew)); exact HO_10.out) gb183 (Nat.le_of_eq hg.symm)) hb); have n1_ := Aside0.mk (Kd.R_below (Kd.R_elderB (by (with_reducible repeat (first | apply Kd.R_alloc | apply Kd.R_drewN | apply Kd.R_drew)); exact HO_13.out) gb183 (Nat.le_of_eq hg.symm)) hb); have n2_ := Aside0.mk (below_step (by repeat (first | (with_reducible first | exact HB.out | apply below_alloc | apply pw_below_drewN | apply below_drew1) | exact HB.out)) hb); have n3_ := Aside0.mk (hbox); have n4_ := Aside0.mk ((by rw [hg]; exact (below_size (by repeat (first | (with_reducible first | exact HB.out | apply below_alloc | apply pw_below_drewN | apply below_drew1) | exact HB.out))) : w.heap.size ≤ gb183)); have n5_ := Aside0.mk ((by rw [hg]; exact (below_size (by repeat (first | (with_reducible first | exact HB.out | apply below_alloc | apply pw_below_drewN | apply below_drew1) | exact HB.out))) : w.heap.size ≤ gb183)); clear HO_10; clear HO_13; clear HB; have HO_10 := n0_; have HO_13 := n1_; have HB := n2_; have BK183 := n3_; have GW183 := n4_; have GE183 := n5_; clear n0_ n1_ n2_ n3_ n4_ n5_; clear hb hbox hg; have hcz22_0 : w21.cell? ⟨gb183, 0, none⟩ = some (.int .u64 0) := (blk_cell BK183.out 0).trans rfl; have hcz22_1 : w21.cell? ⟨gb183, 1, none⟩ = some (.int .u64 0) := (blk_cell BK183.out 1).trans rfl; have hcz22_2 : w21.cell? ⟨gb183, 2, none⟩ = some (.bool false) := (blk_cell BK183.out 2).trans rfl; have hcz22_3 : w21.cell? ⟨gb183, 3, none⟩ = some (.string (⟨#[]⟩ : ByteArray)) := (blk_cell BK183.out 3).trans rfl; have hfz22_0 := blk_frozen BK183.out 0; have hfz22_1 := blk_frozen BK183.out 1; have hfz22_2 := blk_frozen BK183.out 2; have hfz22_3 := blk_frozen BK183.out 3))
                repeat (go_quiet (first | (go_at_call 16; (with_reducible refine (cps_Find.calls k1 _ _ t166 ((rd_T33 y162 x15_1).f0) t178 t179 t180 t181 t182 _ ?side1 ?side2 A17.out).mono ?_); (case side1 => repeat (first | exact (Kd.R_reads' HO_10.out).2.2 | (with_reducible refine Kd.C_alloc ?_ _) | (with_reducible refine Kd.C_drewN ?_ _) | (with_reducible refine Kd.C_drew ?_))); (case side2 => exact (Kd.R_reads' HO_10.out).2.1); rintro e w20 ⟨rfl, hb⟩; have n0_ := Aside0.mk (Kd.R_below (by (with_reducible repeat (first | apply Kd.R_alloc | apply Kd.R_drewN | apply Kd.R_drew)); exact HO_10.out) hb); have n1_ := Aside0.mk (Kd.R_below (by (with_reducible repeat (first | apply Kd.R_alloc | apply Kd.R_drewN | apply Kd.R_drew)); exact HO_13.out) hb); have n2_ := Aside0.mk (below_step (by repeat (first | (with_reducible first | exact HB.out | apply below_alloc | apply pw_below_drewN | apply below_drew1) | exact HB.out)) hb); clear HO_10; clear HO_13; clear HB; have HO_10 := n0_; have HO_13 := n1_; have HB := n2_; clear n0_ n1_ n2_; (try clear hb); (try clear hb2); (try clear hk); (try clear hi)) | ((with_reducible refine gate_dst (N := 16) rfl ?_); (try (refine gate_guard (by rfl) ?_; dsimp only)); refine box_event ?hg (N := 16) ?hd (cs := #[.int .u64 0, .int .u64 0, .bool false, .string (⟨#[]⟩ : ByteArray)]) (t := 33) ?hr ?_; (case hd => rfl); (case hg => rfl); (case hr => first | (go_simp; done) | (go_simp; rfl)); intro gb183 hg w21 hbox hb; have n0_ := Aside0.mk (Kd.R_below (Kd.R_elderB (by (with_reducible repeat (first | apply Kd.R_alloc | apply Kd.R_drewN | apply Kd.R_drew)); exact HO_10.out) gb183 (Nat.le_of_eq hg.symm)) hb); have n1_ := Aside0.mk (Kd.R_below (Kd.R_elderB (by (with_reducible repeat (first | apply Kd.R_alloc | apply Kd.R_drewN | apply Kd.R_drew)); exact HO_13.out) gb183 (Nat.le_of_eq hg.symm)) hb); have n2_ := Aside0.mk (below_step (by repeat (first | (with_reducible first | exact HB.out | apply below_alloc | apply pw_below_drewN | apply below_drew1) | exact HB.out)) hb); have n3_ := Aside0.mk (hbox); have n4_ := Aside0.mk ((by rw [hg]; exact (below_size (by repeat (first | (with_reducible first | exact HB.out | apply below_alloc | apply pw_below_drewN | apply below_drew1) | exact HB.out))) : w.heap.size ≤ gb183)); have n5_ := Aside0.mk ((by rw [hg]; exact (below_size (by repeat (first | (with_reducible first | exact HB.out | apply below_alloc | apply pw_below_drewN | apply below_drew1) | exact HB.out))) : w.heap.size ≤ gb183)); clear HO_10; clear HO_13; clear HB; have HO_10 := n0_; have HO_13 := n1_; have HB := n2_; have BK183 := n3_; have GW183 := n4_; have GE183 := n5_; clear n0_ n1_ n2_ n3_ n4_ n5_; clear hb hbox hg; have hcz22_0 : w21.cell? ⟨gb183, 0, none⟩ = some (.int .u64 0) := (blk_cell BK183.out 0).trans rfl; have hcz22_1 : w21.cell? ⟨gb183, 1, none⟩ = some (.int .u64 0) := (blk_cell BK183.out 1).trans rfl; have hcz22_2 : w21.cell? ⟨gb183, 2, none⟩ = some (.bool false) := (blk_cell BK183.out 2).trans rfl; have hcz22_3 : w21.cell? ⟨gb183, 3, none⟩ = some (.string (⟨#[]⟩ : ByteArray)) := (blk_cell BK183.out 3).trans rfl; have hfz22_0 := blk_frozen BK183.out 0; have hfz22_1 := blk_frozen BK183.out 1; have hfz22_2 := blk_frozen BK183.out 2; have hfz22_3 := blk_frozen BK183.out 3)); go_upto_region 11 with (first | (go_at_call 16; (with_reducible refine (cps_Find.calls k1 _ _ t166 ((rd_T33 y162 x15_1).f0) t178 t179 t180 t181 t182 _ ?side1 ?side2 A17.out).mono ?_); (case side1 => repeat (first | exact (Kd.R_reads' HO_10.out).2.2 | (with_reducible refine Kd.C_alloc ?_ _) | (with_reducible refine Kd.C_drewN ?_ _) | (with_reducible refine Kd.C_drew ?_))); (case side2 => exact (Kd.R_reads' HO_10.out).2.1); rintro e w20 ⟨rfl, hb⟩; have n0_ := Aside0.mk (Kd.R_below (by (with_reducible repeat (first | apply Kd.R_alloc | apply Kd.R_drewN | apply Kd.R_drew)); exact HO_10.out) hb); have n1_ := Aside0.mk (Kd.R_below (by (with_reducible repeat (first | apply Kd.R_alloc | apply Kd.R_drewN | apply Kd.R_drew)); exact HO_13.out) hb); have n2_ := Aside0.mk (below_step (by repeat (first | (with_reducible first | exact HB.out | apply below_alloc | apply pw_below_drewN | apply below_drew1) | exact HB.out)) hb); clear HO_10; clear HO_13; clear HB; have HO_10 := n0_; have HO_13 := n1_; have HB := n2_; clear n0_ n1_ n2_; (try clear hb); (try clear hb2); (try clear hk); (try clear hi)) | ((with_reducible refine gate_dst (N := 16) rfl ?_); (try (refine gate_guard (by rfl) ?_; dsimp only)); refine box_event ?hg (N := 16) ?hd (cs := #[.int .u64 0, .int .u64 0, .bool false, .string (⟨#[]⟩ : ByteArray)]) (t := 33) ?hr ?_; (case hd => rfl); (case hg => rfl); (case hr => first | (go_simp; done) | (go_simp; rfl)); intro gb183 hg w21 hbox hb; have n0_ := Aside0.mk (Kd.R_below (Kd.R_elderB (by (with_reducible repeat (first | apply Kd.R_alloc | apply Kd.R_drewN | apply Kd.R_drew)); exact HO_10.out) gb183 (Nat.le_of_eq hg.symm)) hb); have n1_ := Aside0.mk (Kd.R_below (Kd.R_elderB (by (with_reducible repeat (first | apply Kd.R_alloc | apply Kd.R_drewN | apply Kd.R_drew)); exact HO_13.out) gb183 (Nat.le_of_eq hg.symm)) hb); have n2_ := Aside0.mk (below_step (by repeat (first | (with_reducible first | exact HB.out | apply below_alloc | apply pw_below_drewN | apply below_drew1) | exact HB.out)) hb); have n3_ := Aside0.mk (hbox); have n4_ := Aside0.mk ((by rw [hg]; exact (below_size (by repeat (first | (with_reducible first | exact HB.out | apply below_alloc | apply pw_below_drewN | apply below_drew1) | exact HB.out))) : w.heap.size ≤ gb183)); have n5_ := Aside0.mk ((by rw [hg]; exact (below_size (by repeat (first | (with_reducible first | exact HB.out | apply below_alloc | apply pw_below_drewN | apply below_drew1) | exact HB.out))) : w.heap.size ≤ gb183)); clear HO_10; clear HO_13; clear HB; have HO_10 := n0_; have HO_13 := n1_; have HB := n2_; have BK183 := n3_; have GW183 := n4_; have GE183 := n5_; clear n0_ n1_ n2_ n3_ n4_ n5_; clear hb hbox hg; have hcz22_0 : w21.cell? ⟨gb183, 0, none⟩ = some (.int .u64 0) := (blk_cell BK183.out 0).trans rfl; have hcz22_1 : w21.cell? ⟨gb183, 1, none⟩ = some (.int .u64 0) := (blk_cell BK183.out 1).trans rfl; have hcz22_2 : w21.cell? ⟨gb183, 2, none⟩ = some (.bool false) := (blk_cell BK183.out 2).trans rfl; have hcz22_3 : w21.cell? ⟨gb183, 3, none⟩ = some (.string (⟨#[]⟩ : ByteArray)) := (blk_cell BK183.out 3).trans rfl; have hfz22_0 := blk_frozen BK183.out 0; have hfz22_1 := blk_frozen BK183.out 1; have hfz22_2 := blk_frozen BK183.out 2; have hfz22_3 := blk_frozen BK183.out 3)))
                (try simp only [Act.put, List.setIfInBounds_toArray, List.set_cons_zero, List.set_cons_succ])
                go_cut [84] (fun v84 wc => ∃ (kq : Nat) (x84_17 : Bool), v84 = .bool x84_17 ∧ Aside0 (nautiluslaw09_CpsStays.j1 kq y162 a1 t161 t166 t167 t172 t173 x15_1 x84_17 = some r) ∧ Aside0 (kq ≤ k1) ∧ Aside0 (Kd.R k33 33 wc w.heap.size (fun k_ => some k_ ≠ (v174 : Value).ownBlock ∧ k_ ≠ gb183) (.slice Ao19 t166.length co19) t166) ∧ Aside0 (Kd.R k33 33 wc w.heap.size (fun k_ => some k_ ≠ ((.slice Ao19 t166.length co19) : Value).ownBlock ∧ k_ ≠ gb183) v174 t172) ∧ Aside0 (wc.heap[gb183]? = some (.cells #[.int .u64 t178, .int .u64 t179, .bool t180, .string t181] 33 (0, 0))) ∧ Aside0 (Below w.heap.size w wc))
                case first =>
                  have H := HC18.out
                  clear HC18
                  obtain ⟨bq23, hbq23⟩ : ∃ b_ : Bool, b_ = ((rd_T33 y162 x15_1).f2) := ⟨_, rfl⟩
                  replace H : (if bq23 = true then (if t182 = 0 then (nautiluslaw09_CpsStays.j1 k1 y162 a1 t161 t166 t167 t172 t173 x15_1 (!(t178 == ((rd_T33 y162 x15_1).f0)) || (!(t179 == ((rd_T33 y162 x15_1).f1)) || (!(t180 == (bq23)) || (!(t181.toList == (((rd_T33 y162 x15_1).f3).toList))))))) else (nautiluslaw09_CpsStays.j1 k1 y162 a1 t161 t166 t167 t172 t173 x15_1 true)) else (if x15_1 = (wrap64 ((y162.length : Int) - 1)) then (if t182 = 0 then (nautiluslaw09_CpsStays.j1 k1 y162 a1 t161 t166 t167 t172 t173 x15_1 (!(t178 == ((rd_T33 y162 x15_1).f0)) || (!(t179 == ((rd_T33 y162 x15_1).f1)) || (!(t180 == (bq23)) || (!(t181.toList == (((rd_T33 y162 x15_1).f3).toList))))))) else (nautiluslaw09_CpsStays.j1 k1 y162 a1 t161 t166 t167 t172 t173 x15_1 true)) else (nautiluslaw09_CpsStays.j1 k1 y162 a1 t161 t166 t167 t172 t173 x15_1 false))) = some r := by rw [← hbq23] at H; exact H
                  have Nbq23 := Aside0.mk hbq23
                  clear hbq23
                  (try rw [← Nbq23.out])
                  by_cases c24 : bq23 = true
                  · subst c24
                    have H1 : (if t182 = 0 then (nautiluslaw09_CpsStays.j1 k1 y162 a1 t161 t166 t167 t172 t173 x15_1 (!(t178 == ((rd_T33 y162 x15_1).f0)) || (!(t179 == ((rd_T33 y162 x15_1).f1)) || (!(t180 == (true)) || (!(t181.toList == (((rd_T33 y162 x15_1).f3).toList))))))) else (nautiluslaw09_CpsStays.j1 k1 y162 a1 t161 t166 t167 t172 t173 x15_1 true)) = some r := by rw [if_pos rfl] at H; exact H
                    clear H
                    have H := H1
                    clear H1
                    by_cases c25 : t182 = 0
                    · rw [if_pos c25] at H
                      have c25b0 : (t182 == 0) = true := beq_iff_eq.mpr c25
                      have c25b1 : (t182 != 0) = false := bne_eq_false_iff_eq.mpr c25
                      clear c25
                      have H' := Aside0.mk H
                      clear H
                      have p184 : 0 ≤ (x15_1 : Int) := of_decide_eq_true (by first | (with_reducible assumption) | assumption)
                      have q184 : x15_1 < (y162.length : Int) := of_decide_eq_true (by first | (with_reducible assumption) | assumption)
                      obtain ⟨ad184, e184, hx184_0, hx184_1, hx184_2, hx184_3⟩ := at_T33 HR165.out x15_1 p184 q184
                      (try rw [← Nbq23.out] at hx184_2)
                      obtain rfl : ad177 = ad184 := (by injection e184)
                      have hn184_0 : ad177.block ≠ gb183 := Nat.ne_of_lt (Nat.lt_of_lt_of_le (by have := World.block_lt_of_cell? _ _ hx184_0; first | rwa [add_block] at this | exact this) GW183.out)
                      have hn184_1 : ad177.block ≠ gb183 := Nat.ne_of_lt (Nat.lt_of_lt_of_le (by have := World.block_lt_of_cell? _ _ hx184_0; first | rwa [add_block] at this | exact this) GW183.out)
                      have hn184_2 : ad177.block ≠ gb183 := Nat.ne_of_lt (Nat.lt_of_lt_of_le (by have := World.block_lt_of_cell? _ _ hx184_0; first | rwa [add_block] at this | exact this) GW183.out)
                      have hn184_3 : ad177.block ≠ gb183 := Nat.ne_of_lt (Nat.lt_of_lt_of_le (by have := World.block_lt_of_cell? _ _ hx184_0; first | rwa [add_block] at this | exact this) GW183.out)
                      replace hx184_0 := (HB.out.cell (World.block_lt_of_cell? w _ hx184_0)).trans hx184_0
                      replace hx184_1 := (HB.out.cell (World.block_lt_of_cell? w _ hx184_1)).trans hx184_1
                      replace hx184_2 := (HB.out.cell (World.block_lt_of_cell? w _ hx184_2)).trans hx184_2
                      replace hx184_3 := (HB.out.cell (World.block_lt_of_cell? w _ hx184_3)).trans hx184_3
                      replace hx184_0 := (cell_far (p := ⟨gb183, 0, none⟩) (by first | (rw [add_block]; exact hn184_0) | (show (Addr.add _ _).block ≠ _; rw [add_block]; exact hn184_0) | exact hn184_0) (.int .u64 t178)).trans hx184_0
                      replace hx184_1 := (cell_far (p := ⟨gb183, 0, none⟩) (by first | (rw [add_block]; exact hn184_0) | (show (Addr.add _ _).block ≠ _; rw [add_block]; exact hn184_0) | exact hn184_0) (.int .u64 t178)).trans hx184_1
                      replace hx184_2 := (cell_far (p := ⟨gb183, 0, none⟩) (by first | (rw [add_block]; exact hn184_0) | (show (Addr.add _ _).block ≠ _; rw [add_block]; exact hn184_0) | exact hn184_0) (.int .u64 t178)).trans hx184_2
                      replace hx184_3 := (cell_far (p := ⟨gb183, 0, none⟩) (by first | (rw [add_block]; exact hn184_0) | (show (Addr.add _ _).block ≠ _; rw [add_block]; exact hn184_0) | exact hn184_0) (.int .u64 t178)).trans hx184_3
                      replace hx184_0 := (cell_far (p := ⟨gb183, 1, none⟩) (by first | (rw [add_block]; exact hn184_1) | (show (Addr.add _ _).block ≠ _; rw [add_block]; exact hn184_1) | exact hn184_1) (.int .u64 t179)).trans hx184_0
                      replace hx184_1 := (cell_far (p := ⟨gb183, 1, none⟩) (by first | (rw [add_block]; exact hn184_1) | (show (Addr.add _ _).block ≠ _; rw [add_block]; exact hn184_1) | exact hn184_1) (.int .u64 t179)).trans hx184_1
                      replace hx184_2 := (cell_far (p := ⟨gb183, 1, none⟩) (by first | (rw [add_block]; exact hn184_1) | (show (Addr.add _ _).block ≠ _; rw [add_block]; exact hn184_1) | exact hn184_1) (.int .u64 t179)).trans hx184_2
                      replace hx184_3 := (cell_far (p := ⟨gb183, 1, none⟩) (by first | (rw [add_block]; exact hn184_1) | (show (Addr.add _ _).block ≠ _; rw [add_block]; exact hn184_1) | exact hn184_1) (.int .u64 t179)).trans hx184_3
                      replace hx184_0 := (cell_far (p := ⟨gb183, 2, none⟩) (by first | (rw [add_block]; exact hn184_2) | (show (Addr.add _ _).block ≠ _; rw [add_block]; exact hn184_2) | exact hn184_2) (.bool t180)).trans hx184_0
                      replace hx184_1 := (cell_far (p := ⟨gb183, 2, none⟩) (by first | (rw [add_block]; exact hn184_2) | (show (Addr.add _ _).block ≠ _; rw [add_block]; exact hn184_2) | exact hn184_2) (.bool t180)).trans hx184_1
                      replace hx184_2 := (cell_far (p := ⟨gb183, 2, none⟩) (by first | (rw [add_block]; exact hn184_2) | (show (Addr.add _ _).block ≠ _; rw [add_block]; exact hn184_2) | exact hn184_2) (.bool t180)).trans hx184_2
                      replace hx184_3 := (cell_far (p := ⟨gb183, 2, none⟩) (by first | (rw [add_block]; exact hn184_2) | (show (Addr.add _ _).block ≠ _; rw [add_block]; exact hn184_2) | exact hn184_2) (.bool t180)).trans hx184_3
                      replace hx184_0 := (cell_far (p := ⟨gb183, 3, none⟩) (by first | (rw [add_block]; exact hn184_3) | (show (Addr.add _ _).block ≠ _; rw [add_block]; exact hn184_3) | exact hn184_3) (.string t181)).trans hx184_0
                      replace hx184_1 := (cell_far (p := ⟨gb183, 3, none⟩) (by first | (rw [add_block]; exact hn184_3) | (show (Addr.add _ _).block ≠ _; rw [add_block]; exact hn184_3) | exact hn184_3) (.string t181)).trans hx184_1
                      replace hx184_2 := (cell_far (p := ⟨gb183, 3, none⟩) (by first | (rw [add_block]; exact hn184_3) | (show (Addr.add _ _).block ≠ _; rw [add_block]; exact hn184_3) | exact hn184_3) (.string t181)).trans hx184_2
                      replace hx184_3 := (cell_far (p := ⟨gb183, 3, none⟩) (by first | (rw [add_block]; exact hn184_3) | (show (Addr.add _ _).block ≠ _; rw [add_block]; exact hn184_3) | exact hn184_3) (.string t181)).trans hx184_3
                      (try have hy184_0 := fun (n_ : Nat) => (show ((((((w21.drewN n_).setCell ⟨gb183, 0, none⟩ (.int .u64 t178)).setCell ⟨gb183, 1, none⟩ (.int .u64 t179)).setCell ⟨gb183, 2, none⟩ (.bool t180)).setCell ⟨gb183, 3, none⟩ (.string t181))).cell? _ = some _ from hx184_0))
                      (try have hy184_1 := fun (n_ : Nat) => (show ((((((w21.drewN n_).setCell ⟨gb183, 0, none⟩ (.int .u64 t178)).setCell ⟨gb183, 1, none⟩ (.int .u64 t179)).setCell ⟨gb183, 2, none⟩ (.bool t180)).setCell ⟨gb183, 3, none⟩ (.string t181))).cell? _ = some _ from hx184_1))
                      (try have hy184_2 := fun (n_ : Nat) => (show ((((((w21.drewN n_).setCell ⟨gb183, 0, none⟩ (.int .u64 t178)).setCell ⟨gb183, 1, none⟩ (.int .u64 t179)).setCell ⟨gb183, 2, none⟩ (.bool t180)).setCell ⟨gb183, 3, none⟩ (.string t181))).cell? _ = some _ from hx184_2))
                      (try have hy184_3 := fun (n_ : Nat) => (show ((((((w21.drewN n_).setCell ⟨gb183, 0, none⟩ (.int .u64 t178)).setCell ⟨gb183, 1, none⟩ (.int .u64 t179)).setCell ⟨gb183, 2, none⟩ (.bool t180)).setCell ⟨gb183, 3, none⟩ (.string t181))).cell? _ = some _ from hx184_3))
                      clear hn184_0
                      clear hn184_1
                      clear hn184_2
                      clear hn184_3
                      replace p184 := eq_true p184
                      replace q184 := eq_true q184
                      have hcz26_0 : w21.cell? ⟨gb183, 0, none⟩ = some (.int .u64 0) := (blk_cell BK183.out 0).trans rfl
                      have hcz26_1 : w21.cell? ⟨gb183, 1, none⟩ = some (.int .u64 0) := (blk_cell BK183.out 1).trans rfl
                      have hcz26_2 : w21.cell? ⟨gb183, 2, none⟩ = some (.bool false) := (blk_cell BK183.out 2).trans rfl
                      have hcz26_3 : w21.cell? ⟨gb183, 3, none⟩ = some (.string (⟨#[]⟩ : ByteArray)) := (blk_cell BK183.out 3).trans rfl
                      have hfz26_0 := blk_frozen BK183.out 0
                      have hfz26_1 := blk_frozen BK183.out 1
                      have hfz26_2 := blk_frozen BK183.out 2
                      have hfz26_3 := blk_frozen BK183.out 3
                      have p185 : 0 ≤ (x15_1 : Int) := of_decide_eq_true (by first | (with_reducible assumption) | assumption)
                      have q185 : x15_1 < (y162.length : Int) := of_decide_eq_true (by first | (with_reducible assumption) | assumption)
                      obtain ⟨ad185, e185, hx185_0, hx185_1, hx185_2, hx185_3⟩ := at_T33 HR165.out x15_1 p185 q185
                      (try rw [← Nbq23.out] at hx185_2)
                      obtain rfl : ad177 = ad185 := (by injection e185)
                      have hn185_0 : ad177.block ≠ gb183 := Nat.ne_of_lt (Nat.lt_of_lt_of_le (by have := World.block_lt_of_cell? _ _ hx185_0; first | rwa [add_block] at this | exact this) GW183.out)
                      have hn185_1 : ad177.block ≠ gb183 := Nat.ne_of_lt (Nat.lt_of_lt_of_le (by have := World.block_lt_of_cell? _ _ hx185_0; first | rwa [add_block] at this | exact this) GW183.out)
                      have hn185_2 : ad177.block ≠ gb183 := Nat.ne_of_lt (Nat.lt_of_lt_of_le (by have := World.block_lt_of_cell? _ _ hx185_0; first | rwa [add_block] at this | exact this) GW183.out)
                      have hn185_3 : ad177.block ≠ gb183 := Nat.ne_of_lt (Nat.lt_of_lt_of_le (by have := World.block_lt_of_cell? _ _ hx185_0; first | rwa [add_block] at this | exact this) GW183.out)
                      replace hx185_0 := (HB.out.cell (World.block_lt_of_cell? w _ hx185_0)).trans hx185_0
                      replace hx185_1 := (HB.out.cell (World.block_lt_of_cell? w _ hx185_1)).trans hx185_1
                      replace hx185_2 := (HB.out.cell (World.block_lt_of_cell? w _ hx185_2)).trans hx185_2
                      replace hx185_3 := (HB.out.cell (World.block_lt_of_cell? w _ hx185_3)).trans hx185_3
                      replace hx185_0 := (cell_far (p := ⟨gb183, 0, none⟩) (by first | (rw [add_block]; exact hn185_0) | (show (Addr.add _ _).block ≠ _; rw [add_block]; exact hn185_0) | exact hn185_0) (.int .u64 t178)).trans hx185_0
                      replace hx185_1 := (cell_far (p := ⟨gb183, 0, none⟩) (by first | (rw [add_block]; exact hn185_0) | (show (Addr.add _ _).block ≠ _; rw [add_block]; exact hn185_0) | exact hn185_0) (.int .u64 t178)).trans hx185_1
                      replace hx185_2 := (cell_far (p := ⟨gb183, 0, none⟩) (by first | (rw [add_block]; exact hn185_0) | (show (Addr.add _ _).block ≠ _; rw [add_block]; exact hn185_0) | exact hn185_0) (.int .u64 t178)).trans hx185_2
                      replace hx185_3 := (cell_far (p := ⟨gb183, 0, none⟩) (by first | (rw [add_block]; exact hn185_0) | (show (Addr.add _ _).block ≠ _; rw [add_block]; exact hn185_0) | exact hn185_0) (.int .u64 t178)).trans hx185_3
                      replace hx185_0 := (cell_far (p := ⟨gb183, 1, none⟩) (by first | (rw [add_block]; exact hn185_1) | (show (Addr.add _ _).block ≠ _; rw [add_block]; exact hn185_1) | exact hn185_1) (.int .u64 t179)).trans hx185_0
                      replace hx185_1 := (cell_far (p := ⟨gb183, 1, none⟩) (by first | (rw [add_block]; exact hn185_1) | (show (Addr.add _ _).block ≠ _; rw [add_block]; exact hn185_1) | exact hn185_1) (.int .u64 t179)).trans hx185_1
                      replace hx185_2 := (cell_far (p := ⟨gb183, 1, none⟩) (by first | (rw [add_block]; exact hn185_1) | (show (Addr.add _ _).block ≠ _; rw [add_block]; exact hn185_1) | exact hn185_1) (.int .u64 t179)).trans hx185_2
                      replace hx185_3 := (cell_far (p := ⟨gb183, 1, none⟩) (by first | (rw [add_block]; exact hn185_1) | (show (Addr.add _ _).block ≠ _; rw [add_block]; exact hn185_1) | exact hn185_1) (.int .u64 t179)).trans hx185_3
                      replace hx185_0 := (cell_far (p := ⟨gb183, 2, none⟩) (by first | (rw [add_block]; exact hn185_2) | (show (Addr.add _ _).block ≠ _; rw [add_block]; exact hn185_2) | exact hn185_2) (.bool t180)).trans hx185_0
                      replace hx185_1 := (cell_far (p := ⟨gb183, 2, none⟩) (by first | (rw [add_block]; exact hn185_2) | (show (Addr.add _ _).block ≠ _; rw [add_block]; exact hn185_2) | exact hn185_2) (.bool t180)).trans hx185_1
                      replace hx185_2 := (cell_far (p := ⟨gb183, 2, none⟩) (by first | (rw [add_block]; exact hn185_2) | (show (Addr.add _ _).block ≠ _; rw [add_block]; exact hn185_2) | exact hn185_2) (.bool t180)).trans hx185_2
                      replace hx185_3 := (cell_far (p := ⟨gb183, 2, none⟩) (by first | (rw [add_block]; exact hn185_2) | (show (Addr.add _ _).block ≠ _; rw [add_block]; exact hn185_2) | exact hn185_2) (.bool t180)).trans hx185_3
                      replace hx185_0 := (cell_far (p := ⟨gb183, 3, none⟩) (by first | (rw [add_block]; exact hn185_3) | (show (Addr.add _ _).block ≠ _; rw [add_block]; exact hn185_3) | exact hn185_3) (.string t181)).trans hx185_0
                      replace hx185_1 := (cell_far (p := ⟨gb183, 3, none⟩) (by first | (rw [add_block]; exact hn185_3) | (show (Addr.add _ _).block ≠ _; rw [add_block]; exact hn185_3) | exact hn185_3) (.string t181)).trans hx185_1
                      replace hx185_2 := (cell_far (p := ⟨gb183, 3, none⟩) (by first | (rw [add_block]; exact hn185_3) | (show (Addr.add _ _).block ≠ _; rw [add_block]; exact hn185_3) | exact hn185_3) (.string t181)).trans hx185_2
                      replace hx185_3 := (cell_far (p := ⟨gb183, 3, none⟩) (by first | (rw [add_block]; exact hn185_3) | (show (Addr.add _ _).block ≠ _; rw [add_block]; exact hn185_3) | exact hn185_3) (.string t181)).trans hx185_3
                      (try have hy185_0 := fun (n_ : Nat) => (show ((((((w21.drewN n_).setCell ⟨gb183, 0, none⟩ (.int .u64 t178)).setCell ⟨gb183, 1, none⟩ (.int .u64 t179)).setCell ⟨gb183, 2, none⟩ (.bool t180)).setCell ⟨gb183, 3, none⟩ (.string t181))).cell? _ = some _ from hx185_0))
                      (try have hy185_1 := fun (n_ : Nat) => (show ((((((w21.drewN n_).setCell ⟨gb183, 0, none⟩ (.int .u64 t178)).setCell ⟨gb183, 1, none⟩ (.int .u64 t179)).setCell ⟨gb183, 2, none⟩ (.bool t180)).setCell ⟨gb183, 3, none⟩ (.string t181))).cell? _ = some _ from hx185_1))
                      (try have hy185_2 := fun (n_ : Nat) => (show ((((((w21.drewN n_).setCell ⟨gb183, 0, none⟩ (.int .u64 t178)).setCell ⟨gb183, 1, none⟩ (.int .u64 t179)).setCell ⟨gb183, 2, none⟩ (.bool t180)).setCell ⟨gb183, 3, none⟩ (.string t181))).cell? _ = some _ from hx185_2))
                      (try have hy185_3 := fun (n_ : Nat) => (show ((((((w21.drewN n_).setCell ⟨gb183, 0, none⟩ (.int .u64 t178)).setCell ⟨gb183, 1, none⟩ (.int .u64 t179)).setCell ⟨gb183, 2, none⟩ (.bool t180)).setCell ⟨gb183, 3, none⟩ (.string t181))).cell? _ = some _ from hx185_3))
                      clear hn185_0
                      clear hn185_1
                      clear hn185_2
                      clear hn185_3
                      replace p185 := eq_true p185
                      replace q185 := eq_true q185
                      go_wp2
                      repeat (go_quiet (fail); try go_wp2)
                      go_meet
                      case rel => exact ⟨_, ((!(t178 == ((rd_T33 y162 x15_1).f0)) || (!(t179 == ((rd_T33 y162 x15_1).f1)) || (!(t180 == (true)) || (!(t181.toList == (((rd_T33 y162 x15_1).f3).toList))))))), (by first | rfl | (simp; done) | (simp [*]; done)), H', ⟨by have := HK1.out; first | omega | exact Nat.le_refl _⟩, ⟨by (with_reducible repeat (first | apply Kd.R_alloc | apply Kd.R_drewN | apply Kd.R_drew)); exact Kd.R_mono (Kd.R_far (p := ⟨gb183, 3, none⟩) (Kd.R_far (p := ⟨gb183, 2, none⟩) (Kd.R_far (p := ⟨gb183, 1, none⟩) (Kd.R_far (p := ⟨gb183, 0, none⟩) (Kd.R_mono HO_10.out (fun k_ hk => (⟨hk, hk.2⟩ : _ ∧ k_ ≠ gb183))) (fun _ hk => hk.2) (.int .u64 t178)) (fun _ hk => hk.2) (.int .u64 t179)) (fun _ hk => hk.2) (.bool t180)) (fun _ hk => hk.2) (.string t181)) (fun _ hk => ⟨hk.1.1, hk.1.2⟩)⟩, ⟨by (with_reducible repeat (first | apply Kd.R_alloc | apply Kd.R_drewN | apply Kd.R_drew)); exact Kd.R_mono (Kd.R_far (p := ⟨gb183, 3, none⟩) (Kd.R_far (p := ⟨gb183, 2, none⟩) (Kd.R_far (p := ⟨gb183, 1, none⟩) (Kd.R_far (p := ⟨gb183, 0, none⟩) (Kd.R_mono HO_13.out (fun k_ hk => (⟨hk, hk.2⟩ : _ ∧ k_ ≠ gb183))) (fun _ hk => hk.2) (.int .u64 t178)) (fun _ hk => hk.2) (.int .u64 t179)) (fun _ hk => hk.2) (.bool t180)) (fun _ hk => hk.2) (.string t181)) (fun _ hk => ⟨hk.1.1, hk.1.2⟩)⟩, ⟨by (with_reducible repeat (first | refine blk_drewN ?_ _ | refine blk_drew ?_ | refine blk_alloc ?_ _)); refine blk_put (cs := #[.int .u64 t178, .int .u64 t179, .bool t180, .string (⟨#[]⟩ : ByteArray)]) ?_ 3 _ rfl; (with_reducible repeat (first | refine blk_drewN ?_ _ | refine blk_drew ?_ | refine blk_alloc ?_ _)); refine blk_put (cs := #[.int .u64 t178, .int .u64 t179, .bool false, .string (⟨#[]⟩ : ByteArray)]) ?_ 2 _ rfl; (with_reducible repeat (first | refine blk_drewN ?_ _ | refine blk_drew ?_ | refine blk_alloc ?_ _)); refine blk_put (cs := #[.int .u64 t178, .int .u64 0, .bool false, .string (⟨#[]⟩ : ByteArray)]) ?_ 1 _ rfl; (with_reducible repeat (first | refine blk_drewN ?_ _ | refine blk_drew ?_ | refine blk_alloc ?_ _)); refine blk_put (cs := #[.int .u64 0, .int .u64 0, .bool false, .string (⟨#[]⟩ : ByteArray)]) ?_ 0 _ rfl; (with_reducible repeat (first | refine blk_drewN ?_ _ | refine blk_drew ?_ | refine blk_alloc ?_ _)); exact BK183.out⟩, ⟨by repeat (first | (with_reducible first | exact HB.out | apply below_alloc | apply pw_below_drewN | apply below_drew1 | refine below_set ?_ GE183.out) | exact HB.out)⟩⟩
                    · rw [if_neg c25] at H
                      have c25b0 : (t182 == 0) = false := beq_eq_false_iff_ne.mpr c25
                      have c25b1 : (t182 != 0) = true := bne_iff_ne.mpr c25
                      have H' := Aside0.mk H
                      clear H
                      have p184 : 0 ≤ (x15_1 : Int) := of_decide_eq_true (by first | (with_reducible assumption) | assumption)
                      have q184 : x15_1 < (y162.length : Int) := of_decide_eq_true (by first | (with_reducible assumption) | assumption)
                      obtain ⟨ad184, e184, hx184_0, hx184_1, hx184_2, hx184_3⟩ := at_T33 HR165.out x15_1 p184 q184
                      (try rw [← Nbq23.out] at hx184_2)
                      obtain rfl : ad177 = ad184 := (by injection e184)
                      have hn184_0 : ad177.block ≠ gb183 := Nat.ne_of_lt (Nat.lt_of_lt_of_le (by have := World.block_lt_of_cell? _ _ hx184_0; first | rwa [add_block] at this | exact this) GW183.out)
                      have hn184_1 : ad177.block ≠ gb183 := Nat.ne_of_lt (Nat.lt_of_lt_of_le (by have := World.block_lt_of_cell? _ _ hx184_0; first | rwa [add_block] at this | exact this) GW183.out)
                      have hn184_2 : ad177.block ≠ gb183 := Nat.ne_of_lt (Nat.lt_of_lt_of_le (by have := World.block_lt_of_cell? _ _ hx184_0; first | rwa [add_block] at this | exact this) GW183.out)
                      have hn184_3 : ad177.block ≠ gb183 := Nat.ne_of_lt (Nat.lt_of_lt_of_le (by have := World.block_lt_of_cell? _ _ hx184_0; first | rwa [add_block] at this | exact this) GW183.out)
                      replace hx184_0 := (HB.out.cell (World.block_lt_of_cell? w _ hx184_0)).trans hx184_0
                      replace hx184_1 := (HB.out.cell (World.block_lt_of_cell? w _ hx184_1)).trans hx184_1
                      replace hx184_2 := (HB.out.cell (World.block_lt_of_cell? w _ hx184_2)).trans hx184_2
                      replace hx184_3 := (HB.out.cell (World.block_lt_of_cell? w _ hx184_3)).trans hx184_3
                      replace hx184_0 := (cell_far (p := ⟨gb183, 0, none⟩) (by first | (rw [add_block]; exact hn184_0) | (show (Addr.add _ _).block ≠ _; rw [add_block]; exact hn184_0) | exact hn184_0) (.int .u64 t178)).trans hx184_0
                      replace hx184_1 := (cell_far (p := ⟨gb183, 0, none⟩) (by first | (rw [add_block]; exact hn184_0) | (show (Addr.add _ _).block ≠ _; rw [add_block]; exact hn184_0) | exact hn184_0) (.int .u64 t178)).trans hx184_1
                      replace hx184_2 := (cell_far (p := ⟨gb183, 0, none⟩) (by first | (rw [add_block]; exact hn184_0) | (show (Addr.add _ _).block ≠ _; rw [add_block]; exact hn184_0) | exact hn184_0) (.int .u64 t178)).trans hx184_2
                      replace hx184_3 := (cell_far (p := ⟨gb183, 0, none⟩) (by first | (rw [add_block]; exact hn184_0) | (show (Addr.add _ _).block ≠ _; rw [add_block]; exact hn184_0) | exact hn184_0) (.int .u64 t178)).trans hx184_3
                      replace hx184_0 := (cell_far (p := ⟨gb183, 1, none⟩) (by first | (rw [add_block]; exact hn184_1) | (show (Addr.add _ _).block ≠ _; rw [add_block]; exact hn184_1) | exact hn184_1) (.int .u64 t179)).trans hx184_0
                      replace hx184_1 := (cell_far (p := ⟨gb183, 1, none⟩) (by first | (rw [add_block]; exact hn184_1) | (show (Addr.add _ _).block ≠ _; rw [add_block]; exact hn184_1) | exact hn184_1) (.int .u64 t179)).trans hx184_1
                      replace hx184_2 := (cell_far (p := ⟨gb183, 1, none⟩) (by first | (rw [add_block]; exact hn184_1) | (show (Addr.add _ _).block ≠ _; rw [add_block]; exact hn184_1) | exact hn184_1) (.int .u64 t179)).trans hx184_2
                      replace hx184_3 := (cell_far (p := ⟨gb183, 1, none⟩) (by first | (rw [add_block]; exact hn184_1) | (show (Addr.add _ _).block ≠ _; rw [add_block]; exact hn184_1) | exact hn184_1) (.int .u64 t179)).trans hx184_3
                      replace hx184_0 := (cell_far (p := ⟨gb183, 2, none⟩) (by first | (rw [add_block]; exact hn184_2) | (show (Addr.add _ _).block ≠ _; rw [add_block]; exact hn184_2) | exact hn184_2) (.bool t180)).trans hx184_0
                      replace hx184_1 := (cell_far (p := ⟨gb183, 2, none⟩) (by first | (rw [add_block]; exact hn184_2) | (show (Addr.add _ _).block ≠ _; rw [add_block]; exact hn184_2) | exact hn184_2) (.bool t180)).trans hx184_1
                      replace hx184_2 := (cell_far (p := ⟨gb183, 2, none⟩) (by first | (rw [add_block]; exact hn184_2) | (show (Addr.add _ _).block ≠ _; rw [add_block]; exact hn184_2) | exact hn184_2) (.bool t180)).trans hx184_2
                      replace hx184_3 := (cell_far (p := ⟨gb183, 2, none⟩) (by first | (rw [add_block]; exact hn184_2) | (show (Addr.add _ _).block ≠ _; rw [add_block]; exact hn184_2) | exact hn184_2) (.bool t180)).trans hx184_3
                      replace hx184_0 := (cell_far (p := ⟨gb183, 3, none⟩) (by first | (rw [add_block]; exact hn184_3) | (show (Addr.add _ _).block ≠ _; rw [add_block]; exact hn184_3) | exact hn184_3) (.string t181)).trans hx184_0
                      replace hx184_1 := (cell_far (p := ⟨gb183, 3, none⟩) (by first | (rw [add_block]; exact hn184_3) | (show (Addr.add _ _).block ≠ _; rw [add_block]; exact hn184_3) | exact hn184_3) (.string t181)).trans hx184_1
                      replace hx184_2 := (cell_far (p := ⟨gb183, 3, none⟩) (by first | (rw [add_block]; exact hn184_3) | (show (Addr.add _ _).block ≠ _; rw [add_block]; exact hn184_3) | exact hn184_3) (.string t181)).trans hx184_2
                      replace hx184_3 := (cell_far (p := ⟨gb183, 3, none⟩) (by first | (rw [add_block]; exact hn184_3) | (show (Addr.add _ _).block ≠ _; rw [add_block]; exact hn184_3) | exact hn184_3) (.string t181)).trans hx184_3
                      (try have hy184_0 := fun (n_ : Nat) => (show ((((((w21.drewN n_).setCell ⟨gb183, 0, none⟩ (.int .u64 t178)).setCell ⟨gb183, 1, none⟩ (.int .u64 t179)).setCell ⟨gb183, 2, none⟩ (.bool t180)).setCell ⟨gb183, 3, none⟩ (.string t181))).cell? _ = some _ from hx184_0))
                      (try have hy184_1 := fun (n_ : Nat) => (show ((((((w21.drewN n_).setCell ⟨gb183, 0, none⟩ (.int .u64 t178)).setCell ⟨gb183, 1, none⟩ (.int .u64 t179)).setCell ⟨gb183, 2, none⟩ (.bool t180)).setCell ⟨gb183, 3, none⟩ (.string t181))).cell? _ = some _ from hx184_1))
                      (try have hy184_2 := fun (n_ : Nat) => (show ((((((w21.drewN n_).setCell ⟨gb183, 0, none⟩ (.int .u64 t178)).setCell ⟨gb183, 1, none⟩ (.int .u64 t179)).setCell ⟨gb183, 2, none⟩ (.bool t180)).setCell ⟨gb183, 3, none⟩ (.string t181))).cell? _ = some _ from hx184_2))
                      (try have hy184_3 := fun (n_ : Nat) => (show ((((((w21.drewN n_).setCell ⟨gb183, 0, none⟩ (.int .u64 t178)).setCell ⟨gb183, 1, none⟩ (.int .u64 t179)).setCell ⟨gb183, 2, none⟩ (.bool t180)).setCell ⟨gb183, 3, none⟩ (.string t181))).cell? _ = some _ from hx184_3))
                      clear hn184_0
                      clear hn184_1
                      clear hn184_2
                      clear hn184_3
                      replace p184 := eq_true p184
                      replace q184 := eq_true q184
                      go_wp2
                      repeat (go_quiet (fail); try go_wp2)
                      go_meet
                      case rel => exact ⟨_, (true), (by first | rfl | (simp; done) | (simp [*]; done)), H', ⟨by have := HK1.out; first | omega | exact Nat.le_refl _⟩, ⟨by (with_reducible repeat (first | apply Kd.R_alloc | apply Kd.R_drewN | apply Kd.R_drew)); exact Kd.R_mono (Kd.R_far (p := ⟨gb183, 3, none⟩) (Kd.R_far (p := ⟨gb183, 2, none⟩) (Kd.R_far (p := ⟨gb183, 1, none⟩) (Kd.R_far (p := ⟨gb183, 0, none⟩) (Kd.R_mono HO_10.out (fun k_ hk => (⟨hk, hk.2⟩ : _ ∧ k_ ≠ gb183))) (fun _ hk => hk.2) (.int .u64 t178)) (fun _ hk => hk.2) (.int .u64 t179)) (fun _ hk => hk.2) (.bool t180)) (fun _ hk => hk.2) (.string t181)) (fun _ hk => ⟨hk.1.1, hk.1.2⟩)⟩, ⟨by (with_reducible repeat (first | apply Kd.R_alloc | apply Kd.R_drewN | apply Kd.R_drew)); exact Kd.R_mono (Kd.R_far (p := ⟨gb183, 3, none⟩) (Kd.R_far (p := ⟨gb183, 2, none⟩) (Kd.R_far (p := ⟨gb183, 1, none⟩) (Kd.R_far (p := ⟨gb183, 0, none⟩) (Kd.R_mono HO_13.out (fun k_ hk => (⟨hk, hk.2⟩ : _ ∧ k_ ≠ gb183))) (fun _ hk => hk.2) (.int .u64 t178)) (fun _ hk => hk.2) (.int .u64 t179)) (fun _ hk => hk.2) (.bool t180)) (fun _ hk => hk.2) (.string t181)) (fun _ hk => ⟨hk.1.1, hk.1.2⟩)⟩, ⟨by (with_reducible repeat (first | refine blk_drewN ?_ _ | refine blk_drew ?_ | refine blk_alloc ?_ _)); refine blk_put (cs := #[.int .u64 t178, .int .u64 t179, .bool t180, .string (⟨#[]⟩ : ByteArray)]) ?_ 3 _ rfl; (with_reducible repeat (first | refine blk_drewN ?_ _ | refine blk_drew ?_ | refine blk_alloc ?_ _)); refine blk_put (cs := #[.int .u64 t178, .int .u64 t179, .bool false, .string (⟨#[]⟩ : ByteArray)]) ?_ 2 _ rfl; (with_reducible repeat (first | refine blk_drewN ?_ _ | refine blk_drew ?_ | refine blk_alloc ?_ _)); refine blk_put (cs := #[.int .u64 t178, .int .u64 0, .bool false, .string (⟨#[]⟩ : ByteArray)]) ?_ 1 _ rfl; (with_reducible repeat (first | refine blk_drewN ?_ _ | refine blk_drew ?_ | refine blk_alloc ?_ _)); refine blk_put (cs := #[.int .u64 0, .int .u64 0, .bool false, .string (⟨#[]⟩ : ByteArray)]) ?_ 0 _ rfl; (with_reducible repeat (first | refine blk_drewN ?_ _ | refine blk_drew ?_ | refine blk_alloc ?_ _)); exact BK183.out⟩, ⟨by repeat (first | (with_reducible first | exact HB.out | apply below_alloc | apply pw_below_drewN | apply below_drew1 | refine below_set ?_ GE183.out) | exact HB.out)⟩⟩
                  · replace c24 := Bool.eq_false_iff.mpr c24
                    subst c24
                    have H1 : (if x15_1 = (wrap64 ((y162.length : Int) - 1)) then (if t182 = 0 then (nautiluslaw09_CpsStays.j1 k1 y162 a1 t161 t166 t167 t172 t173 x15_1 (!(t178 == ((rd_T33 y162 x15_1).f0)) || (!(t179 == ((rd_T33 y162 x15_1).f1)) || (!(t180 == (false)) || (!(t181.toList == (((rd_T33 y162 x15_1).f3).toList))))))) else (nautiluslaw09_CpsStays.j1 k1 y162 a1 t161 t166 t167 t172 t173 x15_1 true)) else (nautiluslaw09_CpsStays.j1 k1 y162 a1 t161 t166 t167 t172 t173 x15_1 false)) = some r := by rw [if_neg (show ¬ (false = true) by decide)] at H; exact H
                    clear H
                    have H := H1
                    clear H1
                    by_cases c27 : x15_1 = (wrap64 ((y162.length : Int) - 1))
                    · rw [if_pos c27] at H
                      have c27b0 : (x15_1 == (wrap64 ((y162.length : Int) - 1))) = true := beq_iff_eq.mpr c27
                      have c27b1 : (x15_1 != (wrap64 ((y162.length : Int) - 1))) = false := bne_eq_false_iff_eq.mpr c27
                      clear c27
                      by_cases c28 : t182 = 0
                      · rw [if_pos c28] at H
                        have c28b0 : (t182 == 0) = true := beq_iff_eq.mpr c28
                        have c28b1 : (t182 != 0) = false := bne_eq_false_iff_eq.mpr c28
                        clear c28
                        have H' := Aside0.mk H
                        clear H
                        have p184 : 0 ≤ (x15_1 : Int) := of_decide_eq_true (by first | (with_reducible assumption) | assumption)
                        have q184 : x15_1 < (y162.length : Int) := of_decide_eq_true (by first | (with_reducible assumption) | assumption)
                        obtain ⟨ad184, e184, hx184_0, hx184_1, hx184_2, hx184_3⟩ := at_T33 HR165.out x15_1 p184 q184
                        (try rw [← Nbq23.out] at hx184_2)
                        obtain rfl : ad177 = ad184 := (by injection e184)
                        have hn184_0 : ad177.block ≠ gb183 := Nat.ne_of_lt (Nat.lt_of_lt_of_le (by have := World.block_lt_of_cell? _ _ hx184_0; first | rwa [add_block] at this | exact this) GW183.out)
                        have hn184_1 : ad177.block ≠ gb183 := Nat.ne_of_lt (Nat.lt_of_lt_of_le (by have := World.block_lt_of_cell? _ _ hx184_0; first | rwa [add_block] at this | exact this) GW183.out)
                        have hn184_2 : ad177.block ≠ gb183 := Nat.ne_of_lt (Nat.lt_of_lt_of_le (by have := World.block_lt_of_cell? _ _ hx184_0; first | rwa [add_block] at this | exact this) GW183.out)
                        have hn184_3 : ad177.block ≠ gb183 := Nat.ne_of_lt (Nat.lt_of_lt_of_le (by have := World.block_lt_of_cell? _ _ hx184_0; first | rwa [add_block] at this | exact this) GW183.out)
                        replace hx184_0 := (HB.out.cell (World.block_lt_of_cell? w _ hx184_0)).trans hx184_0
                        replace hx184_1 := (HB.out.cell (World.block_lt_of_cell? w _ hx184_1)).trans hx184_1
                        replace hx184_2 := (HB.out.cell (World.block_lt_of_cell? w _ hx184_2)).trans hx184_2
                        replace hx184_3 := (HB.out.cell (World.block_lt_of_cell? w _ hx184_3)).trans hx184_3
                        replace hx184_0 := (cell_far (p := ⟨gb183, 0, none⟩) (by first | (rw [add_block]; exact hn184_0) | (show (Addr.add _ _).block ≠ _; rw [add_block]; exact hn184_0) | exact hn184_0) (.int .u64 t178)).trans hx184_0
                        replace hx184_1 := (cell_far (p := ⟨gb183, 0, none⟩) (by first | (rw [add_block]; exact hn184_0) | (show (Addr.add _ _).block ≠ _; rw [add_block]; exact hn184_0) | exact hn184_0) (.int .u64 t178)).trans hx184_1
                        replace hx184_2 := (cell_far (p := ⟨gb183, 0, none⟩) (by first | (rw [add_block]; exact hn184_0) | (show (Addr.add _ _).block ≠ _; rw [add_block]; exact hn184_0) | exact hn184_0) (.int .u64 t178)).trans hx184_2
                        replace hx184_3 := (cell_far (p := ⟨gb183, 0, none⟩) (by first | (rw [add_block]; exact hn184_0) | (show (Addr.add _ _).block ≠ _; rw [add_block]; exact hn184_0) | exact hn184_0) (.int .u64 t178)).trans hx184_3
                        replace hx184_0 := (cell_far (p := ⟨gb183, 1, none⟩) (by first | (rw [add_block]; exact hn184_1) | (show (Addr.add _ _).block ≠ _; rw [add_block]; exact hn184_1) | exact hn184_1) (.int .u64 t179)).trans hx184_0
                        replace hx184_1 := (cell_far (p := ⟨gb183, 1, none⟩) (by first | (rw [add_block]; exact hn184_1) | (show (Addr.add _ _).block ≠ _; rw [add_block]; exact hn184_1) | exact hn184_1) (.int .u64 t179)).trans hx184_1
                        replace hx184_2 := (cell_far (p := ⟨gb183, 1, none⟩) (by first | (rw [add_block]; exact hn184_1) | (show (Addr.add _ _).block ≠ _; rw [add_block]; exact hn184_1) | exact hn184_1) (.int .u64 t179)).trans hx184_2
                        replace hx184_3 := (cell_far (p := ⟨gb183, 1, none⟩) (by first | (rw [add_block]; exact hn184_1) | (show (Addr.add _ _).block ≠ _; rw [add_block]; exact hn184_1) | exact hn184_1) (.int .u64 t179)).trans hx184_3
                        replace hx184_0 := (cell_far (p := ⟨gb183, 2, none⟩) (by first | (rw [add_block]; exact hn184_2) | (show (Addr.add _ _).block ≠ _; rw [add_block]; exact hn184_2) | exact hn184_2) (.bool t180)).trans hx184_0
                        replace hx184_1 := (cell_far (p := ⟨gb183, 2, none⟩) (by first | (rw [add_block]; exact hn184_2) | (show (Addr.add _ _).block ≠ _; rw [add_block]; exact hn184_2) | exact hn184_2) (.bool t180)).trans hx184_1
                        replace hx184_2 := (cell_far (p := ⟨gb183, 2, none⟩) (by first | (rw [add_block]; exact hn184_2) | (show (Addr.add _ _).block ≠ _; rw [add_block]; exact hn184_2) | exact hn184_2) (.bool t180)).trans hx184_2
                        replace hx184_3 := (cell_far (p := ⟨gb183, 2, none⟩) (by first | (rw [add_block]; exact hn184_2) | (show (Addr.add _ _).block ≠ _; rw [add_block]; exact hn184_2) | exact hn184_2) (.bool t180)).trans hx184_3
                        replace hx184_0 := (cell_far (p := ⟨gb183, 3, none⟩) (by first | (rw [add_block]; exact hn184_3) | (show (Addr.add _ _).block ≠ _; rw [add_block]; exact hn184_3) | exact hn184_3) (.string t181)).trans hx184_0
                        replace hx184_1 := (cell_far (p := ⟨gb183, 3, none⟩) (by first | (rw [add_block]; exact hn184_3) | (show (Addr.add _ _).block ≠ _; rw [add_block]; exact hn184_3) | exact hn184_3) (.string t181)).trans hx184_1
                        replace hx184_2 := (cell_far (p := ⟨gb183, 3, none⟩) (by first | (rw [add_block]; exact hn184_3) | (show (Addr.add _ _).block ≠ _; rw [add_block]; exact hn184_3) | exact hn184_3) (.string t181)).trans hx184_2
                        replace hx184_3 := (cell_far (p := ⟨gb183, 3, none⟩) (by first | (rw [add_block]; exact hn184_3) | (show (Addr.add _ _).block ≠ _; rw [add_block]; exact hn184_3) | exact hn184_3) (.string t181)).trans hx184_3
                        (try have hy184_0 := fun (n_ : Nat) => (show ((((((w21.drewN n_).setCell ⟨gb183, 0, none⟩ (.int .u64 t178)).setCell ⟨gb183, 1, none⟩ (.int .u64 t179)).setCell ⟨gb183, 2, none⟩ (.bool t180)).setCell ⟨gb183, 3, none⟩ (.string t181))).cell? _ = some _ from hx184_0))
                        (try have hy184_1 := fun (n_ : Nat) => (show ((((((w21.drewN n_).setCell ⟨gb183, 0, none⟩ (.int .u64 t178)).setCell ⟨gb183, 1, none⟩ (.int .u64 t179)).setCell ⟨gb183, 2, none⟩ (.bool t180)).setCell ⟨gb183, 3, none⟩ (.string t181))).cell? _ = some _ from hx184_1))
                        (try have hy184_2 := fun (n_ : Nat) => (show ((((((w21.drewN n_).setCell ⟨gb183, 0, none⟩ (.int .u64 t178)).setCell ⟨gb183, 1, none⟩ (.int .u64 t179)).setCell ⟨gb183, 2, none⟩ (.bool t180)).setCell ⟨gb183, 3, none⟩ (.string t181))).cell? _ = some _ from hx184_2))
                        (try have hy184_3 := fun (n_ : Nat) => (show ((((((w21.drewN n_).setCell ⟨gb183, 0, none⟩ (.int .u64 t178)).setCell ⟨gb183, 1, none⟩ (.int .u64 t179)).setCell ⟨gb183, 2, none⟩ (.bool t180)).setCell ⟨gb183, 3, none⟩ (.string t181))).cell? _ = some _ from hx184_3))
                        clear hn184_0
                        clear hn184_1
                        clear hn184_2
                        clear hn184_3
                        replace p184 := eq_true p184
                        replace q184 := eq_true q184
                        have hcz29_0 : w21.cell? ⟨gb183, 0, none⟩ = some (.int .u64 0) := (blk_cell BK183.out 0).trans rfl
                        have hcz29_1 : w21.cell? ⟨gb183, 1, none⟩ = some (.int .u64 0) := (blk_cell BK183.out 1).trans rfl
                        have hcz29_2 : w21.cell? ⟨gb183, 2, none⟩ = some (.bool false) := (blk_cell BK183.out 2).trans rfl
                        have hcz29_3 : w21.cell? ⟨gb183, 3, none⟩ = some (.string (⟨#[]⟩ : ByteArray)) := (blk_cell BK183.out 3).trans rfl
                        have hfz29_0 := blk_frozen BK183.out 0
                        have hfz29_1 := blk_frozen BK183.out 1
                        have hfz29_2 := blk_frozen BK183.out 2
                        have hfz29_3 := blk_frozen BK183.out 3
                        have p186 : 0 ≤ (x15_1 : Int) := of_decide_eq_true (by first | (with_reducible assumption) | assumption)
                        have q186 : x15_1 < (y162.length : Int) := of_decide_eq_true (by first | (with_reducible assumption) | assumption)
                        obtain ⟨ad186, e186, hx186_0, hx186_1, hx186_2, hx186_3⟩ := at_T33 HR165.out x15_1 p186 q186
                        (try rw [← Nbq23.out] at hx186_2)
                        obtain rfl : ad177 = ad186 := (by injection e186)
                        have hn186_0 : ad177.block ≠ gb183 := Nat.ne_of_lt (Nat.lt_of_lt_of_le (by have := World.block_lt_of_cell? _ _ hx186_0; first | rwa [add_block] at this | exact this) GW183.out)
                        have hn186_1 : ad177.block ≠ gb183 := Nat.ne_of_lt (Nat.lt_of_lt_of_le (by have := World.block_lt_of_cell? _ _ hx186_0; first | rwa [add_block] at this | exact this) GW183.out)
                        have hn186_2 : ad177.block ≠ gb183 := Nat.ne_of_lt (Nat.lt_of_lt_of_le (by have := World.block_lt_of_cell? _ _ hx186_0; first | rwa [add_block] at this | exact this) GW183.out)
                        have hn186_3 : ad177.block ≠ gb183 := Nat.ne_of_lt (Nat.lt_of_lt_of_le (by have := World.block_lt_of_cell? _ _ hx186_0; first | rwa [add_block] at this | exact this) GW183.out)
                        replace hx186_0 := (HB.out.cell (World.block_lt_of_cell? w _ hx186_0)).trans hx186_0
                        replace hx186_1 := (HB.out.cell (World.block_lt_of_cell? w _ hx186_1)).trans hx186_1
                        replace hx186_2 := (HB.out.cell (World.block_lt_of_cell? w _ hx186_2)).trans hx186_2
                        replace hx186_3 := (HB.out.cell (World.block_lt_of_cell? w _ hx186_3)).trans hx186_3
                        replace hx186_0 := (cell_far (p := ⟨gb183, 0, none⟩) (by first | (rw [add_block]; exact hn186_0) | (show (Addr.add _ _).block ≠ _; rw [add_block]; exact hn186_0) | exact hn186_0) (.int .u64 t178)).trans hx186_0
                        replace hx186_1 := (cell_far (p := ⟨gb183, 0, none⟩) (by first | (rw [add_block]; exact hn186_0) | (show (Addr.add _ _).block ≠ _; rw [add_block]; exact hn186_0) | exact hn186_0) (.int .u64 t178)).trans hx186_1
                        replace hx186_2 := (cell_far (p := ⟨gb183, 0, none⟩) (by first | (rw [add_block]; exact hn186_0) | (show (Addr.add _ _).block ≠ _; rw [add_block]; exact hn186_0) | exact hn186_0) (.int .u64 t178)).trans hx186_2
                        replace hx186_3 := (cell_far (p := ⟨gb183, 0, none⟩) (by first | (rw [add_block]; exact hn186_0) | (show (Addr.add _ _).block ≠ _; rw [add_block]; exact hn186_0) | exact hn186_0) (.int .u64 t178)).trans hx186_3
                        replace hx186_0 := (cell_far (p := ⟨gb183, 1, none⟩) (by first | (rw [add_block]; exact hn186_1) | (show (Addr.add _ _).block ≠ _; rw [add_block]; exact hn186_1) | exact hn186_1) (.int .u64 t179)).trans hx186_0
                        replace hx186_1 := (cell_far (p := ⟨gb183, 1, none⟩) (by first | (rw [add_block]; exact hn186_1) | (show (Addr.add _ _).block ≠ _; rw [add_block]; exact hn186_1) | exact hn186_1) (.int .u64 t179)).trans hx186_1
                        replace hx186_2 := (cell_far (p := ⟨gb183, 1, none⟩) (by first | (rw [add_block]; exact hn186_1) | (show (Addr.add _ _).block ≠ _; rw [add_block]; exact hn186_1) | exact hn186_1) (.int .u64 t179)).trans hx186_2
                        replace hx186_3 := (cell_far (p := ⟨gb183, 1, none⟩) (by first | (rw [add_block]; exact hn186_1) | (show (Addr.add _ _).block ≠ _; rw [add_block]; exact hn186_1) | exact hn186_1) (.int .u64 t179)).trans hx186_3
                        replace hx186_0 := (cell_far (p := ⟨gb183, 2, none⟩) (by first | (rw [add_block]; exact hn186_2) | (show (Addr.add _ _).block ≠ _; rw [add_block]; exact hn186_2) | exact hn186_2) (.bool t180)).trans hx186_0
                        replace hx186_1 := (cell_far (p := ⟨gb183, 2, none⟩) (by first | (rw [add_block]; exact hn186_2) | (show (Addr.add _ _).block ≠ _; rw [add_block]; exact hn186_2) | exact hn186_2) (.bool t180)).trans hx186_1
                        replace hx186_2 := (cell_far (p := ⟨gb183, 2, none⟩) (by first | (rw [add_block]; exact hn186_2) | (show (Addr.add _ _).block ≠ _; rw [add_block]; exact hn186_2) | exact hn186_2) (.bool t180)).trans hx186_2
                        replace hx186_3 := (cell_far (p := ⟨gb183, 2, none⟩) (by first | (rw [add_block]; exact hn186_2) | (show (Addr.add _ _).block ≠ _; rw [add_block]; exact hn186_2) | exact hn186_2) (.bool t180)).trans hx186_3
                        replace hx186_0 := (cell_far (p := ⟨gb183, 3, none⟩) (by first | (rw [add_block]; exact hn186_3) | (show (Addr.add _ _).block ≠ _; rw [add_block]; exact hn186_3) | exact hn186_3) (.string t181)).trans hx186_0
                        replace hx186_1 := (cell_far (p := ⟨gb183, 3, none⟩) (by first | (rw [add_block]; exact hn186_3) | (show (Addr.add _ _).block ≠ _; rw [add_block]; exact hn186_3) | exact hn186_3) (.string t181)).trans hx186_1
                        replace hx186_2 := (cell_far (p := ⟨gb183, 3, none⟩) (by first | (rw [add_block]; exact hn186_3) | (show (Addr.add _ _).block ≠ _; rw [add_block]; exact hn186_3) | exact hn186_3) (.string t181)).trans hx186_2
                        replace hx186_3 := (cell_far (p := ⟨gb183, 3, none⟩) (by first | (rw [add_block]; exact hn186_3) | (show (Addr.add _ _).block ≠ _; rw [add_block]; exact hn186_3) | exact hn186_3) (.string t181)).trans hx186_3
                        (try have hy186_0 := fun (n_ : Nat) => (show ((((((w21.drewN n_).setCell ⟨gb183, 0, none⟩ (.int .u64 t178)).setCell ⟨gb183, 1, none⟩ (.int .u64 t179)).setCell ⟨gb183, 2, none⟩ (.bool t180)).setCell ⟨gb183, 3, none⟩ (.string t181))).cell? _ = some _ from hx186_0))
                        (try have hy186_1 := fun (n_ : Nat) => (show ((((((w21.drewN n_).setCell ⟨gb183, 0, none⟩ (.int .u64 t178)).setCell ⟨gb183, 1, none⟩ (.int .u64 t179)).setCell ⟨gb183, 2, none⟩ (.bool t180)).setCell ⟨gb183, 3, none⟩ (.string t181))).cell? _ = some _ from hx186_1))
                        (try have hy186_2 := fun (n_ : Nat) => (show ((((((w21.drewN n_).setCell ⟨gb183, 0, none⟩ (.int .u64 t178)).setCell ⟨gb183, 1, none⟩ (.int .u64 t179)).setCell ⟨gb183, 2, none⟩ (.bool t180)).setCell ⟨gb183, 3, none⟩ (.string t181))).cell? _ = some _ from hx186_2))
                        (try have hy186_3 := fun (n_ : Nat) => (show ((((((w21.drewN n_).setCell ⟨gb183, 0, none⟩ (.int .u64 t178)).setCell ⟨gb183, 1, none⟩ (.int .u64 t179)).setCell ⟨gb183, 2, none⟩ (.bool t180)).setCell ⟨gb183, 3, none⟩ (.string t181))).cell? _ = some _ from hx186_3))
                        clear hn186_0
                        clear hn186_1
                        clear hn186_2
                        clear hn186_3
                        replace p186 := eq_true p186
                        replace q186 := eq_true q186
                        go_wp2
                        repeat (go_quiet (fail); try go_wp2)
                        go_meet
                        case rel => exact ⟨_, ((!(t178 == ((rd_T33 y162 x15_1).f0)) || (!(t179 == ((rd_T33 y162 x15_1).f1)) || (!(t180 == (false)) || (!(t181.toList == (((rd_T33 y162 x15_1).f3).toList))))))), (by first | rfl | (simp; done) | (simp [*]; done)), H', ⟨by have := HK1.out; first | omega | exact Nat.le_refl _⟩, ⟨by (with_reducible repeat (first | apply Kd.R_alloc | apply Kd.R_drewN | apply Kd.R_drew)); exact Kd.R_mono (Kd.R_far (p := ⟨gb183, 3, none⟩) (Kd.R_far (p := ⟨gb183, 2, none⟩) (Kd.R_far (p := ⟨gb183, 1, none⟩) (Kd.R_far (p := ⟨gb183, 0, none⟩) (Kd.R_mono HO_10.out (fun k_ hk => (⟨hk, hk.2⟩ : _ ∧ k_ ≠ gb183))) (fun _ hk => hk.2) (.int .u64 t178)) (fun _ hk => hk.2) (.int .u64 t179)) (fun _ hk => hk.2) (.bool t180)) (fun _ hk => hk.2) (.string t181)) (fun _ hk => ⟨hk.1.1, hk.1.2⟩)⟩, ⟨by (with_reducible repeat (first | apply Kd.R_alloc | apply Kd.R_drewN | apply Kd.R_drew)); exact Kd.R_mono (Kd.R_far (p := ⟨gb183, 3, none⟩) (Kd.R_far (p := ⟨gb183, 2, none⟩) (Kd.R_far (p := ⟨gb183, 1, none⟩) (Kd.R_far (p := ⟨gb183, 0, none⟩) (Kd.R_mono HO_13.out (fun k_ hk => (⟨hk, hk.2⟩ : _ ∧ k_ ≠ gb183))) (fun _ hk => hk.2) (.int .u64 t178)) (fun _ hk => hk.2) (.int .u64 t179)) (fun _ hk => hk.2) (.bool t180)) (fun _ hk => hk.2) (.string t181)) (fun _ hk => ⟨hk.1.1, hk.1.2⟩)⟩, ⟨by (with_reducible repeat (first | refine blk_drewN ?_ _ | refine blk_drew ?_ | refine blk_alloc ?_ _)); refine blk_put (cs := #[.int .u64 t178, .int .u64 t179, .bool t180, .string (⟨#[]⟩ : ByteArray)]) ?_ 3 _ rfl; (with_reducible repeat (first | refine blk_drewN ?_ _ | refine blk_drew ?_ | refine blk_alloc ?_ _)); refine blk_put (cs := #[.int .u64 t178, .int .u64 t179, .bool false, .string (⟨#[]⟩ : ByteArray)]) ?_ 2 _ rfl; (with_reducible repeat (first | refine blk_drewN ?_ _ | refine blk_drew ?_ | refine blk_alloc ?_ _)); refine blk_put (cs := #[.int .u64 t178, .int .u64 0, .bool false, .string (⟨#[]⟩ : ByteArray)]) ?_ 1 _ rfl; (with_reducible repeat (first | refine blk_drewN ?_ _ | refine blk_drew ?_ | refine blk_alloc ?_ _)); refine blk_put (cs := #[.int .u64 0, .int .u64 0, .bool false, .string (⟨#[]⟩ : ByteArray)]) ?_ 0 _ rfl; (with_reducible repeat (first | refine blk_drewN ?_ _ | refine blk_drew ?_ | refine blk_alloc ?_ _)); exact BK183.out⟩, ⟨by repeat (first | (with_reducible first | exact HB.out | apply below_alloc | apply pw_below_drewN | apply below_drew1 | refine below_set ?_ GE183.out) | exact HB.out)⟩⟩
                      · rw [if_neg c28] at H
                        have c28b0 : (t182 == 0) = false := beq_eq_false_iff_ne.mpr c28
                        have c28b1 : (t182 != 0) = true := bne_iff_ne.mpr c28
                        have H' := Aside0.mk H
                        clear H
                        have p184 : 0 ≤ (x15_1 : Int) := of_decide_eq_true (by first | (with_reducible assumption) | assumption)
                        have q184 : x15_1 < (y162.length : Int) := of_decide_eq_true (by first | (with_reducible assumption) | assumption)
                        obtain ⟨ad184, e184, hx184_0, hx184_1, hx184_2, hx184_3⟩ := at_T33 HR165.out x15_1 p184 q184
                        (try rw [← Nbq23.out] at hx184_2)
                        obtain rfl : ad177 = ad184 := (by injection e184)
                        have hn184_0 : ad177.block ≠ gb183 := Nat.ne_of_lt (Nat.lt_of_lt_of_le (by have := World.block_lt_of_cell? _ _ hx184_0; first | rwa [add_block] at this | exact this) GW183.out)
                        have hn184_1 : ad177.block ≠ gb183 := Nat.ne_of_lt (Nat.lt_of_lt_of_le (by have := World.block_lt_of_cell? _ _ hx184_0; first | rwa [add_block] at this | exact this) GW183.out)
                        have hn184_2 : ad177.block ≠ gb183 := Nat.ne_of_lt (Nat.lt_of_lt_of_le (by have := World.block_lt_of_cell? _ _ hx184_0; first | rwa [add_block] at this | exact this) GW183.out)
                        have hn184_3 : ad177.block ≠ gb183 := Nat.ne_of_lt (Nat.lt_of_lt_of_le (by have := World.block_lt_of_cell? _ _ hx184_0; first | rwa [add_block] at this | exact this) GW183.out)
                        replace hx184_0 := (HB.out.cell (World.block_lt_of_cell? w _ hx184_0)).trans hx184_0
                        replace hx184_1 := (HB.out.cell (World.block_lt_of_cell? w _ hx184_1)).trans hx184_1
                        replace hx184_2 := (HB.out.cell (World.block_lt_of_cell? w _ hx184_2)).trans hx184_2
                        replace hx184_3 := (HB.out.cell (World.block_lt_of_cell? w _ hx184_3)).trans hx184_3
                        replace hx184_0 := (cell_far (p := ⟨gb183, 0, none⟩) (by first | (rw [add_block]; exact hn184_0) | (show (Addr.add _ _).block ≠ _; rw [add_block]; exact hn184_0) | exact hn184_0) (.int .u64 t178)).trans hx184_0
                        replace hx184_1 := (cell_far (p := ⟨gb183, 0, none⟩) (by first | (rw [add_block]; exact hn184_0) | (show (Addr.add _ _).block ≠ _; rw [add_block]; exact hn184_0) | exact hn184_0) (.int .u64 t178)).trans hx184_1
                        replace hx184_2 := (cell_far (p := ⟨gb183, 0, none⟩) (by first | (rw [add_block]; exact hn184_0) | (show (Addr.add _ _).block ≠ _; rw [add_block]; exact hn184_0) | exact hn184_0) (.int .u64 t178)).trans hx184_2
                        replace hx184_3 := (cell_far (p := ⟨gb183, 0, none⟩) (by first | (rw [add_block]; exact hn184_0) | (show (Addr.add _ _).block ≠ _; rw [add_block]; exact hn184_0) | exact hn184_0) (.int .u64 t178)).trans hx184_3
                        replace hx184_0 := (cell_far (p := ⟨gb183, 1, none⟩) (by first | (rw [add_block]; exact hn184_1) | (show (Addr.add _ _).block ≠ _; rw [add_block]; exact hn184_1) | exact hn184_1) (.int .u64 t179)).trans hx184_0
                        replace hx184_1 := (cell_far (p := ⟨gb183, 1, none⟩) (by first | (rw [add_block]; exact hn184_1) | (show (Addr.add _ _).block ≠ _; rw [add_block]; exact hn184_1) | exact hn184_1) (.int .u64 t179)).trans hx184_1
                        replace hx184_2 := (cell_far (p := ⟨gb183, 1, none⟩) (by first | (rw [add_block]; exact hn184_1) | (show (Addr.add _ _).block ≠ _; rw [add_block]; exact hn184_1) | exact hn184_1) (.int .u64 t179)).trans hx184_2
                        replace hx184_3 := (cell_far (p := ⟨gb183, 1, none⟩) (by first | (rw [add_block]; exact hn184_1) | (show (Addr.add _ _).block ≠ _; rw [add_block]; exact hn184_1) | exact hn184_1) (.int .u64 t179)).trans hx184_3
                        replace hx184_0 := (cell_far (p := ⟨gb183, 2, none⟩) (by first | (rw [add_block]; exact hn184_2) | (show (Addr.add _ _).block ≠ _; rw [add_block]; exact hn184_2) | exact hn184_2) (.bool t180)).trans hx184_0
                        replace hx184_1 := (cell_far (p := ⟨gb183, 2, none⟩) (by first | (rw [add_block]; exact hn184_2) | (show (Addr.add _ _).block ≠ _; rw [add_block]; exact hn184_2) | exact hn184_2) (.bool t180)).trans hx184_1
                        replace hx184_2 := (cell_far (p := ⟨gb183, 2, none⟩) (by first | (rw [add_block]; exact hn184_2) | (show (Addr.add _ _).block ≠ _; rw [add_block]; exact hn184_2) | exact hn184_2) (.bool t180)).trans hx184_2
                        replace hx184_3 := (cell_far (p := ⟨gb183, 2, none⟩) (by first | (rw [add_block]; exact hn184_2) | (show (Addr.add _ _).block ≠ _; rw [add_block]; exact hn184_2) | exact hn184_2) (.bool t180)).trans hx184_3
                        replace hx184_0 := (cell_far (p := ⟨gb183, 3, none⟩) (by first | (rw [add_block]; exact hn184_3) | (show (Addr.add _ _).block ≠ _; rw [add_block]; exact hn184_3) | exact hn184_3) (.string t181)).trans hx184_0
                        replace hx184_1 := (cell_far (p := ⟨gb183, 3, none⟩) (by first | (rw [add_block]; exact hn184_3) | (show (Addr.add _ _).block ≠ _; rw [add_block]; exact hn184_3) | exact hn184_3) (.string t181)).trans hx184_1
                        replace hx184_2 := (cell_far (p := ⟨gb183, 3, none⟩) (by first | (rw [add_block]; exact hn184_3) | (show (Addr.add _ _).block ≠ _; rw [add_block]; exact hn184_3) | exact hn184_3) (.string t181)).trans hx184_2
                        replace hx184_3 := (cell_far (p := ⟨gb183, 3, none⟩) (by first | (rw [add_block]; exact hn184_3) | (show (Addr.add _ _).block ≠ _; rw [add_block]; exact hn184_3) | exact hn184_3) (.string t181)).trans hx184_3
                        (try have hy184_0 := fun (n_ : Nat) => (show ((((((w21.drewN n_).setCell ⟨gb183, 0, none⟩ (.int .u64 t178)).setCell ⟨gb183, 1, none⟩ (.int .u64 t179)).setCell ⟨gb183, 2, none⟩ (.bool t180)).setCell ⟨gb183, 3, none⟩ (.string t181))).cell? _ = some _ from hx184_0))
                        (try have hy184_1 := fun (n_ : Nat) => (show ((((((w21.drewN n_).setCell ⟨gb183, 0, none⟩ (.int .u64 t178)).setCell ⟨gb183, 1, none⟩ (.int .u64 t179)).setCell ⟨gb183, 2, none⟩ (.bool t180)).setCell ⟨gb183, 3, none⟩ (.string t181))).cell? _ = some _ from hx184_1))
                        (try have hy184_2 := fun (n_ : Nat) => (show ((((((w21.drewN n_).setCell ⟨gb183, 0, none⟩ (.int .u64 t178)).setCell ⟨gb183, 1, none⟩ (.int .u64 t179)).setCell ⟨gb183, 2, none⟩ (.bool t180)).setCell ⟨gb183, 3, none⟩ (.string t181))).cell? _ = some _ from hx184_2))
                        (try have hy184_3 := fun (n_ : Nat) => (show ((((((w21.drewN n_).setCell ⟨gb183, 0, none⟩ (.int .u64 t178)).setCell ⟨gb183, 1, none⟩ (.int .u64 t179)).setCell ⟨gb183, 2, none⟩ (.bool t180)).setCell ⟨gb183, 3, none⟩ (.string t181))).cell? _ = some _ from hx184_3))
                        clear hn184_0
                        clear hn184_1
                        clear hn184_2
                        clear hn184_3
                        replace p184 := eq_true p184
                        replace q184 := eq_true q184
                        go_wp2
                        repeat (go_quiet (fail); try go_wp2)
                        go_meet
                        case rel => exact ⟨_, (true), (by first | rfl | (simp; done) | (simp [*]; done)), H', ⟨by have := HK1.out; first | omega | exact Nat.le_refl _⟩, ⟨by (with_reducible repeat (first | apply Kd.R_alloc | apply Kd.R_drewN | apply Kd.R_drew)); exact Kd.R_mono (Kd.R_far (p := ⟨gb183, 3, none⟩) (Kd.R_far (p := ⟨gb183, 2, none⟩) (Kd.R_far (p := ⟨gb183, 1, none⟩) (Kd.R_far (p := ⟨gb183, 0, none⟩) (Kd.R_mono HO_10.out (fun k_ hk => (⟨hk, hk.2⟩ : _ ∧ k_ ≠ gb183))) (fun _ hk => hk.2) (.int .u64 t178)) (fun _ hk => hk.2) (.int .u64 t179)) (fun _ hk => hk.2) (.bool t180)) (fun _ hk => hk.2) (.string t181)) (fun _ hk => ⟨hk.1.1, hk.1.2⟩)⟩, ⟨by (with_reducible repeat (first | apply Kd.R_alloc | apply Kd.R_drewN | apply Kd.R_drew)); exact Kd.R_mono (Kd.R_far (p := ⟨gb183, 3, none⟩) (Kd.R_far (p := ⟨gb183, 2, none⟩) (Kd.R_far (p := ⟨gb183, 1, none⟩) (Kd.R_far (p := ⟨gb183, 0, none⟩) (Kd.R_mono HO_13.out (fun k_ hk => (⟨hk, hk.2⟩ : _ ∧ k_ ≠ gb183))) (fun _ hk => hk.2) (.int .u64 t178)) (fun _ hk => hk.2) (.int .u64 t179)) (fun _ hk => hk.2) (.bool t180)) (fun _ hk => hk.2) (.string t181)) (fun _ hk => ⟨hk.1.1, hk.1.2⟩)⟩, ⟨by (with_reducible repeat (first | refine blk_drewN ?_ _ | refine blk_drew ?_ | refine blk_alloc ?_ _)); refine blk_put (cs := #[.int .u64 t178, .int .u64 t179, .bool t180, .string (⟨#[]⟩ : ByteArray)]) ?_ 3 _ rfl; (with_reducible repeat (first | refine blk_drewN ?_ _ | refine blk_drew ?_ | refine blk_alloc ?_ _)); refine blk_put (cs := #[.int .u64 t178, .int .u64 t179, .bool false, .string (⟨#[]⟩ : ByteArray)]) ?_ 2 _ rfl; (with_reducible repeat (first | refine blk_drewN ?_ _ | refine blk_drew ?_ | refine blk_alloc ?_ _)); refine blk_put (cs := #[.int .u64 t178, .int .u64 0, .bool false, .string (⟨#[]⟩ : ByteArray)]) ?_ 1 _ rfl; (with_reducible repeat (first | refine blk_drewN ?_ _ | refine blk_drew ?_ | refine blk_alloc ?_ _)); refine blk_put (cs := #[.int .u64 0, .int .u64 0, .bool false, .string (⟨#[]⟩ : ByteArray)]) ?_ 0 _ rfl; (with_reducible repeat (first | refine blk_drewN ?_ _ | refine blk_drew ?_ | refine blk_alloc ?_ _)); exact BK183.out⟩, ⟨by repeat (first | (with_reducible first | exact HB.out | apply below_alloc | apply pw_below_drewN | apply below_drew1 | refine below_set ?_ GE183.out) | exact HB.out)⟩⟩
                    · rw [if_neg c27] at H
                      have c27b0 : (x15_1 == (wrap64 ((y162.length : Int) - 1))) = false := beq_eq_false_iff_ne.mpr c27
                      have c27b1 : (x15_1 != (wrap64 ((y162.length : Int) - 1))) = true := bne_iff_ne.mpr c27
                      have H' := Aside0.mk H
                      clear H
                      have p184 : 0 ≤ (x15_1 : Int) := of_decide_eq_true (by first | (with_reducible assumption) | assumption)
                      have q184 : x15_1 < (y162.length : Int) := of_decide_eq_true (by first | (with_reducible assumption) | assumption)
                      obtain ⟨ad184, e184, hx184_0, hx184_1, hx184_2, hx184_3⟩ := at_T33 HR165.out x15_1 p184 q184
                      (try rw [← Nbq23.out] at hx184_2)
                      obtain rfl : ad177 = ad184 := (by injection e184)
                      have hn184_0 : ad177.block ≠ gb183 := Nat.ne_of_lt (Nat.lt_of_lt_of_le (by have := World.block_lt_of_cell? _ _ hx184_0; first | rwa [add_block] at this | exact this) GW183.out)
                      have hn184_1 : ad177.block ≠ gb183 := Nat.ne_of_lt (Nat.lt_of_lt_of_le (by have := World.block_lt_of_cell? _ _ hx184_0; first | rwa [add_block] at this | exact this) GW183.out)
                      have hn184_2 : ad177.block ≠ gb183 := Nat.ne_of_lt (Nat.lt_of_lt_of_le (by have := World.block_lt_of_cell? _ _ hx184_0; first | rwa [add_block] at this | exact this) GW183.out)
                      have hn184_3 : ad177.block ≠ gb183 := Nat.ne_of_lt (Nat.lt_of_lt_of_le (by have := World.block_lt_of_cell? _ _ hx184_0; first | rwa [add_block] at this | exact this) GW183.out)
                      replace hx184_0 := (HB.out.cell (World.block_lt_of_cell? w _ hx184_0)).trans hx184_0
                      replace hx184_1 := (HB.out.cell (World.block_lt_of_cell? w _ hx184_1)).trans hx184_1
                      replace hx184_2 := (HB.out.cell (World.block_lt_of_cell? w _ hx184_2)).trans hx184_2
                      replace hx184_3 := (HB.out.cell (World.block_lt_of_cell? w _ hx184_3)).trans hx184_3
                      replace hx184_0 := (cell_far (p := ⟨gb183, 0, none⟩) (by first | (rw [add_block]; exact hn184_0) | (show (Addr.add _ _).block ≠ _; rw [add_block]; exact hn184_0) | exact hn184_0) (.int .u64 t178)).trans hx184_0
                      replace hx184_1 := (cell_far (p := ⟨gb183, 0, none⟩) (by first | (rw [add_block]; exact hn184_0) | (show (Addr.add _ _).block ≠ _; rw [add_block]; exact hn184_0) | exact hn184_0) (.int .u64 t178)).trans hx184_1
                      replace hx184_2 := (cell_far (p := ⟨gb183, 0, none⟩) (by first | (rw [add_block]; exact hn184_0) | (show (Addr.add _ _).block ≠ _; rw [add_block]; exact hn184_0) | exact hn184_0) (.int .u64 t178)).trans hx184_2
                      replace hx184_3 := (cell_far (p := ⟨gb183, 0, none⟩) (by first | (rw [add_block]; exact hn184_0) | (show (Addr.add _ _).block ≠ _; rw [add_block]; exact hn184_0) | exact hn184_0) (.int .u64 t178)).trans hx184_3
                      replace hx184_0 := (cell_far (p := ⟨gb183, 1, none⟩) (by first | (rw [add_block]; exact hn184_1) | (show (Addr.add _ _).block ≠ _; rw [add_block]; exact hn184_1) | exact hn184_1) (.int .u64 t179)).trans hx184_0
                      replace hx184_1 := (cell_far (p := ⟨gb183, 1, none⟩) (by first | (rw [add_block]; exact hn184_1) | (show (Addr.add _ _).block ≠ _; rw [add_block]; exact hn184_1) | exact hn184_1) (.int .u64 t179)).trans hx184_1
                      replace hx184_2 := (cell_far (p := ⟨gb183, 1, none⟩) (by first | (rw [add_block]; exact hn184_1) | (show (Addr.add _ _).block ≠ _; rw [add_block]; exact hn184_1) | exact hn184_1) (.int .u64 t179)).trans hx184_2
                      replace hx184_3 := (cell_far (p := ⟨gb183, 1, none⟩) (by first | (rw [add_block]; exact hn184_1) | (show (Addr.add _ _).block ≠ _; rw [add_block]; exact hn184_1) | exact hn184_1) (.int .u64 t179)).trans hx184_3
                      replace hx184_0 := (cell_far (p := ⟨gb183, 2, none⟩) (by first | (rw [add_block]; exact hn184_2) | (show (Addr.add _ _).block ≠ _; rw [add_block]; exact hn184_2) | exact hn184_2) (.bool t180)).trans hx184_0
                      replace hx184_1 := (cell_far (p := ⟨gb183, 2, none⟩) (by first | (rw [add_block]; exact hn184_2) | (show (Addr.add _ _).block ≠ _; rw [add_block]; exact hn184_2) | exact hn184_2) (.bool t180)).trans hx184_1
                      replace hx184_2 := (cell_far (p := ⟨gb183, 2, none⟩) (by first | (rw [add_block]; exact hn184_2) | (show (Addr.add _ _).block ≠ _; rw [add_block]; exact hn184_2) | exact hn184_2) (.bool t180)).trans hx184_2
                      replace hx184_3 := (cell_far (p := ⟨gb183, 2, none⟩) (by first | (rw [add_block]; exact hn184_2) | (show (Addr.add _ _).block ≠ _; rw [add_block]; exact hn184_2) | exact hn184_2) (.bool t180)).trans hx184_3
                      replace hx184_0 := (cell_far (p := ⟨gb183, 3, none⟩) (by first | (rw [add_block]; exact hn184_3) | (show (Addr.add _ _).block ≠ _; rw [add_block]; exact hn184_3) | exact hn184_3) (.string t181)).trans hx184_0
                      replace hx184_1 := (cell_far (p := ⟨gb183, 3, none⟩) (by first | (rw [add_block]; exact hn184_3) | (show (Addr.add _ _).block ≠ _; rw [add_block]; exact hn184_3) | exact hn184_3) (.string t181)).trans hx184_1
                      replace hx184_2 := (cell_far (p := ⟨gb183, 3, none⟩) (by first | (rw [add_block]; exact hn184_3) | (show (Addr.add _ _).block ≠ _; rw [add_block]; exact hn184_3) | exact hn184_3) (.string t181)).trans hx184_2
                      replace hx184_3 := (cell_far (p := ⟨gb183, 3, none⟩) (by first | (rw [add_block]; exact hn184_3) | (show (Addr.add _ _).block ≠ _; rw [add_block]; exact hn184_3) | exact hn184_3) (.string t181)).trans hx184_3
                      (try have hy184_0 := fun (n_ : Nat) => (show ((((((w21.drewN n_).setCell ⟨gb183, 0, none⟩ (.int .u64 t178)).setCell ⟨gb183, 1, none⟩ (.int .u64 t179)).setCell ⟨gb183, 2, none⟩ (.bool t180)).setCell ⟨gb183, 3, none⟩ (.string t181))).cell? _ = some _ from hx184_0))
                      (try have hy184_1 := fun (n_ : Nat) => (show ((((((w21.drewN n_).setCell ⟨gb183, 0, none⟩ (.int .u64 t178)).setCell ⟨gb183, 1, none⟩ (.int .u64 t179)).setCell ⟨gb183, 2, none⟩ (.bool t180)).setCell ⟨gb183, 3, none⟩ (.string t181))).cell? _ = some _ from hx184_1))
                      (try have hy184_2 := fun (n_ : Nat) => (show ((((((w21.drewN n_).setCell ⟨gb183, 0, none⟩ (.int .u64 t178)).setCell ⟨gb183, 1, none⟩ (.int .u64 t179)).setCell ⟨gb183, 2, none⟩ (.bool t180)).setCell ⟨gb183, 3, none⟩ (.string t181))).cell? _ = some _ from hx184_2))
                      (try have hy184_3 := fun (n_ : Nat) => (show ((((((w21.drewN n_).setCell ⟨gb183, 0, none⟩ (.int .u64 t178)).setCell ⟨gb183, 1, none⟩ (.int .u64 t179)).setCell ⟨gb183, 2, none⟩ (.bool t180)).setCell ⟨gb183, 3, none⟩ (.string t181))).cell? _ = some _ from hx184_3))
                      clear hn184_0
                      clear hn184_1
                      clear hn184_2
                      clear hn184_3
                      replace p184 := eq_true p184
                      replace q184 := eq_true q184
                      go_wp2
                      repeat (go_quiet (fail); try go_wp2)
                      go_meet
                      case rel => exact ⟨_, (false), (by first | rfl | (simp; done) | (simp [*]; done)), H', ⟨by have := HK1.out; first | omega | exact Nat.le_refl _⟩, ⟨by (with_reducible repeat (first | apply Kd.R_alloc | apply Kd.R_drewN | apply Kd.R_drew)); exact Kd.R_mono (Kd.R_far (p := ⟨gb183, 3, none⟩) (Kd.R_far (p := ⟨gb183, 2, none⟩) (Kd.R_far (p := ⟨gb183, 1, none⟩) (Kd.R_far (p := ⟨gb183, 0, none⟩) (Kd.R_mono HO_10.out (fun k_ hk => (⟨hk, hk.2⟩ : _ ∧ k_ ≠ gb183))) (fun _ hk => hk.2) (.int .u64 t178)) (fun _ hk => hk.2) (.int .u64 t179)) (fun _ hk => hk.2) (.bool t180)) (fun _ hk => hk.2) (.string t181)) (fun _ hk => ⟨hk.1.1, hk.1.2⟩)⟩, ⟨by (with_reducible repeat (first | apply Kd.R_alloc | apply Kd.R_drewN | apply Kd.R_drew)); exact Kd.R_mono (Kd.R_far (p := ⟨gb183, 3, none⟩) (Kd.R_far (p := ⟨gb183, 2, none⟩) (Kd.R_far (p := ⟨gb183, 1, none⟩) (Kd.R_far (p := ⟨gb183, 0, none⟩) (Kd.R_mono HO_13.out (fun k_ hk => (⟨hk, hk.2⟩ : _ ∧ k_ ≠ gb183))) (fun _ hk => hk.2) (.int .u64 t178)) (fun _ hk => hk.2) (.int .u64 t179)) (fun _ hk => hk.2) (.bool t180)) (fun _ hk => hk.2) (.string t181)) (fun _ hk => ⟨hk.1.1, hk.1.2⟩)⟩, ⟨by (with_reducible repeat (first | refine blk_drewN ?_ _ | refine blk_drew ?_ | refine blk_alloc ?_ _)); refine blk_put (cs := #[.int .u64 t178, .int .u64 t179, .bool t180, .string (⟨#[]⟩ : ByteArray)]) ?_ 3 _ rfl; (with_reducible repeat (first | refine blk_drewN ?_ _ | refine blk_drew ?_ | refine blk_alloc ?_ _)); refine blk_put (cs := #[.int .u64 t178, .int .u64 t179, .bool false, .string (⟨#[]⟩ : ByteArray)]) ?_ 2 _ rfl; (with_reducible repeat (first | refine blk_drewN ?_ _ | refine blk_drew ?_ | refine blk_alloc ?_ _)); refine blk_put (cs := #[.int .u64 t178, .int .u64 0, .bool false, .string (⟨#[]⟩ : ByteArray)]) ?_ 1 _ rfl; (with_reducible repeat (first | refine blk_drewN ?_ _ | refine blk_drew ?_ | refine blk_alloc ?_ _)); refine blk_put (cs := #[.int .u64 0, .int .u64 0, .bool false, .string (⟨#[]⟩ : ByteArray)]) ?_ 0 _ rfl; (with_reducible repeat (first | refine blk_drewN ?_ _ | refine blk_drew ?_ | refine blk_alloc ?_ _)); exact BK183.out⟩, ⟨by repeat (first | (with_reducible first | exact HB.out | apply below_alloc | apply pw_below_drewN | apply below_drew1 | refine below_set ?_ GE183.out) | exact HB.out)⟩⟩
                case rest =>
                  clear HC18
                  try clear c1
                  try clear p1
                  try clear q1
                  try clear hx1
                  try clear c2
                  try clear p2
                  try clear q2
                  try clear c3
                  try clear c6
                  try clear c6b0
                  try clear c6b1
                  try clear p6
                  try clear c7
                  try clear c7b0
                  try clear c7b1
                  try clear c9
                  try clear c9b0
                  try clear c9b1
                  try clear c12
                  try clear q12
                  try clear c15
                  try clear c15b0
                  try clear c16
                  try clear c16b0
                  try clear p17
                  try clear q17
                  try clear hx17
                  try clear p18
                  try clear q18
                  try clear hx18
                  try clear q23
                  try clear c24
                  try clear c25
                  try clear c25b0
                  try clear c25b1
                  try clear c27
                  try clear c27b0
                  try clear c27b1
                  try clear c28
                  try clear c28b0
                  try clear c28b1
                  try clear hcz22_0
                  try clear hcz22_1
                  try clear hcz22_2
                  try clear hcz22_3
                  try clear hcz26_0
                  try clear hcz26_1
                  try clear hcz26_2
                  try clear hcz26_3
                  try clear hcz29_0
                  try clear hcz29_1
                  try clear hcz29_2
                  try clear hcz29_3
                  try clear hfz22_0
                  try clear hfz22_1
                  try clear hfz22_2
                  try clear hfz22_3
                  try clear hfz26_0
                  try clear hfz26_1
                  try clear hfz26_2
                  try clear hfz26_3
                  try clear hfz29_0
                  try clear hfz29_1
                  try clear hfz29_2
                  try clear hfz29_3
                  try clear hx177_0
                  try clear hx177_1
                  try clear hx177_2
                  try clear hx177_3
                  try clear hx184_0
                  try clear hx184_1
                  try clear hx184_2
                  try clear hx184_3
                  try clear hx185_0
                  try clear hx185_1
                  try clear hx185_2
                  try clear hx185_3
                  try clear hx186_0
                  try clear hx186_1
                  try clear hx186_2
                  try clear hx186_3
                  try clear p177
                  try clear p184
                  try clear p185
                  try clear p186
                  try clear p2
                  try clear q1
                  try clear q12
                  try clear q177
                  try clear q184
                  try clear q185
                  try clear q186
                  obtain ⟨kq, x84_17, rfl, HA, HJ17, HO_10, HO_13, BK183, HB⟩ := hcut
                  cases kq with
                  | zero => exact absurd HA.out (by simp [nautiluslaw09_CpsStays.j1])
                  | succ kj17 =>
                    have H := HA.out
                    clear HA
                    simp only [nautiluslaw09_CpsStays.j1] at H
                    by_cases c30 : x84_17 = true
                    · subst c30
                      have H1 : (some false) = some r := by rw [if_pos rfl] at H; exact H
                      clear H
                      have H := H1
                      clear H1
                      obtain rfl := Option.some.inj H
                      go_wp2
                      repeat (go_quiet (fail); try go_wp2)
                      go_ret
                      exact ⟨by first | rfl | (simp [errW_none, errW_some] <;> rfl) | (simp [*, errW_none, errW_some] <;> rfl) | (simp [show IntKind.u64.wrap 0 = 0 from rfl, Int.zero_tdiv]; done), by repeat (first | (with_reducible first | exact HB.out | apply below_alloc | apply pw_below_drewN | apply below_drew1 | refine below_set ?_ GE183.out) | exact HB.out)⟩
                    · replace c30 := Bool.eq_false_iff.mpr c30
                      subst c30
                      have H1 : (if 0 ≤ x15_1 then (if x15_1 < (y162.length : Int) then ((cps_Find.f kj17 t172 ((rd_T33 y162 x15_1).f0)).bind fun bt188 => (if t173 = 0 then (if ((bt188.2.2.2.2 == 0) != (((rd_T33 y162 x15_1).f0) != a1)) = true then (nautiluslaw09_CpsStays.j2 kj17 y162 a1 t161 t166 t167 t172 t173 x15_1 true) else (if bt188.2.2.2.2 = 0 then (nautiluslaw09_CpsStays.j2 kj17 y162 a1 t161 t166 t167 t172 t173 x15_1 (!(bt188.1 == ((rd_T33 y162 x15_1).f0)) || (!(bt188.2.1 == ((rd_T33 y162 x15_1).f1)) || (!(bt188.2.2.1 == ((rd_T33 y162 x15_1).f2)) || (!(bt188.2.2.2.1.toList == (((rd_T33 y162 x15_1).f3).toList))))))) else (nautiluslaw09_CpsStays.j2 kj17 y162 a1 t161 t166 t167 t172 t173 x15_1 false))) else (nautiluslaw09_CpsStays.j2 kj17 y162 a1 t161 t166 t167 t172 t173 x15_1 false))) else (none)) else (none)) = some r := by rw [if_neg (show ¬ (false = true) by decide)] at H; exact H
                      clear H
                      have H := H1
                      clear H1
                      by_cases c31 : 0 ≤ x15_1
                      · rw [if_pos c31] at H
                        have c31b0 : decide (0 ≤ x15_1) = true := decide_eq_true c31
                        clear c31
                        by_cases c32 : x15_1 < (y162.length : Int)
                        · rw [if_pos c32] at H
                          have c32b0 : decide (x15_1 < (y162.length : Int)) = true := decide_eq_true c32
                          clear c32
                          replace H := Option.bind_eq_some_iff.mp H
                          obtain ⟨⟨t188, t189, t190, t191, t192⟩, A330, H⟩ := H
                          replace H : (if t173 = 0 then (if ((t192 == 0) != (((rd_T33 y162 x15_1).f0) != a1)) = true then (nautiluslaw09_CpsStays.j2 kj17 y162 a1 t161 t166 t167 t172 t173 x15_1 true) else (if t192 = 0 then (nautiluslaw09_CpsStays.j2 kj17 y162 a1 t161 t166 t167 t172 t173 x15_1 (!(t188 == ((rd_T33 y162 x15_1).f0)) || (!(t189 == ((rd_T33 y162 x15_1).f1)) || (!(t190 == ((rd_T33 y162 x15_1).f2)) || (!(t191.toList == (((rd_T33 y162 x15_1).f3).toList))))))) else (nautiluslaw09_CpsStays.j2 kj17 y162 a1 t161 t166 t167 t172 t173 x15_1 false))) else (nautiluslaw09_CpsStays.j2 kj17 y162 a1 t161 t166 t167 t172 t173 x15_1 false)) = some r := H
                          have A33 := Aside0.mk A330
                          clear A330
                          have HC34 := Aside0.mk H
                          clear H
                          have p187 : 0 ≤ (x15_1 : Int) := of_decide_eq_true (by first | (with_reducible assumption) | assumption)
                          have q187 : x15_1 < (y162.length : Int) := of_decide_eq_true (by first | (with_reducible assumption) | assumption)
                          obtain ⟨ad187, e187, hx187_0, hx187_1, hx187_2, hx187_3⟩ := at_T33 HR165.out x15_1 p187 q187
                          obtain rfl : ad177 = ad187 := (by injection e187)
                          replace hx187_0 := (HB.out.cell (World.block_lt_of_cell? w _ hx187_0)).trans hx187_0
                          replace hx187_1 := (HB.out.cell (World.block_lt_of_cell? w _ hx187_1)).trans hx187_1
                          replace hx187_2 := (HB.out.cell (World.block_lt_of_cell? w _ hx187_2)).trans hx187_2
                          replace hx187_3 := (HB.out.cell (World.block_lt_of_cell? w _ hx187_3)).trans hx187_3
                          replace p187 := eq_true p187
                          replace q187 := eq_true q187
                          obtain ⟨Ao35, co35, eo35⟩ := Kd.R_slice HO_13.out
                          subst eo35
                          go_upto_region 14 with (first | (go_at_call 16; (with_reducible refine (cps_Find.calls kj17 _ _ t172 ((rd_T33 y162 x15_1).f0) t188 t189 t190 t191 t192 _ ?side1 ?side2 A33.out).mono ?_); (case side1 => repeat (first | exact (Kd.R_reads' HO_13.out).2.2 | (with_reducible refine Kd.C_alloc ?_ _) | (with_reducible refine Kd.C_drewN ?_ _) | (with_reducible refine Kd.C_drew ?_))); (case side2 => exact (Kd.R_reads' HO_13.out).2.1); rintro e w36 ⟨rfl, hb⟩; have n0_ := Aside0.mk (Kd.R_below (by (with_reducible repeat (first | apply Kd.R_alloc | apply Kd.R_drewN | apply Kd.R_drew)); exact HO_10.out) hb); have n1_ := Aside0.mk (Kd.R_below (by (with_reducible repeat (first | apply Kd.R_alloc | apply Kd.R_drewN | apply Kd.R_drew)); exact HO_13.out) hb); have n2_ := Aside0.mk (blk_below (g := gb183) (o := .cells #[.int .u64 t178, .int .u64 t179, .bool t180, .string t181] 33 (0, 0)) (by (with_reducible repeat (first | refine blk_drewN ?_ _ | refine blk_drew ?_ | refine blk_alloc ?_ _)); exact BK183.out) hb); have n3_ := Aside0.mk (below_step (by repeat (first | (with_reducible first | exact HB.out | apply below_alloc | apply pw_below_drewN | apply below_drew1 | refine below_set ?_ GE183.out) | exact HB.out)) hb); clear HO_10; clear HO_13; clear BK183; clear HB; have HO_10 := n0_; have HO_13 := n1_; have BK183 := n2_; have HB := n3_; clear n0_ n1_ n2_ n3_; (try clear hb); (try clear hb2); (try clear hk); (try clear hi)) | ((with_reducible refine gate_dst (N := 18) rfl ?_); (try (refine gate_guard (by rfl) ?_; dsimp only)); refine box_event ?hg (N := 18) ?hd (cs := #[.int .u64 0, .int .u64 0, .bool false, .string (⟨#[]⟩ : ByteArray)]) (t := 33) ?hr ?_; (case hd => rfl); (case hg => rfl); (case hr => first | (go_simp; done) | (go_simp; rfl)); intro gb193 hg w37 hbox hb; have n0_ := Aside0.mk (Kd.R_below (Kd.R_elderB (by (with_reducible repeat (first | apply Kd.R_alloc | apply Kd.R_drewN | apply Kd.R_drew)); exact HO_10.out) gb193 (Nat.le_of_eq hg.symm)) hb); have n1_ := Aside0.mk (Kd.R_below (Kd.R_elderB (by (with_reducible repeat (first | apply Kd.R_alloc | apply Kd.R_drewN | apply Kd.R_drew)); exact HO_13.out) gb193 (Nat.le_of_eq hg.symm)) hb); have n2_ := Aside0.mk (blk_below (g := gb183) (o := .cells #[.int .u64 t178, .int .u64 t179, .bool t180, .string t181] 33 (0, 0)) (by (with_reducible repeat (first | refine blk_drewN ?_ _ | refine blk_drew ?_ | refine blk_alloc ?_ _)); exact BK183.out) hb); have n3_ := Aside0.mk (below_step (by repeat (first | (with_reducible first | exact HB.out | apply below_alloc | apply pw_below_drewN | apply below_drew1 | refine below_set ?_ GE183.out) | exact HB.out)) hb); have n4_ := Aside0.mk (hbox); have n5_ := Aside0.mk ((by rw [hg]; exact (below_size (by repeat (first | (with_reducible first | exact HB.out | apply below_alloc | apply pw_below_drewN | apply below_drew1 | refine below_set ?_ GE183.out) | exact HB.out))) : w.heap.size ≤ gb193)); have n6_ := Aside0.mk ((by rw [hg]; exact (below_size (by repeat (first | (with_reducible first | exact HB.out | apply below_alloc | apply pw_below_drewN | apply below_drew1 | refine below_set ?_ GE183.out) | exact HB.out))) : w.heap.size ≤ gb193)); have n7_ := Aside0.mk ((by rw [hg]; exact Nat.ne_of_lt (blk_lt (g := gb183) (o := .cells #[.int .u64 t178, .int .u64 t179, .bool t180, .string t181] 33 (0, 0)) (by (with_reducible repeat (first | refine blk_drewN ?_ _ | refine blk_drew ?_ | refine blk_alloc ?_ _)); exact BK183.out)) : gb183 ≠ gb193)); have n8_ := Aside0.mk ((by rw [hg]; exact Nat.ne_of_gt (blk_lt (g := gb183) (o := .cells #[.int .u64 t178, .int .u64 t179, .bool t180, .string t181] 33 (0, 0)) (by (with_reducible repeat (first | refine blk_drewN ?_ _ | refine blk_drew ?_ | refine blk_alloc ?_ _)); exact BK183.out)) : gb193 ≠ gb183)); clear HO_10; clear HO_13; clear BK183; clear HB; have HO_10 := n0_; have HO_13 := n1_; have BK183 := n2_; have HB := n3_; have BK193 := n4_; have GW193 := n5_; have GE193 := n6_; have NB183_193 := n7_; have NB193_183 := n8_; clear n0_ n1_ n2_ n3_ n4_ n5_ n6_ n7_ n8_; clear hb hbox hg; have hnb38 := NB193_183.out; have hnc38 := NB183_193.out; have hcz39_0 : w37.cell? ⟨gb193, 0, none⟩ = some (.int .u64 0) := (blk_cell BK193.out 0).trans rfl; have hcz39_1 : w37.cell? ⟨gb193, 1, none⟩ = some (.int .u64 0) := (blk_cell BK193.out 1).trans rfl; have hcz39_2 : w37.cell? ⟨gb193, 2, none⟩ = some (.bool false) := (blk_cell BK193.out 2).trans rfl; have hcz39_3 : w37.cell? ⟨gb193, 3, none⟩ = some (.string (⟨#[]⟩ : ByteArray)) := (blk_cell BK193.out 3).trans rfl; have hfz39_0 := blk_frozen BK193.out 0; have hfz39_1 := blk_frozen BK193.out 1; have hfz39_2 := blk_frozen BK193.out 2; have hfz39_3 := blk_frozen BK193.out 3))
                          repeat (go_quiet (first | (go_at_call 16; (with_reducible refine (cps_Find.calls kj17 _ _ t172 ((rd_T33 y162 x15_1).f0) t188 t189 t190 t191 t192 _ ?side1 ?side2 A33.out).mono ?_); (case side1 => repeat (first | exact (Kd.R_reads' HO_13.out).2.2 | (with_reducible refine Kd.C_alloc ?_ _) | (with_reducible refine Kd.C_drewN ?_ _) | (with_reducible refine Kd.C_drew ?_))); (case side2 => exact (Kd.R_reads' HO_13.out).2.1); rintro e w36 ⟨rfl, hb⟩; have n0_ := Aside0.mk (Kd.R_below (by (with_reducible repeat (first | apply Kd.R_alloc | apply Kd.R_drewN | apply Kd.R_drew)); exact HO_10.out) hb); have n1_ := Aside0.mk (Kd.R_below (by (with_reducible repeat (first | apply Kd.R_alloc | apply Kd.R_drewN | apply Kd.R_drew)); exact HO_13.out) hb); have n2_ := Aside0.mk (blk_below (g := gb183) (o := .cells #[.int .u64 t178, .int .u64 t179, .bool t180, .string t181] 33 (0, 0)) (by (with_reducible repeat (first | refine blk_drewN ?_ _ | refine blk_drew ?_ | refine blk_alloc ?_ _)); exact BK183.out) hb); have n3_ := Aside0.mk (below_step (by repeat (first | (with_reducible first | exact HB.out | apply below_alloc | apply pw_below_drewN | apply below_drew1 | refine below_set ?_ GE183.out) | exact HB.out)) hb); clear HO_10; clear HO_13; clear BK183; clear HB; have HO_10 := n0_; have HO_13 := n1_; have BK183 := n2_; have HB := n3_; clear n0_ n1_ n2_ n3_; (try clear hb); (try clear hb2); (try clear hk); (try clear hi)) | ((with_reducible refine gate_dst (N := 18) rfl ?_); (try (refine gate_guard (by rfl) ?_; dsimp only)); refine box_event ?hg (N := 18) ?hd (cs := #[.int .u64 0, .int .u64 0, .bool false, .string (⟨#[]⟩ : ByteArray)]) (t := 33) ?hr ?_; (case hd => rfl); (case hg => rfl); (case hr => first | (go_simp; done) | (go_simp; rfl)); intro gb193 hg w37 hbox hb; have n0_ := Aside0.mk (Kd.R_below (Kd.R_elderB (by (with_reducible repeat (first | apply Kd.R_alloc | apply Kd.R_drewN | apply Kd.R_drew)); exact HO_10.out) gb193 (Nat.le_of_eq hg.symm)) hb); have n1_ := Aside0.mk (Kd.R_below (Kd.R_elderB (by (with_reducible repeat (first | apply Kd.R_alloc | apply Kd.R_drewN | apply Kd.R_drew)); exact HO_13.out) gb193 (Nat.le_of_eq hg.symm)) hb); have n2_ := Aside0.mk (blk_below (g := gb183) (o := .cells #[.int .u64 t178, .int .u64 t179, .bool t180, .string t181] 33 (0, 0)) (by (with_reducible repeat (first | refine blk_drewN ?_ _ | refine blk_drew ?_ | refine blk_alloc ?_ _)); exact BK183.out) hb); have n3_ := Aside0.mk (below_step (by repeat (first | (with_reducible first | exact HB.out | apply below_alloc | apply pw_below_drewN | apply below_drew1 | refine below_set ?_ GE183.out) | exact HB.out)) hb); have n4_ := Aside0.mk (hbox); have n5_ := Aside0.mk ((by rw [hg]; exact (below_size (by repeat (first | (with_reducible first | exact HB.out | apply below_alloc | apply pw_below_drewN | apply below_drew1 | refine below_set ?_ GE183.out) | exact HB.out))) : w.heap.size ≤ gb193)); have n6_ := Aside0.mk ((by rw [hg]; exact (below_size (by repeat (first | (with_reducible first | exact HB.out | apply below_alloc | apply pw_below_drewN | apply below_drew1 | refine below_set ?_ GE183.out) | exact HB.out))) : w.heap.size ≤ gb193)); have n7_ := Aside0.mk ((by rw [hg]; exact Nat.ne_of_lt (blk_lt (g := gb183) (o := .cells #[.int .u64 t178, .int .u64 t179, .bool t180, .string t181] 33 (0, 0)) (by (with_reducible repeat (first | refine blk_drewN ?_ _ | refine blk_drew ?_ | refine blk_alloc ?_ _)); exact BK183.out)) : gb183 ≠ gb193)); have n8_ := Aside0.mk ((by rw [hg]; exact Nat.ne_of_gt (blk_lt (g := gb183) (o := .cells #[.int .u64 t178, .int .u64 t179, .bool t180, .string t181] 33 (0, 0)) (by (with_reducible repeat (first | refine blk_drewN ?_ _ | refine blk_drew ?_ | refine blk_alloc ?_ _)); exact BK183.out)) : gb193 ≠ gb183)); clear HO_10; clear HO_13; clear BK183; clear HB; have HO_10 := n0_; have HO_13 := n1_; have BK183 := n2_; have HB := n3_; have BK193 := n4_; have GW193 := n5_; have GE193 := n6_; have NB183_193 := n7_; have NB193_183 := n8_; clear n0_ n1_ n2_ n3_ n4_ n5_ n6_ n7_ n8_; clear hb hbox hg; have hnb38 := NB193_183.out; have hnc38 := NB183_193.out; have hcz39_0 : w37.cell? ⟨gb193, 0, none⟩ = some (.int .u64 0) := (blk_cell BK193.out 0).trans rfl; have hcz39_1 : w37.cell? ⟨gb193, 1, none⟩ = some (.int .u64 0) := (blk_cell BK193.out 1).trans rfl; have hcz39_2 : w37.cell? ⟨gb193, 2, none⟩ = some (.bool false) := (blk_cell BK193.out 2).trans rfl; have hcz39_3 : w37.cell? ⟨gb193, 3, none⟩ = some (.string (⟨#[]⟩ : ByteArray)) := (blk_cell BK193.out 3).trans rfl; have hfz39_0 := blk_frozen BK193.out 0; have hfz39_1 := blk_frozen BK193.out 1; have hfz39_2 := blk_frozen BK193.out 2; have hfz39_3 := blk_frozen BK193.out 3)); go_upto_region 14 with (first | (go_at_call 16; (with_reducible refine (cps_Find.calls kj17 _ _ t172 ((rd_T33 y162 x15_1).f0) t188 t189 t190 t191 t192 _ ?side1 ?side2 A33.out).mono ?_); (case side1 => repeat (first | exact (Kd.R_reads' HO_13.out).2.2 | (with_reducible refine Kd.C_alloc ?_ _) | (with_reducible refine Kd.C_drewN ?_ _) | (with_reducible refine Kd.C_drew ?_))); (case side2 => exact (Kd.R_reads' HO_13.out).2.1); rintro e w36 ⟨rfl, hb⟩; have n0_ := Aside0.mk (Kd.R_below (by (with_reducible repeat (first | apply Kd.R_alloc | apply Kd.R_drewN | apply Kd.R_drew)); exact HO_10.out) hb); have n1_ := Aside0.mk (Kd.R_below (by (with_reducible repeat (first | apply Kd.R_alloc | apply Kd.R_drewN | apply Kd.R_drew)); exact HO_13.out) hb); have n2_ := Aside0.mk (blk_below (g := gb183) (o := .cells #[.int .u64 t178, .int .u64 t179, .bool t180, .string t181] 33 (0, 0)) (by (with_reducible repeat (first | refine blk_drewN ?_ _ | refine blk_drew ?_ | refine blk_alloc ?_ _)); exact BK183.out) hb); have n3_ := Aside0.mk (below_step (by repeat (first | (with_reducible first | exact HB.out | apply below_alloc | apply pw_below_drewN | apply below_drew1 | refine below_set ?_ GE183.out) | exact HB.out)) hb); clear HO_10; clear HO_13; clear BK183; clear HB; have HO_10 := n0_; have HO_13 := n1_; have BK183 := n2_; have HB := n3_; clear n0_ n1_ n2_ n3_; (try clear hb); (try clear hb2); (try clear hk); (try clear hi)) | ((with_reducible refine gate_dst (N := 18) rfl ?_); (try (refine gate_guard (by rfl) ?_; dsimp only)); refine box_event ?hg (N := 18) ?hd (cs := #[.int .u64 0, .int .u64 0, .bool false, .string (⟨#[]⟩ : ByteArray)]) (t := 33) ?hr ?_; (case hd => rfl); (case hg => rfl); (case hr => first | (go_simp; done) | (go_simp; rfl)); intro gb193 hg w37 hbox hb; have n0_ := Aside0.mk (Kd.R_below (Kd.R_elderB (by (with_reducible repeat (first | apply Kd.R_alloc | apply Kd.R_drewN | apply Kd.R_drew)); exact HO_10.out) gb193 (Nat.le_of_eq hg.symm)) hb); have n1_ := Aside0.mk (Kd.R_below (Kd.R_elderB (by (with_reducible repeat (first | apply Kd.R_alloc | apply Kd.R_drewN | apply Kd.R_drew)); exact HO_13.out) gb193 (Nat.le_of_eq hg.symm)) hb); have n2_ := Aside0.mk (blk_below (g := gb183) (o := .cells #[.int .u64 t178, .int .u64 t179, .bool t180, .string t181] 33 (0, 0)) (by (with_reducible repeat (first | refine blk_drewN ?_ _ | refine blk_drew ?_ | refine blk_alloc ?_ _)); exact BK183.out) hb); have n3_ := Aside0.mk (below_step (by repeat (first | (with_reducible first | exact HB.out | apply below_alloc | apply pw_below_drewN | apply below_drew1 | refine below_set ?_ GE183.out) | exact HB.out)) hb); have n4_ := Aside0.mk (hbox); have n5_ := Aside0.mk ((by rw [hg]; exact (below_size (by repeat (first | (with_reducible first | exact HB.out | apply below_alloc | apply pw_below_drewN | apply below_drew1 | refine below_set ?_ GE183.out) | exact HB.out))) : w.heap.size ≤ gb193)); have n6_ := Aside0.mk ((by rw [hg]; exact (below_size (by repeat (first | (with_reducible first | exact HB.out | apply below_alloc | apply pw_below_drewN | apply below_drew1 | refine below_set ?_ GE183.out) | exact HB.out))) : w.heap.size ≤ gb193)); have n7_ := Aside0.mk ((by rw [hg]; exact Nat.ne_of_lt (blk_lt (g := gb183) (o := .cells #[.int .u64 t178, .int .u64 t179, .bool t180, .string t181] 33 (0, 0)) (by (with_reducible repeat (first | refine blk_drewN ?_ _ | refine blk_drew ?_ | refine blk_alloc ?_ _)); exact BK183.out)) : gb183 ≠ gb193)); have n8_ := Aside0.mk ((by rw [hg]; exact Nat.ne_of_gt (blk_lt (g := gb183) (o := .cells #[.int .u64 t178, .int .u64 t179, .bool t180, .string t181] 33 (0, 0)) (by (with_reducible repeat (first | refine blk_drewN ?_ _ | refine blk_drew ?_ | refine blk_alloc ?_ _)); exact BK183.out)) : gb193 ≠ gb183)); clear HO_10; clear HO_13; clear BK183; clear HB; have HO_10 := n0_; have HO_13 := n1_; have BK183 := n2_; have HB := n3_; have BK193 := n4_; have GW193 := n5_; have GE193 := n6_; have NB183_193 := n7_; have NB193_183 := n8_; clear n0_ n1_ n2_ n3_ n4_ n5_ n6_ n7_ n8_; clear hb hbox hg; have hnb38 := NB193_183.out; have hnc38 := NB183_193.out; have hcz39_0 : w37.cell? ⟨gb193, 0, none⟩ = some (.int .u64 0) := (blk_cell BK193.out 0).trans rfl; have hcz39_1 : w37.cell? ⟨gb193, 1, none⟩ = some (.int .u64 0) := (blk_cell BK193.out 1).trans rfl; have hcz39_2 : w37.cell? ⟨gb193, 2, none⟩ = some (.bool false) := (blk_cell BK193.out 2).trans rfl; have hcz39_3 : w37.cell? ⟨gb193, 3, none⟩ = some (.string (⟨#[]⟩ : ByteArray)) := (blk_cell BK193.out 3).trans rfl; have hfz39_0 := blk_frozen BK193.out 0; have hfz39_1 := blk_frozen BK193.out 1; have hfz39_2 := blk_frozen BK193.out 2; have hfz39_3 := blk_frozen BK193.out 3)))
                          (try simp only [Act.put, List.setIfInBounds_toArray, List.set_cons_zero, List.set_cons_succ])
                          go_cut [124] (fun v124 wc => ∃ (kq : Nat) (x124_33 : Bool), v124 = .bool x124_33 ∧ Aside0 (nautiluslaw09_CpsStays.j2 kq y162 a1 t161 t166 t167 t172 t173 x15_1 x124_33 = some r) ∧ Aside0 (kq ≤ kj17) ∧ Aside0 (Kd.R k33 33 wc w.heap.size (fun k_ => some k_ ≠ ((.slice Ao35 t172.length co35) : Value).ownBlock ∧ k_ ≠ gb183 ∧ k_ ≠ gb193) (.slice Ao19 t166.length co19) t166) ∧ Aside0 (Kd.R k33 33 wc w.heap.size (fun k_ => some k_ ≠ ((.slice Ao19 t166.length co19) : Value).ownBlock ∧ k_ ≠ gb183 ∧ k_ ≠ gb193) (.slice Ao35 t172.length co35) t172) ∧ Aside0 (wc.heap[gb183]? = some (.cells #[.int .u64 t178, .int .u64 t179, .bool t180, .string t181] 33 (0, 0))) ∧ Aside0 (wc.heap[gb193]? = some (.cells #[.int .u64 t188, .int .u64 t189, .bool t190, .string t191] 33 (0, 0))) ∧ Aside0 (Below w.heap.size w wc))
                          case first =>
                            have H := HC34.out
                            clear HC34
                            by_cases c40 : t173 = 0
                            · rw [if_pos c40] at H
                              have c40b0 : (t173 == 0) = true := beq_iff_eq.mpr c40
                              have c40b1 : (t173 != 0) = false := bne_eq_false_iff_eq.mpr c40
                              clear c40
                              (first | rw [c40b0] | (simp only [i64_w, i32_w]; rw [c40b0]) | skip)
                              by_cases c41 : ((t192 == 0) != (((rd_T33 y162 x15_1).f0) != a1)) = true
                              · rw [if_pos c41] at H
                                have c41b0 : ((t192 == 0) != (((rd_T33 y162 x15_1).f0) != a1)) = true := c41
                                (try (have c41b1 : decide ((t192 == 0) = (((rd_T33 y162 x15_1).f0) != a1)) = false := by simpa using c41))
                                (try (have c41b2 : ((t192 == 0) == (((rd_T33 y162 x15_1).f0) != a1)) = false := by simpa using c41))
                                (try (have c41b3 : ¬ ((t192 == 0) = (((rd_T33 y162 x15_1).f0) != a1)) := by simpa using c41))
                                clear c41
                                have H' := Aside0.mk H
                                clear H
                                have p194 : 0 ≤ (x15_1 : Int) := of_decide_eq_true (by first | (with_reducible assumption) | assumption)
                                have q194 : x15_1 < (y162.length : Int) := of_decide_eq_true (by first | (with_reducible assumption) | assumption)
                                obtain ⟨ad194, e194, hx194_0, hx194_1, hx194_2, hx194_3⟩ := at_T33 HR165.out x15_1 p194 q194
                                obtain rfl : ad177 = ad194 := (by injection e194)
                                have hn194_0 : ad177.block ≠ gb193 := Nat.ne_of_lt (Nat.lt_of_lt_of_le (by have := World.block_lt_of_cell? _ _ hx194_0; first | rwa [add_block] at this | exact this) GW193.out)
                                have hn194_1 : ad177.block ≠ gb193 := Nat.ne_of_lt (Nat.lt_of_lt_of_le (by have := World.block_lt_of_cell? _ _ hx194_0; first | rwa [add_block] at this | exact this) GW193.out)
                                have hn194_2 : ad177.block ≠ gb193 := Nat.ne_of_lt (Nat.lt_of_lt_of_le (by have := World.block_lt_of_cell? _ _ hx194_0; first | rwa [add_block] at this | exact this) GW193.out)
                                have hn194_3 : ad177.block ≠ gb193 := Nat.ne_of_lt (Nat.lt_of_lt_of_le (by have := World.block_lt_of_cell? _ _ hx194_0; first | rwa [add_block] at this | exact this) GW193.out)
                                replace hx194_0 := (HB.out.cell (World.block_lt_of_cell? w _ hx194_0)).trans hx194_0
                                replace hx194_1 := (HB.out.cell (World.block_lt_of_cell? w _ hx194_1)).trans hx194_1
                                replace hx194_2 := (HB.out.cell (World.block_lt_of_cell? w _ hx194_2)).trans hx194_2
                                replace hx194_3 := (HB.out.cell (World.block_lt_of_cell? w _ hx194_3)).trans hx194_3
                                replace hx194_0 := (cell_far (p := ⟨gb193, 0, none⟩) (by first | (rw [add_block]; exact hn194_0) | (show (Addr.add _ _).block ≠ _; rw [add_block]; exact hn194_0) | exact hn194_0) (.int .u64 t188)).trans hx194_0
                                replace hx194_1 := (cell_far (p := ⟨gb193, 0, none⟩) (by first | (rw [add_block]; exact hn194_0) | (show (Addr.add _ _).block ≠ _; rw [add_block]; exact hn194_0) | exact hn194_0) (.int .u64 t188)).trans hx194_1
                                replace hx194_2 := (cell_far (p := ⟨gb193, 0, none⟩) (by first | (rw [add_block]; exact hn194_0) | (show (Addr.add _ _).block ≠ _; rw [add_block]; exact hn194_0) | exact hn194_0) (.int .u64 t188)).trans hx194_2
                                replace hx194_3 := (cell_far (p := ⟨gb193, 0, none⟩) (by first | (rw [add_block]; exact hn194_0) | (show (Addr.add _ _).block ≠ _; rw [add_block]; exact hn194_0) | exact hn194_0) (.int .u64 t188)).trans hx194_3
                                replace hx194_0 := (cell_far (p := ⟨gb193, 1, none⟩) (by first | (rw [add_block]; exact hn194_1) | (show (Addr.add _ _).block ≠ _; rw [add_block]; exact hn194_1) | exact hn194_1) (.int .u64 t189)).trans hx194_0
                                replace hx194_1 := (cell_far (p := ⟨gb193, 1, none⟩) (by first | (rw [add_block]; exact hn194_1) | (show (Addr.add _ _).block ≠ _; rw [add_block]; exact hn194_1) | exact hn194_1) (.int .u64 t189)).trans hx194_1
                                replace hx194_2 := (cell_far (p := ⟨gb193, 1, none⟩) (by first | (rw [add_block]; exact hn194_1) | (show (Addr.add _ _).block ≠ _; rw [add_block]; exact hn194_1) | exact hn194_1) (.int .u64 t189)).trans hx194_2
                                replace hx194_3 := (cell_far (p := ⟨gb193, 1, none⟩) (by first | (rw [add_block]; exact hn194_1) | (show (Addr.add _ _).block ≠ _; rw [add_block]; exact hn194_1) | exact hn194_1) (.int .u64 t189)).trans hx194_3
                                replace hx194_0 := (cell_far (p := ⟨gb193, 2, none⟩) (by first | (rw [add_block]; exact hn194_2) | (show (Addr.add _ _).block ≠ _; rw [add_block]; exact hn194_2) | exact hn194_2) (.bool t190)).trans hx194_0
                                replace hx194_1 := (cell_far (p := ⟨gb193, 2, none⟩) (by first | (rw [add_block]; exact hn194_2) | (show (Addr.add _ _).block ≠ _; rw [add_block]; exact hn194_2) | exact hn194_2) (.bool t190)).trans hx194_1
                                replace hx194_2 := (cell_far (p := ⟨gb193, 2, none⟩) (by first | (rw [add_block]; exact hn194_2) | (show (Addr.add _ _).block ≠ _; rw [add_block]; exact hn194_2) | exact hn194_2) (.bool t190)).trans hx194_2
                                replace hx194_3 := (cell_far (p := ⟨gb193, 2, none⟩) (by first | (rw [add_block]; exact hn194_2) | (show (Addr.add _ _).block ≠ _; rw [add_block]; exact hn194_2) | exact hn194_2) (.bool t190)).trans hx194_3
                                replace hx194_0 := (cell_far (p := ⟨gb193, 3, none⟩) (by first | (rw [add_block]; exact hn194_3) | (show (Addr.add _ _).block ≠ _; rw [add_block]; exact hn194_3) | exact hn194_3) (.string t191)).trans hx194_0
                                replace hx194_1 := (cell_far (p := ⟨gb193, 3, none⟩) (by first | (rw [add_block]; exact hn194_3) | (show (Addr.add _ _).block ≠ _; rw [add_block]; exact hn194_3) | exact hn194_3) (.string t191)).trans hx194_1
                                replace hx194_2 := (cell_far (p := ⟨gb193, 3, none⟩) (by first | (rw [add_block]; exact hn194_3) | (show (Addr.add _ _).block ≠ _; rw [add_block]; exact hn194_3) | exact hn194_3) (.string t191)).trans hx194_2
                                replace hx194_3 := (cell_far (p := ⟨gb193, 3, none⟩) (by first | (rw [add_block]; exact hn194_3) | (show (Addr.add _ _).block ≠ _; rw [add_block]; exact hn194_3) | exact hn194_3) (.string t191)).trans hx194_3
                                (try have hy194_0 := fun (n_ : Nat) => (show ((((((w37.drewN n_).setCell ⟨gb193, 0, none⟩ (.int .u64 t188)).setCell ⟨gb193, 1, none⟩ (.int .u64 t189)).setCell ⟨gb193, 2, none⟩ (.bool t190)).setCell ⟨gb193, 3, none⟩ (.string t191))).cell? _ = some _ from hx194_0))
                                (try have hy194_1 := fun (n_ : Nat) => (show ((((((w37.drewN n_).setCell ⟨gb193, 0, none⟩ (.int .u64 t188)).setCell ⟨gb193, 1, none⟩ (.int .u64 t189)).setCell ⟨gb193, 2, none⟩ (.bool t190)).setCell ⟨gb193, 3, none⟩ (.string t191))).cell? _ = some _ from hx194_1))
                                (try have hy194_2 := fun (n_ : Nat) => (show ((((((w37.drewN n_).setCell ⟨gb193, 0, none⟩ (.int .u64 t188)).setCell ⟨gb193, 1, none⟩ (.int .u64 t189)).setCell ⟨gb193, 2, none⟩ (.bool t190)).setCell ⟨gb193, 3, none⟩ (.string t191))).cell? _ = some _ from hx194_2))
                                (try have hy194_3 := fun (n_ : Nat) => (show ((((((w37.drewN n_).setCell ⟨gb193, 0, none⟩ (.int .u64 t188)).setCell ⟨gb193, 1, none⟩ (.int .u64 t189)).setCell ⟨gb193, 2, none⟩ (.bool t190)).setCell ⟨gb193, 3, none⟩ (.string t191))).cell? _ = some _ from hx194_3))
                                clear hn194_0
                                clear hn194_1
                                clear hn194_2
                                clear hn194_3
                                replace p194 := eq_true p194
                                replace q194 := eq_true q194
                                go_wp2
                                repeat (go_quiet (fail); try go_wp2)
                                go_meet
                                case rel => exact ⟨_, (true), (by first | rfl | (simp; done) | (simp [*]; done)), H', ⟨by have := HK1.out; have := HJ17.out; first | omega | exact Nat.le_refl _⟩, ⟨by (with_reducible repeat (first | apply Kd.R_alloc | apply Kd.R_drewN | apply Kd.R_drew)); exact Kd.R_mono (Kd.R_far (p := ⟨gb193, 3, none⟩) (Kd.R_far (p := ⟨gb193, 2, none⟩) (Kd.R_far (p := ⟨gb193, 1, none⟩) (Kd.R_far (p := ⟨gb193, 0, none⟩) (Kd.R_mono HO_10.out (fun k_ hk => (⟨hk, hk.2⟩ : _ ∧ k_ ≠ gb193))) (fun _ hk => hk.2) (.int .u64 t188)) (fun _ hk => hk.2) (.int .u64 t189)) (fun _ hk => hk.2) (.bool t190)) (fun _ hk => hk.2) (.string t191)) (fun _ hk => ⟨hk.1.1.1, ⟨hk.1.1.2, hk.1.2⟩⟩)⟩, ⟨by (with_reducible repeat (first | apply Kd.R_alloc | apply Kd.R_drewN | apply Kd.R_drew)); exact Kd.R_mono (Kd.R_far (p := ⟨gb193, 3, none⟩) (Kd.R_far (p := ⟨gb193, 2, none⟩) (Kd.R_far (p := ⟨gb193, 1, none⟩) (Kd.R_far (p := ⟨gb193, 0, none⟩) (Kd.R_mono HO_13.out (fun k_ hk => (⟨hk, hk.2⟩ : _ ∧ k_ ≠ gb193))) (fun _ hk => hk.2) (.int .u64 t188)) (fun _ hk => hk.2) (.int .u64 t189)) (fun _ hk => hk.2) (.bool t190)) (fun _ hk => hk.2) (.string t191)) (fun _ hk => ⟨hk.1.1.1, ⟨hk.1.1.2, hk.1.2⟩⟩)⟩, ⟨by (with_reducible repeat (first | refine blk_drewN ?_ _ | refine blk_drew ?_ | refine blk_alloc ?_ _)); refine blk_far ?_ NB183_193.out _; (with_reducible repeat (first | refine blk_drewN ?_ _ | refine blk_drew ?_ | refine blk_alloc ?_ _)); refine blk_far ?_ NB183_193.out _; (with_reducible repeat (first | refine blk_drewN ?_ _ | refine blk_drew ?_ | refine blk_alloc ?_ _)); refine blk_far ?_ NB183_193.out _; (with_reducible repeat (first | refine blk_drewN ?_ _ | refine blk_drew ?_ | refine blk_alloc ?_ _)); refine blk_far ?_ NB183_193.out _; (with_reducible repeat (first | refine blk_drewN ?_ _ | refine blk_drew ?_ | refine blk_alloc ?_ _)); exact BK183.out⟩, ⟨by (with_reducible repeat (first | refine blk_drewN ?_ _ | refine blk_drew ?_ | refine blk_alloc ?_ _)); refine blk_put (cs := #[.int .u64 t188, .int .u64 t189, .bool t190, .string (⟨#[]⟩ : ByteArray)]) ?_ 3 _ rfl; (with_reducible repeat (first | refine blk_drewN ?_ _ | refine blk_drew ?_ | refine blk_alloc ?_ _)); refine blk_put (cs := #[.int .u64 t188, .int .u64 t189, .bool false, .string (⟨#[]⟩ : ByteArray)]) ?_ 2 _ rfl; (with_reducible repeat (first | refine blk_drewN ?_ _ | refine blk_drew ?_ | refine blk_alloc ?_ _)); refine blk_put (cs := #[.int .u64 t188, .int .u64 0, .bool false, .string (⟨#[]⟩ : ByteArray)]) ?_ 1 _ rfl; (with_reducible repeat (first | refine blk_drewN ?_ _ | refine blk_drew ?_ | refine blk_alloc ?_ _)); refine blk_put (cs := #[.int .u64 0, .int .u64 0, .bool false, .string (⟨#[]⟩ : ByteArray)]) ?_ 0 _ rfl; (with_reducible repeat (first | refine blk_drewN ?_ _ | refine blk_drew ?_ | refine blk_alloc ?_ _)); exact BK193.out⟩, ⟨by repeat (first | (with_reducible first | exact HB.out | apply below_alloc | apply pw_below_drewN | apply below_drew1 | refine below_set ?_ GE183.out | refine below_set ?_ GE193.out) | exact HB.out)⟩⟩
                              · rw [if_neg c41] at H
                                have c41b0 : ((t192 == 0) != (((rd_T33 y162 x15_1).f0) != a1)) = false := by simpa using c41
                                (try (have c41b1 : decide ((t192 == 0) = (((rd_T33 y162 x15_1).f0) != a1)) = true := by simpa using c41))
                                (try (have c41b2 : ((t192 == 0) == (((rd_T33 y162 x15_1).f0) != a1)) = true := by simpa using c41))
                                clear c41
                                by_cases c42 : t192 = 0
                                · rw [if_pos c42] at H
                                  have c42b0 : (t192 == 0) = true := beq_iff_eq.mpr c42
                                  have v1_c42b0 : (((rd_T33 y162 x15_1).f0) != a1) = true := by (have h_ := c41b0; rw [c42b0] at h_; simpa using h_)
                                  have v2_c42b0 : (((rd_T33 y162 x15_1).f0) == a1) = false := by simpa using v1_c42b0
                                  have v3_c42b0 : ¬ ((rd_T33 y162 x15_1).f0) = a1 := by simpa using v1_c42b0
                                  have c42b1 : (t192 != 0) = false := bne_eq_false_iff_eq.mpr c42
                                  clear c42
                                  have H' := Aside0.mk H
                                  clear H
                                  have p194 : 0 ≤ (x15_1 : Int) := of_decide_eq_true (by first | (with_reducible assumption) | assumption)
                                  have q194 : x15_1 < (y162.length : Int) := of_decide_eq_true (by first | (with_reducible assumption) | assumption)
                                  obtain ⟨ad194, e194, hx194_0, hx194_1, hx194_2, hx194_3⟩ := at_T33 HR165.out x15_1 p194 q194
                                  obtain rfl : ad177 = ad194 := (by injection e194)
                                  have hn194_0 : ad177.block ≠ gb193 := Nat.ne_of_lt (Nat.lt_of_lt_of_le (by have := World.block_lt_of_cell? _ _ hx194_0; first | rwa [add_block] at this | exact this) GW193.out)
                                  have hn194_1 : ad177.block ≠ gb193 := Nat.ne_of_lt (Nat.lt_of_lt_of_le (by have := World.block_lt_of_cell? _ _ hx194_0; first | rwa [add_block] at this | exact this) GW193.out)
                                  have hn194_2 : ad177.block ≠ gb193 := Nat.ne_of_lt (Nat.lt_of_lt_of_le (by have := World.block_lt_of_cell? _ _ hx194_0; first | rwa [add_block] at this | exact this) GW193.out)
                                  have hn194_3 : ad177.block ≠ gb193 := Nat.ne_of_lt (Nat.lt_of_lt_of_le (by have := World.block_lt_of_cell? _ _ hx194_0; first | rwa [add_block] at this | exact this) GW193.out)
                                  replace hx194_0 := (HB.out.cell (World.block_lt_of_cell? w _ hx194_0)).trans hx194_0
                                  replace hx194_1 := (HB.out.cell (World.block_lt_of_cell? w _ hx194_1)).trans hx194_1
                                  replace hx194_2 := (HB.out.cell (World.block_lt_of_cell? w _ hx194_2)).trans hx194_2
                                  replace hx194_3 := (HB.out.cell (World.block_lt_of_cell? w _ hx194_3)).trans hx194_3
                                  replace hx194_0 := (cell_far (p := ⟨gb193, 0, none⟩) (by first | (rw [add_block]; exact hn194_0) | (show (Addr.add _ _).block ≠ _; rw [add_block]; exact hn194_0) | exact hn194_0) (.int .u64 t188)).trans hx194_0
                                  replace hx194_1 := (cell_far (p := ⟨gb193, 0, none⟩) (by first | (rw [add_block]; exact hn194_0) | (show (Addr.add _ _).block ≠ _; rw [add_block]; exact hn194_0) | exact hn194_0) (.int .u64 t188)).trans hx194_1
                                  replace hx194_2 := (cell_far (p := ⟨gb193, 0, none⟩) (by first | (rw [add_block]; exact hn194_0) | (show (Addr.add _ _).block ≠ _; rw [add_block]; exact hn194_0) | exact hn194_0) (.int .u64 t188)).trans hx194_2
                                  replace hx194_3 := (cell_far (p := ⟨gb193, 0, none⟩) (by first | (rw [add_block]; exact hn194_0) | (show (Addr.add _ _).block ≠ _; rw [add_block]; exact hn194_0) | exact hn194_0) (.int .u64 t188)).trans hx194_3
                                  replace hx194_0 := (cell_far (p := ⟨gb193, 1, none⟩) (by first | (rw [add_block]; exact hn194_1) | (show (Addr.add _ _).block ≠ _; rw [add_block]; exact hn194_1) | exact hn194_1) (.int .u64 t189)).trans hx194_0
                                  replace hx194_1 := (cell_far (p := ⟨gb193, 1, none⟩) (by first | (rw [add_block]; exact hn194_1) | (show (Addr.add _ _).block ≠ _; rw [add_block]; exact hn194_1) | exact hn194_1) (.int .u64 t189)).trans hx194_1
                                  replace hx194_2 := (cell_far (p := ⟨gb193, 1, none⟩) (by first | (rw [add_block]; exact hn194_1) | (show (Addr.add _ _).block ≠ _; rw [add_block]; exact hn194_1) | exact hn194_1) (.int .u64 t189)).trans hx194_2
                                  replace hx194_3 := (cell_far (p := ⟨gb193, 1, none⟩) (by first | (rw [add_block]; exact hn194_1) | (show (Addr.add _ _).block ≠ _; rw [add_block]; exact hn194_1) | exact hn194_1) (.int .u64 t189)).trans hx194_3
                                  replace hx194_0 := (cell_far (p := ⟨gb193, 2, none⟩) (by first | (rw [add_block]; exact hn194_2) | (show (Addr.add _ _).block ≠ _; rw [add_block]; exact hn194_2) | exact hn194_2) (.bool t190)).trans hx194_0
                                  replace hx194_1 := (cell_far (p := ⟨gb193, 2, none⟩) (by first | (rw [add_block]; exact hn194_2) | (show (Addr.add _ _).block ≠ _; rw [add_block]; exact hn194_2) | exact hn194_2) (.bool t190)).trans hx194_1
                                  replace hx194_2 := (cell_far (p := ⟨gb193, 2, none⟩) (by first | (rw [add_block]; exact hn194_2) | (show (Addr.add _ _).block ≠ _; rw [add_block]; exact hn194_2) | exact hn194_2) (.bool t190)).trans hx194_2
                                  replace hx194_3 := (cell_far (p := ⟨gb193, 2, none⟩) (by first | (rw [add_block]; exact hn194_2) | (show (Addr.add _ _).block ≠ _; rw [add_block]; exact hn194_2) | exact hn194_2) (.bool t190)).trans hx194_3
                                  replace hx194_0 := (cell_far (p := ⟨gb193, 3, none⟩) (by first | (rw [add_block]; exact hn194_3) | (show (Addr.add _ _).block ≠ _; rw [add_block]; exact hn194_3) | exact hn194_3) (.string t191)).trans hx194_0
                                  replace hx194_1 := (cell_far (p := ⟨gb193, 3, none⟩) (by first | (rw [add_block]; exact hn194_3) | (show (Addr.add _ _).block ≠ _; rw [add_block]; exact hn194_3) | exact hn194_3) (.string t191)).trans hx194_1
                                  replace hx194_2 := (cell_far (p := ⟨gb193, 3, none⟩) (by first | (rw [add_block]; exact hn194_3) | (show (Addr.add _ _).block ≠ _; rw [add_block]; exact hn194_3) | exact hn194_3) (.string t191)).trans hx194_2
                                  replace hx194_3 := (cell_far (p := ⟨gb193, 3, none⟩) (by first | (rw [add_block]; exact hn194_3) | (show (Addr.add _ _).block ≠ _; rw [add_block]; exact hn194_3) | exact hn194_3) (.string t191)).trans hx194_3
                                  (try have hy194_0 := fun (n_ : Nat) => (show ((((((w37.drewN n_).setCell ⟨gb193, 0, none⟩ (.int .u64 t188)).setCell ⟨gb193, 1, none⟩ (.int .u64 t189)).setCell ⟨gb193, 2, none⟩ (.bool t190)).setCell ⟨gb193, 3, none⟩ (.string t191))).cell? _ = some _ from hx194_0))
                                  (try have hy194_1 := fun (n_ : Nat) => (show ((((((w37.drewN n_).setCell ⟨gb193, 0, none⟩ (.int .u64 t188)).setCell ⟨gb193, 1, none⟩ (.int .u64 t189)).setCell ⟨gb193, 2, none⟩ (.bool t190)).setCell ⟨gb193, 3, none⟩ (.string t191))).cell? _ = some _ from hx194_1))
                                  (try have hy194_2 := fun (n_ : Nat) => (show ((((((w37.drewN n_).setCell ⟨gb193, 0, none⟩ (.int .u64 t188)).setCell ⟨gb193, 1, none⟩ (.int .u64 t189)).setCell ⟨gb193, 2, none⟩ (.bool t190)).setCell ⟨gb193, 3, none⟩ (.string t191))).cell? _ = some _ from hx194_2))
                                  (try have hy194_3 := fun (n_ : Nat) => (show ((((((w37.drewN n_).setCell ⟨gb193, 0, none⟩ (.int .u64 t188)).setCell ⟨gb193, 1, none⟩ (.int .u64 t189)).setCell ⟨gb193, 2, none⟩ (.bool t190)).setCell ⟨gb193, 3, none⟩ (.string t191))).cell? _ = some _ from hx194_3))
                                  clear hn194_0
                                  clear hn194_1
                                  clear hn194_2
                                  clear hn194_3
                                  replace p194 := eq_true p194
                                  replace q194 := eq_true q194
                                  have hnb43 := NB193_183.out
                                  have hnc43 := NB183_193.out
                                  have hcz44_0 : w37.cell? ⟨gb193, 0, none⟩ = some (.int .u64 0) := (blk_cell BK193.out 0).trans rfl
                                  have hcz44_1 : w37.cell? ⟨gb193, 1, none⟩ = some (.int .u64 0) := (blk_cell BK193.out 1).trans rfl
                                  have hcz44_2 : w37.cell? ⟨gb193, 2, none⟩ = some (.bool false) := (blk_cell BK193.out 2).trans rfl
                                  have hcz44_3 : w37.cell? ⟨gb193, 3, none⟩ = some (.string (⟨#[]⟩ : ByteArray)) := (blk_cell BK193.out 3).trans rfl
                                  have hfz44_0 := blk_frozen BK193.out 0
                                  have hfz44_1 := blk_frozen BK193.out 1
                                  have hfz44_2 := blk_frozen BK193.out 2
                                  have hfz44_3 := blk_frozen BK193.out 3
                                  have p195 : 0 ≤ (x15_1 : Int) := of_decide_eq_true (by first | (with_reducible assumption) | assumption)
                                  have q195 : x15_1 < (y162.length : Int) := of_decide_eq_true (by first | (with_reducible assumption) | assumption)
                                  obtain ⟨ad195, e195, hx195_0, hx195_1, hx195_2, hx195_3⟩ := at_T33 HR165.out x15_1 p195 q195
                                  obtain rfl : ad177 = ad195 := (by injection e195)
                                  have hn195_0 : ad177.block ≠ gb193 := Nat.ne_of_lt (Nat.lt_of_lt_of_le (by have := World.block_lt_of_cell? _ _ hx195_0; first | rwa [add_block] at this | exact this) GW193.out)
                                  have hn195_1 : ad177.block ≠ gb193 := Nat.ne_of_lt (Nat.lt_of_lt_of_le (by have := World.block_lt_of_cell? _ _ hx195_0; first | rwa [add_block] at this | exact this) GW193.out)
                                  have hn195_2 : ad177.block ≠ gb193 := Nat.ne_of_lt (Nat.lt_of_lt_of_le (by have := World.block_lt_of_cell? _ _ hx195_0; first | rwa [add_block] at this | exact this) GW193.out)
                                  have hn195_3 : ad177.block ≠ gb193 := Nat.ne_of_lt (Nat.lt_of_lt_of_le (by have := World.block_lt_of_cell? _ _ hx195_0; first | rwa [add_block] at this | exact this) GW193.out)
                                  replace hx195_0 := (HB.out.cell (World.block_lt_of_cell? w _ hx195_0)).trans hx195_0
                                  replace hx195_1 := (HB.out.cell (World.block_lt_of_cell? w _ hx195_1)).trans hx195_1
                                  replace hx195_2 := (HB.out.cell (World.block_lt_of_cell? w _ hx195_2)).trans hx195_2
                                  replace hx195_3 := (HB.out.cell (World.block_lt_of_cell? w _ hx195_3)).trans hx195_3
                                  replace hx195_0 := (cell_far (p := ⟨gb193, 0, none⟩) (by first | (rw [add_block]; exact hn195_0) | (show (Addr.add _ _).block ≠ _; rw [add_block]; exact hn195_0) | exact hn195_0) (.int .u64 t188)).trans hx195_0
                                  replace hx195_1 := (cell_far (p := ⟨gb193, 0, none⟩) (by first | (rw [add_block]; exact hn195_0) | (show (Addr.add _ _).block ≠ _; rw [add_block]; exact hn195_0) | exact hn195_0) (.int .u64 t188)).trans hx195_1
                                  replace hx195_2 := (cell_far (p := ⟨gb193, 0, none⟩) (by first | (rw [add_block]; exact hn195_0) | (show (Addr.add _ _).block ≠ _; rw [add_block]; exact hn195_0) | exact hn195_0) (.int .u64 t188)).trans hx195_2
                                  replace hx195_3 := (cell_far (p := ⟨gb193, 0, none⟩) (by first | (rw [add_block]; exact hn195_0) | (show (Addr.add _ _).block ≠ _; rw [add_block]; exact hn195_0) | exact hn195_0) (.int .u64 t188)).trans hx195_3
                                  replace hx195_0 := (cell_far (p := ⟨gb193, 1, none⟩) (by first | (rw [add_block]; exact hn195_1) | (show (Addr.add _ _).block ≠ _; rw [add_block]; exact hn195_1) | exact hn195_1) (.int .u64 t189)).trans hx195_0
                                  replace hx195_1 := (cell_far (p := ⟨gb193, 1, none⟩) (by first | (rw [add_block]; exact hn195_1) | (show (Addr.add _ _).block ≠ _; rw [add_block]; exact hn195_1) | exact hn195_1) (.int .u64 t189)).trans hx195_1
                                  replace hx195_2 := (cell_far (p := ⟨gb193, 1, none⟩) (by first | (rw [add_block]; exact hn195_1) | (show (Addr.add _ _).block ≠ _; rw [add_block]; exact hn195_1) | exact hn195_1) (.int .u64 t189)).trans hx195_2
                                  replace hx195_3 := (cell_far (p := ⟨gb193, 1, none⟩) (by first | (rw [add_block]; exact hn195_1) | (show (Addr.add _ _).block ≠ _; rw [add_block]; exact hn195_1) | exact hn195_1) (.int .u64 t189)).trans hx195_3
                                  replace hx195_0 := (cell_far (p := ⟨gb193, 2, none⟩) (by first | (rw [add_block]; exact hn195_2) | (show (Addr.add _ _).block ≠ _; rw [add_block]; exact hn195_2) | exact hn195_2) (.bool t190)).trans hx195_0
                                  replace hx195_1 := (cell_far (p := ⟨gb193, 2, none⟩) (by first | (rw [add_block]; exact hn195_2) | (show (Addr.add _ _).block ≠ _; rw [add_block]; exact hn195_2) | exact hn195_2) (.bool t190)).trans hx195_1
                                  replace hx195_2 := (cell_far (p := ⟨gb193, 2, none⟩) (by first | (rw [add_block]; exact hn195_2) | (show (Addr.add _ _).block ≠ _; rw [add_block]; exact hn195_2) | exact hn195_2) (.bool t190)).trans hx195_2
                                  replace hx195_3 := (cell_far (p := ⟨gb193, 2, none⟩) (by first | (rw [add_block]; exact hn195_2) | (show (Addr.add _ _).block ≠ _; rw [add_block]; exact hn195_2) | exact hn195_2) (.bool t190)).trans hx195_3
                                  replace hx195_0 := (cell_far (p := ⟨gb193, 3, none⟩) (by first | (rw [add_block]; exact hn195_3) | (show (Addr.add _ _).block ≠ _; rw [add_block]; exact hn195_3) | exact hn195_3) (.string t191)).trans hx195_0
                                  replace hx195_1 := (cell_far (p := ⟨gb193, 3, none⟩) (by first | (rw [add_block]; exact hn195_3) | (show (Addr.add _ _).block ≠ _; rw [add_block]; exact hn195_3) | exact hn195_3) (.string t191)).trans hx195_1
                                  replace hx195_2 := (cell_far (p := ⟨gb193, 3, none⟩) (by first | (rw [add_block]; exact hn195_3) | (show (Addr.add _ _).block ≠ _; rw [add_block]; exact hn195_3) | exact hn195_3) (.string t191)).trans hx195_2
                                  replace hx195_3 := (cell_far (p := ⟨gb193, 3, none⟩) (by first | (rw [add_block]; exact hn195_3) | (show (Addr.add _ _).block ≠ _; rw [add_block]; exact hn195_3) | exact hn195_3) (.string t191)).trans hx195_3
                                  (try have hy195_0 := fun (n_ : Nat) => (show ((((((w37.drewN n_).setCell ⟨gb193, 0, none⟩ (.int .u64 t188)).setCell ⟨gb193, 1, none⟩ (.int .u64 t189)).setCell ⟨gb193, 2, none⟩ (.bool t190)).setCell ⟨gb193, 3, none⟩ (.string t191))).cell? _ = some _ from hx195_0))
                                  (try have hy195_1 := fun (n_ : Nat) => (show ((((((w37.drewN n_).setCell ⟨gb193, 0, none⟩ (.int .u64 t188)).setCell ⟨gb193, 1, none⟩ (.int .u64 t189)).setCell ⟨gb193, 2, none⟩ (.bool t190)).setCell ⟨gb193, 3, none⟩ (.string t191))).cell? _ = some _ from hx195_1))
                                  (try have hy195_2 := fun (n_ : Nat) => (show ((((((w37.drewN n_).setCell ⟨gb193, 0, none⟩ (.int .u64 t188)).setCell ⟨gb193, 1, none⟩ (.int .u64 t189)).setCell ⟨gb193, 2, none⟩ (.bool t190)).setCell ⟨gb193, 3, none⟩ (.string t191))).cell? _ = some _ from hx195_2))
                                  (try have hy195_3 := fun (n_ : Nat) => (show ((((((w37.drewN n_).setCell ⟨gb193, 0, none⟩ (.int .u64 t188)).setCell ⟨gb193, 1, none⟩ (.int .u64 t189)).setCell ⟨gb193, 2, none⟩ (.bool t190)).setCell ⟨gb193, 3, none⟩ (.string t191))).cell? _ = some _ from hx195_3))
                                  clear hn195_0
                                  clear hn195_1
                                  clear hn195_2
                                  clear hn195_3
                                  replace p195 := eq_true p195
                                  replace q195 := eq_true q195
                                  go_wp2
                                  repeat (go_quiet (fail); try go_wp2)
                                  go_meet
                                  case rel => exact ⟨_, ((!(t188 == ((rd_T33 y162 x15_1).f0)) || (!(t189 == ((rd_T33 y162 x15_1).f1)) || (!(t190 == ((rd_T33 y162 x15_1).f2)) || (!(t191.toList == (((rd_T33 y162 x15_1).f3).toList))))))), (by first | rfl | (simp; done) | (simp [*]; done)), H', ⟨by have := HK1.out; have := HJ17.out; first | omega | exact Nat.le_refl _⟩, ⟨by (with_reducible repeat (first | apply Kd.R_alloc | apply Kd.R_drewN | apply Kd.R_drew)); exact Kd.R_mono (Kd.R_far (p := ⟨gb193, 3, none⟩) (Kd.R_far (p := ⟨gb193, 2, none⟩) (Kd.R_far (p := ⟨gb193, 1, none⟩) (Kd.R_far (p := ⟨gb193, 0, none⟩) (Kd.R_mono HO_10.out (fun k_ hk => (⟨hk, hk.2⟩ : _ ∧ k_ ≠ gb193))) (fun _ hk => hk.2) (.int .u64 t188)) (fun _ hk => hk.2) (.int .u64 t189)) (fun _ hk => hk.2) (.bool t190)) (fun _ hk => hk.2) (.string t191)) (fun _ hk => ⟨hk.1.1.1, ⟨hk.1.1.2, hk.1.2⟩⟩)⟩, ⟨by (with_reducible repeat (first | apply Kd.R_alloc | apply Kd.R_drewN | apply Kd.R_drew)); exact Kd.R_mono (Kd.R_far (p := ⟨gb193, 3, none⟩) (Kd.R_far (p := ⟨gb193, 2, none⟩) (Kd.R_far (p := ⟨gb193, 1, none⟩) (Kd.R_far (p := ⟨gb193, 0, none⟩) (Kd.R_mono HO_13.out (fun k_ hk => (⟨hk, hk.2⟩ : _ ∧ k_ ≠ gb193))) (fun _ hk => hk.2) (.int .u64 t188)) (fun _ hk => hk.2) (.int .u64 t189)) (fun _ hk => hk.2) (.bool t190)) (fun _ hk => hk.2) (.string t191)) (fun _ hk => ⟨hk.1.1.1, ⟨hk.1.1.2, hk.1.2⟩⟩)⟩, ⟨by (with_reducible repeat (first | refine blk_drewN ?_ _ | refine blk_drew ?_ | refine blk_alloc ?_ _)); refine blk_far ?_ NB183_193.out _; (with_reducible repeat (first | refine blk_drewN ?_ _ | refine blk_drew ?_ | refine blk_alloc ?_ _)); refine blk_far ?_ NB183_193.out _; (with_reducible repeat (first | refine blk_drewN ?_ _ | refine blk_drew ?_ | refine blk_alloc ?_ _)); refine blk_far ?_ NB183_193.out _; (with_reducible repeat (first | refine blk_drewN ?_ _ | refine blk_drew ?_ | refine blk_alloc ?_ _)); refine blk_far ?_ NB183_193.out _; (with_reducible repeat (first | refine blk_drewN ?_ _ | refine blk_drew ?_ | refine blk_alloc ?_ _)); exact BK183.out⟩, ⟨by (with_reducible repeat (first | refine blk_drewN ?_ _ | refine blk_drew ?_ | refine blk_alloc ?_ _)); refine blk_put (cs := #[.int .u64 t188, .int .u64 t189, .bool t190, .string (⟨#[]⟩ : ByteArray)]) ?_ 3 _ rfl; (with_reducible repeat (first | refine blk_drewN ?_ _ | refine blk_drew ?_ | refine blk_alloc ?_ _)); refine blk_put (cs := #[.int .u64 t188, .int .u64 t189, .bool false, .string (⟨#[]⟩ : ByteArray)]) ?_ 2 _ rfl; (with_reducible repeat (first | refine blk_drewN ?_ _ | refine blk_drew ?_ | refine blk_alloc ?_ _)); refine blk_put (cs := #[.int .u64 t188, .int .u64 0, .bool false, .string (⟨#[]⟩ : ByteArray)]) ?_ 1 _ rfl; (with_reducible repeat (first | refine blk_drewN ?_ _ | refine blk_drew ?_ | refine blk_alloc ?_ _)); refine blk_put (cs := #[.int .u64 0, .int .u64 0, .bool false, .string (⟨#[]⟩ : ByteArray)]) ?_ 0 _ rfl; (with_reducible repeat (first | refine blk_drewN ?_ _ | refine blk_drew ?_ | refine blk_alloc ?_ _)); exact BK193.out⟩, ⟨by repeat (first | (with_reducible first | exact HB.out | apply below_alloc | apply pw_below_drewN | apply below_drew1 | refine below_set ?_ GE183.out | refine below_set ?_ GE193.out) | exact HB.out)⟩⟩
                                · rw [if_neg c42] at H
                                  have c42b0 : (t192 == 0) = false := beq_eq_false_iff_ne.mpr c42
                                  have v1_c42b0 : (((rd_T33 y162 x15_1).f0) != a1) = false := by (have h_ := c41b0; rw [c42b0] at h_; simpa using h_)
                                  have v2_c42b0 : (((rd_T33 y162 x15_1).f0) == a1) = true := by simpa using v1_c42b0
                                  have c42b1 : (t192 != 0) = true := bne_iff_ne.mpr c42
                                  have H' := Aside0.mk H
                                  clear H
                                  have p194 : 0 ≤ (x15_1 : Int) := of_decide_eq_true (by first | (with_reducible assumption) | assumption)
                                  have q194 : x15_1 < (y162.length : Int) := of_decide_eq_true (by first | (with_reducible assumption) | assumption)
                                  obtain ⟨ad194, e194, hx194_0, hx194_1, hx194_2, hx194_3⟩ := at_T33 HR165.out x15_1 p194 q194
                                  obtain rfl : ad177 = ad194 := (by injection e194)
                                  have hn194_0 : ad177.block ≠ gb193 := Nat.ne_of_lt (Nat.lt_of_lt_of_le (by have := World.block_lt_of_cell? _ _ hx194_0; first | rwa [add_block] at this | exact this) GW193.out)
                                  have hn194_1 : ad177.block ≠ gb193 := Nat.ne_of_lt (Nat.lt_of_lt_of_le (by have := World.block_lt_of_cell? _ _ hx194_0; first | rwa [add_block] at this | exact this) GW193.out)
                                  have hn194_2 : ad177.block ≠ gb193 := Nat.ne_of_lt (Nat.lt_of_lt_of_le (by have := World.block_lt_of_cell? _ _ hx194_0; first | rwa [add_block] at this | exact this) GW193.out)
                                  have hn194_3 : ad177.block ≠ gb193 := Nat.ne_of_lt (Nat.lt_of_lt_of_le (by have := World.block_lt_of_cell? _ _ hx194_0; first | rwa [add_block] at this | exact this) GW193.out)
                                  replace hx194_0 := (HB.out.cell (World.block_lt_of_cell? w _ hx194_0)).trans hx194_0
                                  replace hx194_1 := (HB.out.cell (World.block_lt_of_cell? w _ hx194_1)).trans hx194_1
                                  replace hx194_2 := (HB.out.cell (World.block_lt_of_cell? w _ hx194_2)).trans hx194_2
                                  replace hx194_3 := (HB.out.cell (World.block_lt_of_cell? w _ hx194_3)).trans hx194_3
                                  replace hx194_0 := (cell_far (p := ⟨gb193, 0, none⟩) (by first | (rw [add_block]; exact hn194_0) | (show (Addr.add _ _).block ≠ _; rw [add_block]; exact hn194_0) | exact hn194_0) (.int .u64 t188)).trans hx194_0
                                  replace hx194_1 := (cell_far (p := ⟨gb193, 0, none⟩) (by first | (rw [add_block]; exact hn194_0) | (show (Addr.add _ _).block ≠ _; rw [add_block]; exact hn194_0) | exact hn194_0) (.int .u64 t188)).trans hx194_1
                                  replace hx194_2 := (cell_far (p := ⟨gb193, 0, none⟩) (by first | (rw [add_block]; exact hn194_0) | (show (Addr.add _ _).block ≠ _; rw [add_block]; exact hn194_0) | exact hn194_0) (.int .u64 t188)).trans hx194_2
                                  replace hx194_3 := (cell_far (p := ⟨gb193, 0, none⟩) (by first | (rw [add_block]; exact hn194_0) | (show (Addr.add _ _).block ≠ _; rw [add_block]; exact hn194_0) | exact hn194_0) (.int .u64 t188)).trans hx194_3
                                  replace hx194_0 := (cell_far (p := ⟨gb193, 1, none⟩) (by first | (rw [add_block]; exact hn194_1) | (show (Addr.add _ _).block ≠ _; rw [add_block]; exact hn194_1) | exact hn194_1) (.int .u64 t189)).trans hx194_0
                                  replace hx194_1 := (cell_far (p := ⟨gb193, 1, none⟩) (by first | (rw [add_block]; exact hn194_1) | (show (Addr.add _ _).block ≠ _; rw [add_block]; exact hn194_1) | exact hn194_1) (.int .u64 t189)).trans hx194_1
                                  replace hx194_2 := (cell_far (p := ⟨gb193, 1, none⟩) (by first | (rw [add_block]; exact hn194_1) | (show (Addr.add _ _).block ≠ _; rw [add_block]; exact hn194_1) | exact hn194_1) (.int .u64 t189)).trans hx194_2
                                  replace hx194_3 := (cell_far (p := ⟨gb193, 1, none⟩) (by first | (rw [add_block]; exact hn194_1) | (show (Addr.add _ _).block ≠ _; rw [add_block]; exact hn194_1) | exact hn194_1) (.int .u64 t189)).trans hx194_3
                                  replace hx194_0 := (cell_far (p := ⟨gb193, 2, none⟩) (by first | (rw [add_block]; exact hn194_2) | (show (Addr.add _ _).block ≠ _; rw [add_block]; exact hn194_2) | exact hn194_2) (.bool t190)).trans hx194_0
                                  replace hx194_1 := (cell_far (p := ⟨gb193, 2, none⟩) (by first | (rw [add_block]; exact hn194_2) | (show (Addr.add _ _).block ≠ _; rw [add_block]; exact hn194_2) | exact hn194_2) (.bool t190)).trans hx194_1
                                  replace hx194_2 := (cell_far (p := ⟨gb193, 2, none⟩) (by first | (rw [add_block]; exact hn194_2) | (show (Addr.add _ _).block ≠ _; rw [add_block]; exact hn194_2) | exact hn194_2) (.bool t190)).trans hx194_2
                                  replace hx194_3 := (cell_far (p := ⟨gb193, 2, none⟩) (by first | (rw [add_block]; exact hn194_2) | (show (Addr.add _ _).block ≠ _; rw [add_block]; exact hn194_2) | exact hn194_2) (.bool t190)).trans hx194_3
                                  replace hx194_0 := (cell_far (p := ⟨gb193, 3, none⟩) (by first | (rw [add_block]; exact hn194_3) | (show (Addr.add _ _).block ≠ _; rw [add_block]; exact hn194_3) | exact hn194_3) (.string t191)).trans hx194_0
                                  replace hx194_1 := (cell_far (p := ⟨gb193, 3, none⟩) (by first | (rw [add_block]; exact hn194_3) | (show (Addr.add _ _).block ≠ _; rw [add_block]; exact hn194_3) | exact hn194_3) (.string t191)).trans hx194_1
                                  replace hx194_2 := (cell_far (p := ⟨gb193, 3, none⟩) (by first | (rw [add_block]; exact hn194_3) | (show (Addr.add _ _).block ≠ _; rw [add_block]; exact hn194_3) | exact hn194_3) (.string t191)).trans hx194_2
                                  replace hx194_3 := (cell_far (p := ⟨gb193, 3, none⟩) (by first | (rw [add_block]; exact hn194_3) | (show (Addr.add _ _).block ≠ _; rw [add_block]; exact hn194_3) | exact hn194_3) (.string t191)).trans hx194_3
                                  (try have hy194_0 := fun (n_ : Nat) => (show ((((((w37.drewN n_).setCell ⟨gb193, 0, none⟩ (.int .u64 t188)).setCell ⟨gb193, 1, none⟩ (.int .u64 t189)).setCell ⟨gb193, 2, none⟩ (.bool t190)).setCell ⟨gb193, 3, none⟩ (.string t191))).cell? _ = some _ from hx194_0))
                                  (try have hy194_1 := fun (n_ : Nat) => (show ((((((w37.drewN n_).setCell ⟨gb193, 0, none⟩ (.int .u64 t188)).setCell ⟨gb193, 1, none⟩ (.int .u64 t189)).setCell ⟨gb193, 2, none⟩ (.bool t190)).setCell ⟨gb193, 3, none⟩ (.string t191))).cell? _ = some _ from hx194_1))
                                  (try have hy194_2 := fun (n_ : Nat) => (show ((((((w37.drewN n_).setCell ⟨gb193, 0, none⟩ (.int .u64 t188)).setCell ⟨gb193, 1, none⟩ (.int .u64 t189)).setCell ⟨gb193, 2, none⟩ (.bool t190)).setCell ⟨gb193, 3, none⟩ (.string t191))).cell? _ = some _ from hx194_2))
                                  (try have hy194_3 := fun (n_ : Nat) => (show ((((((w37.drewN n_).setCell ⟨gb193, 0, none⟩ (.int .u64 t188)).setCell ⟨gb193, 1, none⟩ (.int .u64 t189)).setCell ⟨gb193, 2, none⟩ (.bool t190)).setCell ⟨gb193, 3, none⟩ (.string t191))).cell? _ = some _ from hx194_3))
                                  clear hn194_0
                                  clear hn194_1
                                  clear hn194_2
                                  clear hn194_3
                                  replace p194 := eq_true p194
                                  replace q194 := eq_true q194
                                  go_wp2
                                  repeat (go_quiet (fail); try go_wp2)
                                  go_meet
                                  case rel => exact ⟨_, (false), (by first | rfl | (simp; done) | (simp [*]; done)), H', ⟨by have := HK1.out; have := HJ17.out; first | omega | exact Nat.le_refl _⟩, ⟨by (with_reducible repeat (first | apply Kd.R_alloc | apply Kd.R_drewN | apply Kd.R_drew)); exact Kd.R_mono (Kd.R_far (p := ⟨gb193, 3, none⟩) (Kd.R_far (p := ⟨gb193, 2, none⟩) (Kd.R_far (p := ⟨gb193, 1, none⟩) (Kd.R_far (p := ⟨gb193, 0, none⟩) (Kd.R_mono HO_10.out (fun k_ hk => (⟨hk, hk.2⟩ : _ ∧ k_ ≠ gb193))) (fun _ hk => hk.2) (.int .u64 t188)) (fun _ hk => hk.2) (.int .u64 t189)) (fun _ hk => hk.2) (.bool t190)) (fun _ hk => hk.2) (.string t191)) (fun _ hk => ⟨hk.1.1.1, ⟨hk.1.1.2, hk.1.2⟩⟩)⟩, ⟨by (with_reducible repeat (first | apply Kd.R_alloc | apply Kd.R_drewN | apply Kd.R_drew)); exact Kd.R_mono (Kd.R_far (p := ⟨gb193, 3, none⟩) (Kd.R_far (p := ⟨gb193, 2, none⟩) (Kd.R_far (p := ⟨gb193, 1, none⟩) (Kd.R_far (p := ⟨gb193, 0, none⟩) (Kd.R_mono HO_13.out (fun k_ hk => (⟨hk, hk.2⟩ : _ ∧ k_ ≠ gb193))) (fun _ hk => hk.2) (.int .u64 t188)) (fun _ hk => hk.2) (.int .u64 t189)) (fun _ hk => hk.2) (.bool t190)) (fun _ hk => hk.2) (.string t191)) (fun _ hk => ⟨hk.1.1.1, ⟨hk.1.1.2, hk.1.2⟩⟩)⟩, ⟨by (with_reducible repeat (first | refine blk_drewN ?_ _ | refine blk_drew ?_ | refine blk_alloc ?_ _)); refine blk_far ?_ NB183_193.out _; (with_reducible repeat (first | refine blk_drewN ?_ _ | refine blk_drew ?_ | refine blk_alloc ?_ _)); refine blk_far ?_ NB183_193.out _; (with_reducible repeat (first | refine blk_drewN ?_ _ | refine blk_drew ?_ | refine blk_alloc ?_ _)); refine blk_far ?_ NB183_193.out _; (with_reducible repeat (first | refine blk_drewN ?_ _ | refine blk_drew ?_ | refine blk_alloc ?_ _)); refine blk_far ?_ NB183_193.out _; (with_reducible repeat (first | refine blk_drewN ?_ _ | refine blk_drew ?_ | refine blk_alloc ?_ _)); exact BK183.out⟩, ⟨by (with_reducible repeat (first | refine blk_drewN ?_ _ | refine blk_drew ?_ | refine blk_alloc ?_ _)); refine blk_put (cs := #[.int .u64 t188, .int .u64 t189, .bool t190, .string (⟨#[]⟩ : ByteArray)]) ?_ 3 _ rfl; (with_reducible repeat (first | refine blk_drewN ?_ _ | refine blk_drew ?_ | refine blk_alloc ?_ _)); refine blk_put (cs := #[.int .u64 t188, .int .u64 t189, .bool false, .string (⟨#[]⟩ : ByteArray)]) ?_ 2 _ rfl; (with_reducible repeat (first | refine blk_drewN ?_ _ | refine blk_drew ?_ | refine blk_alloc ?_ _)); refine blk_put (cs := #[.int .u64 t188, .int .u64 0, .bool false, .string (⟨#[]⟩ : ByteArray)]) ?_ 1 _ rfl; (with_reducible repeat (first | refine blk_drewN ?_ _ | refine blk_drew ?_ | refine blk_alloc ?_ _)); refine blk_put (cs := #[.int .u64 0, .int .u64 0, .bool false, .string (⟨#[]⟩ : ByteArray)]) ?_ 0 _ rfl; (with_reducible repeat (first | refine blk_drewN ?_ _ | refine blk_drew ?_ | refine blk_alloc ?_ _)); exact BK193.out⟩, ⟨by repeat (first | (with_reducible first | exact HB.out | apply below_alloc | apply pw_below_drewN | apply below_drew1 | refine below_set ?_ GE183.out | refine below_set ?_ GE193.out) | exact HB.out)⟩⟩
                            · rw [if_neg c40] at H
                              have c40b0 : (t173 == 0) = false := beq_eq_false_iff_ne.mpr c40
                              have c40b1 : (t173 != 0) = true := bne_iff_ne.mpr c40
                              (first | rw [c40b0] | (simp only [i64_w, i32_w]; rw [c40b0]) | skip)
                              have H' := Aside0.mk H
                              clear H
                              go_wp2
                              repeat (go_quiet (fail); try go_wp2)
                              go_meet
                              case rel => exact ⟨_, (false), (by first | rfl | (simp; done) | (simp [*]; done)), H', ⟨by have := HK1.out; have := HJ17.out; first | omega | exact Nat.le_refl _⟩, ⟨by (with_reducible repeat (first | apply Kd.R_alloc | apply Kd.R_drewN | apply Kd.R_drew)); exact Kd.R_mono (Kd.R_far (p := ⟨gb193, 3, none⟩) (Kd.R_far (p := ⟨gb193, 2, none⟩) (Kd.R_far (p := ⟨gb193, 1, none⟩) (Kd.R_far (p := ⟨gb193, 0, none⟩) (Kd.R_mono HO_10.out (fun k_ hk => (⟨hk, hk.2⟩ : _ ∧ k_ ≠ gb193))) (fun _ hk => hk.2) (.int .u64 t188)) (fun _ hk => hk.2) (.int .u64 t189)) (fun _ hk => hk.2) (.bool t190)) (fun _ hk => hk.2) (.string t191)) (fun _ hk => ⟨hk.1.1.1, ⟨hk.1.1.2, hk.1.2⟩⟩)⟩, ⟨by (with_reducible repeat (first | apply Kd.R_alloc | apply Kd.R_drewN | apply Kd.R_drew)); exact Kd.R_mono (Kd.R_far (p := ⟨gb193, 3, none⟩) (Kd.R_far (p := ⟨gb193, 2, none⟩) (Kd.R_far (p := ⟨gb193, 1, none⟩) (Kd.R_far (p := ⟨gb193, 0, none⟩) (Kd.R_mono HO_13.out (fun k_ hk => (⟨hk, hk.2⟩ : _ ∧ k_ ≠ gb193))) (fun _ hk => hk.2) (.int .u64 t188)) (fun _ hk => hk.2) (.int .u64 t189)) (fun _ hk => hk.2) (.bool t190)) (fun _ hk => hk.2) (.string t191)) (fun _ hk => ⟨hk.1.1.1, ⟨hk.1.1.2, hk.1.2⟩⟩)⟩, ⟨by (with_reducible repeat (first | refine blk_drewN ?_ _ | refine blk_drew ?_ | refine blk_alloc ?_ _)); refine blk_far ?_ NB183_193.out _; (with_reducible repeat (first | refine blk_drewN ?_ _ | refine blk_drew ?_ | refine blk_alloc ?_ _)); refine blk_far ?_ NB183_193.out _; (with_reducible repeat (first | refine blk_drewN ?_ _ | refine blk_drew ?_ | refine blk_alloc ?_ _)); refine blk_far ?_ NB183_193.out _; (with_reducible repeat (first | refine blk_drewN ?_ _ | refine blk_drew ?_ | refine blk_alloc ?_ _)); refine blk_far ?_ NB183_193.out _; (with_reducible repeat (first | refine blk_drewN ?_ _ | refine blk_drew ?_ | refine blk_alloc ?_ _)); exact BK183.out⟩, ⟨by (with_reducible repeat (first | refine blk_drewN ?_ _ | refine blk_drew ?_ | refine blk_alloc ?_ _)); refine blk_put (cs := #[.int .u64 t188, .int .u64 t189, .bool t190, .string (⟨#[]⟩ : ByteArray)]) ?_ 3 _ rfl; (with_reducible repeat (first | refine blk_drewN ?_ _ | refine blk_drew ?_ | refine blk_alloc ?_ _)); refine blk_put (cs := #[.int .u64 t188, .int .u64 t189, .bool false, .string (⟨#[]⟩ : ByteArray)]) ?_ 2 _ rfl; (with_reducible repeat (first | refine blk_drewN ?_ _ | refine blk_drew ?_ | refine blk_alloc ?_ _)); refine blk_put (cs := #[.int .u64 t188, .int .u64 0, .bool false, .string (⟨#[]⟩ : ByteArray)]) ?_ 1 _ rfl; (with_reducible repeat (first | refine blk_drewN ?_ _ | refine blk_drew ?_ | refine blk_alloc ?_ _)); refine blk_put (cs := #[.int .u64 0, .int .u64 0, .bool false, .string (⟨#[]⟩ : ByteArray)]) ?_ 0 _ rfl; (with_reducible repeat (first | refine blk_drewN ?_ _ | refine blk_drew ?_ | refine blk_alloc ?_ _)); exact BK193.out⟩, ⟨by repeat (first | (with_reducible first | exact HB.out | apply below_alloc | apply pw_below_drewN | apply below_drew1 | refine below_set ?_ GE183.out | refine below_set ?_ GE193.out) | exact HB.out)⟩⟩
                          case rest =>
                            clear HC34
                            try clear c1
                            try clear p1
                            try clear q1
                            try clear hx1
                            try clear c2
                            try clear p2
                            try clear q2
                            try clear c3
                            try clear c4
                            try clear c6
                            try clear c6b0
                            try clear c6b1
                            try clear p6
                            try clear c7
                            try clear c7b0
                            try clear c7b1
                            try clear c9
                            try clear c9b0
                            try clear c9b1
                            try clear c12
                            try clear q12
                            try clear c15
                            try clear c15b0
                            try clear c16
                            try clear c16b0
                            try clear p17
                            try clear q17
                            try clear hx17
                            try clear p18
                            try clear q18
                            try clear hx18
                            try clear p19
                            try clear q19
                            try clear hx19
                            try clear q23
                            try clear c24
                            try clear c25
                            try clear c25b0
                            try clear c25b1
                            try clear c27
                            try clear c27b0
                            try clear c27b1
                            try clear c28
                            try clear c28b0
                            try clear c28b1
                            try clear c30
                            try clear c31
                            try clear c31b0
                            try clear c32
                            try clear c32b0
                            try clear c38
                            try clear c40
                            try clear c40b0
                            try clear c40b1
                            try clear c41
                            try clear c41b0
                            try clear c41b1
                            try clear c41b2
                            try clear c42
                            try clear c42b0
                            try clear c42b1
                            try clear c43
                            try clear hcz22_0
                            try clear hcz22_1
                            try clear hcz22_2
                            try clear hcz22_3
                            try clear hcz26_0
                            try clear hcz26_1
                            try clear hcz26_2
                            try clear hcz26_3
                            try clear hcz29_0
                            try clear hcz29_1
                            try clear hcz29_2
                            try clear hcz29_3
                            try clear hcz39_0
                            try clear hcz39_1
                            try clear hcz39_2
                            try clear hcz39_3
                            try clear hcz44_0
                            try clear hcz44_1
                            try clear hcz44_2
                            try clear hcz44_3
                            try clear hfz22_0
                            try clear hfz22_1
                            try clear hfz22_2
                            try clear hfz22_3
                            try clear hfz26_0
                            try clear hfz26_1
                            try clear hfz26_2
                            try clear hfz26_3
                            try clear hfz29_0
                            try clear hfz29_1
                            try clear hfz29_2
                            try clear hfz29_3
                            try clear hfz39_0
                            try clear hfz39_1
                            try clear hfz39_2
                            try clear hfz39_3
                            try clear hfz44_0
                            try clear hfz44_1
                            try clear hfz44_2
                            try clear hfz44_3
                            try clear hx177_0
                            try clear hx177_1
                            try clear hx177_2
                            try clear hx177_3
                            try clear hx184_0
                            try clear hx184_1
                            try clear hx184_2
                            try clear hx184_3
                            try clear hx185_0
                            try clear hx185_1
                            try clear hx185_2
                            try clear hx185_3
                            try clear hx186_0
                            try clear hx186_1
                            try clear hx186_2
                            try clear hx186_3
                            try clear hx187_0
                            try clear hx187_1
                            try clear hx187_2
                            try clear hx187_3
                            try clear hx194_0
                            try clear hx194_1
                            try clear hx194_2
                            try clear hx194_3
                            try clear hx195_0
                            try clear hx195_1
                            try clear hx195_2
                            try clear hx195_3
                            try clear p1
                            try clear p17
                            try clear p177
                            try clear p18
                            try clear p184
                            try clear p185
                            try clear p186
                            try clear p187
                            try clear p194
                            try clear p195
                            try clear p2
                            try clear p6
                            try clear q1
                            try clear q12
                            try clear q17
                            try clear q177
                            try clear q18
                            try clear q184
                            try clear q185
                            try clear q186
                            try clear q187
                            try clear q194
                            try clear q195
                            try clear q2
                            try clear q23
                            obtain ⟨kq, x124_33, rfl, HA, HJ33, HO_10, HO_13, BK183, BK193, HB⟩ := hcut
                            cases kq with
                            | zero => exact absurd HA.out (by simp [nautiluslaw09_CpsStays.j2])
                            | succ kj33 =>
                              have H := HA.out
                              clear HA
                              simp only [nautiluslaw09_CpsStays.j2] at H
                              by_cases c45 : x124_33 = true
                              · subst c45
                                have H1 : (some false) = some r := by rw [if_pos rfl] at H; exact H
                                clear H
                                have H := H1
                                clear H1
                                obtain rfl := Option.some.inj H
                                go_wp2
                                repeat (go_quiet (fail); try go_wp2)
                                go_ret
                                exact ⟨by first | rfl | (simp [errW_none, errW_some] <;> rfl) | (simp [*, errW_none, errW_some] <;> rfl) | (simp [show IntKind.u64.wrap 0 = 0 from rfl, Int.zero_tdiv]; done), by repeat (first | (with_reducible first | exact HB.out | apply below_alloc | apply pw_below_drewN | apply below_drew1 | refine below_set ?_ GE183.out | refine below_set ?_ GE193.out) | exact HB.out)⟩
                              · replace c45 := Bool.eq_false_iff.mpr c45
                                subst c45
                                have H1 : (nautiluslaw09_CpsStays.l0 kj33 y162 a1 t161 t166 t167 t172 t173 (wrap64 (x15_1 + 1))) = some r := by rw [if_neg (show ¬ (false = true) by decide)] at H; exact H
                                clear H
                                have H := H1
                                clear H1
                                have H' := Aside0.mk H
                                clear H
                                go_wp2
                                repeat (go_quiet (fail); try go_wp2)
                                go_roundg kj33
                                case measure => have := HK1.out; have := HJ17.out; have := HJ33.out; omega
                                case rel => exact ⟨(wrap64 (x15_1 + 1)), (by first | rfl | (simp; done) | (simp [*]; done)), H', ⟨by have := HK1.out; have := HJ17.out; have := HJ33.out; omega⟩, ⟨by (with_reducible repeat (first | apply Kd.R_alloc | apply Kd.R_drewN | apply Kd.R_drew)); exact Kd.R_mono HO_10.out (fun _ hk => hk.1)⟩, ⟨by (with_reducible repeat (first | apply Kd.R_alloc | apply Kd.R_drewN | apply Kd.R_drew)); exact Kd.R_mono HO_13.out (fun _ hk => hk.1)⟩, ⟨by repeat (first | (with_reducible first | exact HB.out | apply below_alloc | apply pw_below_drewN | apply below_drew1 | refine below_set ?_ GE183.out | refine below_set ?_ GE193.out) | exact HB.out)⟩⟩
                        · rw [if_neg c32] at H
                          exact absurd H (by simp)
                      · rw [if_neg c31] at H
                        exact absurd H (by simp)
              · rw [if_neg c16] at H
                exact absurd H (by simp)
            · rw [if_neg c15] at H
              have c15b0 : decide (x15_1 < (y162.length : Int)) = false := decide_eq_false c15
              clear c15
              by_cases c46 : t161 = true
              · subst c46
                have H1 : (if (wrap64 ((t166.length : Int) + t167)) = (y162.length : Int) then ((cps_Right.f k1 t166).bind fun t176 => (some t176)) else (some false)) = some r := by rw [if_pos rfl] at H; exact H
                clear H
                have H := H1
                clear H1
                by_cases c47 : (wrap64 ((t166.length : Int) + t167)) = (y162.length : Int)
                · rw [if_pos c47] at H
                  have c47b0 : ((wrap64 ((t166.length : Int) + t167)) == (y162.length : Int)) = true := beq_iff_eq.mpr c47
                  have c47b1 : ((wrap64 ((t166.length : Int) + t167)) != (y162.length : Int)) = false := bne_eq_false_iff_eq.mpr c47
                  clear c47
                  replace H := Option.bind_eq_some_iff.mp H
                  obtain ⟨t176, A480, H⟩ := H
                  replace H : (some t176) = some r := H
                  have A48 := Aside0.mk A480
                  clear A480
                  obtain rfl := Option.some.inj H
                  obtain ⟨Ao49, co49, eo49⟩ := Kd.R_slice HO_10.out
                  subst eo49
                  go_wp2_with (first | (go_at_call 14; (with_reducible refine (cps_Right.calls k1 _ _ t166 t176 _ ?side1 ?side2 A48.out).mono ?_); (case side1 => repeat (first | exact (Kd.R_reads' HO_10.out).2.2 | (with_reducible refine Kd.C_alloc ?_ _) | (with_reducible refine Kd.C_drewN ?_ _) | (with_reducible refine Kd.C_drew ?_))); (case side2 => exact (Kd.R_reads' HO_10.out).2.1); rintro e w50 ⟨rfl, hb⟩; have n0_ := Aside0.mk (Kd.R_below (by (with_reducible repeat (first | apply Kd.R_alloc | apply Kd.R_drewN | apply Kd.R_drew)); exact HO_10.out) hb); have n1_ := Aside0.mk (Kd.R_below (by (with_reducible repeat (first | apply Kd.R_alloc | apply Kd.R_drewN | apply Kd.R_drew)); exact HO_13.out) hb); have n2_ := Aside0.mk (below_step (by repeat (first | (with_reducible first | exact HB.out | apply below_alloc | apply pw_below_drewN | apply below_drew1) | exact HB.out)) hb); clear HO_10; clear HO_13; clear HB; have HO_10 := n0_; have HO_13 := n1_; have HB := n2_; clear n0_ n1_ n2_; (try clear hb); (try clear hb2); (try clear hk); (try clear hi)))
                  repeat (go_quiet (first | (go_at_call 14; (with_reducible refine (cps_Right.calls k1 _ _ t166 t176 _ ?side1 ?side2 A48.out).mono ?_); (case side1 => repeat (first | exact (Kd.R_reads' HO_10.out).2.2 | (with_reducible refine Kd.C_alloc ?_ _) | (with_reducible refine Kd.C_drewN ?_ _) | (with_reducible refine Kd.C_drew ?_))); (case side2 => exact (Kd.R_reads' HO_10.out).2.1); rintro e w50 ⟨rfl, hb⟩; have n0_ := Aside0.mk (Kd.R_below (by (with_reducible repeat (first | apply Kd.R_alloc | apply Kd.R_drewN | apply Kd.R_drew)); exact HO_10.out) hb); have n1_ := Aside0.mk (Kd.R_below (by (with_reducible repeat (first | apply Kd.R_alloc | apply Kd.R_drewN | apply Kd.R_drew)); exact HO_13.out) hb); have n2_ := Aside0.mk (below_step (by repeat (first | (with_reducible first | exact HB.out | apply below_alloc | apply pw_below_drewN | apply below_drew1) | exact HB.out)) hb); clear HO_10; clear HO_13; clear HB; have HO_10 := n0_; have HO_13 := n1_; have HB := n2_; clear n0_ n1_ n2_; (try clear hb); (try clear hb2); (try clear hk); (try clear hi))); try go_wp2_with (first | (go_at_call 14; (with_reducible refine (cps_Right.calls k1 _ _ t166 t176 _ ?side1 ?side2 A48.out).mono ?_); (case side1 => repeat (first | exact (Kd.R_reads' HO_10.out).2.2 | (with_reducible refine Kd.C_alloc ?_ _) | (with_reducible refine Kd.C_drewN ?_ _) | (with_reducible refine Kd.C_drew ?_))); (case side2 => exact (Kd.R_reads' HO_10.out).2.1); rintro e w50 ⟨rfl, hb⟩; have n0_ := Aside0.mk (Kd.R_below (by (with_reducible repeat (first | apply Kd.R_alloc | apply Kd.R_drewN | apply Kd.R_drew)); exact HO_10.out) hb); have n1_ := Aside0.mk (Kd.R_below (by (with_reducible repeat (first | apply Kd.R_alloc | apply Kd.R_drewN | apply Kd.R_drew)); exact HO_13.out) hb); have n2_ := Aside0.mk (below_step (by repeat (first | (with_reducible first | exact HB.out | apply below_alloc | apply pw_below_drewN | apply below_drew1) | exact HB.out)) hb); clear HO_10; clear HO_13; clear HB; have HO_10 := n0_; have HO_13 := n1_; have HB := n2_; clear n0_ n1_ n2_; (try clear hb); (try clear hb2); (try clear hk); (try clear hi))))
                  go_ret
                  exact ⟨by first | rfl | (simp [errW_none, errW_some] <;> rfl) | (simp [*, errW_none, errW_some] <;> rfl) | (simp [show IntKind.u64.wrap 0 = 0 from rfl, Int.zero_tdiv]; done), by repeat (first | (with_reducible first | exact HB.out | apply below_alloc | apply pw_below_drewN | apply below_drew1) | exact HB.out)⟩
                · rw [if_neg c47] at H
                  have c47b0 : ((wrap64 ((t166.length : Int) + t167)) == (y162.length : Int)) = false := beq_eq_false_iff_ne.mpr c47
                  have c47b1 : ((wrap64 ((t166.length : Int) + t167)) != (y162.length : Int)) = true := bne_iff_ne.mpr c47
                  obtain rfl := Option.some.inj H
                  obtain ⟨Ao51, co51, eo51⟩ := Kd.R_slice HO_10.out
                  subst eo51
                  go_wp2
                  repeat (go_quiet (fail); try go_wp2)
                  go_ret
                  exact ⟨by first | rfl | (simp [errW_none, errW_some] <;> rfl) | (simp [*, errW_none, errW_some] <;> rfl) | (simp [show IntKind.u64.wrap 0 = 0 from rfl, Int.zero_tdiv]; done), by repeat (first | (with_reducible first | exact HB.out | apply below_alloc | apply pw_below_drewN | apply below_drew1) | exact HB.out)⟩
              · replace c46 := Bool.eq_false_iff.mpr c46
                subst c46
                have H1 : (some false) = some r := by rw [if_neg (show ¬ (false = true) by decide)] at H; exact H
                clear H
                have H := H1
                clear H1
                obtain rfl := Option.some.inj H
                go_wp2
                repeat (go_quiet (fail); try go_wp2)
                go_ret
                exact ⟨by first | rfl | (simp [errW_none, errW_some] <;> rfl) | (simp [*, errW_none, errW_some] <;> rfl) | (simp [show IntKind.u64.wrap 0 = 0 from rfl, Int.zero_tdiv]; done), by repeat (first | (with_reducible first | exact HB.out | apply below_alloc | apply pw_below_drewN | apply below_drew1) | exact HB.out)⟩
      · rw [if_neg c9] at H
        have c9b0 : (t168 == 0) = false := beq_eq_false_iff_ne.mpr c9
        have c9b1 : (t168 != 0) = true := bne_iff_ne.mpr c9
        by_cases c52 : t161 = true
        · subst c52
          have H1 : ((cps_Right.f k y162).bind fun t171 => (some (!t171))) = some r := by rw [if_pos rfl] at H; exact H
          clear H
          have H := H1
          clear H1
          replace H := Option.bind_eq_some_iff.mp H
          obtain ⟨t171, A530, H⟩ := H
          replace H : (some (!t171)) = some r := H
          have A53 := Aside0.mk A530
          clear A530
          obtain rfl := Option.some.inj H
          go_enter Try.func3, Try.ntmps3
          go_wp2_with (first | (go_at_call 11; (with_reducible refine (nautiluslaw09_shown.calls k  true _ A5.out).mono ?_); rintro e w54 ⟨rfl, hb⟩; have n0_ := Aside0.mk (below_step (by repeat (first | (with_reducible first | exact HB.out | apply below_alloc | apply pw_below_drewN | apply below_drew1) | exact HB.out)) hb); clear HB; have HB := n0_; clear n0_; (try clear hb); (try clear hb2); (try clear hk); (try clear hi); have q55 : ((mn (l0.length : Int) 200) : Int) ≤ ((l0.length : Int) : Int) := of_decide_eq_true (by first | (with_reducible assumption) | assumption); obtain ⟨i055, hi055, _, hsz55, _⟩ := info_parts info33; have hroom55 : l0.length ≤ c0 := HC0.out; have hC55 : Kd.C k33 _ A0 l0.length l0 := HR0.out; have hcut55 := cut_to (P := Try.prog) 22 33 .i64 Try.underlying22 hi055 A0 l0.length c0 (mn (l0.length : Int) 200) (of_decide_eq_true (by first | (with_reducible assumption) | assumption)) q55 hroom55; have hr55 := Kd.C_take (m := ((mn (l0.length : Int) 200) : Int).toNat) hC55 (by omega); have hy55 : y162.length = ((mn (l0.length : Int) 200) : Int).toNat := (by rw [Ny162.out, List.length_take]; omega); rw [← Ny162.out] at hr55; rw [← hy55] at hcut55; have HR165 := Aside0.mk hr55; have HC165 := Aside0.mk (show y162.length ≤ c0 from by omega); clear hr55 hC55 hroom55 hi055 hsz55; have KY55 := Aside0.mk hy55; clear hy55; clear hcut55; replace q55 := eq_true q55) | ((with_reducible refine gate_callee (f := 12) rfl ?_); refine goesL_ (some 22) rfl rfl Try.func12 (by kernel_rfl) rfl #[.slice A0 l0.length c0] rfl (by (try simp only [List.map_toArray, List.map_cons, List.map_nil]); first | done | rfl | (simp only [List.length_drop, List.length_take]; rfl)) ?_; (refine (nautiluslaw09_cut.calls A0 l0.length c0 y162.length _ ?side1 ?side2 ?side3).mono ?_); (case side1 => exact Kd.C_max HR0.out); (case side2 => exact HC0.out); (case side3 => exact KY55.out); rintro e w' ⟨rfl, rfl⟩; refine ⟨_, rfl, ?_⟩) | (go_at_call 13; (with_reducible refine (cps_Expire.calls _ _ y162 a2 a3 t166 t167 t168 _ ?side1 ?side2 A8.out).mono ?_); (case side1 => repeat (first | exact (Kd.C_below HR165.out HB.out) | (with_reducible refine Kd.C_alloc ?_ _) | (with_reducible refine Kd.C_drewN ?_ _) | (with_reducible refine Kd.C_drew ?_))); (case side2 => exact HC165.out); rintro e w56 ⟨v169, rfl, ho0, hb⟩; have n0_ := Aside0.mk (Kd.R_lower ho0 (below_size (by repeat (first | (with_reducible first | exact HB.out | apply below_alloc | apply pw_below_drewN | apply below_drew1) | exact HB.out)))); have n1_ := Aside0.mk (below_step (by repeat (first | (with_reducible first | exact HB.out | apply below_alloc | apply pw_below_drewN | apply below_drew1) | exact HB.out)) hb); clear HB; have HO170 := n0_; have HB := n1_; clear n0_ n1_; (try clear hb); (try clear hb2); (try clear hk); (try clear hi); (try clear ho0)) | (go_at_call 14; (with_reducible refine (cps_Right.calls k _ _ y162 t171 _ ?side1 ?side2 A53.out).mono ?_); (case side1 => repeat (first | exact (Kd.C_below HR165.out HB.out) | (with_reducible refine Kd.C_alloc ?_ _) | (with_reducible refine Kd.C_drewN ?_ _) | (with_reducible refine Kd.C_drew ?_))); (case side2 => exact HC165.out); rintro e w57 ⟨rfl, hb⟩; have n0_ := Aside0.mk (Kd.R_below (by (with_reducible repeat (first | apply Kd.R_alloc | apply Kd.R_drewN | apply Kd.R_drew)); exact HO170.out) hb); have n1_ := Aside0.mk (below_step (by repeat (first | (with_reducible first | exact HB.out | apply below_alloc | apply pw_below_drewN | apply below_drew1) | exact HB.out)) hb); clear HO170; clear HB; have HO170 := n0_; have HB := n1_; clear n0_ n1_; (try clear hb); (try clear hb2); (try clear hk); (try clear hi)))
          repeat (go_quiet (first | (go_at_call 11; (with_reducible refine (nautiluslaw09_shown.calls k  true _ A5.out).mono ?_); rintro e w54 ⟨rfl, hb⟩; have n0_ := Aside0.mk (below_step (by repeat (first | (with_reducible first | exact HB.out | apply below_alloc | apply pw_below_drewN | apply below_drew1) | exact HB.out)) hb); clear HB; have HB := n0_; clear n0_; (try clear hb); (try clear hb2); (try clear hk); (try clear hi); have q55 : ((mn (l0.length : Int) 200) : Int) ≤ ((l0.length : Int) : Int) := of_decide_eq_true (by first | (with_reducible assumption) | assumption); obtain ⟨i055, hi055, _, hsz55, _⟩ := info_parts info33; have hroom55 : l0.length ≤ c0 := HC0.out; have hC55 : Kd.C k33 _ A0 l0.length l0 := HR0.out; have hcut55 := cut_to (P := Try.prog) 22 33 .i64 Try.underlying22 hi055 A0 l0.length c0 (mn (l0.length : Int) 200) (of_decide_eq_true (by first | (with_reducible assumption) | assumption)) q55 hroom55; have hr55 := Kd.C_take (m := ((mn (l0.length : Int) 200) : Int).toNat) hC55 (by omega); have hy55 : y162.length = ((mn (l0.length : Int) 200) : Int).toNat := (by rw [Ny162.out, List.length_take]; omega); rw [← Ny162.out] at hr55; rw [← hy55] at hcut55; have HR165 := Aside0.mk hr55; have HC165 := Aside0.mk (show y162.length ≤ c0 from by omega); clear hr55 hC55 hroom55 hi055 hsz55; have KY55 := Aside0.mk hy55; clear hy55; clear hcut55; replace q55 := eq_true q55) | ((with_reducible refine gate_callee (f := 12) rfl ?_); refine goesL_ (some 22) rfl rfl Try.func12 (by kernel_rfl) rfl #[.slice A0 l0.length c0] rfl (by (try simp only [List.map_toArray, List.map_cons, List.map_nil]); first | done | rfl | (simp only [List.length_drop, List.length_take]; rfl)) ?_; (refine (nautiluslaw09_cut.calls A0 l0.length c0 y162.length _ ?side1 ?side2 ?side3).mono ?_); (case side1 => exact Kd.C_max HR0.out); (case side2 => exact HC0.out); (case side3 => exact KY55.out); rintro e w' ⟨rfl, rfl⟩; refine ⟨_, rfl, ?_⟩) | (go_at_call 13; (with_reducible refine (cps_Expire.calls _ _ y162 a2 a3 t166 t167 t168 _ ?side1 ?side2 A8.out).mono ?_); (case side1 => repeat (first | exact (Kd.C_below HR165.out HB.out) | (with_reducible refine Kd.C_alloc ?_ _) | (with_reducible refine Kd.C_drewN ?_ _) | (with_reducible refine Kd.C_drew ?_))); (case side2 => exact HC165.out); rintro e w56 ⟨v169, rfl, ho0, hb⟩; have n0_ := Aside0.mk (Kd.R_lower ho0 (below_size (by repeat (first | (with_reducible first | exact HB.out | apply below_alloc | apply pw_below_drewN | apply below_drew1) | exact HB.out)))); have n1_ := Aside0.mk (below_step (by repeat (first | (with_reducible first | exact HB.out | apply below_alloc | apply pw_below_drewN | apply below_drew1) | exact HB.out)) hb); clear HB; have HO170 := n0_; have HB := n1_; clear n0_ n1_; (try clear hb); (try clear hb2); (try clear hk); (try clear hi); (try clear ho0)) | (go_at_call 14; (with_reducible refine (cps_Right.calls k _ _ y162 t171 _ ?side1 ?side2 A53.out).mono ?_); (case side1 => repeat (first | exact (Kd.C_below HR165.out HB.out) | (with_reducible refine Kd.C_alloc ?_ _) | (with_reducible refine Kd.C_drewN ?_ _) | (with_reducible refine Kd.C_drew ?_))); (case side2 => exact HC165.out); rintro e w57 ⟨rfl, hb⟩; have n0_ := Aside0.mk (Kd.R_below (by (with_reducible repeat (first | apply Kd.R_alloc | apply Kd.R_drewN | apply Kd.R_drew)); exact HO170.out) hb); have n1_ := Aside0.mk (below_step (by repeat (first | (with_reducible first | exact HB.out | apply below_alloc | apply pw_below_drewN | apply below_drew1) | exact HB.out)) hb); clear HO170; clear HB; have HO170 := n0_; have HB := n1_; clear n0_ n1_; (try clear hb); (try clear hb2); (try clear hk); (try clear hi))); try go_wp2_with (first | (go_at_call 11; (with_reducible refine (nautiluslaw09_shown.calls k  true _ A5.out).mono ?_); rintro e w54 ⟨rfl, hb⟩; have n0_ := Aside0.mk (below_step (by repeat (first | (with_reducible first | exact HB.out | apply below_alloc | apply pw_below_drewN | apply below_drew1) | exact HB.out)) hb); clear HB; have HB := n0_; clear n0_; (try clear hb); (try clear hb2); (try clear hk); (try clear hi); have q55 : ((mn (l0.length : Int) 200) : Int) ≤ ((l0.length : Int) : Int) := of_decide_eq_true (by first | (with_reducible assumption) | assumption); obtain ⟨i055, hi055, _, hsz55, _⟩ := info_parts info33; have hroom55 : l0.length ≤ c0 := HC0.out; have hC55 : Kd.C k33 _ A0 l0.length l0 := HR0.out; have hcut55 := cut_to (P := Try.prog) 22 33 .i64 Try.underlying22 hi055 A0 l0.length c0 (mn (l0.length : Int) 200) (of_decide_eq_true (by first | (with_reducible assumption) | assumption)) q55 hroom55; have hr55 := Kd.C_take (m := ((mn (l0.length : Int) 200) : Int).toNat) hC55 (by omega); have hy55 : y162.length = ((mn (l0.length : Int) 200) : Int).toNat := (by rw [Ny162.out, List.length_take]; omega); rw [← Ny162.out] at hr55; rw [← hy55] at hcut55; have HR165 := Aside0.mk hr55; have HC165 := Aside0.mk (show y162.length ≤ c0 from by omega); clear hr55 hC55 hroom55 hi055 hsz55; have KY55 := Aside0.mk hy55; clear hy55; clear hcut55; replace q55 := eq_true q55) | ((with_reducible refine gate_callee (f := 12) rfl ?_); refine goesL_ (some 22) rfl rfl Try.func12 (by kernel_rfl) rfl #[.slice A0 l0.length c0] rfl (by (try simp only [List.map_toArray, List.map_cons, List.map_nil]); first | done | rfl | (simp only [List.length_drop, List.length_take]; rfl)) ?_; (refine (nautiluslaw09_cut.calls A0 l0.length c0 y162.length _ ?side1 ?side2 ?side3).mono ?_); (case side1 => exact Kd.C_max HR0.out); (case side2 => exact HC0.out); (case side3 => exact KY55.out); rintro e w' ⟨rfl, rfl⟩; refine ⟨_, rfl, ?_⟩) | (go_at_call 13; (with_reducible refine (cps_Expire.calls _ _ y162 a2 a3 t166 t167 t168 _ ?side1 ?side2 A8.out).mono ?_); (case side1 => repeat (first | exact (Kd.C_below HR165.out HB.out) | (with_reducible refine Kd.C_alloc ?_ _) | (with_reducible refine Kd.C_drewN ?_ _) | (with_reducible refine Kd.C_drew ?_))); (case side2 => exact HC165.out); rintro e w56 ⟨v169, rfl, ho0, hb⟩; have n0_ := Aside0.mk (Kd.R_lower ho0 (below_size (by repeat (first | (with_reducible first | exact HB.out | apply below_alloc | apply pw_below_drewN | apply below_drew1) | exact HB.out)))); have n1_ := Aside0.mk (below_step (by repeat (first | (with_reducible first | exact HB.out | apply below_alloc | apply pw_below_drewN | apply below_drew1) | exact HB.out)) hb); clear HB; have HO170 := n0_; have HB := n1_; clear n0_ n1_; (try clear hb); (try clear hb2); (try clear hk); (try clear hi); (try clear ho0)) | (go_at_call 14; (with_reducible refine (cps_Right.calls k _ _ y162 t171 _ ?side1 ?side2 A53.out).mono ?_); (case side1 => repeat (first | exact (Kd.C_below HR165.out HB.out) | (with_reducible refine Kd.C_alloc ?_ _) | (with_reducible refine Kd.C_drewN ?_ _) | (with_reducible refine Kd.C_drew ?_))); (case side2 => exact HC165.out); rintro e w57 ⟨rfl, hb⟩; have n0_ := Aside0.mk (Kd.R_below (by (with_reducible repeat (first | apply Kd.R_alloc | apply Kd.R_drewN | apply Kd.R_drew)); exact HO170.out) hb); have n1_ := Aside0.mk (below_step (by repeat (first | (with_reducible first | exact HB.out | apply below_alloc | apply pw_below_drewN | apply below_drew1) | exact HB.out)) hb); clear HO170; clear HB; have HO170 := n0_; have HB := n1_; clear n0_ n1_; (try clear hb); (try clear hb2); (try clear hk); (try clear hi))))
          go_ret
          exact ⟨by first | rfl | (simp [errW_none, errW_some] <;> rfl) | (simp [*, errW_none, errW_some] <;> rfl) | (simp [show IntKind.u64.wrap 0 = 0 from rfl, Int.zero_tdiv]; done), by repeat (first | (with_reducible first | exact HB.out | apply below_alloc | apply pw_below_drewN | apply below_drew1) | exact HB.out)⟩
        · replace c52 := Bool.eq_false_iff.mpr c52
          subst c52
          have H1 : (some false) = some r := by rw [if_neg (show ¬ (false = true) by decide)] at H; exact H
          clear H
          have H := H1
          clear H1
          obtain rfl := Option.some.inj H
          go_enter Try.func3, Try.ntmps3
          go_wp2_with (first | (go_at_call 11; (with_reducible refine (nautiluslaw09_shown.calls k  false _ A5.out).mono ?_); rintro e w58 ⟨rfl, hb⟩; have n0_ := Aside0.mk (below_step (by repeat (first | (with_reducible first | exact HB.out | apply below_alloc | apply pw_below_drewN | apply below_drew1) | exact HB.out)) hb); clear HB; have HB := n0_; clear n0_; (try clear hb); (try clear hb2); (try clear hk); (try clear hi); have q59 : ((mn (l0.length : Int) 200) : Int) ≤ ((l0.length : Int) : Int) := of_decide_eq_true (by first | (with_reducible assumption) | assumption); obtain ⟨i059, hi059, _, hsz59, _⟩ := info_parts info33; have hroom59 : l0.length ≤ c0 := HC0.out; have hC59 : Kd.C k33 _ A0 l0.length l0 := HR0.out; have hcut59 := cut_to (P := Try.prog) 22 33 .i64 Try.underlying22 hi059 A0 l0.length c0 (mn (l0.length : Int) 200) (of_decide_eq_true (by first | (with_reducible assumption) | assumption)) q59 hroom59; have hr59 := Kd.C_take (m := ((mn (l0.length : Int) 200) : Int).toNat) hC59 (by omega); have hy59 : y162.length = ((mn (l0.length : Int) 200) : Int).toNat := (by rw [Ny162.out, List.length_take]; omega); rw [← Ny162.out] at hr59; rw [← hy59] at hcut59; have HR165 := Aside0.mk hr59; have HC165 := Aside0.mk (show y162.length ≤ c0 from by omega); clear hr59 hC59 hroom59 hi059 hsz59; have KY59 := Aside0.mk hy59; clear hy59; clear hcut59; replace q59 := eq_true q59) | ((with_reducible refine gate_callee (f := 12) rfl ?_); refine goesL_ (some 22) rfl rfl Try.func12 (by kernel_rfl) rfl #[.slice A0 l0.length c0] rfl (by (try simp only [List.map_toArray, List.map_cons, List.map_nil]); first | done | rfl | (simp only [List.length_drop, List.length_take]; rfl)) ?_; (refine (nautiluslaw09_cut.calls A0 l0.length c0 y162.length _ ?side1 ?side2 ?side3).mono ?_); (case side1 => exact Kd.C_max HR0.out); (case side2 => exact HC0.out); (case side3 => exact KY59.out); rintro e w' ⟨rfl, rfl⟩; refine ⟨_, rfl, ?_⟩) | (go_at_call 13; (with_reducible refine (cps_Expire.calls _ _ y162 a2 a3 t166 t167 t168 _ ?side1 ?side2 A8.out).mono ?_); (case side1 => repeat (first | exact (Kd.C_below HR165.out HB.out) | (with_reducible refine Kd.C_alloc ?_ _) | (with_reducible refine Kd.C_drewN ?_ _) | (with_reducible refine Kd.C_drew ?_))); (case side2 => exact HC165.out); rintro e w60 ⟨v169, rfl, ho0, hb⟩; have n0_ := Aside0.mk (Kd.R_lower ho0 (below_size (by repeat (first | (with_reducible first | exact HB.out | apply below_alloc | apply pw_below_drewN | apply below_drew1) | exact HB.out)))); have n1_ := Aside0.mk (below_step (by repeat (first | (with_reducible first | exact HB.out | apply below_alloc | apply pw_below_drewN | apply below_drew1) | exact HB.out)) hb); clear HB; have HO170 := n0_; have HB := n1_; clear n0_ n1_; (try clear hb); (try clear hb2); (try clear hk); (try clear hi); (try clear ho0)))
          repeat (go_quiet (first | (go_at_call 11; (with_reducible refine (nautiluslaw09_shown.calls k  false _ A5.out).mono ?_); rintro e w58 ⟨rfl, hb⟩; have n0_ := Aside0.mk (below_step (by repeat (first | (with_reducible first | exact HB.out | apply below_alloc | apply pw_below_drewN | apply below_drew1) | exact HB.out)) hb); clear HB; have HB := n0_; clear n0_; (try clear hb); (try clear hb2); (try clear hk); (try clear hi); have q59 : ((mn (l0.length : Int) 200) : Int) ≤ ((l0.length : Int) : Int) := of_decide_eq_true (by first | (with_reducible assumption) | assumption); obtain ⟨i059, hi059, _, hsz59, _⟩ := info_parts info33; have hroom59 : l0.length ≤ c0 := HC0.out; have hC59 : Kd.C k33 _ A0 l0.length l0 := HR0.out; have hcut59 := cut_to (P := Try.prog) 22 33 .i64 Try.underlying22 hi059 A0 l0.length c0 (mn (l0.length : Int) 200) (of_decide_eq_true (by first | (with_reducible assumption) | assumption)) q59 hroom59; have hr59 := Kd.C_take (m := ((mn (l0.length : Int) 200) : Int).toNat) hC59 (by omega); have hy59 : y162.length = ((mn (l0.length : Int) 200) : Int).toNat := (by rw [Ny162.out, List.length_take]; omega); rw [← Ny162.out] at hr59; rw [← hy59] at hcut59; have HR165 := Aside0.mk hr59; have HC165 := Aside0.mk (show y162.length ≤ c0 from by omega); clear hr59 hC59 hroom59 hi059 hsz59; have KY59 := Aside0.mk hy59; clear hy59; clear hcut59; replace q59 := eq_true q59) | ((with_reducible refine gate_callee (f := 12) rfl ?_); refine goesL_ (some 22) rfl rfl Try.func12 (by kernel_rfl) rfl #[.slice A0 l0.length c0] rfl (by (try simp only [List.map_toArray, List.map_cons, List.map_nil]); first | done | rfl | (simp only [List.length_drop, List.length_take]; rfl)) ?_; (refine (nautiluslaw09_cut.calls A0 l0.length c0 y162.length _ ?side1 ?side2 ?side3).mono ?_); (case side1 => exact Kd.C_max HR0.out); (case side2 => exact HC0.out); (case side3 => exact KY59.out); rintro e w' ⟨rfl, rfl⟩; refine ⟨_, rfl, ?_⟩) | (go_at_call 13; (with_reducible refine (cps_Expire.calls _ _ y162 a2 a3 t166 t167 t168 _ ?side1 ?side2 A8.out).mono ?_); (case side1 => repeat (first | exact (Kd.C_below HR165.out HB.out) | (with_reducible refine Kd.C_alloc ?_ _) | (with_reducible refine Kd.C_drewN ?_ _) | (with_reducible refine Kd.C_drew ?_))); (case side2 => exact HC165.out); rintro e w60 ⟨v169, rfl, ho0, hb⟩; have n0_ := Aside0.mk (Kd.R_lower ho0 (below_size (by repeat (first | (with_reducible first | exact HB.out | apply below_alloc | apply pw_below_drewN | apply below_drew1) | exact HB.out)))); have n1_ := Aside0.mk (below_step (by repeat (first | (with_reducible first | exact HB.out | apply below_alloc | apply pw_below_drewN | apply below_drew1) | exact HB.out)) hb); clear HB; have HO170 := n0_; have HB := n1_; clear n0_ n1_; (try clear hb); (try clear hb2); (try clear hk); (try clear hi); (try clear ho0))); try go_wp2_with (first | (go_at_call 11; (with_reducible refine (nautiluslaw09_shown.calls k  false _ A5.out).mono ?_); rintro e w58 ⟨rfl, hb⟩; have n0_ := Aside0.mk (below_step (by repeat (first | (with_reducible first | exact HB.out | apply below_alloc | apply pw_below_drewN | apply below_drew1) | exact HB.out)) hb); clear HB; have HB := n0_; clear n0_; (try clear hb); (try clear hb2); (try clear hk); (try clear hi); have q59 : ((mn (l0.length : Int) 200) : Int) ≤ ((l0.length : Int) : Int) := of_decide_eq_true (by first | (with_reducible assumption) | assumption); obtain ⟨i059, hi059, _, hsz59, _⟩ := info_parts info33; have hroom59 : l0.length ≤ c0 := HC0.out; have hC59 : Kd.C k33 _ A0 l0.length l0 := HR0.out; have hcut59 := cut_to (P := Try.prog) 22 33 .i64 Try.underlying22 hi059 A0 l0.length c0 (mn (l0.length : Int) 200) (of_decide_eq_true (by first | (with_reducible assumption) | assumption)) q59 hroom59; have hr59 := Kd.C_take (m := ((mn (l0.length : Int) 200) : Int).toNat) hC59 (by omega); have hy59 : y162.length = ((mn (l0.length : Int) 200) : Int).toNat := (by rw [Ny162.out, List.length_take]; omega); rw [← Ny162.out] at hr59; rw [← hy59] at hcut59; have HR165 := Aside0.mk hr59; have HC165 := Aside0.mk (show y162.length ≤ c0 from by omega); clear hr59 hC59 hroom59 hi059 hsz59; have KY59 := Aside0.mk hy59; clear hy59; clear hcut59; replace q59 := eq_true q59) | ((with_reducible refine gate_callee (f := 12) rfl ?_); refine goesL_ (some 22) rfl rfl Try.func12 (by kernel_rfl) rfl #[.slice A0 l0.length c0] rfl (by (try simp only [List.map_toArray, List.map_cons, List.map_nil]); first | done | rfl | (simp only [List.length_drop, List.length_take]; rfl)) ?_; (refine (nautiluslaw09_cut.calls A0 l0.length c0 y162.length _ ?side1 ?side2 ?side3).mono ?_); (case side1 => exact Kd.C_max HR0.out); (case side2 => exact HC0.out); (case side3 => exact KY59.out); rintro e w' ⟨rfl, rfl⟩; refine ⟨_, rfl, ?_⟩) | (go_at_call 13; (with_reducible refine (cps_Expire.calls _ _ y162 a2 a3 t166 t167 t168 _ ?side1 ?side2 A8.out).mono ?_); (case side1 => repeat (first | exact (Kd.C_below HR165.out HB.out) | (with_reducible refine Kd.C_alloc ?_ _) | (with_reducible refine Kd.C_drewN ?_ _) | (with_reducible refine Kd.C_drew ?_))); (case side2 => exact HC165.out); rintro e w60 ⟨v169, rfl, ho0, hb⟩; have n0_ := Aside0.mk (Kd.R_lower ho0 (below_size (by repeat (first | (with_reducible first | exact HB.out | apply below_alloc | apply pw_below_drewN | apply below_drew1) | exact HB.out)))); have n1_ := Aside0.mk (below_step (by repeat (first | (with_reducible first | exact HB.out | apply below_alloc | apply pw_below_drewN | apply below_drew1) | exact HB.out)) hb); clear HB; have HO170 := n0_; have HB := n1_; clear n0_ n1_; (try clear hb); (try clear hb2); (try clear hk); (try clear hi); (try clear ho0))))
          go_ret
          exact ⟨by first | rfl | (simp [errW_none, errW_some] <;> rfl) | (simp [*, errW_none, errW_some] <;> rfl) | (simp [show IntKind.u64.wrap 0 = 0 from rfl, Int.zero_tdiv]; done), by repeat (first | (with_reducible first | exact HB.out | apply below_alloc | apply pw_below_drewN | apply below_drew1) | exact HB.out)⟩
    · rw [if_neg c7] at H
      exact absurd H (by simp)
  · rw [if_neg c6] at H
    exact absurd H (by simp)

/-- THE ONE PURE STATEMENT of nautiluslaw09_CpsStays: yours. -/
def nautiluslaw09_CpsStays.Pure : Prop := ∀ (l0 : List (S33)) (a1 : Int) (a2 : Int) (a3 : Int), l0.length ≤ maxLen → (∀ x ∈ l0, (Lit.int .u64 x.f0).wf = true ∧ (Lit.int .u64 x.f1).wf = true ∧ x.f3.size ≤ maxLen) → (Lit.int .u64 a1).wf = true → (Lit.int .u64 a2).wf = true → (Lit.int .u64 a3).wf = true → ∃ k, nautiluslaw09_CpsStays.f k l0 a1 a2 a3 = some true
theorem nautiluslaw09_CpsStays.walk (P : nautiluslaw09_CpsStays.Pure) (a0 : Option Addr) (len0 cap0 : Nat) (z0 : List (S33)) (a1 : Int) (a2 : Int) (a3 : Int) (w : World) (w0 : z0.length = len0 ∧ len0 ≤ cap0 ∧ len0 ≤ maxLen ∧ Kd.C k33 w a0 len0 z0 ∧ ∀ x ∈ z0, (Lit.int .u64 x.f0).wf = true ∧ (Lit.int .u64 x.f1).wf = true ∧ x.f3.size ≤ maxLen) (w1 : (Lit.int .u64 a1).wf = true) (w2 : (Lit.int .u64 a2).wf = true) (w3 : (Lit.int .u64 a3).wf = true) :
    Calls Try.prog 3 #[.slice a0 len0 cap0, .int .u64 a1, .int .u64 a2, .int .u64 a3] w fun e w' => e = .returned (.bool true) ∧ Below w.heap.size w w' := by
  obtain ⟨hl0, hc0, hm0, hC0, hw0⟩ := w0
  subst hl0
  obtain ⟨k, h⟩ := P z0 a1 a2 a3 hm0 hw0 w1 w2 w3
  refine (nautiluslaw09_CpsStays.calls k _ _ z0 a1 a2 a3 true w hC0 hc0 h).mono ?_
  rintro e w' ⟨rfl, hd⟩
  exact ⟨rfl, hd⟩

end Go.Proofs.Ytllcmalgahnnhaa.Q
