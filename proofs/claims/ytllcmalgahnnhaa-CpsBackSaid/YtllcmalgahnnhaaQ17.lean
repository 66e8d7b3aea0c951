/- Functions of the translation as plain Lean functions, and that the translation computes them: printed by this session's driver of the print. -/
import Derived.Test.YtllcmalgahnnhaaQ0
import Derived.Test.YtllcmalgahnnhaaQ2
import Derived.Test.YtllcmalgahnnhaaQ9
import Derived.Test.YtllcmalgahnnhaaQ11
import Derived.Test.YtllcmalgahnnhaaHCut
import Derived.Test.YtllcmalgahnnhaaHDecT
import Derived.Test.YtllcmalgahnnhaaHEncC
namespace Go.Proofs.Ytllcmalgahnnhaa.Q
open Go.Proofs.Ytllcmalgahnnhaa.H
open Go.RowKit Go.Proofs.YtllcmalgahnnhaaW.PrintWords Go.Proofs.YtllcmalgahnnhaaW.PrintLast Go.Proofs.YtllcmalgahnnhaaW.PrintMore
attribute [local go_sem] max2_int min2_int max_two min_two max_three min_three max_four min_four   -- for this text's walks alone
set_option linter.unusedVariables false
set_option linter.unusedSimpArgs false

/-! ### nautiluslaw09_CpsBack: function 10 -/
def nautiluslaw09_CpsBack.j0 : Nat → List (S33) → List ByteArray → Bool → Int → Int → List ByteArray → Int → Bool → Option (Bool)
  | 0, _, _, _, _, _, _, _, _ => none
  | k + 1, x0, x1, x5, x7, x11, x12, x13, x53 => if x53 = true then (some false) else (if x5 = true then ((cps_Right.f k x0).bind fun t309 => (if ((x7 == 0) == t309) = true then (if x11 = 0 then (if x13 = 0 then ((nautilusref09_SameTexts.f k x12 x1).bind fun t310 => (some t310)) else (some false)) else (some true)) else (some false))) else (some false))
def nautiluslaw09_CpsBack.f (k : Nat) (l0 : List (S33)) (l1 : List ByteArray) : Option (Bool) := (nautiluslaw09_shown.f k).bind fun t286 => (if 0 ≤ (mn (l0.length : Int) 200) then (if (mn (l0.length : Int) 200) ≤ (l0.length : Int) then ((some (l0.take (mn (l0.length : Int) 200 : Int).toNat : List (S33))).bind fun y287 => (if 0 ≤ (mn (l1.length : Int) 20) then (if (mn (l1.length : Int) 20) ≤ (l1.length : Int) then ((cps_Encode.f y287).bind fun bt292 => ((cps_Decode.f bt292.1).bind fun bt296 => ((cps_Decode.f (l1.take ((mn (l1.length : Int) 20) : Int).toNat)).bind fun bt300 => ((cps_Encode.f bt300.1).bind fun bt304 => (if bt292.2 = 0 then (if bt296.2 = 0 then ((nautilusref09_Same.f k bt296.1 y287).bind fun t308 => (nautiluslaw09_CpsBack.j0 k y287 (l1.take ((mn (l1.length : Int) 20) : Int).toNat) t286 bt292.2 bt300.2 bt304.1 bt304.2 (!t308))) else (nautiluslaw09_CpsBack.j0 k y287 (l1.take ((mn (l1.length : Int) 20) : Int).toNat) t286 bt292.2 bt300.2 bt304.1 bt304.2 true)) else (nautiluslaw09_CpsBack.j0 k y287 (l1.take ((mn (l1.length : Int) 20) : Int).toNat) t286 bt292.2 bt300.2 bt304.1 bt304.2 false)))))) else (none)) else (none))) else (none)) else (none))
theorem nautiluslaw09_CpsBack.mono_l : ∀ k, (∀ y0 y1 y2 y3 y4 y5 y6 y7, LeO (nautiluslaw09_CpsBack.j0 k y0 y1 y2 y3 y4 y5 y6 y7) (nautiluslaw09_CpsBack.j0 (k + 1) y0 y1 y2 y3 y4 y5 y6 y7))
  | 0 => fun _ _ _ _ _ _ _ _ r h => by simp [nautiluslaw09_CpsBack.j0] at h
  | k + 1 => by
    have ih0 := nautiluslaw09_CpsBack.mono_l k
    · intro y0 y1 y2 y3 y4 y5 y6 y7
      unfold nautiluslaw09_CpsBack.j0
      repeat' first
      | (with_reducible exact ih0 _ _ _ _ _ _ _ _)
      | (with_reducible exact cps_Right.mono _ _)
      | (with_reducible exact nautiluslaw09_shown.mono _)
      | (with_reducible exact nautilusref09_Same.mono _ _ _)
      | (with_reducible exact nautilusref09_SameTexts.mono _ _ _)
      | (with_reducible exact LeO.refl _)
      | (with_reducible exact LeO.none _)
      | (with_reducible refine LeO.ite ?_ ?_)
      | (with_reducible refine LeO.bind ?_ (fun _ => ?_))
      | exact ih0 _ _ _ _ _ _ _ _
      | exact cps_Right.mono _ _
      | exact nautiluslaw09_shown.mono _
      | exact nautilusref09_Same.mono _ _ _
      | exact nautilusref09_SameTexts.mono _ _ _
      | exact LeO.none _
      | refine LeO.ite ?_ ?_
      | refine LeO.bind ?_ (fun _ => ?_)
theorem nautiluslaw09_CpsBack.mono : ∀ a0 a1 k, LeO (nautiluslaw09_CpsBack.f k a0 a1) (nautiluslaw09_CpsBack.f (k + 1) a0 a1) := by
  intro a0 a1 k
  have ih0 := nautiluslaw09_CpsBack.mono_l k
  unfold nautiluslaw09_CpsBack.f
  repeat' first
      | (with_reducible exact ih0 _ _ _ _ _ _ _ _)
      | (with_reducible exact cps_Right.mono _ _)
      | (with_reducible exact nautiluslaw09_shown.mono _)
      | (with_reducible exact nautilusref09_Same.mono _ _ _)
      | (with_reducible exact nautilusref09_SameTexts.mono _ _ _)
      | (with_reducible exact LeO.refl _)
      | (with_reducible exact LeO.none _)
      | (with_reducible refine LeO.ite ?_ ?_)
      | (with_reducible refine LeO.bind ?_ (fun _ => ?_))
      | exact ih0 _ _ _ _ _ _ _ _
      | exact cps_Right.mono _ _
      | exact nautiluslaw09_shown.mono _
      | exact nautilusref09_Same.mono _ _ _
      | exact nautilusref09_SameTexts.mono _ _ _
      | exact LeO.none _
      | refine LeO.ite ?_ ?_
      | refine LeO.bind ?_ (fun _ => ?_)
set_option maxHeartbeats 8000000 in
set_option maxRecDepth 100000 in
theorem nautiluslaw09_CpsBack.calls (k : Nat) (A0 : Option Addr) (c0 : Nat) (l0 : List (S33)) (A1 : Option Addr) (c1 : Nat) (l1 : List ByteArray) (r : Bool) (w : World) (hr0 : Kd.C k33 w A0 l0.length l0) (hc0 : l0.length ≤ c0) (hr1 : Kd.C Kd.string w A1 l1.length l1) (hc1 : l1.length ≤ c1) (h : nautiluslaw09_CpsBack.f k l0 l1 = some r) :
    Calls Try.prog 10 #[.slice A0 l0.length c0, .slice A1 l1.length c1] w fun e w' => e = .returned (.bool r) ∧ Below w.heap.size w w' := by
  have HR0 := Aside0.mk hr0
  have HC0 := Aside0.mk hc0
  clear hr0 hc0
  have HR1 := Aside0.mk hr1
  have HC1 := Aside0.mk hc1
  clear hr1 hc1
  have HB := Aside0.mk (Below.refl w.heap.size w)
  have H : ((nautiluslaw09_shown.f k).bind fun t286 => (if 0 ≤ (mn (l0.length : Int) 200) then (if (mn (l0.length : Int) 200) ≤ (l0.length : Int) then ((some (l0.take (mn (l0.length : Int) 200 : Int).toNat : List (S33))).bind fun y287 => (if 0 ≤ (mn (l1.length : Int) 20) then (if (mn (l1.length : Int) 20) ≤ (l1.length : Int) then ((cps_Encode.f y287).bind fun bt292 => ((cps_Decode.f bt292.1).bind fun bt296 => ((cps_Decode.f (l1.take ((mn (l1.length : Int) 20) : Int).toNat)).bind fun bt300 => ((cps_Encode.f bt300.1).bind fun bt304 => (if bt292.2 = 0 then (if bt296.2 = 0 then ((nautilusref09_Same.f k bt296.1 y287).bind fun t308 => (nautiluslaw09_CpsBack.j0 k y287 (l1.take ((mn (l1.length : Int) 20) : Int).toNat) t286 bt292.2 bt300.2 bt304.1 bt304.2 (!t308))) else (nautiluslaw09_CpsBack.j0 k y287 (l1.take ((mn (l1.length : Int) 20) : Int).toNat) t286 bt292.2 bt300.2 bt304.1 bt304.2 true)) else (nautiluslaw09_CpsBack.j0 k y287 (l1.take ((mn (l1.length : Int) 20) : Int).toNat) t286 bt292.2 bt300.2 bt304.1 bt304.2 false)))))) else (none)) else (none))) else (none)) else (none))) = some r := h
  clear h
  replace H := Option.bind_eq_some_iff.mp H
  obtain ⟨t286, A30, H⟩ := H
  replace H : (if 0 ≤ (mn (l0.length : Int) 200) then (if (mn (l0.length : Int) 200) ≤ (l0.length : Int) then ((some (l0.take (mn (l0.length : Int) 200 : Int).toNat : List (S33))).bind fun y287 => (if 0 ≤ (mn (l1.length : Int) 20) then (if (mn (l1.length : Int) 20) ≤ (l1.length : Int) then ((cps_Encode.f y287).bind fun bt292 => ((cps_Decode.f bt292.1).bind fun bt296 => ((cps_Decode.f (l1.take ((mn (l1.length : Int) 20) : Int).toNat)).bind fun bt300 => ((cps_Encode.f bt300.1).bind fun bt304 => (if bt292.2 = 0 then (if bt296.2 = 0 then ((nautilusref09_Same.f k bt296.1 y287).bind fun t308 => (nautiluslaw09_CpsBack.j0 k y287 (l1.take ((mn (l1.length : Int) 20) : Int).toNat) t286 bt292.2 bt300.2 bt304.1 bt304.2 (!t308))) else (nautiluslaw09_CpsBack.j0 k y287 (l1.take ((mn (l1.length : Int) 20) : Int).toNat) t286 bt292.2 bt300.2 bt304.1 bt304.2 true)) else (nautiluslaw09_CpsBack.j0 k y287 (l1.take ((mn (l1.length : Int) 20) : Int).toNat) t286 bt292.2 bt300.2 bt304.1 bt304.2 false)))))) else (none)) else (none))) else (none)) else (none)) = some r := H
  have A3 := Aside0.mk A30
  clear A30
  by_cases c4 : 0 ≤ (mn (l0.length : Int) 200)
  · rw [if_pos c4] at H
    have c4b0 := eq_true c4
    have c4b1 : decide (0 ≤ (mn (l0.length : Int) 200)) = true := decide_eq_true c4
    clear c4
    by_cases c5 : (mn (l0.length : Int) 200) ≤ (l0.length : Int)
    · rw [if_pos c5] at H
      have c5b0 := eq_true c5
      have c5b1 : decide ((mn (l0.length : Int) 200) ≤ (l0.length : Int)) = true := decide_eq_true c5
      clear c5
      obtain ⟨y287, hy287⟩ : ∃ y_ : List (S33), y_ = (l0.take (mn (l0.length : Int) 200 : Int).toNat) := ⟨_, rfl⟩
      replace H : (if 0 ≤ (mn (l1.length : Int) 20) then (if (mn (l1.length : Int) 20) ≤ (l1.length : Int) then ((cps_Encode.f y287).bind fun bt292 => ((cps_Decode.f bt292.1).bind fun bt296 => ((cps_Decode.f (l1.take ((mn (l1.length : Int) 20) : Int).toNat)).bind fun bt300 => ((cps_Encode.f bt300.1).bind fun bt304 => (if bt292.2 = 0 then (if bt296.2 = 0 then ((nautilusref09_Same.f k bt296.1 y287).bind fun t308 => (nautiluslaw09_CpsBack.j0 k y287 (l1.take ((mn (l1.length : Int) 20) : Int).toNat) t286 bt292.2 bt300.2 bt304.1 bt304.2 (!t308))) else (nautiluslaw09_CpsBack.j0 k y287 (l1.take ((mn (l1.length : Int) 20) : Int).toNat) t286 bt292.2 bt300.2 bt304.1 bt304.2 true)) else (nautiluslaw09_CpsBack.j0 k y287 (l1.take ((mn (l1.length : Int) 20) : Int).toNat) t286 bt292.2 bt300.2 bt304.1 bt304.2 false)))))) else (none)) else (none)) = some r := by first | (rw [hy287]; with_reducible exact H) | (have H2_ := (Option.bind_some _ _).symm.trans H; rw [hy287]; with_reducible exact H2_) | (have H2_ := (Option.bind_some _ _).symm.trans H; with_reducible exact H2_) | with_reducible exact H | (rw [hy287]; exact H) | exact H
      have Ny287 := Aside0.mk hy287
      clear hy287
      obtain ⟨ji6, hji6⟩ : ∃ j_ : Int, (mn (l1.length : Int) 20) = j_ := ⟨_, rfl⟩
      replace H : (if 0 ≤ (ji6) then (if (ji6) ≤ (l1.length : Int) then ((cps_Encode.f y287).bind fun bt292 => ((cps_Decode.f bt292.1).bind fun bt296 => ((cps_Decode.f (l1.take ((ji6) : Int).toNat)).bind fun bt300 => ((cps_Encode.f bt300.1).bind fun bt304 => (if bt292.2 = 0 then (if bt296.2 = 0 then ((nautilusref09_Same.f k bt296.1 y287).bind fun t308 => (nautiluslaw09_CpsBack.j0 k y287 (l1.take ((ji6) : Int).toNat) t286 bt292.2 bt300.2 bt304.1 bt304.2 (!t308))) else (nautiluslaw09_CpsBack.j0 k y287 (l1.take ((ji6) : Int).toNat) t286 bt292.2 bt300.2 bt304.1 bt304.2 true)) else (nautiluslaw09_CpsBack.j0 k y287 (l1.take ((ji6) : Int).toNat) t286 bt292.2 bt300.2 bt304.1 bt304.2 false)))))) else (none)) else (none)) = some r := by first | (rw [hji6] at H; exact H) | (simp only [hji6] at H ⊢; exact H)
      (try rw [hji6] at A3)
      (try (have hji6h : ji6 ≤ 20 := by (rw [← hji6]; unfold mn; (repeat' split) <;> omega)))
      (try (have hji6g : ji6 ≤ 64 := by omega))
      (try (have hji6l : 0 ≤ ji6 := by (rw [← hji6]; unfold mn; (repeat' split) <;> omega)))
      (try (have hji6m : 0 ≤ ji6 := by omega))
      have hji6_ : (if 20 < (l1.length : Int) then 20 else (l1.length : Int)) = ji6 := hji6
      by_cases c7 : 0 ≤ (ji6)
      · rw [if_pos c7] at H
        have c7b0 := eq_true c7
        have c7b1 : decide (0 ≤ (ji6)) = true := decide_eq_true c7
        clear c7
        by_cases c8 : (ji6) ≤ (l1.length : Int)
        · rw [if_pos c8] at H
          have c8b0 := eq_true c8
          have c8b1 : decide ((ji6) ≤ (l1.length : Int)) = true := decide_eq_true c8
          clear c8
          replace H := Option.bind_eq_some_iff.mp H
          obtain ⟨⟨t292, t293⟩, A90, H⟩ := H
          replace H : ((cps_Decode.f t292).bind fun bt296 => ((cps_Decode.f (l1.take ((ji6) : Int).toNat)).bind fun bt300 => ((cps_Encode.f bt300.1).bind fun bt304 => (if t293 = 0 then (if bt296.2 = 0 then ((nautilusref09_Same.f k bt296.1 y287).bind fun t308 => (nautiluslaw09_CpsBack.j0 k y287 (l1.take ((ji6) : Int).toNat) t286 t293 bt300.2 bt304.1 bt304.2 (!t308))) else (nautiluslaw09_CpsBack.j0 k y287 (l1.take ((ji6) : Int).toNat) t286 t293 bt300.2 bt304.1 bt304.2 true)) else (nautiluslaw09_CpsBack.j0 k y287 (l1.take ((ji6) : Int).toNat) t286 t293 bt300.2 bt304.1 bt304.2 false))))) = some r := H
          have A9 := Aside0.mk A90
          clear A90
          replace H := Option.bind_eq_some_iff.mp H
          obtain ⟨⟨t296, t297⟩, A100, H⟩ := H
          replace H : ((cps_Decode.f (l1.take ((ji6) : Int).toNat)).bind fun bt300 => ((cps_Encode.f bt300.1).bind fun bt304 => (if t293 = 0 then (if t297 = 0 then ((nautilusref09_Same.f k t296 y287).bind fun t308 => (nautiluslaw09_CpsBack.j0 k y287 (l1.take ((ji6) : Int).toNat) t286 t293 bt300.2 bt304.1 bt304.2 (!t308))) else (nautiluslaw09_CpsBack.j0 k y287 (l1.take ((ji6) : Int).toNat) t286 t293 bt300.2 bt304.1 bt304.2 true)) else (nautiluslaw09_CpsBack.j0 k y287 (l1.take ((ji6) : Int).toNat) t286 t293 bt300.2 bt304.1 bt304.2 false)))) = some r := H
          have A10 := Aside0.mk A100
          clear A100
          replace H := Option.bind_eq_some_iff.mp H
          obtain ⟨⟨t300, t301⟩, A110, H⟩ := H
          replace H : ((cps_Encode.f t300).bind fun bt304 => (if t293 = 0 then (if t297 = 0 then ((nautilusref09_Same.f k t296 y287).bind fun t308 => (nautiluslaw09_CpsBack.j0 k y287 (l1.take ((ji6) : Int).toNat) t286 t293 t301 bt304.1 bt304.2 (!t308))) else (nautiluslaw09_CpsBack.j0 k y287 (l1.take ((ji6) : Int).toNat) t286 t293 t301 bt304.1 bt304.2 true)) else (nautiluslaw09_CpsBack.j0 k y287 (l1.take ((ji6) : Int).toNat) t286 t293 t301 bt304.1 bt304.2 false))) = some r := H
          have A11 := Aside0.mk A110
          clear A110
          replace H := Option.bind_eq_some_iff.mp H
          obtain ⟨⟨t304, t305⟩, A120, H⟩ := H
          replace H : (if t293 = 0 then (if t297 = 0 then ((nautilusref09_Same.f k t296 y287).bind fun t308 => (nautiluslaw09_CpsBack.j0 k y287 (l1.take ((ji6) : Int).toNat) t286 t293 t301 t304 t305 (!t308))) else (nautiluslaw09_CpsBack.j0 k y287 (l1.take ((ji6) : Int).toNat) t286 t293 t301 t304 t305 true)) else (nautiluslaw09_CpsBack.j0 k y287 (l1.take ((ji6) : Int).toNat) t286 t293 t301 t304 t305 false)) = some r := H
          have A12 := Aside0.mk A120
          clear A120
          have HC13 := Aside0.mk H
          clear H
          go_enter Try.func10, Try.ntmps10
          go_upto_region 8 with (first | ((with_reducible refine gate_callee (f := 11) rfl ?_); refine goesL_ (some 14) rfl rfl Try.func11 (by kernel_rfl) rfl #[] rfl (by (try simp only [List.map_toArray, List.map_cons, List.map_nil]); first | done | rfl | (simp only [List.length_drop, List.length_take]; rfl)) ?_; (with_reducible refine (nautiluslaw09_shown.calls k  t286 _ A3.out).mono ?_); rintro e w14 ⟨rfl, hb⟩; refine ⟨_, rfl, ?_⟩; have n0_ := Aside0.mk (below_step (by repeat (first | (with_reducible first | exact HB.out | apply below_alloc | apply pw_below_drewN | apply below_drew1) | exact HB.out)) hb); clear HB; have HB := n0_; clear n0_; (try clear hb); (try clear hb2); (try clear hk); (try clear hi); have q15 : ((mn (l0.length : Int) 200) : Int) ≤ ((l0.length : Int) : Int) := of_decide_eq_true (by first | (with_reducible assumption) | assumption); obtain ⟨i015, hi015, _, hsz15, _⟩ := info_parts info33; have hroom15 : l0.length ≤ c0 := HC0.out; have hC15 : Kd.C k33 _ A0 l0.length l0 := HR0.out; have hcut15 := cut_to (P := Try.prog) 22 33 .i64 Try.underlying22 hi015 A0 l0.length c0 (mn (l0.length : Int) 200) (of_decide_eq_true (by first | (with_reducible assumption) | assumption)) q15 hroom15; have hr15 := Kd.C_take (m := ((mn (l0.length : Int) 200) : Int).toNat) hC15 (by omega); have hy15 : y287.length = ((mn (l0.length : Int) 200) : Int).toNat := (by rw [Ny287.out, List.length_take]; omega); rw [← Ny287.out] at hr15; rw [← hy15] at hcut15; have HR290 := Aside0.mk hr15; have HC290 := Aside0.mk (show y287.length ≤ c0 from by omega); clear hr15 hC15 hroom15 hi015 hsz15; have KY15 := Aside0.mk hy15; clear hy15; clear hcut15; replace q15 := eq_true q15; obtain ⟨i016, hi016, _, hsz16, _⟩ := info_parts info9; obtain ⟨hcut16, hA16, hC16⟩ := print_take_of (P := Try.prog) Value.string (⟨#[]⟩ : ByteArray) 47 9 .i64 Try.underlying47 hi016 hsz16 A1 c1 l1 (ji6) (of_decide_eq_true (by first | (with_reducible assumption) | assumption)) (of_decide_eq_true (by first | (with_reducible assumption) | assumption)) HC1.out; have HR291 := Aside0.mk (Kd.C_of_reads (h1 := fun _ => rfl) (hA16 _ (Kd.reads_of_C HR1.out))); have HC291 := Aside0.mk hC16; clear hA16 hC16 hi016 hsz16) | ((with_reducible refine gate_callee (f := 12) rfl ?_); refine goesL_ (some 16) rfl rfl Try.func12 (by kernel_rfl) rfl #[.slice A0 l0.length c0] rfl (by (try simp only [List.map_toArray, List.map_cons, List.map_nil]); first | done | rfl | (simp only [List.length_drop, List.length_take]; rfl)) ?_; (refine (nautiluslaw09_cut.calls A0 l0.length c0 y287.length _ ?side1 ?side2 ?side3).mono ?_); (case side1 => exact Kd.C_max HR0.out); (case side2 => exact HC0.out); (case side3 => exact KY15.out); rintro e w' ⟨rfl, rfl⟩; refine ⟨_, rfl, ?_⟩) | ((with_reducible refine gate_callee (f := 29) rfl ?_); refine goesL_ (some 24) rfl rfl Try.func29 (by kernel_rfl) rfl #[.slice A0 y287.length c0] rfl (by (try simp only [List.map_toArray, List.map_cons, List.map_nil]); first | done | rfl | (simp only [List.length_drop, List.length_take]; rfl)) ?_; (with_reducible refine (cps_Encode.calls _ _ y287 t292 t293 _ ?side1 ?side2 A9.out).mono ?_); (case side1 => repeat (first | exact (Kd.C_below HR290.out HB.out) | (with_reducible refine Kd.C_alloc ?_ _) | (with_reducible refine Kd.C_drewN ?_ _) | (with_reducible refine Kd.C_drew ?_))); (case side2 => exact HC290.out); rintro e w17 ⟨v294, rfl, ho0, hb⟩; refine ⟨_, rfl, ?_⟩; have n0_ := Aside0.mk (Kd.R_lower ho0 (below_size (by repeat (first | (with_reducible first | exact HB.out | apply below_alloc | apply pw_below_drewN | apply below_drew1) | exact HB.out)))); have n1_ := Aside0.mk (below_step (by repeat (first | (with_reducible first | exact HB.out | apply below_alloc | apply pw_below_drewN | apply below_drew1) | exact HB.out)) hb); clear HB; have HO295 := n0_; have HB := n1_; clear n0_ n1_; (try clear hb); (try clear hb2); (try clear hk); (try clear hi); (try clear ho0); obtain ⟨Ao18, co18, eo18⟩ := Kd.R_slice HO295.out; subst eo18) | ((with_reducible refine gate_callee (f := 32) rfl ?_); refine goesL_ (some 29) rfl rfl Try.func32 (by kernel_rfl) rfl #[.slice Ao18 t292.length co18] rfl (by (try simp only [List.map_toArray, List.map_cons, List.map_nil]); first | done | rfl | (simp only [List.length_drop, List.length_take]; rfl)) ?_; (with_reducible refine (cps_Decode.calls _ _ t292 t296 t297 _ ?side1 ?side2 A10.out).mono ?_); (case side1 => repeat (first | exact (Kd.R_reads' HO295.out).2.2 | (with_reducible refine Kd.C_alloc ?_ _) | (with_reducible refine Kd.C_drewN ?_ _) | (with_reducible refine Kd.C_drew ?_))); (case side2 => exact (Kd.R_reads' HO295.out).2.1); rintro e w19 ⟨v298, rfl, ho0, hb⟩; refine ⟨_, rfl, ?_⟩; have n0_ := Aside0.mk (Kd.R_below (by (with_reducible repeat (first | apply Kd.R_alloc | apply Kd.R_drewN | apply Kd.R_drew)); exact HO295.out) hb); have n1_ := Aside0.mk (Kd.R_lower ho0 (below_size (by repeat (first | (with_reducible first | exact HB.out | apply below_alloc | apply pw_below_drewN | apply below_drew1) | exact HB.out)))); have n2_ := Aside0.mk (below_step (by repeat (first | (with_reducible first | exact HB.out | apply below_alloc | apply pw_below_drewN | apply below_drew1) | exact HB.out)) hb); clear HO295; clear HB; have HO295 := n0_; have HO299 := n1_; have HB := n2_; clear n0_ n1_ n2_; (try clear hb); (try clear hb2); (try clear hk); (try clear hi); (try clear ho0)) | ((with_reducible refine gate_callee (f := 32) rfl ?_); refine goesL_ (some 34) rfl rfl Try.func32 (by kernel_rfl) rfl #[.slice A1 (l1.take ((ji6) : Int).toNat).length c1] rfl (by (try simp only [List.map_toArray, List.map_cons, List.map_nil]); first | done | (rw [show (l1.take ((ji6) : Int).toNat).length = (ji6).toNat from (by rw [List.length_take]; have h_ : ((ji6) : Int) ≤ (l1.length : Int) := (by first | (exact of_decide_eq_true (by with_reducible assumption)) | (rw [← hji6]; unfold mn; (repeat' split) <;> omega) | exact of_decide_eq_true (by assumption)); omega)] <;> rfl) | (simp only [hji6]; rfl) | rfl | (simp only [List.length_drop, List.length_take]; rfl)) ?_; (with_reducible refine (cps_Decode.calls _ _ (l1.take ((ji6) : Int).toNat) t300 t301 _ ?side1 ?side2 A11.out).mono ?_); (case side1 => repeat (first | exact (Kd.C_below HR291.out HB.out) | (with_reducible refine Kd.C_alloc ?_ _) | (with_reducible refine Kd.C_drewN ?_ _) | (with_reducible refine Kd.C_drew ?_))); (case side2 => exact HC291.out); rintro e w20 ⟨v302, rfl, ho0, hb⟩; refine ⟨_, rfl, ?_⟩; have n0_ := Aside0.mk (Kd.R_below (by (with_reducible repeat (first | apply Kd.R_alloc | apply Kd.R_drewN | apply Kd.R_drew)); exact HO295.out) hb); have n1_ := Aside0.mk (Kd.R_elder' (by (with_reducible repeat (first | apply Kd.R_alloc | apply Kd.R_drewN | apply Kd.R_drew)); exact HO299.out) (Kd.R_base ho0) hb); have n2_ := Aside0.mk (Kd.R_lower (Kd.R_new' ho0 (Kd.R_lt (by (with_reducible repeat (first | apply Kd.R_alloc | apply Kd.R_drewN | apply Kd.R_drew)); exact HO299.out))) (below_size (by repeat (first | (with_reducible first | exact HB.out | apply below_alloc | apply pw_below_drewN | apply below_drew1) | exact HB.out)))); have n3_ := Aside0.mk (below_step (by repeat (first | (with_reducible first | exact HB.out | apply below_alloc | apply pw_below_drewN | apply below_drew1) | exact HB.out)) hb); clear HO295; clear HO299; clear HB; have HO295 := n0_; have HO299 := n1_; have HO303 := n2_; have HB := n3_; clear n0_ n1_ n2_ n3_; (try clear hb); (try clear hb2); (try clear hk); (try clear hi); (try clear ho0); obtain ⟨Ao21, co21, eo21⟩ := Kd.R_slice HO303.out; subst eo21) | ((with_reducible refine gate_callee (f := 29) rfl ?_); refine goesL_ (some 39) rfl rfl Try.func29 (by kernel_rfl) rfl #[.slice Ao21 t300.length co21] rfl (by (try simp only [List.map_toArray, List.map_cons, List.map_nil]); first | done | rfl | (simp only [List.length_drop, List.length_take]; rfl)) ?_; (with_reducible refine (cps_Encode.calls _ _ t300 t304 t305 _ ?side1 ?side2 A12.out).mono ?_); (case side1 => repeat (first | exact (Kd.R_reads' HO303.out).2.2 | (with_reducible refine Kd.C_alloc ?_ _) | (with_reducible refine Kd.C_drewN ?_ _) | (with_reducible refine Kd.C_drew ?_))); (case side2 => exact (Kd.R_reads' HO303.out).2.1); rintro e w22 ⟨v306, rfl, ho0, hb⟩; refine ⟨_, rfl, ?_⟩; have n0_ := Aside0.mk (Kd.R_elder' (by (with_reducible repeat (first | apply Kd.R_alloc | apply Kd.R_drewN | apply Kd.R_drew)); exact HO295.out) (Kd.R_base ho0) hb); have n1_ := Aside0.mk (Kd.R_below (by (with_reducible repeat (first | apply Kd.R_alloc | apply Kd.R_drewN | apply Kd.R_drew)); exact HO299.out) hb); have n2_ := Aside0.mk (Kd.R_below (by (with_reducible repeat (first | apply Kd.R_alloc | apply Kd.R_drewN | apply Kd.R_drew)); exact HO303.out) hb); have n3_ := Aside0.mk (Kd.R_lower (Kd.R_new' ho0 (Kd.R_lt (by (with_reducible repeat (first | apply Kd.R_alloc | apply Kd.R_drewN | apply Kd.R_drew)); exact HO295.out))) (below_size (by repeat (first | (with_reducible first | exact HB.out | apply below_alloc | apply pw_below_drewN | apply below_drew1) | exact HB.out)))); have n4_ := Aside0.mk (below_step (by repeat (first | (with_reducible first | exact HB.out | apply below_alloc | apply pw_below_drewN | apply below_drew1) | exact HB.out)) hb); clear HO295; clear HO299; clear HO303; clear HB; have HO295 := n0_; have HO299 := n1_; have HO303 := n2_; have HO307 := n3_; have HB := n4_; clear n0_ n1_ n2_ n3_ n4_; (try clear hb); (try clear hb2); (try clear hk); (try clear hi); (try clear ho0)))
          (try simp only [Act.put, List.setIfInBounds_toArray, List.set_cons_zero, List.set_cons_succ])
          go_cut [53] (fun v53 wc => ∃ (kq : Nat) (x53_12 : Bool), v53 = .bool x53_12 ∧ Aside0 (nautiluslaw09_CpsBack.j0 kq y287 (l1.take ((ji6) : Int).toNat) t286 t293 t301 t304 t305 x53_12 = some r) ∧ Aside0 (kq ≤ k) ∧ Aside0 (Kd.R Kd.string 9 wc w.heap.size (fun _ => True) v306 t304) ∧ Aside0 (Below w.heap.size w wc))
          case first =>
            have H := HC13.out
            clear HC13
            by_cases c23 : t293 = 0
            · rw [if_pos c23] at H
              have c23b0 : (t293 == 0) = true := beq_iff_eq.mpr c23
              have c23b1 : (t293 != 0) = false := bne_eq_false_iff_eq.mpr c23
              clear c23
              (first | rw [c23b0] | (simp only [i64_w, i32_w]; rw [c23b0]) | skip)
              by_cases c24 : t297 = 0
              · rw [if_pos c24] at H
                have c24b0 : (t297 == 0) = true := beq_iff_eq.mpr c24
                have c24b1 : (t297 != 0) = false := bne_eq_false_iff_eq.mpr c24
                clear c24
                replace H := Option.bind_eq_some_iff.mp H
                obtain ⟨t308, A250, H⟩ := H
                replace H : (nautiluslaw09_CpsBack.j0 k y287 (l1.take ((ji6) : Int).toNat) t286 t293 t301 t304 t305 (!t308)) = some r := H
                have A25 := Aside0.mk A250
                clear A250
                have H' := Aside0.mk H
                clear H
                obtain ⟨Ao26, co26, eo26⟩ := Kd.R_slice HO299.out
                subst eo26
                go_wp2_with (first | (go_at_call 21; (with_reducible refine (nautilusref09_Same.calls k _ _ t296 _ _ y287 t308 _ ?side1 ?side2 ?side3 ?side4 A25.out).mono ?_); (case side1 => repeat (first | exact (Kd.R_reads' HO299.out).2.2 | (with_reducible refine Kd.C_alloc ?_ _) | (with_reducible refine Kd.C_drewN ?_ _) | (with_reducible refine Kd.C_drew ?_))); (case side2 => exact (Kd.R_reads' HO299.out).2.1); (case side3 => repeat (first | exact (Kd.C_below HR290.out HB.out) | (with_reducible refine Kd.C_alloc ?_ _) | (with_reducible refine Kd.C_drewN ?_ _) | (with_reducible refine Kd.C_drew ?_))); (case side4 => exact HC290.out); rintro e w' ⟨rfl, ⟨nd, rfl⟩⟩))
                go_meet
                case rel => exact ⟨_, (!t308), (by first | rfl | (simp; done) | (simp [*]; done)), H', ⟨by first | omega | exact Nat.le_refl _⟩, ⟨by (with_reducible repeat (first | apply Kd.R_alloc | apply Kd.R_drewN | apply Kd.R_drew)); exact Kd.R_mono HO307.out (fun _ hk => trivial)⟩, ⟨by repeat (first | (with_reducible first | exact HB.out | apply below_alloc | apply pw_below_drewN | apply below_drew1) | exact HB.out)⟩⟩
              · rw [if_neg c24] at H
                have c24b0 : (t297 == 0) = false := beq_eq_false_iff_ne.mpr c24
                have c24b1 : (t297 != 0) = true := bne_iff_ne.mpr c24
                have H' := Aside0.mk H
                clear H
                go_wp2
                go_meet
                case rel => exact ⟨_, (true), (by first | rfl | (simp; done) | (simp [*]; done)), H', ⟨by first | omega | exact Nat.le_refl _⟩, ⟨by (with_reducible repeat (first | apply Kd.R_alloc | apply Kd.R_drewN | apply Kd.R_drew)); exact Kd.R_mono HO307.out (fun _ hk => trivial)⟩, ⟨by repeat (first | (with_reducible first | exact HB.out | apply below_alloc | apply pw_below_drewN | apply below_drew1) | exact HB.out)⟩⟩
            · rw [if_neg c23] at H
              have c23b0 : (t293 == 0) = false := beq_eq_false_iff_ne.mpr c23
              have c23b1 : (t293 != 0) = true := bne_iff_ne.mpr c23
              (first | rw [c23b0] | (simp only [i64_w, i32_w]; rw [c23b0]) | skip)
              have H' := Aside0.mk H
              clear H
              go_wp2
              go_meet
              case rel => exact ⟨_, (false), (by first | rfl | (simp; done) | (simp [*]; done)), H', ⟨by first | omega | exact Nat.le_refl _⟩, ⟨by (with_reducible repeat (first | apply Kd.R_alloc | apply Kd.R_drewN | apply Kd.R_drew)); exact Kd.R_mono HO307.out (fun _ hk => trivial)⟩, ⟨by repeat (first | (with_reducible first | exact HB.out | apply below_alloc | apply pw_below_drewN | apply below_drew1) | exact HB.out)⟩⟩
          case rest =>
            clear HC13
            try clear c1
            try clear q1
            try clear c2
            try clear p2
            try clear c3
            try clear c4
            try clear c4b0
            try clear c4b1
            try clear c5
            try clear c5b0
            try clear c5b1
            try clear c7
            try clear c7b0
            try clear c7b1
            try clear c8
            try clear c8b0
            try clear c8b1
            try clear c10
            try clear c11
            try clear c12
            try clear q15
            try clear c23
            try clear c23b0
            try clear c23b1
            try clear c24
            try clear c24b0
            try clear c24b1
            try clear q15
            obtain ⟨kq, x53_12, rfl, HA, HJ12, HO_12, HB⟩ := hcut
            cases kq with
            | zero => exact absurd HA.out (by simp [nautiluslaw09_CpsBack.j0])
            | succ kj12 =>
              have H := HA.out
              clear HA
              simp only [nautiluslaw09_CpsBack.j0] at H
              by_cases c27 : x53_12 = true
              · subst c27
                have H1 : (some false) = some r := by rw [if_pos rfl] at H; exact H
                clear H
                have H := H1
                clear H1
                obtain rfl := Option.some.inj H
                go_wp2
                go_ret
                exact ⟨by first | rfl | (simp [errW_none, errW_some] <;> rfl) | (simp only [← hji6]; first | rfl | (simp [errW_none, errW_some] <;> rfl)) | (simp [*, errW_none, errW_some] <;> rfl) | (simp [show IntKind.u64.wrap 0 = 0 from rfl, Int.zero_tdiv]; done), by repeat (first | (with_reducible first | exact HB.out | apply below_alloc | apply pw_below_drewN | apply below_drew1) | exact HB.out)⟩
              · replace c27 := Bool.eq_false_iff.mpr c27
                subst c27
                have H1 : (if t286 = true then ((cps_Right.f kj12 y287).bind fun t309 => (if ((t293 == 0) == t309) = true then (if t301 = 0 then (if t305 = 0 then ((nautilusref09_SameTexts.f kj12 t304 (l1.take ((ji6) : Int).toNat)).bind fun t310 => (some t310)) else (some false)) else (some true)) else (some false))) else (some false)) = some r := by rw [if_neg (show ¬ (false = true) by decide)] at H; exact H
                clear H
                have H := H1
                clear H1
                by_cases c28 : t286 = true
                · subst c28
                  have H1 : ((cps_Right.f kj12 y287).bind fun t309 => (if ((t293 == 0) == t309) = true then (if t301 = 0 then (if t305 = 0 then ((nautilusref09_SameTexts.f kj12 t304 (l1.take ((ji6) : Int).toNat)).bind fun t310 => (some t310)) else (some false)) else (some true)) else (some false))) = some r := by rw [if_pos rfl] at H; exact H
                  clear H
                  have H := H1
                  clear H1
                  replace H := Option.bind_eq_some_iff.mp H
                  obtain ⟨t309, A290, H⟩ := H
                  replace H : (if ((t293 == 0) == t309) = true then (if t301 = 0 then (if t305 = 0 then ((nautilusref09_SameTexts.f kj12 t304 (l1.take ((ji6) : Int).toNat)).bind fun t310 => (some t310)) else (some false)) else (some true)) else (some false)) = some r := H
                  have A29 := Aside0.mk A290
                  clear A290
                  by_cases c30 : ((t293 == 0) == t309) = true
                  · rw [if_pos c30] at H
                    have c30b0 : ((t293 == 0) == t309) = true := c30
                    (try (have c30b1 : decide ((t293 == 0) = t309) = true := by simpa using c30))
                    (try (have c30b2 : ((t293 == 0) == t309) = true := by simpa using c30))
                    clear c30
                    by_cases c31 : t301 = 0
                    · rw [if_pos c31] at H
                      have c31b0 : (t301 == 0) = true := beq_iff_eq.mpr c31
                      have c31b1 : (t301 != 0) = false := bne_eq_false_iff_eq.mpr c31
                      clear c31
                      by_cases c32 : t305 = 0
                      · rw [if_pos c32] at H
                        have c32b0 : (t305 == 0) = true := beq_iff_eq.mpr c32
                        have c32b1 : (t305 != 0) = false := bne_eq_false_iff_eq.mpr c32
                        clear c32
                        replace H := Option.bind_eq_some_iff.mp H
                        obtain ⟨t310, A330, H⟩ := H
                        replace H : (some t310) = some r := H
                        have A33 := Aside0.mk A330
                        clear A330
                        obtain rfl := Option.some.inj H
                        go_wp2_with (first | (go_at_call 14; (with_reducible refine (cps_Right.calls kj12 _ _ y287 t309 _ ?side1 ?side2 A29.out).mono ?_); (case side1 => repeat (first | exact (Kd.C_below HR290.out HB.out) | (with_reducible refine Kd.C_alloc ?_ _) | (with_reducible refine Kd.C_drewN ?_ _) | (with_reducible refine Kd.C_drew ?_))); (case side2 => exact HC290.out); rintro e w34 ⟨rfl, hb⟩; have n0_ := Aside0.mk (Kd.R_below (by (with_reducible repeat (first | apply Kd.R_alloc | apply Kd.R_drewN | apply Kd.R_drew)); exact HO_12.out) hb); have n1_ := Aside0.mk (below_step (by repeat (first | (with_reducible first | exact HB.out | apply below_alloc | apply pw_below_drewN | apply below_drew1) | exact HB.out)) hb); clear HO_12; clear HB; have HO_12 := n0_; have HB := n1_; clear n0_ n1_; (try clear hb); (try clear hb2); (try clear hk); (try clear hi); obtain ⟨Ao35, co35, eo35⟩ := Kd.R_slice HO_12.out; subst eo35) | (go_at_call 30; refine calls_of_args (args' := #[.slice Ao35 t304.length co35, .slice A1 (l1.take ((ji6) : Int).toNat).length c1]) (by first | (rw [show (l1.take ((ji6) : Int).toNat).length = (ji6).toNat from (by rw [List.length_take]; have h_ : ((ji6) : Int) ≤ (l1.length : Int) := (by first | (exact of_decide_eq_true (by with_reducible assumption)) | (rw [← hji6]; unfold mn; (repeat' split) <;> omega) | exact of_decide_eq_true (by assumption)); omega)] <;> rfl) | rfl) ?_; (with_reducible refine (nautilusref09_SameTexts.calls kj12 _ _ t304 _ _ (l1.take ((ji6) : Int).toNat) t310 _ ?side1 ?side2 ?side3 ?side4 A33.out).mono ?_); (case side1 => repeat (first | exact (Kd.R_reads' HO_12.out).2.2 | (with_reducible refine Kd.C_alloc ?_ _) | (with_reducible refine Kd.C_drewN ?_ _) | (with_reducible refine Kd.C_drew ?_))); (case side2 => exact (Kd.R_reads' HO_12.out).2.1); (case side3 => repeat (first | exact (Kd.C_below HR291.out HB.out) | (with_reducible refine Kd.C_alloc ?_ _) | (with_reducible refine Kd.C_drewN ?_ _) | (with_reducible refine Kd.C_drew ?_))); (case side4 => exact HC291.out); rintro e w' ⟨rfl, ⟨nd, rfl⟩⟩))
                        go_ret
                        exact ⟨by first | rfl | (simp [errW_none, errW_some] <;> rfl) | (simp only [← hji6]; first | rfl | (simp [errW_none, errW_some] <;> rfl)) | (simp [*, errW_none, errW_some] <;> rfl) | (simp [show IntKind.u64.wrap 0 = 0 from rfl, Int.zero_tdiv]; done), by repeat (first | (with_reducible first | exact HB.out | apply below_alloc | apply pw_below_drewN | apply below_drew1) | exact HB.out)⟩
                      · rw [if_neg c32] at H
                        have c32b0 : (t305 == 0) = false := beq_eq_false_iff_ne.mpr c32
                        have c32b1 : (t305 != 0) = true := bne_iff_ne.mpr c32
                        obtain rfl := Option.some.inj H
                        go_wp2_with (first | (go_at_call 14; (with_reducible refine (cps_Right.calls kj12 _ _ y287 t309 _ ?side1 ?side2 A29.out).mono ?_); (case side1 => repeat (first | exact (Kd.C_below HR290.out HB.out) | (with_reducible refine Kd.C_alloc ?_ _) | (with_reducible refine Kd.C_drewN ?_ _) | (with_reducible refine Kd.C_drew ?_))); (case side2 => exact HC290.out); rintro e w36 ⟨rfl, hb⟩; have n0_ := Aside0.mk (Kd.R_below (by (with_reducible repeat (first | apply Kd.R_alloc | apply Kd.R_drewN | apply Kd.R_drew)); exact HO_12.out) hb); have n1_ := Aside0.mk (below_step (by repeat (first | (with_reducible first | exact HB.out | apply below_alloc | apply pw_below_drewN | apply below_drew1) | exact HB.out)) hb); clear HO_12; clear HB; have HO_12 := n0_; have HB := n1_; clear n0_ n1_; (try clear hb); (try clear hb2); (try clear hk); (try clear hi)))
                        go_ret
                        exact ⟨by first | rfl | (simp [errW_none, errW_some] <;> rfl) | (simp only [← hji6]; first | rfl | (simp [errW_none, errW_some] <;> rfl)) | (simp [*, errW_none, errW_some] <;> rfl) | (simp [show IntKind.u64.wrap 0 = 0 from rfl, Int.zero_tdiv]; done), by repeat (first | (with_reducible first | exact HB.out | apply below_alloc | apply pw_below_drewN | apply below_drew1) | exact HB.out)⟩
                    · rw [if_neg c31] at H
                      have c31b0 : (t301 == 0) = false := beq_eq_false_iff_ne.mpr c31
                      have c31b1 : (t301 != 0) = true := bne_iff_ne.mpr c31
                      obtain rfl := Option.some.inj H
                      go_wp2_with (first | (go_at_call 14; (with_reducible refine (cps_Right.calls kj12 _ _ y287 t309 _ ?side1 ?side2 A29.out).mono ?_); (case side1 => repeat (first | exact (Kd.C_below HR290.out HB.out) | (with_reducible refine Kd.C_alloc ?_ _) | (with_reducible refine Kd.C_drewN ?_ _) | (with_reducible refine Kd.C_drew ?_))); (case side2 => exact HC290.out); rintro e w37 ⟨rfl, hb⟩; have n0_ := Aside0.mk (Kd.R_below (by (with_reducible repeat (first | apply Kd.R_alloc | apply Kd.R_drewN | apply Kd.R_drew)); exact HO_12.out) hb); have n1_ := Aside0.mk (below_step (by repeat (first | (with_reducible first | exact HB.out | apply below_alloc | apply pw_below_drewN | apply below_drew1) | exact HB.out)) hb); clear HO_12; clear HB; have HO_12 := n0_; have HB := n1_; clear n0_ n1_; (try clear hb); (try clear hb2); (try clear hk); (try clear hi)))
                      go_ret
                      exact ⟨by first | rfl | (simp [errW_none, errW_some] <;> rfl) | (simp only [← hji6]; first | rfl | (simp [errW_none, errW_some] <;> rfl)) | (simp [*, errW_none, errW_some] <;> rfl) | (simp [show IntKind.u64.wrap 0 = 0 from rfl, Int.zero_tdiv]; done), by repeat (first | (with_reducible first | exact HB.out | apply below_alloc | apply pw_below_drewN | apply below_drew1) | exact HB.out)⟩
                  · rw [if_neg c30] at H
                    have c30b0 : ((t293 == 0) == t309) = false := by simpa using c30
                    (try (have c30b1 : decide ((t293 == 0) = t309) = false := by simpa using c30))
                    (try (have c30b2 : ((t293 == 0) == t309) = false := by simpa using c30))
                    (try (have c30b3 : ¬ ((t293 == 0) = t309) := by simpa using c30))
                    clear c30
                    obtain rfl := Option.some.inj H
                    go_wp2_with (first | (go_at_call 14; (with_reducible refine (cps_Right.calls kj12 _ _ y287 t309 _ ?side1 ?side2 A29.out).mono ?_); (case side1 => repeat (first | exact (Kd.C_below HR290.out HB.out) | (with_reducible refine Kd.C_alloc ?_ _) | (with_reducible refine Kd.C_drewN ?_ _) | (with_reducible refine Kd.C_drew ?_))); (case side2 => exact HC290.out); rintro e w38 ⟨rfl, hb⟩; have n0_ := Aside0.mk (Kd.R_below (by (with_reducible repeat (first | apply Kd.R_alloc | apply Kd.R_drewN | apply Kd.R_drew)); exact HO_12.out) hb); have n1_ := Aside0.mk (below_step (by repeat (first | (with_reducible first | exact HB.out | apply below_alloc | apply pw_below_drewN | apply below_drew1) | exact HB.out)) hb); clear HO_12; clear HB; have HO_12 := n0_; have HB := n1_; clear n0_ n1_; (try clear hb); (try clear hb2); (try clear hk); (try clear hi)))
                    go_ret
                    exact ⟨by first | rfl | (simp [errW_none, errW_some] <;> rfl) | (simp only [← hji6]; first | rfl | (simp [errW_none, errW_some] <;> rfl)) | (simp [*, errW_none, errW_some] <;> rfl) | (simp [show IntKind.u64.wrap 0 = 0 from rfl, Int.zero_tdiv]; done), by repeat (first | (with_reducible first | exact HB.out | apply below_alloc | apply pw_below_drewN | apply below_drew1) | exact HB.out)⟩
                · replace c28 := Bool.eq_false_iff.mpr c28
                  subst c28
                  have H1 : (some false) = some r := by rw [if_neg (show ¬ (false = true) by decide)] at H; exact H
                  clear H
                  have H := H1
                  clear H1
                  obtain rfl := Option.some.inj H
                  go_wp2
                  go_ret
                  exact ⟨by first | rfl | (simp [errW_none, errW_some] <;> rfl) | (simp only [← hji6]; first | rfl | (simp [errW_none, errW_some] <;> rfl)) | (simp [*, errW_none, errW_some] <;> rfl) | (simp [show IntKind.u64.wrap 0 = 0 from rfl, Int.zero_tdiv]; done), by repeat (first | (with_reducible first | exact HB.out | apply below_alloc | apply pw_below_drewN | apply below_drew1) | exact HB.out)⟩
        · rw [if_neg c8] at H
          exact absurd H (by simp)
      · rw [if_neg c7] at H
        exact absurd H (by simp)
    · rw [if_neg c5] at H
      exact absurd H (by simp)
  · rw [if_neg c4] at H
    exact absurd H (by simp)

/-- THE ONE PURE STATEMENT of nautiluslaw09_CpsBack: yours. -/
def nautiluslaw09_CpsBack.Pure : Prop := ∀ (l0 : List (S33)) (l1 : List ByteArray), l0.length ≤ maxLen → (∀ x ∈ l0, (Lit.int .u64 x.f0).wf = true ∧ (Lit.int .u64 x.f1).wf = true ∧ x.f3.size ≤ maxLen) → l1.length ≤ maxLen → (∀ x ∈ l1, x.size ≤ maxLen) → ∃ k, nautiluslaw09_CpsBack.f k l0 l1 = some true
theorem nautiluslaw09_CpsBack.walk (P : nautiluslaw09_CpsBack.Pure) (a0 : Option Addr) (len0 cap0 : Nat) (z0 : List (S33)) (a1 : Option Addr) (len1 cap1 : Nat) (z1 : List (ByteArray)) (w : World) (w0 : z0.length = len0 ∧ len0 ≤ cap0 ∧ len0 ≤ maxLen ∧ Kd.C k33 w a0 len0 z0 ∧ ∀ x ∈ z0, (Lit.int .u64 x.f0).wf = true ∧ (Lit.int .u64 x.f1).wf = true ∧ x.f3.size ≤ maxLen) (w1 : z1.length = len1 ∧ len1 ≤ cap1 ∧ len1 ≤ maxLen ∧ Kd.C Kd.string w a1 len1 z1 ∧ ∀ x ∈ z1, x.size ≤ maxLen) :
    Calls Try.prog 10 #[.slice a0 len0 cap0, .slice a1 len1 cap1] w fun e w' => e = .returned (.bool true) ∧ Below w.heap.size w w' := by
  obtain ⟨hl0, hc0, hm0, hC0, hw0⟩ := w0
  subst hl0
  obtain ⟨hl1, hc1, hm1, hC1, hw1⟩ := w1
  subst hl1
  obtain ⟨k, h⟩ := P z0 z1 hm0 hw0 hm1 hw1
  refine (nautiluslaw09_CpsBack.calls k _ _ z0 _ _ z1 true w hC0 hc0 hC1 hc1 h).mono ?_
  rintro e w' ⟨rfl, hd⟩
  exact ⟨rfl, hd⟩

end Go.Proofs.Ytllcmalgahnnhaa.Q
