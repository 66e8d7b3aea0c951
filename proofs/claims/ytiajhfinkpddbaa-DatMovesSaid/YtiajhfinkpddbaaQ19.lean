/- Functions of the translation as plain Lean functions, and that the translation computes them: printed by this session's driver of the print. -/
import Derived.Test.YtiajhfinkpddbaaQ0
import Derived.Test.YtiajhfinkpddbaaQ1
import Derived.Test.YtiajhfinkpddbaaQ3
import Derived.Test.YtiajhfinkpddbaaQ9
import Derived.Test.YtiajhfinkpddbaaQ12
import Derived.Test.YtiajhfinkpddbaaQ15
import Derived.Test.YtiajhfinkpddbaaHCut
namespace Go.Proofs.Ytiajhfinkpddbaa.Q
open Go.Proofs.Ytiajhfinkpddbaa.H
open Go.RowKit Go.Proofs.YtiajhfinkpddbaaW.PrintWords Go.Proofs.YtiajhfinkpddbaaW.PrintLast Go.Proofs.YtiajhfinkpddbaaW.PrintMore
attribute [local go_sem] max2_int min2_int max_two min_two max_three min_three max_four min_four   -- for this text's walks alone
set_option linter.unusedVariables false
set_option linter.unusedSimpArgs false

attribute [local go_sem high] eqA31
/-! ### nautiluslaw08_DatMoves: function 6 -/
mutual
def nautiluslaw08_DatMoves.j2 : Nat → List (S31) → Bool → Option (Bool)
  | 0, _, _ => none
  | k + 1, x0, x7 => (dat_Counts.f k x0 256).bind fun bt384 => (if bt384.2 = 0 then (nautiluslaw08_DatMoves.l1 k x0 x7 bt384.1 0 0) else (if x7 = true then ((dat_Right.f x0).bind fun t388 => (some (!t388))) else (some false)))
def nautiluslaw08_DatMoves.l1 : Nat → List (S31) → Bool → List Int → Int → Int → Option (Bool)
  | 0, _, _, _, _, _ => none
  | k + 1, x0, x7, x12, x14, x15 => if x15 < (x12.length : Int) then (if 0 ≤ x15 then (nautiluslaw08_DatMoves.l1 k x0 x7 x12 (wrap64 (x14 + (rd x12 x15))) (wrap64 (x15 + 1))) else (none)) else (nautiluslaw08_DatMoves.l2 k x0 x7 x12 x14 0)
def nautiluslaw08_DatMoves.l2 : Nat → List (S31) → Bool → List Int → Int → Int → Option (Bool)
  | 0, _, _, _, _, _ => none
  | k + 1, x0, x7, x12, x14, x16 => if x16 < (x0.length : Int) then (if 0 ≤ x16 then (if (!(((rd_T31 x0 x16).f0) == 0) || (!(((rd_T31 x0 x16).f1) == 0) || (!(((rd_T31 x0 x16).f2) == 0)))) = true then (nautiluslaw08_DatMoves.l2 k x0 x7 x12 (wrap64 (x14 - 1)) (wrap64 (x16 + 1))) else (nautiluslaw08_DatMoves.l2 k x0 x7 x12 x14 (wrap64 (x16 + 1)))) else (none)) else (if x7 = true then (if x14 = 0 then (some ((x12.length : Int) == 256)) else (some false)) else (some false))
def nautiluslaw08_DatMoves.j0 : Nat → List (S31) → Int → Int → Bool → List (S31) → Bool → Option (Bool)
  | 0, _, _, _, _, _, _ => none
  | k + 1, x0, x1, x2, x7, x8, x41 => if x41 = true then (some false) else (nautiluslaw08_DatMoves.l0 k x0 x1 x2 x7 x8 0)
def nautiluslaw08_DatMoves.l0 : Nat → List (S31) → Int → Int → Bool → List (S31) → Int → Option (Bool)
  | 0, _, _, _, _, _, _ => none
  | k + 1, x0, x1, x2, x7, x8, x10 => if x10 < (x0.length : Int) then (if 0 ≤ x10 then (if x10 = (wrap64 (x1)) then (if x10 < (x8.length : Int) then (if (!(((rd_T31 x8 x10).f0) == x2) || (!(((rd_T31 x8 x10).f1) == ((rd_T31 x0 x10).f1)) || (!(((rd_T31 x8 x10).f2) == ((rd_T31 x0 x10).f2))))) = true then (some false) else (nautiluslaw08_DatMoves.l0 k x0 x1 x2 x7 x8 (wrap64 (x10 + 1)))) else (none)) else (if x10 < (x8.length : Int) then (if (!(((rd_T31 x8 x10).f0) == ((rd_T31 x0 x10).f0)) || (!(((rd_T31 x8 x10).f1) == ((rd_T31 x0 x10).f1)) || (!(((rd_T31 x8 x10).f2) == ((rd_T31 x0 x10).f2))))) = true then (some false) else (nautiluslaw08_DatMoves.l0 k x0 x1 x2 x7 x8 (wrap64 (x10 + 1)))) else (none))) else (none)) else (nautiluslaw08_DatMoves.j2 k x0 x7)
end
def nautiluslaw08_DatMoves.f (k : Nat) (l0 : List (S31)) (a1 : Int) (a2 : Int) : Option (Bool) := (nautiluslaw08_shown.f k).bind fun t371 => (if 0 ≤ (mn (l0.length : Int) 2000) then (if (mn (l0.length : Int) 2000) ≤ (l0.length : Int) then ((some (l0.take (mn (l0.length : Int) 2000 : Int).toNat : List (S31))).bind fun y372 => ((dat_Move.f y372 a1 a2).bind fun bt376 => (if bt376.2 = 0 then (if (bt376.1.length : Int) = (y372.length : Int) then (nautiluslaw08_DatMoves.j0 k y372 a1 a2 t371 bt376.1 (decide ((IntKind.u64.wrap (a1)) ≥ (IntKind.u64.wrap ((y372.length : Int)))))) else (nautiluslaw08_DatMoves.j0 k y372 a1 a2 t371 bt376.1 true)) else (nautiluslaw08_DatMoves.j2 k y372 t371)))) else (none)) else (none))
theorem nautiluslaw08_DatMoves.mono_l : ∀ k, (∀ y0 y1, LeO (nautiluslaw08_DatMoves.j2 k y0 y1) (nautiluslaw08_DatMoves.j2 (k + 1) y0 y1)) ∧ (∀ y0 y1 y2 y3 y4, LeO (nautiluslaw08_DatMoves.l1 k y0 y1 y2 y3 y4) (nautiluslaw08_DatMoves.l1 (k + 1) y0 y1 y2 y3 y4)) ∧ (∀ y0 y1 y2 y3 y4, LeO (nautiluslaw08_DatMoves.l2 k y0 y1 y2 y3 y4) (nautiluslaw08_DatMoves.l2 (k + 1) y0 y1 y2 y3 y4)) ∧ (∀ y0 y1 y2 y3 y4 y5, LeO (nautiluslaw08_DatMoves.j0 k y0 y1 y2 y3 y4 y5) (nautiluslaw08_DatMoves.j0 (k + 1) y0 y1 y2 y3 y4 y5)) ∧ (∀ y0 y1 y2 y3 y4 y5, LeO (nautiluslaw08_DatMoves.l0 k y0 y1 y2 y3 y4 y5) (nautiluslaw08_DatMoves.l0 (k + 1) y0 y1 y2 y3 y4 y5))
  | 0 => ⟨fun _ _ r h => by simp [nautiluslaw08_DatMoves.j2] at h, fun _ _ _ _ _ r h => by simp [nautiluslaw08_DatMoves.l1] at h, fun _ _ _ _ _ r h => by simp [nautiluslaw08_DatMoves.l2] at h, fun _ _ _ _ _ _ r h => by simp [nautiluslaw08_DatMoves.j0] at h, fun _ _ _ _ _ _ r h => by simp [nautiluslaw08_DatMoves.l0] at h⟩
  | k + 1 => by
    obtain ⟨ih0, ih1, ih2, ih3, ih4⟩ := nautiluslaw08_DatMoves.mono_l k
    refine ⟨?_, ?_, ?_, ?_, ?_⟩
    · intro y0 y1
      unfold nautiluslaw08_DatMoves.j2
      repeat' first
      | (with_reducible exact ih0 _ _)
      | (with_reducible exact ih1 _ _ _ _ _)
      | (with_reducible exact ih2 _ _ _ _ _)
      | (with_reducible exact ih3 _ _ _ _ _ _)
      | (with_reducible exact ih4 _ _ _ _ _ _)
      | (with_reducible exact dat_Counts.mono _ _ _)
      | (with_reducible exact nautiluslaw08_shown.mono _)
      | (with_reducible exact LeO.refl _)
      | (with_reducible exact LeO.none _)
      | (with_reducible refine LeO.ite ?_ ?_)
      | (with_reducible refine LeO.bind ?_ (fun _ => ?_))
      | exact ih0 _ _
      | exact ih1 _ _ _ _ _
      | exact ih2 _ _ _ _ _
      | exact ih3 _ _ _ _ _ _
      | exact ih4 _ _ _ _ _ _
      | exact dat_Counts.mono _ _ _
      | exact nautiluslaw08_shown.mono _
      | exact LeO.none _
      | refine LeO.ite ?_ ?_
      | refine LeO.bind ?_ (fun _ => ?_)
    · intro y0 y1 y2 y3 y4
      unfold nautiluslaw08_DatMoves.l1
      repeat' first
      | (with_reducible exact ih0 _ _)
      | (with_reducible exact ih1 _ _ _ _ _)
      | (with_reducible exact ih2 _ _ _ _ _)
      | (with_reducible exact ih3 _ _ _ _ _ _)
      | (with_reducible exact ih4 _ _ _ _ _ _)
      | (with_reducible exact dat_Counts.mono _ _ _)
      | (with_reducible exact nautiluslaw08_shown.mono _)
      | (with_reducible exact LeO.refl _)
      | (with_reducible exact LeO.none _)
      | (with_reducible refine LeO.ite ?_ ?_)
      | (with_reducible refine LeO.bind ?_ (fun _ => ?_))
      | exact ih0 _ _
      | exact ih1 _ _ _ _ _
      | exact ih2 _ _ _ _ _
      | exact ih3 _ _ _ _ _ _
      | exact ih4 _ _ _ _ _ _
      | exact dat_Counts.mono _ _ _
      | exact nautiluslaw08_shown.mono _
      | exact LeO.none _
      | refine LeO.ite ?_ ?_
      | refine LeO.bind ?_ (fun _ => ?_)
    · intro y0 y1 y2 y3 y4
      unfold nautiluslaw08_DatMoves.l2
      repeat' first
      | (with_reducible exact ih0 _ _)
      | (with_reducible exact ih1 _ _ _ _ _)
      | (with_reducible exact ih2 _ _ _ _ _)
      | (with_reducible exact ih3 _ _ _ _ _ _)
      | (with_reducible exact ih4 _ _ _ _ _ _)
      | (with_reducible exact dat_Counts.mono _ _ _)
      | (with_reducible exact nautiluslaw08_shown.mono _)
      | (with_reducible exact LeO.refl _)
      | (with_reducible exact LeO.none _)
      | (with_reducible refine LeO.ite ?_ ?_)
      | (with_reducible refine LeO.bind ?_ (fun _ => ?_))
      | exact ih0 _ _
      | exact ih1 _ _ _ _ _
      | exact ih2 _ _ _ _ _
      | exact ih3 _ _ _ _ _ _
      | exact ih4 _ _ _ _ _ _
      | exact dat_Counts.mono _ _ _
      | exact nautiluslaw08_shown.mono _
      | exact LeO.none _
      | refine LeO.ite ?_ ?_
      | refine LeO.bind ?_ (fun _ => ?_)
    · intro y0 y1 y2 y3 y4 y5
      unfold nautiluslaw08_DatMoves.j0
      repeat' first
      | (with_reducible exact ih0 _ _)
      | (with_reducible exact ih1 _ _ _ _ _)
      | (with_reducible exact ih2 _ _ _ _ _)
      | (with_reducible exact ih3 _ _ _ _ _ _)
      | (with_reducible exact ih4 _ _ _ _ _ _)
      | (with_reducible exact dat_Counts.mono _ _ _)
      | (with_reducible exact nautiluslaw08_shown.mono _)
      | (with_reducible exact LeO.refl _)
      | (with_reducible exact LeO.none _)
      | (with_reducible refine LeO.ite ?_ ?_)
      | (with_reducible refine LeO.bind ?_ (fun _ => ?_))
      | exact ih0 _ _
      | exact ih1 _ _ _ _ _
      | exact ih2 _ _ _ _ _
      | exact ih3 _ _ _ _ _ _
      | exact ih4 _ _ _ _ _ _
      | exact dat_Counts.mono _ _ _
      | exact nautiluslaw08_shown.mono _
      | exact LeO.none _
      | refine LeO.ite ?_ ?_
      | refine LeO.bind ?_ (fun _ => ?_)
    · intro y0 y1 y2 y3 y4 y5
      unfold nautiluslaw08_DatMoves.l0
      repeat' first
      | (with_reducible exact ih0 _ _)
      | (with_reducible exact ih1 _ _ _ _ _)
      | (with_reducible exact ih2 _ _ _ _ _)
      | (with_reducible exact ih3 _ _ _ _ _ _)
      | (with_reducible exact ih4 _ _ _ _ _ _)
      | (with_reducible exact dat_Counts.mono _ _ _)
      | (with_reducible exact nautiluslaw08_shown.mono _)
      | (with_reducible exact LeO.refl _)
      | (with_reducible exact LeO.none _)
      | (with_reducible refine LeO.ite ?_ ?_)
      | (with_reducible refine LeO.bind ?_ (fun _ => ?_))
      | exact ih0 _ _
      | exact ih1 _ _ _ _ _
      | exact ih2 _ _ _ _ _
      | exact ih3 _ _ _ _ _ _
      | exact ih4 _ _ _ _ _ _
      | exact dat_Counts.mono _ _ _
      | exact nautiluslaw08_shown.mono _
      | exact LeO.none _
      | refine LeO.ite ?_ ?_
      | refine LeO.bind ?_ (fun _ => ?_)
theorem nautiluslaw08_DatMoves.mono : ∀ a0 a1 a2 k, LeO (nautiluslaw08_DatMoves.f k a0 a1 a2) (nautiluslaw08_DatMoves.f (k + 1) a0 a1 a2) := by
  intro a0 a1 a2 k
  obtain ⟨ih0, ih1, ih2, ih3, ih4⟩ := nautiluslaw08_DatMoves.mono_l k
  unfold nautiluslaw08_DatMoves.f
  repeat' first
      | (with_reducible exact ih0 _ _)
      | (with_reducible exact ih1 _ _ _ _ _)
      | (with_reducible exact ih2 _ _ _ _ _)
      | (with_reducible exact ih3 _ _ _ _ _ _)
      | (with_reducible exact ih4 _ _ _ _ _ _)
      | (with_reducible exact dat_Counts.mono _ _ _)
      | (with_reducible exact nautiluslaw08_shown.mono _)
      | (with_reducible exact LeO.refl _)
      | (with_reducible exact LeO.none _)
      | (with_reducible refine LeO.ite ?_ ?_)
      | (with_reducible refine LeO.bind ?_ (fun _ => ?_))
      | exact ih0 _ _
      | exact ih1 _ _ _ _ _
      | exact ih2 _ _ _ _ _
      | exact ih3 _ _ _ _ _ _
      | exact ih4 _ _ _ _ _ _
      | exact dat_Counts.mono _ _ _
      | exact nautiluslaw08_shown.mono _
      | exact LeO.none _
      | refine LeO.ite ?_ ?_
      | refine LeO.bind ?_ (fun _ => ?_)
set_option maxHeartbeats 8000000 in
set_option maxRecDepth 100000 in
theorem nautiluslaw08_DatMoves.calls (k : Nat) (A0 : Option Addr) (c0 : Nat) (l0 : List (S31)) (a1 : Int) (a2 : Int) (r : Bool) (w : World) (hr0 : Kd.C k31 w A0 l0.length l0) (hc0 : l0.length ≤ c0) (h : nautiluslaw08_DatMoves.f k l0 a1 a2 = some r) :
    Calls Try.prog 6 #[.slice A0 l0.length c0, .int .u32 a1, .int .u32 a2] w fun e w' => e = .returned (.bool r) ∧ Below w.heap.size w w' := by
  have hu31 := Try.underlying31
  have HR0 := Aside0.mk hr0
  have HC0 := Aside0.mk hc0
  clear hr0 hc0
  have HB := Aside0.mk (Below.refl w.heap.size w)
  have H : ((nautiluslaw08_shown.f k).bind fun t371 => (if 0 ≤ (mn (l0.length : Int) 2000) then (if (mn (l0.length : Int) 2000) ≤ (l0.length : Int) then ((some (l0.take (mn (l0.length : Int) 2000 : Int).toNat : List (S31))).bind fun y372 => ((dat_Move.f y372 a1 a2).bind fun bt376 => (if bt376.2 = 0 then (if (bt376.1.length : Int) = (y372.length : Int) then (nautiluslaw08_DatMoves.j0 k y372 a1 a2 t371 bt376.1 (decide ((IntKind.u64.wrap (a1)) ≥ (IntKind.u64.wrap ((y372.length : Int)))))) else (nautiluslaw08_DatMoves.j0 k y372 a1 a2 t371 bt376.1 true)) else (nautiluslaw08_DatMoves.j2 k y372 t371)))) else (none)) else (none))) = some r := h
  clear h
  replace H := Option.bind_eq_some_iff.mp H
  obtain ⟨t371, A40, H⟩ := H
  replace H : (if 0 ≤ (mn (l0.length : Int) 2000) then (if (mn (l0.length : Int) 2000) ≤ (l0.length : Int) then ((some (l0.take (mn (l0.length : Int) 2000 : Int).toNat : List (S31))).bind fun y372 => ((dat_Move.f y372 a1 a2).bind fun bt376 => (if bt376.2 = 0 then (if (bt376.1.length : Int) = (y372.length : Int) then (nautiluslaw08_DatMoves.j0 k y372 a1 a2 t371 bt376.1 (decide ((IntKind.u64.wrap (a1)) ≥ (IntKind.u64.wrap ((y372.length : Int)))))) else (nautiluslaw08_DatMoves.j0 k y372 a1 a2 t371 bt376.1 true)) else (nautiluslaw08_DatMoves.j2 k y372 t371)))) else (none)) else (none)) = some r := H
  have A4 := Aside0.mk A40
  clear A40
  by_cases c5 : 0 ≤ (mn (l0.length : Int) 2000)
  · rw [if_pos c5] at H
    have c5b0 := eq_true c5
    have c5b1 : decide (0 ≤ (mn (l0.length : Int) 2000)) = true := decide_eq_true c5
    clear c5
    by_cases c6 : (mn (l0.length : Int) 2000) ≤ (l0.length : Int)
    · rw [if_pos c6] at H
      have c6b0 := eq_true c6
      have c6b1 : decide ((mn (l0.length : Int) 2000) ≤ (l0.length : Int)) = true := decide_eq_true c6
      clear c6
      obtain ⟨y372, hy372⟩ : ∃ y_ : List (S31), y_ = (l0.take (mn (l0.length : Int) 2000 : Int).toNat) := ⟨_, rfl⟩
      replace H : ((dat_Move.f y372 a1 a2).bind fun bt376 => (if bt376.2 = 0 then (if (bt376.1.length : Int) = (y372.length : Int) then (nautiluslaw08_DatMoves.j0 k y372 a1 a2 t371 bt376.1 (decide ((IntKind.u64.wrap (a1)) ≥ (IntKind.u64.wrap ((y372.length : Int)))))) else (nautiluslaw08_DatMoves.j0 k y372 a1 a2 t371 bt376.1 true)) else (nautiluslaw08_DatMoves.j2 k y372 t371))) = some r := by first | (rw [hy372]; with_reducible exact H) | (have H2_ := (Option.bind_some _ _).symm.trans H; rw [hy372]; with_reducible exact H2_) | (have H2_ := (Option.bind_some _ _).symm.trans H; with_reducible exact H2_) | with_reducible exact H | (rw [hy372]; exact H) | exact H
      have Ny372 := Aside0.mk hy372
      clear hy372
      replace H := Option.bind_eq_some_iff.mp H
      obtain ⟨⟨t376, t377⟩, A70, H⟩ := H
      replace H : (if t377 = 0 then (if (t376.length : Int) = (y372.length : Int) then (nautiluslaw08_DatMoves.j0 k y372 a1 a2 t371 t376 (decide ((IntKind.u64.wrap (a1)) ≥ (IntKind.u64.wrap ((y372.length : Int)))))) else (nautiluslaw08_DatMoves.j0 k y372 a1 a2 t371 t376 true)) else (nautiluslaw08_DatMoves.j2 k y372 t371)) = some r := H
      have A7 := Aside0.mk A70
      clear A70
      have HC8 := Aside0.mk H
      clear H
      go_enter Try.func6, Try.ntmps6
      go_upto_if 28 with (first | (go_at_call 9; (with_reducible refine (nautiluslaw08_shown.calls k  t371 _ A4.out).mono ?_); rintro e w9 ⟨rfl, hb⟩; have n0_ := Aside0.mk (below_step (by repeat (first | (with_reducible first | exact HB.out | apply below_alloc | apply pw_below_drewN | apply below_drew1) | exact HB.out)) hb); clear HB; have HB := n0_; clear n0_; (try clear hb); (try clear hb2); (try clear hk); (try clear hi); have q10 : ((mn (l0.length : Int) 2000) : Int) ≤ ((l0.length : Int) : Int) := of_decide_eq_true (by first | (with_reducible assumption) | assumption); obtain ⟨i010, hi010, _, hsz10, _⟩ := info_parts info31; have hroom10 : l0.length ≤ c0 := HC0.out; have hC10 : Kd.C k31 _ A0 l0.length l0 := HR0.out; have hcut10 := cut_to (P := Try.prog) 22 31 .i64 Try.underlying22 hi010 A0 l0.length c0 (mn (l0.length : Int) 2000) (of_decide_eq_true (by first | (with_reducible assumption) | assumption)) q10 hroom10; have hr10 := Kd.C_take (m := ((mn (l0.length : Int) 2000) : Int).toNat) hC10 (by omega); have hy10 : y372.length = ((mn (l0.length : Int) 2000) : Int).toNat := (by rw [Ny372.out, List.length_take]; omega); rw [← Ny372.out] at hr10; rw [← hy10] at hcut10; have HR375 := Aside0.mk hr10; have HC375 := Aside0.mk (show y372.length ≤ c0 from by omega); clear hr10 hC10 hroom10 hi010 hsz10; have KY10 := Aside0.mk hy10; clear hy10; clear hcut10; replace q10 := eq_true q10) | ((with_reducible refine gate_callee (f := 10) rfl ?_); refine goesL_ (some 19) rfl rfl Try.func10 (by kernel_rfl) rfl #[.slice A0 l0.length c0] rfl (by (try simp only [List.map_toArray, List.map_cons, List.map_nil]); first | done | rfl | (simp only [List.length_drop, List.length_take]; rfl)) ?_; (refine (nautiluslaw08_cut.calls A0 l0.length c0 y372.length _ ?side1 ?side2 ?side3).mono ?_); (case side1 => exact Kd.C_max HR0.out); (case side2 => exact HC0.out); (case side3 => exact KY10.out); rintro e w' ⟨rfl, rfl⟩; refine ⟨_, rfl, ?_⟩) | (go_at_call 15; (with_reducible refine (dat_Move.calls _ _ y372 a1 a2 t376 t377 _ ?side1 ?side2 A7.out).mono ?_); (case side1 => repeat (first | exact (Kd.C_below HR375.out HB.out) | (with_reducible refine Kd.C_alloc ?_ _) | (with_reducible refine Kd.C_drewN ?_ _) | (with_reducible refine Kd.C_drew ?_))); (case side2 => exact HC375.out); rintro e w11 ⟨v378, rfl, ho0, hb⟩; have n0_ := Aside0.mk (Kd.R_lower ho0 (below_size (by repeat (first | (with_reducible first | exact HB.out | apply below_alloc | apply pw_below_drewN | apply below_drew1) | exact HB.out)))); have n1_ := Aside0.mk (below_step (by repeat (first | (with_reducible first | exact HB.out | apply below_alloc | apply pw_below_drewN | apply below_drew1) | exact HB.out)) hb); clear HB; have HO379 := n0_; have HB := n1_; clear n0_ n1_; (try clear hb); (try clear hb2); (try clear hk); (try clear hi); (try clear ho0)))
      repeat (go_quiet (first | (go_at_call 9; (with_reducible refine (nautiluslaw08_shown.calls k  t371 _ A4.out).mono ?_); rintro e w9 ⟨rfl, hb⟩; have n0_ := Aside0.mk (below_step (by repeat (first | (with_reducible first | exact HB.out | apply below_alloc | apply pw_below_drewN | apply below_drew1) | exact HB.out)) hb); clear HB; have HB := n0_; clear n0_; (try clear hb); (try clear hb2); (try clear hk); (try clear hi); have q10 : ((mn (l0.length : Int) 2000) : Int) ≤ ((l0.length : Int) : Int) := of_decide_eq_true (by first | (with_reducible assumption) | assumption); obtain ⟨i010, hi010, _, hsz10, _⟩ := info_parts info31; have hroom10 : l0.length ≤ c0 := HC0.out; have hC10 : Kd.C k31 _ A0 l0.length l0 := HR0.out; have hcut10 := cut_to (P := Try.prog) 22 31 .i64 Try.underlying22 hi010 A0 l0.length c0 (mn (l0.length : Int) 2000) (of_decide_eq_true (by first | (with_reducible assumption) | assumption)) q10 hroom10; have hr10 := Kd.C_take (m := ((mn (l0.length : Int) 2000) : Int).toNat) hC10 (by omega); have hy10 : y372.length = ((mn (l0.length : Int) 2000) : Int).toNat := (by rw [Ny372.out, List.length_take]; omega); rw [← Ny372.out] at hr10; rw [← hy10] at hcut10; have HR375 := Aside0.mk hr10; have HC375 := Aside0.mk (show y372.length ≤ c0 from by omega); clear hr10 hC10 hroom10 hi010 hsz10; have KY10 := Aside0.mk hy10; clear hy10; clear hcut10; replace q10 := eq_true q10) | ((with_reducible refine gate_callee (f := 10) rfl ?_); refine goesL_ (some 19) rfl rfl Try.func10 (by kernel_rfl) rfl #[.slice A0 l0.length c0] rfl (by (try simp only [List.map_toArray, List.map_cons, List.map_nil]); first | done | rfl | (simp only [List.length_drop, List.length_take]; rfl)) ?_; (refine (nautiluslaw08_cut.calls A0 l0.length c0 y372.length _ ?side1 ?side2 ?side3).mono ?_); (case side1 => exact Kd.C_max HR0.out); (case side2 => exact HC0.out); (case side3 => exact KY10.out); rintro e w' ⟨rfl, rfl⟩; refine ⟨_, rfl, ?_⟩) | (go_at_call 15; (with_reducible refine (dat_Move.calls _ _ y372 a1 a2 t376 t377 _ ?side1 ?side2 A7.out).mono ?_); (case side1 => repeat (first | exact (Kd.C_below HR375.out HB.out) | (with_reducible refine Kd.C_alloc ?_ _) | (with_reducible refine Kd.C_drewN ?_ _) | (with_reducible refine Kd.C_drew ?_))); (case side2 => exact HC375.out); rintro e w11 ⟨v378, rfl, ho0, hb⟩; have n0_ := Aside0.mk (Kd.R_lower ho0 (below_size (by repeat (first | (with_reducible first | exact HB.out | apply below_alloc | apply pw_below_drewN | apply below_drew1) | exact HB.out)))); have n1_ := Aside0.mk (below_step (by repeat (first | (with_reducible first | exact HB.out | apply below_alloc | apply pw_below_drewN | apply below_drew1) | exact HB.out)) hb); clear HB; have HO379 := n0_; have HB := n1_; clear n0_ n1_; (try clear hb); (try clear hb2); (try clear hk); (try clear hi); (try clear ho0))); go_upto_if 28 with (first | (go_at_call 9; (with_reducible refine (nautiluslaw08_shown.calls k  t371 _ A4.out).mono ?_); rintro e w9 ⟨rfl, hb⟩; have n0_ := Aside0.mk (below_step (by repeat (first | (with_reducible first | exact HB.out | apply below_alloc | apply pw_below_drewN | apply below_drew1) | exact HB.out)) hb); clear HB; have HB := n0_; clear n0_; (try clear hb); (try clear hb2); (try clear hk); (try clear hi); have q10 : ((mn (l0.length : Int) 2000) : Int) ≤ ((l0.length : Int) : Int) := of_decide_eq_true (by first | (with_reducible assumption) | assumption); obtain ⟨i010, hi010, _, hsz10, _⟩ := info_parts info31; have hroom10 : l0.length ≤ c0 := HC0.out; have hC10 : Kd.C k31 _ A0 l0.length l0 := HR0.out; have hcut10 := cut_to (P := Try.prog) 22 31 .i64 Try.underlying22 hi010 A0 l0.length c0 (mn (l0.length : Int) 2000) (of_decide_eq_true (by first | (with_reducible assumption) | assumption)) q10 hroom10; have hr10 := Kd.C_take (m := ((mn (l0.length : Int) 2000) : Int).toNat) hC10 (by omega); have hy10 : y372.length = ((mn (l0.length : Int) 2000) : Int).toNat := (by rw [Ny372.out, List.length_take]; omega); rw [← Ny372.out] at hr10; rw [← hy10] at hcut10; have HR375 := Aside0.mk hr10; have HC375 := Aside0.mk (show y372.length ≤ c0 from by omega); clear hr10 hC10 hroom10 hi010 hsz10; have KY10 := Aside0.mk hy10; clear hy10; clear hcut10; replace q10 := eq_true q10) | ((with_reducible refine gate_callee (f := 10) rfl ?_); refine goesL_ (some 19) rfl rfl Try.func10 (by kernel_rfl) rfl #[.slice A0 l0.length c0] rfl (by (try simp only [List.map_toArray, List.map_cons, List.map_nil]); first | done | rfl | (simp only [List.length_drop, List.length_take]; rfl)) ?_; (refine (nautiluslaw08_cut.calls A0 l0.length c0 y372.length _ ?side1 ?side2 ?side3).mono ?_); (case side1 => exact Kd.C_max HR0.out); (case side2 => exact HC0.out); (case side3 => exact KY10.out); rintro e w' ⟨rfl, rfl⟩; refine ⟨_, rfl, ?_⟩) | (go_at_call 15; (with_reducible refine (dat_Move.calls _ _ y372 a1 a2 t376 t377 _ ?side1 ?side2 A7.out).mono ?_); (case side1 => repeat (first | exact (Kd.C_below HR375.out HB.out) | (with_reducible refine Kd.C_alloc ?_ _) | (with_reducible refine Kd.C_drewN ?_ _) | (with_reducible refine Kd.C_drew ?_))); (case side2 => exact HC375.out); rintro e w11 ⟨v378, rfl, ho0, hb⟩; have n0_ := Aside0.mk (Kd.R_lower ho0 (below_size (by repeat (first | (with_reducible first | exact HB.out | apply below_alloc | apply pw_below_drewN | apply below_drew1) | exact HB.out)))); have n1_ := Aside0.mk (below_step (by repeat (first | (with_reducible first | exact HB.out | apply below_alloc | apply pw_below_drewN | apply below_drew1) | exact HB.out)) hb); clear HB; have HO379 := n0_; have HB := n1_; clear n0_ n1_; (try clear hb); (try clear hb2); (try clear hk); (try clear hi); (try clear ho0))))
      (try simp only [Act.put, List.setIfInBounds_toArray, List.set_cons_zero, List.set_cons_succ])
      go_cut [] (fun wc => ∃ (kq : Nat), Aside0 (nautiluslaw08_DatMoves.j2 kq y372 t371 = some r) ∧ Aside0 (kq ≤ k) ∧ Aside0 (Below w.heap.size w wc))
      case first =>
        have H := HC8.out
        clear HC8
        by_cases c12 : t377 = 0
        · rw [if_pos c12] at H
          have c12b0 : (t377 == 0) = true := beq_iff_eq.mpr c12
          have c12b1 : (t377 != 0) = false := bne_eq_false_iff_eq.mpr c12
          clear c12
          (first | rw [c12b0] | (simp only [i64_w, i32_w]; rw [c12b0]) | skip)
          have HC13 := Aside0.mk H
          clear H
          go_upto_region 5 with (fail)
          repeat (go_quiet (fail); go_upto_region 5 with (fail))
          go_cut [41] (fun v41 wc => ∃ (kq : Nat) (x41_12 : Bool), v41 = .bool x41_12 ∧ Aside0 (nautiluslaw08_DatMoves.j0 kq y372 a1 a2 t371 t376 x41_12 = some r) ∧ Aside0 (kq ≤ k) ∧ Aside0 (Kd.R k31 31 wc w.heap.size (fun _ => True) v378 t376) ∧ Aside0 (Below w.heap.size w wc))
          case first =>
            have H := HC13.out
            clear HC13
            by_cases c14 : (t376.length : Int) = (y372.length : Int)
            · rw [if_pos c14] at H
              have c14b0 : ((t376.length : Int) == (y372.length : Int)) = true := beq_iff_eq.mpr c14
              have c14b1 : ((t376.length : Int) != (y372.length : Int)) = false := bne_eq_false_iff_eq.mpr c14
              have c14b2 : (t376.length == y372.length) = true := by first | simpa using c14 | (simp at c14 ⊢; omega)
              clear c14
              (first | rw [c14b0] | (simp only [i64_w, i32_w]; rw [c14b0]) | skip)
              have H' := Aside0.mk H
              clear H
              obtain ⟨Ao15, co15, eo15⟩ := Kd.R_slice HO379.out
              subst eo15
              go_wp2
              repeat (go_quiet (fail); try go_wp2)
              go_meet
              case rel => exact ⟨_, (decide ((IntKind.u64.wrap (a1)) ≥ (IntKind.u64.wrap ((y372.length : Int))))), (by first | rfl | (simp; done) | (simp [*]; done)), H', ⟨by first | omega | exact Nat.le_refl _⟩, ⟨by (with_reducible repeat (first | apply Kd.R_alloc | apply Kd.R_drewN | apply Kd.R_drew)); exact HO379.out⟩, ⟨by repeat (first | (with_reducible first | exact HB.out | apply below_alloc | apply pw_below_drewN | apply below_drew1) | exact HB.out)⟩⟩
            · rw [if_neg c14] at H
              have c14b0 : ((t376.length : Int) == (y372.length : Int)) = false := beq_eq_false_iff_ne.mpr c14
              have c14b1 : ((t376.length : Int) != (y372.length : Int)) = true := bne_iff_ne.mpr c14
              have c14b2 : (t376.length == y372.length) = false := by first | simpa using c14 | (simp at c14 ⊢; omega)
              (first | rw [c14b0] | (simp only [i64_w, i32_w]; rw [c14b0]) | skip)
              have H' := Aside0.mk H
              clear H
              obtain ⟨Ao16, co16, eo16⟩ := Kd.R_slice HO379.out
              subst eo16
              go_wp2
              repeat (go_quiet (fail); try go_wp2)
              go_meet
              case rel => exact ⟨_, (true), (by first | rfl | (simp; done) | (simp [*]; done)), H', ⟨by first | omega | exact Nat.le_refl _⟩, ⟨by (with_reducible repeat (first | apply Kd.R_alloc | apply Kd.R_drewN | apply Kd.R_drew)); exact HO379.out⟩, ⟨by repeat (first | (with_reducible first | exact HB.out | apply below_alloc | apply pw_below_drewN | apply below_drew1) | exact HB.out)⟩⟩
          case rest =>
            clear HC13
            try clear c1
            try clear q1
            try clear p2
            try clear c5
            try clear c5b0
            try clear c5b1
            try clear c6
            try clear c6b0
            try clear c6b1
            try clear c10
            try clear q10
            try clear c12
            try clear c12b0
            try clear c12b1
            try clear c14
            try clear c14b0
            try clear c14b1
            try clear c14b2
            try clear q10
            obtain ⟨kq, x41_12, rfl, HA, HJ12, HO_8, HB⟩ := hcut
            cases kq with
            | zero => exact absurd HA.out (by simp [nautiluslaw08_DatMoves.j0])
            | succ kj12 =>
              have H := HA.out
              clear HA
              simp only [nautiluslaw08_DatMoves.j0] at H
              by_cases c17 : x41_12 = true
              · subst c17
                have H1 : (some false) = some r := by rw [if_pos rfl] at H; exact H
                clear H
                have H := H1
                clear H1
                obtain rfl := Option.some.inj H
                go_wp2
                repeat (go_quiet (fail); try go_wp2)
                go_ret
                exact ⟨by first | rfl | (simp [errW_none, errW_some] <;> rfl) | (simp [*, errW_none, errW_some] <;> rfl) | (simp [show IntKind.u64.wrap 0 = 0 from rfl, Int.zero_tdiv]; done), by repeat (first | (with_reducible first | exact HB.out | apply below_alloc | apply pw_below_drewN | apply below_drew1) | exact HB.out)⟩
              · replace c17 := Bool.eq_false_iff.mpr c17
                subst c17
                have H1 : (nautiluslaw08_DatMoves.l0 kj12 y372 a1 a2 t371 t376 0) = some r := by rw [if_neg (show ¬ (false = true) by decide)] at H; exact H
                clear H
                have H := H1
                clear H1
                have H' := Aside0.mk H
                clear H
                go_wp2
                repeat (go_quiet (fail); try go_wp2)
                go_loopg [10] kj12 (fun kq v10 w' => ∃ (x10_2 : Int), v10 = .int .i64 x10_2 ∧ Aside0 (nautiluslaw08_DatMoves.l0 kq y372 a1 a2 t371 t376 x10_2 = some r) ∧ Aside0 (kq ≤ kj12) ∧ Aside0 (Kd.R k31 31 w' w.heap.size (fun _ => True) v378 t376) ∧ Aside0 (Below w.heap.size w w'))
                case atStart => exact ⟨(0), (by first | rfl | (simp; done) | (simp [*]; done)), H', ⟨Nat.le_refl _⟩, ⟨by (with_reducible repeat (first | apply Kd.R_alloc | apply Kd.R_drewN | apply Kd.R_drew)); exact HO_8.out⟩, ⟨by repeat (first | (with_reducible first | exact HB.out | apply below_alloc | apply pw_below_drewN | apply below_drew1) | exact HB.out)⟩⟩
                case round =>
                  clear H'
                  try clear c1
                  try clear q1
                  try clear p2
                  try clear c5
                  try clear c5b0
                  try clear c5b1
                  try clear c6
                  try clear c6b0
                  try clear c6b1
                  try clear c10
                  try clear q10
                  try clear c12
                  try clear c12b0
                  try clear c12b1
                  try clear c14
                  try clear c14b0
                  try clear c14b1
                  try clear c14b2
                  try clear c17
                  try clear p2
                  try clear q1
                  try clear q10
                  obtain ⟨x10_2, rfl, HA, HK2, HO_8, HB⟩ := hrel
                  cases gk with
                  | zero => exact absurd HA.out (by simp [nautiluslaw08_DatMoves.l0])
                  | succ k2 =>
                    have H := HA.out
                    clear HA
                    simp only [nautiluslaw08_DatMoves.l0] at H
                    by_cases c18 : x10_2 < (y372.length : Int)
                    · rw [if_pos c18] at H
                      have c18b0 : decide (x10_2 < (y372.length : Int)) = true := decide_eq_true c18
                      clear c18
                      by_cases c19 : 0 ≤ x10_2
                      · rw [if_pos c19] at H
                        have c19b0 : decide (0 ≤ x10_2) = true := decide_eq_true c19
                        clear c19
                        by_cases c20 : x10_2 = (wrap64 (a1))
                        · rw [if_pos c20] at H
                          have c20b0 : (x10_2 == (wrap64 (a1))) = true := beq_iff_eq.mpr c20
                          have c20b1 : (x10_2 != (wrap64 (a1))) = false := bne_eq_false_iff_eq.mpr c20
                          clear c20
                          by_cases c21 : x10_2 < (t376.length : Int)
                          · rw [if_pos c21] at H
                            have c21b0 : decide (x10_2 < (t376.length : Int)) = true := decide_eq_true c21
                            clear c21
                            by_cases c22 : (!(((rd_T31 t376 x10_2).f0) == a2) || (!(((rd_T31 t376 x10_2).f1) == ((rd_T31 y372 x10_2).f1)) || (!(((rd_T31 t376 x10_2).f2) == ((rd_T31 y372 x10_2).f2))))) = true
                            · rw [if_pos c22] at H
                              have c22b0 : (!(((rd_T31 t376 x10_2).f0) == a2) || (!(((rd_T31 t376 x10_2).f1) == ((rd_T31 y372 x10_2).f1)) || (!(((rd_T31 t376 x10_2).f2) == ((rd_T31 y372 x10_2).f2))))) = true := c22
                              clear c22
                              obtain rfl := Option.some.inj H
                              have p380 : 0 ≤ (x10_2 : Int) := of_decide_eq_true (by first | (with_reducible assumption) | assumption)
                              have q380 : x10_2 < (y372.length : Int) := of_decide_eq_true (by first | (with_reducible assumption) | assumption)
                              obtain ⟨ad380, e380, hx380_0, hx380_1, hx380_2⟩ := at_T31 HR375.out x10_2 p380 q380
                              cases e380
                              replace hx380_0 := (HB.out.cell (World.block_lt_of_cell? w _ hx380_0)).trans hx380_0
                              replace hx380_1 := (HB.out.cell (World.block_lt_of_cell? w _ hx380_1)).trans hx380_1
                              replace hx380_2 := (HB.out.cell (World.block_lt_of_cell? w _ hx380_2)).trans hx380_2
                              replace p380 := eq_true p380
                              replace q380 := eq_true q380
                              iterate 3 ((try go_wp2_with (first | ((with_reducible refine gate_dst (N := 11) rfl ?_); (try (refine gate_guard (by rfl) ?_; dsimp only)); refine box_event ?hg (N := 11) ?hd (cs := #[.int .u32 0, .int .u64 0, .int .u64 0]) (t := 31) ?hr ?_; (case hd => rfl); (case hg => rfl); (case hr => first | (go_simp; done) | (go_simp; rfl)); intro gb381 hg w23 hbox hb; have n0_ := Aside0.mk (Kd.R_below (Kd.R_elderB (by (with_reducible repeat (first | apply Kd.R_alloc | apply Kd.R_drewN | apply Kd.R_drew)); exact HO_8.out) gb381 (Nat.le_of_eq hg.symm)) hb); have n1_ := Aside0.mk (below_step (by repeat (first | (with_reducible first | exact HB.out | apply below_alloc | apply pw_below_drewN | apply below_drew1) | exact HB.out)) hb); have n2_ := Aside0.mk (hbox); have n3_ := Aside0.mk ((by rw [hg]; exact (below_size (by repeat (first | (with_reducible first | exact HB.out | apply below_alloc | apply pw_below_drewN | apply below_drew1) | exact HB.out))) : w.heap.size ≤ gb381)); have n4_ := Aside0.mk ((by rw [hg]; exact (below_size (by repeat (first | (with_reducible first | exact HB.out | apply below_alloc | apply pw_below_drewN | apply below_drew1) | exact HB.out))) : w.heap.size ≤ gb381)); clear HO_8; clear HB; have HO_8 := n0_; have HB := n1_; have BK381 := n2_; have GW381 := n3_; have GE381 := n4_; clear n0_ n1_ n2_ n3_ n4_; clear hb hbox hg; have hcz24_0 : w23.cell? ⟨gb381, 0, none⟩ = some (.int .u32 0) := (blk_cell BK381.out 0).trans rfl; have hcz24_1 : w23.cell? ⟨gb381, 1, none⟩ = some (.int .u64 0) := (blk_cell BK381.out 1).trans rfl; have hcz24_2 : w23.cell? ⟨gb381, 2, none⟩ = some (.int .u64 0) := (blk_cell BK381.out 2).trans rfl; have hfz24_0 := blk_frozen BK381.out 0; have hfz24_1 := blk_frozen BK381.out 1; have hfz24_2 := blk_frozen BK381.out 2; have hdd25_ := (show ((((w23.setCell ⟨gb381, 0, none⟩ (.int .u32 ((rd_T31 y372 x10_2).f0))).setCell ⟨gb381, 1, none⟩ (.int .u64 ((rd_T31 y372 x10_2).f1))).setCell ⟨gb381, 2, none⟩ (.int .u64 ((rd_T31 y372 x10_2).f2))).setCell ⟨gb381, 0, none⟩ (.int .u32 a2)).heap[gb381]? = some (.cells #[.int .u32 a2, .int .u64 ((rd_T31 y372 x10_2).f1), .int .u64 ((rd_T31 y372 x10_2).f2)] 31 (0, 0)) from (by refine blk_put (cs := #[.int .u32 ((rd_T31 y372 x10_2).f0), .int .u64 ((rd_T31 y372 x10_2).f1), .int .u64 ((rd_T31 y372 x10_2).f2)]) ?_ 0 _ rfl; refine blk_put (cs := #[.int .u32 ((rd_T31 y372 x10_2).f0), .int .u64 ((rd_T31 y372 x10_2).f1), .int .u64 0]) ?_ 2 _ rfl; refine blk_put (cs := #[.int .u32 ((rd_T31 y372 x10_2).f0), .int .u64 0, .int .u64 0]) ?_ 1 _ rfl; refine blk_put (cs := #[.int .u32 0, .int .u64 0, .int .u64 0]) ?_ 0 _ rfl; exact BK381.out)); have hdd25_0 : ((((w23.setCell ⟨gb381, 0, none⟩ (.int .u32 ((rd_T31 y372 x10_2).f0))).setCell ⟨gb381, 1, none⟩ (.int .u64 ((rd_T31 y372 x10_2).f1))).setCell ⟨gb381, 2, none⟩ (.int .u64 ((rd_T31 y372 x10_2).f2))).setCell ⟨gb381, 0, none⟩ (.int .u32 a2)).cell? ⟨gb381, 0, none⟩ = some (.int .u32 a2) := (blk_cell hdd25_ 0).trans rfl; have hdd25_1 : ((((w23.setCell ⟨gb381, 0, none⟩ (.int .u32 ((rd_T31 y372 x10_2).f0))).setCell ⟨gb381, 1, none⟩ (.int .u64 ((rd_T31 y372 x10_2).f1))).setCell ⟨gb381, 2, none⟩ (.int .u64 ((rd_T31 y372 x10_2).f2))).setCell ⟨gb381, 0, none⟩ (.int .u32 a2)).cell? ⟨gb381, 1, none⟩ = some (.int .u64 ((rd_T31 y372 x10_2).f1)) := (blk_cell hdd25_ 1).trans rfl; have hdd25_2 : ((((w23.setCell ⟨gb381, 0, none⟩ (.int .u32 ((rd_T31 y372 x10_2).f0))).setCell ⟨gb381, 1, none⟩ (.int .u64 ((rd_T31 y372 x10_2).f1))).setCell ⟨gb381, 2, none⟩ (.int .u64 ((rd_T31 y372 x10_2).f2))).setCell ⟨gb381, 0, none⟩ (.int .u32 a2)).cell? ⟨gb381, 2, none⟩ = some (.int .u64 ((rd_T31 y372 x10_2).f2)) := (blk_cell hdd25_ 2).trans rfl; (try have hdd25n_0 := fun (n_ : Nat) => (show (((((w23.drewN n_).setCell ⟨gb381, 0, none⟩ (.int .u32 ((rd_T31 y372 x10_2).f0))).setCell ⟨gb381, 1, none⟩ (.int .u64 ((rd_T31 y372 x10_2).f1))).setCell ⟨gb381, 2, none⟩ (.int .u64 ((rd_T31 y372 x10_2).f2))).setCell ⟨gb381, 0, none⟩ (.int .u32 a2)).cell? ⟨gb381, 0, none⟩ = some (.int .u32 a2) from hdd25_0)); (try have hdd25n_1 := fun (n_ : Nat) => (show (((((w23.drewN n_).setCell ⟨gb381, 0, none⟩ (.int .u32 ((rd_T31 y372 x10_2).f0))).setCell ⟨gb381, 1, none⟩ (.int .u64 ((rd_T31 y372 x10_2).f1))).setCell ⟨gb381, 2, none⟩ (.int .u64 ((rd_T31 y372 x10_2).f2))).setCell ⟨gb381, 0, none⟩ (.int .u32 a2)).cell? ⟨gb381, 1, none⟩ = some (.int .u64 ((rd_T31 y372 x10_2).f1)) from hdd25_1)); (try have hdd25n_2 := fun (n_ : Nat) => (show (((((w23.drewN n_).setCell ⟨gb381, 0, none⟩ (.int .u32 ((rd_T31 y372 x10_2).f0))).setCell ⟨gb381, 1, none⟩ (.int .u64 ((rd_T31 y372 x10_2).f1))).setCell ⟨gb381, 2, none⟩ (.int .u64 ((rd_T31 y372 x10_2).f2))).setCell ⟨gb381, 0, none⟩ (.int .u32 a2)).cell? ⟨gb381, 2, none⟩ = some (.int .u64 ((rd_T31 y372 x10_2).f2)) from hdd25_2)); clear hdd25_; obtain ⟨Ao26, co26, eo26⟩ := Kd.R_slice HO_8.out; subst eo26; have p382 : 0 ≤ (x10_2 : Int) := of_decide_eq_true (by first | (with_reducible assumption) | assumption); have q382 : x10_2 < (t376.length : Int) := of_decide_eq_true (by first | (with_reducible assumption) | assumption); obtain ⟨ad382, e382, hx382_0, hx382_1, hx382_2⟩ := at_T31 (Kd.R_reads' HO_8.out).2.2 x10_2 p382 q382; cases e382; have hn382_0 : ad382.block ≠ gb381 := (by first | exact Kd.own_blk (Kd.R_ne HO_8.out BK381.out (by decide)) | exact Kd.own_blk (Kd.R_away HO_8.out (fun _ hk => hk.2))); have hn382_1 : ad382.block ≠ gb381 := (by first | exact Kd.own_blk (Kd.R_ne HO_8.out BK381.out (by decide)) | exact Kd.own_blk (Kd.R_away HO_8.out (fun _ hk => hk.2))); have hn382_2 : ad382.block ≠ gb381 := (by first | exact Kd.own_blk (Kd.R_ne HO_8.out BK381.out (by decide)) | exact Kd.own_blk (Kd.R_away HO_8.out (fun _ hk => hk.2))); have hn382_3 : ad382.block ≠ gb381 := (by first | exact Kd.own_blk (Kd.R_ne HO_8.out BK381.out (by decide)) | exact Kd.own_blk (Kd.R_away HO_8.out (fun _ hk => hk.2))); replace hx382_0 := (cell_far (p := ⟨gb381, 0, none⟩) (by first | (rw [add_block]; exact hn382_0) | (show (Addr.add _ _).block ≠ _; rw [add_block]; exact hn382_0) | exact hn382_0) (.int .u32 ((rd_T31 y372 x10_2).f0))).trans hx382_0; replace hx382_1 := (cell_far (p := ⟨gb381, 0, none⟩) (by first | (rw [add_block]; exact hn382_0) | (show (Addr.add _ _).block ≠ _; rw [add_block]; exact hn382_0) | exact hn382_0) (.int .u32 ((rd_T31 y372 x10_2).f0))).trans hx382_1; replace hx382_2 := (cell_far (p := ⟨gb381, 0, none⟩) (by first | (rw [add_block]; exact hn382_0) | (show (Addr.add _ _).block ≠ _; rw [add_block]; exact hn382_0) | exact hn382_0) (.int .u32 ((rd_T31 y372 x10_2).f0))).trans hx382_2; replace hx382_0 := (cell_far (p := ⟨gb381, 1, none⟩) (by first | (rw [add_block]; exact hn382_1) | (show (Addr.add _ _).block ≠ _; rw [add_block]; exact hn382_1) | exact hn382_1) (.int .u64 ((rd_T31 y372 x10_2).f1))).trans hx382_0; replace hx382_1 := (cell_far (p := ⟨gb381, 1, none⟩) (by first | (rw [add_block]; exact hn382_1) | (show (Addr.add _ _).block ≠ _; rw [add_block]; exact hn382_1) | exact hn382_1) (.int .u64 ((rd_T31 y372 x10_2).f1))).trans hx382_1; replace hx382_2 := (cell_far (p := ⟨gb381, 1, none⟩) (by first | (rw [add_block]; exact hn382_1) | (show (Addr.add _ _).block ≠ _; rw [add_block]; exact hn382_1) | exact hn382_1) (.int .u64 ((rd_T31 y372 x10_2).f1))).trans hx382_2; replace hx382_0 := (cell_far (p := ⟨gb381, 2, none⟩) (by first | (rw [add_block]; exact hn382_2) | (show (Addr.add _ _).block ≠ _; rw [add_block]; exact hn382_2) | exact hn382_2) (.int .u64 ((rd_T31 y372 x10_2).f2))).trans hx382_0; replace hx382_1 := (cell_far (p := ⟨gb381, 2, none⟩) (by first | (rw [add_block]; exact hn382_2) | (show (Addr.add _ _).block ≠ _; rw [add_block]; exact hn382_2) | exact hn382_2) (.int .u64 ((rd_T31 y372 x10_2).f2))).trans hx382_1; replace hx382_2 := (cell_far (p := ⟨gb381, 2, none⟩) (by first | (rw [add_block]; exact hn382_2) | (show (Addr.add _ _).block ≠ _; rw [add_block]; exact hn382_2) | exact hn382_2) (.int .u64 ((rd_T31 y372 x10_2).f2))).trans hx382_2; replace hx382_0 := (cell_far (p := ⟨gb381, 0, none⟩) (by first | (rw [add_block]; exact hn382_3) | (show (Addr.add _ _).block ≠ _; rw [add_block]; exact hn382_3) | exact hn382_3) (.int .u32 a2)).trans hx382_0; replace hx382_1 := (cell_far (p := ⟨gb381, 0, none⟩) (by first | (rw [add_block]; exact hn382_3) | (show (Addr.add _ _).block ≠ _; rw [add_block]; exact hn382_3) | exact hn382_3) (.int .u32 a2)).trans hx382_1; replace hx382_2 := (cell_far (p := ⟨gb381, 0, none⟩) (by first | (rw [add_block]; exact hn382_3) | (show (Addr.add _ _).block ≠ _; rw [add_block]; exact hn382_3) | exact hn382_3) (.int .u32 a2)).trans hx382_2; (try have hy382_0 := fun (n_ : Nat) => (show ((((((w23.drewN n_).setCell ⟨gb381, 0, none⟩ (.int .u32 ((rd_T31 y372 x10_2).f0))).setCell ⟨gb381, 1, none⟩ (.int .u64 ((rd_T31 y372 x10_2).f1))).setCell ⟨gb381, 2, none⟩ (.int .u64 ((rd_T31 y372 x10_2).f2))).setCell ⟨gb381, 0, none⟩ (.int .u32 a2))).cell? _ = some _ from hx382_0)); (try have hy382_1 := fun (n_ : Nat) => (show ((((((w23.drewN n_).setCell ⟨gb381, 0, none⟩ (.int .u32 ((rd_T31 y372 x10_2).f0))).setCell ⟨gb381, 1, none⟩ (.int .u64 ((rd_T31 y372 x10_2).f1))).setCell ⟨gb381, 2, none⟩ (.int .u64 ((rd_T31 y372 x10_2).f2))).setCell ⟨gb381, 0, none⟩ (.int .u32 a2))).cell? _ = some _ from hx382_1)); (try have hy382_2 := fun (n_ : Nat) => (show ((((((w23.drewN n_).setCell ⟨gb381, 0, none⟩ (.int .u32 ((rd_T31 y372 x10_2).f0))).setCell ⟨gb381, 1, none⟩ (.int .u64 ((rd_T31 y372 x10_2).f1))).setCell ⟨gb381, 2, none⟩ (.int .u64 ((rd_T31 y372 x10_2).f2))).setCell ⟨gb381, 0, none⟩ (.int .u32 a2))).cell? _ = some _ from hx382_2)); clear hn382_0; clear hn382_1; clear hn382_2; clear hn382_3; replace p382 := eq_true p382; replace q382 := eq_true q382))); (try go_quiet (fail)))
                              go_ret
                              exact ⟨by first | rfl | (simp [errW_none, errW_some] <;> rfl) | (simp [*, errW_none, errW_some] <;> rfl) | (simp [show IntKind.u64.wrap 0 = 0 from rfl, Int.zero_tdiv]; done), by repeat (first | (with_reducible first | exact HB.out | apply below_alloc | apply pw_below_drewN | apply below_drew1 | refine below_set ?_ GE381.out) | exact HB.out)⟩
                            · rw [if_neg c22] at H
                              have c22b0 : (!(((rd_T31 t376 x10_2).f0) == a2) || (!(((rd_T31 t376 x10_2).f1) == ((rd_T31 y372 x10_2).f1)) || (!(((rd_T31 t376 x10_2).f2) == ((rd_T31 y372 x10_2).f2))))) = false := by simpa using c22
                              clear c22
                              have H' := Aside0.mk H
                              clear H
                              have p380 : 0 ≤ (x10_2 : Int) := of_decide_eq_true (by first | (with_reducible assumption) | assumption)
                              have q380 : x10_2 < (y372.length : Int) := of_decide_eq_true (by first | (with_reducible assumption) | assumption)
                              obtain ⟨ad380, e380, hx380_0, hx380_1, hx380_2⟩ := at_T31 HR375.out x10_2 p380 q380
                              cases e380
                              replace hx380_0 := (HB.out.cell (World.block_lt_of_cell? w _ hx380_0)).trans hx380_0
                              replace hx380_1 := (HB.out.cell (World.block_lt_of_cell? w _ hx380_1)).trans hx380_1
                              replace hx380_2 := (HB.out.cell (World.block_lt_of_cell? w _ hx380_2)).trans hx380_2
                              replace p380 := eq_true p380
                              replace q380 := eq_true q380
                              iterate 3 ((try go_wp2_with (first | ((with_reducible refine gate_dst (N := 11) rfl ?_); (try (refine gate_guard (by rfl) ?_; dsimp only)); refine box_event ?hg (N := 11) ?hd (cs := #[.int .u32 0, .int .u64 0, .int .u64 0]) (t := 31) ?hr ?_; (case hd => rfl); (case hg => rfl); (case hr => first | (go_simp; done) | (go_simp; rfl)); intro gb381 hg w27 hbox hb; have n0_ := Aside0.mk (Kd.R_below (Kd.R_elderB (by (with_reducible repeat (first | apply Kd.R_alloc | apply Kd.R_drewN | apply Kd.R_drew)); exact HO_8.out) gb381 (Nat.le_of_eq hg.symm)) hb); have n1_ := Aside0.mk (below_step (by repeat (first | (with_reducible first | exact HB.out | apply below_alloc | apply pw_below_drewN | apply below_drew1) | exact HB.out)) hb); have n2_ := Aside0.mk (hbox); have n3_ := Aside0.mk ((by rw [hg]; exact (below_size (by repeat (first | (with_reducible first | exact HB.out | apply below_alloc | apply pw_below_drewN | apply below_drew1) | exact HB.out))) : w.heap.size ≤ gb381)); have n4_ := Aside0.mk ((by rw [hg]; exact (below_size (by repeat (first | (with_reducible first | exact HB.out | apply below_alloc | apply pw_below_drewN | apply below_drew1) | exact HB.out))) : w.heap.size ≤ gb381)); clear HO_8; clear HB; have HO_8 := n0_; have HB := n1_; have BK381 := n2_; have GW381 := n3_; have GE381 := n4_; clear n0_ n1_ n2_ n3_ n4_; clear hb hbox hg; have hcz28_0 : w27.cell? ⟨gb381, 0, none⟩ = some (.int .u32 0) := (blk_cell BK381.out 0).trans rfl; have hcz28_1 : w27.cell? ⟨gb381, 1, none⟩ = some (.int .u64 0) := (blk_cell BK381.out 1).trans rfl; have hcz28_2 : w27.cell? ⟨gb381, 2, none⟩ = some (.int .u64 0) := (blk_cell BK381.out 2).trans rfl; have hfz28_0 := blk_frozen BK381.out 0; have hfz28_1 := blk_frozen BK381.out 1; have hfz28_2 := blk_frozen BK381.out 2; have hdd29_ := (show ((((w27.setCell ⟨gb381, 0, none⟩ (.int .u32 ((rd_T31 y372 x10_2).f0))).setCell ⟨gb381, 1, none⟩ (.int .u64 ((rd_T31 y372 x10_2).f1))).setCell ⟨gb381, 2, none⟩ (.int .u64 ((rd_T31 y372 x10_2).f2))).setCell ⟨gb381, 0, none⟩ (.int .u32 a2)).heap[gb381]? = some (.cells #[.int .u32 a2, .int .u64 ((rd_T31 y372 x10_2).f1), .int .u64 ((rd_T31 y372 x10_2).f2)] 31 (0, 0)) from (by refine blk_put (cs := #[.int .u32 ((rd_T31 y372 x10_2).f0), .int .u64 ((rd_T31 y372 x10_2).f1), .int .u64 ((rd_T31 y372 x10_2).f2)]) ?_ 0 _ rfl; refine blk_put (cs := #[.int .u32 ((rd_T31 y372 x10_2).f0), .int .u64 ((rd_T31 y372 x10_2).f1), .int .u64 0]) ?_ 2 _ rfl; refine blk_put (cs := #[.int .u32 ((rd_T31 y372 x10_2).f0), .int .u64 0, .int .u64 0]) ?_ 1 _ rfl; refine blk_put (cs := #[.int .u32 0, .int .u64 0, .int .u64 0]) ?_ 0 _ rfl; exact BK381.out)); have hdd29_0 : ((((w27.setCell ⟨gb381, 0, none⟩ (.int .u32 ((rd_T31 y372 x10_2).f0))).setCell ⟨gb381, 1, none⟩ (.int .u64 ((rd_T31 y372 x10_2).f1))).setCell ⟨gb381, 2, none⟩ (.int .u64 ((rd_T31 y372 x10_2).f2))).setCell ⟨gb381, 0, none⟩ (.int .u32 a2)).cell? ⟨gb381, 0, none⟩ = some (.int .u32 a2) := (blk_cell hdd29_ 0).trans rfl; have hdd29_1 : ((((w27.setCell ⟨gb381, 0, none⟩ (.int .u32 ((rd_T31 y372 x10_2).f0))).setCell ⟨gb381, 1, none⟩ (.int .u64 ((rd_T31 y372 x10_2).f1))).setCell ⟨gb381, 2, none⟩ (.int .u64 ((rd_T31 y372 x10_2).f2))).setCell ⟨gb381, 0, none⟩ (.int .u32 a2)).cell? ⟨gb381, 1, none⟩ = some (.int .u64 ((rd_T31 y372 x10_2).f1)) := (blk_cell hdd29_ 1).trans rfl; have hdd29_2 : ((((w27.setCell ⟨gb381, 0, none⟩ (.int .u32 ((rd_T31 y372 x10_2).f0))).setCell ⟨gb381, 1, none⟩ (.int .u64 ((rd_T31 y372 x10_2).f1))).setCell ⟨gb381, 2, none⟩ (.int .u64 ((rd_T31 y372 x10_2).f2))).setCell ⟨gb381, 0, none⟩ (.int .u32 a2)).cell? ⟨gb381, 2, none⟩ = some (.int .u64 ((rd_T31 y372 x10_2).f2)) := (blk_cell hdd29_ 2).trans rfl; (try have hdd29n_0 := fun (n_ : Nat) => (show (((((w27.drewN n_).setCell ⟨gb381, 0, none⟩ (.int .u32 ((rd_T31 y372 x10_2).f0))).setCell ⟨gb381, 1, none⟩ (.int .u64 ((rd_T31 y372 x10_2).f1))).setCell ⟨gb381, 2, none⟩ (.int .u64 ((rd_T31 y372 x10_2).f2))).setCell ⟨gb381, 0, none⟩ (.int .u32 a2)).cell? ⟨gb381, 0, none⟩ = some (.int .u32 a2) from hdd29_0)); (try have hdd29n_1 := fun (n_ : Nat) => (show (((((w27.drewN n_).setCell ⟨gb381, 0, none⟩ (.int .u32 ((rd_T31 y372 x10_2).f0))).setCell ⟨gb381, 1, none⟩ (.int .u64 ((rd_T31 y372 x10_2).f1))).setCell ⟨gb381, 2, none⟩ (.int .u64 ((rd_T31 y372 x10_2).f2))).setCell ⟨gb381, 0, none⟩ (.int .u32 a2)).cell? ⟨gb381, 1, none⟩ = some (.int .u64 ((rd_T31 y372 x10_2).f1)) from hdd29_1)); (try have hdd29n_2 := fun (n_ : Nat) => (show (((((w27.drewN n_).setCell ⟨gb381, 0, none⟩ (.int .u32 ((rd_T31 y372 x10_2).f0))).setCell ⟨gb381, 1, none⟩ (.int .u64 ((rd_T31 y372 x10_2).f1))).setCell ⟨gb381, 2, none⟩ (.int .u64 ((rd_T31 y372 x10_2).f2))).setCell ⟨gb381, 0, none⟩ (.int .u32 a2)).cell? ⟨gb381, 2, none⟩ = some (.int .u64 ((rd_T31 y372 x10_2).f2)) from hdd29_2)); clear hdd29_; obtain ⟨Ao30, co30, eo30⟩ := Kd.R_slice HO_8.out; subst eo30; have p382 : 0 ≤ (x10_2 : Int) := of_decide_eq_true (by first | (with_reducible assumption) | assumption); have q382 : x10_2 < (t376.length : Int) := of_decide_eq_true (by first | (with_reducible assumption) | assumption); obtain ⟨ad382, e382, hx382_0, hx382_1, hx382_2⟩ := at_T31 (Kd.R_reads' HO_8.out).2.2 x10_2 p382 q382; cases e382; have hn382_0 : ad382.block ≠ gb381 := (by first | exact Kd.own_blk (Kd.R_ne HO_8.out BK381.out (by decide)) | exact Kd.own_blk (Kd.R_away HO_8.out (fun _ hk => hk.2))); have hn382_1 : ad382.block ≠ gb381 := (by first | exact Kd.own_blk (Kd.R_ne HO_8.out BK381.out (by decide)) | exact Kd.own_blk (Kd.R_away HO_8.out (fun _ hk => hk.2))); have hn382_2 : ad382.block ≠ gb381 := (by first | exact Kd.own_blk (Kd.R_ne HO_8.out BK381.out (by decide)) | exact Kd.own_blk (Kd.R_away HO_8.out (fun _ hk => hk.2))); have hn382_3 : ad382.block ≠ gb381 := (by first | exact Kd.own_blk (Kd.R_ne HO_8.out BK381.out (by decide)) | exact Kd.own_blk (Kd.R_away HO_8.out (fun _ hk => hk.2))); replace hx382_0 := (cell_far (p := ⟨gb381, 0, none⟩) (by first | (rw [add_block]; exact hn382_0) | (show (Addr.add _ _).block ≠ _; rw [add_block]; exact hn382_0) | exact hn382_0) (.int .u32 ((rd_T31 y372 x10_2).f0))).trans hx382_0; replace hx382_1 := (cell_far (p := ⟨gb381, 0, none⟩) (by first | (rw [add_block]; exact hn382_0) | (show (Addr.add _ _).block ≠ _; rw [add_block]; exact hn382_0) | exact hn382_0) (.int .u32 ((rd_T31 y372 x10_2).f0))).trans hx382_1; replace hx382_2 := (cell_far (p := ⟨gb381, 0, none⟩) (by first | (rw [add_block]; exact hn382_0) | (show (Addr.add _ _).block ≠ _; rw [add_block]; exact hn382_0) | exact hn382_0) (.int .u32 ((rd_T31 y372 x10_2).f0))).trans hx382_2; replace hx382_0 := (cell_far (p := ⟨gb381, 1, none⟩) (by first | (rw [add_block]; exact hn382_1) | (show (Addr.add _ _).block ≠ _; rw [add_block]; exact hn382_1) | exact hn382_1) (.int .u64 ((rd_T31 y372 x10_2).f1))).trans hx382_0; replace hx382_1 := (cell_far (p := ⟨gb381, 1, none⟩) (by first | (rw [add_block]; exact hn382_1) | (show (Addr.add _ _).block ≠ _; rw [add_block]; exact hn382_1) | exact hn382_1) (.int .u64 ((rd_T31 y372 x10_2).f1))).trans hx382_1; replace hx382_2 := (cell_far (p := ⟨gb381, 1, none⟩) (by first | (rw [add_block]; exact hn382_1) | (show (Addr.add _ _).block ≠ _; rw [add_block]; exact hn382_1) | exact hn382_1) (.int .u64 ((rd_T31 y372 x10_2).f1))).trans hx382_2; replace hx382_0 := (cell_far (p := ⟨gb381, 2, none⟩) (by first | (rw [add_block]; exact hn382_2) | (show (Addr.add _ _).block ≠ _; rw [add_block]; exact hn382_2) | exact hn382_2) (.int .u64 ((rd_T31 y372 x10_2).f2))).trans hx382_0; replace hx382_1 := (cell_far (p := ⟨gb381, 2, none⟩) (by first | (rw [add_block]; exact hn382_2) | (show (Addr.add _ _).block ≠ _; rw [add_block]; exact hn382_2) | exact hn382_2) (.int .u64 ((rd_T31 y372 x10_2).f2))).trans hx382_1; replace hx382_2 := (cell_far (p := ⟨gb381, 2, none⟩) (by first | (rw [add_block]; exact hn382_2) | (show (Addr.add _ _).block ≠ _; rw [add_block]; exact hn382_2) | exact hn382_2) (.int .u64 ((rd_T31 y372 x10_2).f2))).trans hx382_2; replace hx382_0 := (cell_far (p := ⟨gb381, 0, none⟩) (by first | (rw [add_block]; exact hn382_3) | (show (Addr.add _ _).block ≠ _; rw [add_block]; exact hn382_3) | exact hn382_3) (.int .u32 a2)).trans hx382_0; replace hx382_1 := (cell_far (p := ⟨gb381, 0, none⟩) (by first | (rw [add_block]; exact hn382_3) | (show (Addr.add _ _).block ≠ _; rw [add_block]; exact hn382_3) | exact hn382_3) (.int .u32 a2)).trans hx382_1; replace hx382_2 := (cell_far (p := ⟨gb381, 0, none⟩) (by first | (rw [add_block]; exact hn382_3) | (show (Addr.add _ _).block ≠ _; rw [add_block]; exact hn382_3) | exact hn382_3) (.int .u32 a2)).trans hx382_2; (try have hy382_0 := fun (n_ : Nat) => (show ((((((w27.drewN n_).setCell ⟨gb381, 0, none⟩ (.int .u32 ((rd_T31 y372 x10_2).f0))).setCell ⟨gb381, 1, none⟩ (.int .u64 ((rd_T31 y372 x10_2).f1))).setCell ⟨gb381, 2, none⟩ (.int .u64 ((rd_T31 y372 x10_2).f2))).setCell ⟨gb381, 0, none⟩ (.int .u32 a2))).cell? _ = some _ from hx382_0)); (try have hy382_1 := fun (n_ : Nat) => (show ((((((w27.drewN n_).setCell ⟨gb381, 0, none⟩ (.int .u32 ((rd_T31 y372 x10_2).f0))).setCell ⟨gb381, 1, none⟩ (.int .u64 ((rd_T31 y372 x10_2).f1))).setCell ⟨gb381, 2, none⟩ (.int .u64 ((rd_T31 y372 x10_2).f2))).setCell ⟨gb381, 0, none⟩ (.int .u32 a2))).cell? _ = some _ from hx382_1)); (try have hy382_2 := fun (n_ : Nat) => (show ((((((w27.drewN n_).setCell ⟨gb381, 0, none⟩ (.int .u32 ((rd_T31 y372 x10_2).f0))).setCell ⟨gb381, 1, none⟩ (.int .u64 ((rd_T31 y372 x10_2).f1))).setCell ⟨gb381, 2, none⟩ (.int .u64 ((rd_T31 y372 x10_2).f2))).setCell ⟨gb381, 0, none⟩ (.int .u32 a2))).cell? _ = some _ from hx382_2)); clear hn382_0; clear hn382_1; clear hn382_2; clear hn382_3; replace p382 := eq_true p382; replace q382 := eq_true q382))); (try go_quiet (fail)))
                              go_roundg k2
                              case measure => have := HJ12.out; have := HK2.out; omega
                              case rel => exact ⟨(wrap64 (x10_2 + 1)), (by first | rfl | (simp; done) | (simp [*]; done)), H', ⟨by have := HJ12.out; have := HK2.out; omega⟩, ⟨by (with_reducible repeat (first | apply Kd.R_alloc | apply Kd.R_drewN | apply Kd.R_drew)); exact Kd.R_mono (Kd.R_far (p := ⟨gb381, 0, none⟩) (Kd.R_far (p := ⟨gb381, 2, none⟩) (Kd.R_far (p := ⟨gb381, 1, none⟩) (Kd.R_far (p := ⟨gb381, 0, none⟩) (Kd.R_mono HO_8.out (fun k_ hk => (⟨hk, hk.2⟩ : _ ∧ k_ ≠ gb381))) (fun _ hk => hk.2) (.int .u32 ((rd_T31 y372 x10_2).f0))) (fun _ hk => hk.2) (.int .u64 ((rd_T31 y372 x10_2).f1))) (fun _ hk => hk.2) (.int .u64 ((rd_T31 y372 x10_2).f2))) (fun _ hk => hk.2) (.int .u32 a2)) (fun _ hk => trivial)⟩, ⟨by repeat (first | (with_reducible first | exact HB.out | apply below_alloc | apply pw_below_drewN | apply below_drew1 | refine below_set ?_ GE381.out) | exact HB.out)⟩⟩
                          · rw [if_neg c21] at H
                            exact absurd H (by simp)
                        · rw [if_neg c20] at H
                          have c20b0 : (x10_2 == (wrap64 (a1))) = false := beq_eq_false_iff_ne.mpr c20
                          have c20b1 : (x10_2 != (wrap64 (a1))) = true := bne_iff_ne.mpr c20
                          by_cases c31 : x10_2 < (t376.length : Int)
                          · rw [if_pos c31] at H
                            have c31b0 : decide (x10_2 < (t376.length : Int)) = true := decide_eq_true c31
                            clear c31
                            by_cases c32 : (!(((rd_T31 t376 x10_2).f0) == ((rd_T31 y372 x10_2).f0)) || (!(((rd_T31 t376 x10_2).f1) == ((rd_T31 y372 x10_2).f1)) || (!(((rd_T31 t376 x10_2).f2) == ((rd_T31 y372 x10_2).f2))))) = true
                            · rw [if_pos c32] at H
                              have c32b0 : (!(((rd_T31 t376 x10_2).f0) == ((rd_T31 y372 x10_2).f0)) || (!(((rd_T31 t376 x10_2).f1) == ((rd_T31 y372 x10_2).f1)) || (!(((rd_T31 t376 x10_2).f2) == ((rd_T31 y372 x10_2).f2))))) = true := c32
                              clear c32
                              obtain rfl := Option.some.inj H
                              have p380 : 0 ≤ (x10_2 : Int) := of_decide_eq_true (by first | (with_reducible assumption) | assumption)
                              have q380 : x10_2 < (y372.length : Int) := of_decide_eq_true (by first | (with_reducible assumption) | assumption)
                              obtain ⟨ad380, e380, hx380_0, hx380_1, hx380_2⟩ := at_T31 HR375.out x10_2 p380 q380
                              cases e380
                              replace hx380_0 := (HB.out.cell (World.block_lt_of_cell? w _ hx380_0)).trans hx380_0
                              replace hx380_1 := (HB.out.cell (World.block_lt_of_cell? w _ hx380_1)).trans hx380_1
                              replace hx380_2 := (HB.out.cell (World.block_lt_of_cell? w _ hx380_2)).trans hx380_2
                              replace p380 := eq_true p380
                              replace q380 := eq_true q380
                              iterate 3 ((try go_wp2_with (first | ((with_reducible refine gate_dst (N := 11) rfl ?_); (try (refine gate_guard (by rfl) ?_; dsimp only)); refine box_event ?hg (N := 11) ?hd (cs := #[.int .u32 0, .int .u64 0, .int .u64 0]) (t := 31) ?hr ?_; (case hd => rfl); (case hg => rfl); (case hr => first | (go_simp; done) | (go_simp; rfl)); intro gb381 hg w33 hbox hb; have n0_ := Aside0.mk (Kd.R_below (Kd.R_elderB (by (with_reducible repeat (first | apply Kd.R_alloc | apply Kd.R_drewN | apply Kd.R_drew)); exact HO_8.out) gb381 (Nat.le_of_eq hg.symm)) hb); have n1_ := Aside0.mk (below_step (by repeat (first | (with_reducible first | exact HB.out | apply below_alloc | apply pw_below_drewN | apply below_drew1) | exact HB.out)) hb); have n2_ := Aside0.mk (hbox); have n3_ := Aside0.mk ((by rw [hg]; exact (below_size (by repeat (first | (with_reducible first | exact HB.out | apply below_alloc | apply pw_below_drewN | apply below_drew1) | exact HB.out))) : w.heap.size ≤ gb381)); have n4_ := Aside0.mk ((by rw [hg]; exact (below_size (by repeat (first | (with_reducible first | exact HB.out | apply below_alloc | apply pw_below_drewN | apply below_drew1) | exact HB.out))) : w.heap.size ≤ gb381)); clear HO_8; clear HB; have HO_8 := n0_; have HB := n1_; have BK381 := n2_; have GW381 := n3_; have GE381 := n4_; clear n0_ n1_ n2_ n3_ n4_; clear hb hbox hg; have hcz34_0 : w33.cell? ⟨gb381, 0, none⟩ = some (.int .u32 0) := (blk_cell BK381.out 0).trans rfl; have hcz34_1 : w33.cell? ⟨gb381, 1, none⟩ = some (.int .u64 0) := (blk_cell BK381.out 1).trans rfl; have hcz34_2 : w33.cell? ⟨gb381, 2, none⟩ = some (.int .u64 0) := (blk_cell BK381.out 2).trans rfl; have hfz34_0 := blk_frozen BK381.out 0; have hfz34_1 := blk_frozen BK381.out 1; have hfz34_2 := blk_frozen BK381.out 2; obtain ⟨Ao35, co35, eo35⟩ := Kd.R_slice HO_8.out; subst eo35; have p383 : 0 ≤ (x10_2 : Int) := of_decide_eq_true (by first | (with_reducible assumption) | assumption); have q383 : x10_2 < (t376.length : Int) := of_decide_eq_true (by first | (with_reducible assumption) | assumption); obtain ⟨ad383, e383, hx383_0, hx383_1, hx383_2⟩ := at_T31 (Kd.R_reads' HO_8.out).2.2 x10_2 p383 q383; cases e383; have hn383_0 : ad383.block ≠ gb381 := (by first | exact Kd.own_blk (Kd.R_ne HO_8.out BK381.out (by decide)) | exact Kd.own_blk (Kd.R_away HO_8.out (fun _ hk => hk.2))); have hn383_1 : ad383.block ≠ gb381 := (by first | exact Kd.own_blk (Kd.R_ne HO_8.out BK381.out (by decide)) | exact Kd.own_blk (Kd.R_away HO_8.out (fun _ hk => hk.2))); have hn383_2 : ad383.block ≠ gb381 := (by first | exact Kd.own_blk (Kd.R_ne HO_8.out BK381.out (by decide)) | exact Kd.own_blk (Kd.R_away HO_8.out (fun _ hk => hk.2))); replace hx383_0 := (cell_far (p := ⟨gb381, 0, none⟩) (by first | (rw [add_block]; exact hn383_0) | (show (Addr.add _ _).block ≠ _; rw [add_block]; exact hn383_0) | exact hn383_0) (.int .u32 ((rd_T31 y372 x10_2).f0))).trans hx383_0; replace hx383_1 := (cell_far (p := ⟨gb381, 0, none⟩) (by first | (rw [add_block]; exact hn383_0) | (show (Addr.add _ _).block ≠ _; rw [add_block]; exact hn383_0) | exact hn383_0) (.int .u32 ((rd_T31 y372 x10_2).f0))).trans hx383_1; replace hx383_2 := (cell_far (p := ⟨gb381, 0, none⟩) (by first | (rw [add_block]; exact hn383_0) | (show (Addr.add _ _).block ≠ _; rw [add_block]; exact hn383_0) | exact hn383_0) (.int .u32 ((rd_T31 y372 x10_2).f0))).trans hx383_2; replace hx383_0 := (cell_far (p := ⟨gb381, 1, none⟩) (by first | (rw [add_block]; exact hn383_1) | (show (Addr.add _ _).block ≠ _; rw [add_block]; exact hn383_1) | exact hn383_1) (.int .u64 ((rd_T31 y372 x10_2).f1))).trans hx383_0; replace hx383_1 := (cell_far (p := ⟨gb381, 1, none⟩) (by first | (rw [add_block]; exact hn383_1) | (show (Addr.add _ _).block ≠ _; rw [add_block]; exact hn383_1) | exact hn383_1) (.int .u64 ((rd_T31 y372 x10_2).f1))).trans hx383_1; replace hx383_2 := (cell_far (p := ⟨gb381, 1, none⟩) (by first | (rw [add_block]; exact hn383_1) | (show (Addr.add _ _).block ≠ _; rw [add_block]; exact hn383_1) | exact hn383_1) (.int .u64 ((rd_T31 y372 x10_2).f1))).trans hx383_2; replace hx383_0 := (cell_far (p := ⟨gb381, 2, none⟩) (by first | (rw [add_block]; exact hn383_2) | (show (Addr.add _ _).block ≠ _; rw [add_block]; exact hn383_2) | exact hn383_2) (.int .u64 ((rd_T31 y372 x10_2).f2))).trans hx383_0; replace hx383_1 := (cell_far (p := ⟨gb381, 2, none⟩) (by first | (rw [add_block]; exact hn383_2) | (show (Addr.add _ _).block ≠ _; rw [add_block]; exact hn383_2) | exact hn383_2) (.int .u64 ((rd_T31 y372 x10_2).f2))).trans hx383_1; replace hx383_2 := (cell_far (p := ⟨gb381, 2, none⟩) (by first | (rw [add_block]; exact hn383_2) | (show (Addr.add _ _).block ≠ _; rw [add_block]; exact hn383_2) | exact hn383_2) (.int .u64 ((rd_T31 y372 x10_2).f2))).trans hx383_2; (try have hy383_0 := fun (n_ : Nat) => (show (((((w33.drewN n_).setCell ⟨gb381, 0, none⟩ (.int .u32 ((rd_T31 y372 x10_2).f0))).setCell ⟨gb381, 1, none⟩ (.int .u64 ((rd_T31 y372 x10_2).f1))).setCell ⟨gb381, 2, none⟩ (.int .u64 ((rd_T31 y372 x10_2).f2)))).cell? _ = some _ from hx383_0)); (try have hy383_1 := fun (n_ : Nat) => (show (((((w33.drewN n_).setCell ⟨gb381, 0, none⟩ (.int .u32 ((rd_T31 y372 x10_2).f0))).setCell ⟨gb381, 1, none⟩ (.int .u64 ((rd_T31 y372 x10_2).f1))).setCell ⟨gb381, 2, none⟩ (.int .u64 ((rd_T31 y372 x10_2).f2)))).cell? _ = some _ from hx383_1)); (try have hy383_2 := fun (n_ : Nat) => (show (((((w33.drewN n_).setCell ⟨gb381, 0, none⟩ (.int .u32 ((rd_T31 y372 x10_2).f0))).setCell ⟨gb381, 1, none⟩ (.int .u64 ((rd_T31 y372 x10_2).f1))).setCell ⟨gb381, 2, none⟩ (.int .u64 ((rd_T31 y372 x10_2).f2)))).cell? _ = some _ from hx383_2)); clear hn383_0; clear hn383_1; clear hn383_2; replace p383 := eq_true p383; replace q383 := eq_true q383))); (try go_quiet (fail)))
                              go_ret
                              exact ⟨by first | rfl | (simp [errW_none, errW_some] <;> rfl) | (simp [*, errW_none, errW_some] <;> rfl) | (simp [show IntKind.u64.wrap 0 = 0 from rfl, Int.zero_tdiv]; done), by repeat (first | (with_reducible first | exact HB.out | apply below_alloc | apply pw_below_drewN | apply below_drew1 | refine below_set ?_ GE381.out) | exact HB.out)⟩
                            · rw [if_neg c32] at H
                              have c32b0 : (!(((rd_T31 t376 x10_2).f0) == ((rd_T31 y372 x10_2).f0)) || (!(((rd_T31 t376 x10_2).f1) == ((rd_T31 y372 x10_2).f1)) || (!(((rd_T31 t376 x10_2).f2) == ((rd_T31 y372 x10_2).f2))))) = false := by simpa using c32
                              clear c32
                              have H' := Aside0.mk H
                              clear H
                              have p380 : 0 ≤ (x10_2 : Int) := of_decide_eq_true (by first | (with_reducible assumption) | assumption)
                              have q380 : x10_2 < (y372.length : Int) := of_decide_eq_true (by first | (with_reducible assumption) | assumption)
                              obtain ⟨ad380, e380, hx380_0, hx380_1, hx380_2⟩ := at_T31 HR375.out x10_2 p380 q380
                              cases e380
                              replace hx380_0 := (HB.out.cell (World.block_lt_of_cell? w _ hx380_0)).trans hx380_0
                              replace hx380_1 := (HB.out.cell (World.block_lt_of_cell? w _ hx380_1)).trans hx380_1
                              replace hx380_2 := (HB.out.cell (World.block_lt_of_cell? w _ hx380_2)).trans hx380_2
                              replace p380 := eq_true p380
                              replace q380 := eq_true q380
                              iterate 3 ((try go_wp2_with (first | ((with_reducible refine gate_dst (N := 11) rfl ?_); (try (refine gate_guard (by rfl) ?_; dsimp only)); refine box_event ?hg (N := 11) ?hd (cs := #[.int .u32 0, .int .u64 0, .int .u64 0]) (t := 31) ?hr ?_; (case hd => rfl); (case hg => rfl); (case hr => first | (go_simp; done) | (go_simp; rfl)); intro gb381 hg w36 hbox hb; have n0_ := Aside0.mk (Kd.R_below (Kd.R_elderB (by (with_reducible repeat (first | apply Kd.R_alloc | apply Kd.R_drewN | apply Kd.R_drew)); exact HO_8.out) gb381 (Nat.le_of_eq hg.symm)) hb); have n1_ := Aside0.mk (below_step (by repeat (first | (with_reducible first | exact HB.out | apply below_alloc | apply pw_below_drewN | apply below_drew1) | exact HB.out)) hb); have n2_ := Aside0.mk (hbox); have n3_ := Aside0.mk ((by rw [hg]; exact (below_size (by repeat (first | (with_reducible first | exact HB.out | apply below_alloc | apply pw_below_drewN | apply below_drew1) | exact HB.out))) : w.heap.size ≤ gb381)); have n4_ := Aside0.mk ((by rw [hg]; exact (below_size (by repeat (first | (with_reducible first | exact HB.out | apply below_alloc | apply pw_below_drewN | apply below_drew1) | exact HB.out))) : w.heap.size ≤ gb381)); clear HO_8; clear HB; have HO_8 := n0_; have HB := n1_; have BK381 := n2_; have GW381 := n3_; have GE381 := n4_; clear n0_ n1_ n2_ n3_ n4_; clear hb hbox hg; have hcz37_0 : w36.cell? ⟨gb381, 0, none⟩ = some (.int .u32 0) := (blk_cell BK381.out 0).trans rfl; have hcz37_1 : w36.cell? ⟨gb381, 1, none⟩ = some (.int .u64 0) := (blk_cell BK381.out 1).trans rfl; have hcz37_2 : w36.cell? ⟨gb381, 2, none⟩ = some (.int .u64 0) := (blk_cell BK381.out 2).trans rfl; have hfz37_0 := blk_frozen BK381.out 0; have hfz37_1 := blk_frozen BK381.out 1; have hfz37_2 := blk_frozen BK381.out 2; obtain ⟨Ao38, co38, eo38⟩ := Kd.R_slice HO_8.out; subst eo38; have p383 : 0 ≤ (x10_2 : Int) := of_decide_eq_true (by first | (with_reducible assumption) | assumption); have q383 : x10_2 < (t376.length : Int) := of_decide_eq_true (by first | (with_reducible assumption) | assumption); obtain ⟨ad383, e383, hx383_0, hx383_1, hx383_2⟩ := at_T31 (Kd.R_reads' HO_8.out).2.2 x10_2 p383 q383; cases e383; have hn383_0 : ad383.block ≠ gb381 := (by first | exact Kd.own_blk (Kd.R_ne HO_8.out BK381.out (by decide)) | exact Kd.own_blk (Kd.R_away HO_8.out (fun _ hk => hk.2))); have hn383_1 : ad383.block ≠ gb381 := (by first | exact Kd.own_blk (Kd.R_ne HO_8.out BK381.out (by decide)) | exact Kd.own_blk (Kd.R_away HO_8.out (fun _ hk => hk.2))); have hn383_2 : ad383.block ≠ gb381 := (by first | exact Kd.own_blk (Kd.R_ne HO_8.out BK381.out (by decide)) | exact Kd.own_blk (Kd.R_away HO_8.out (fun _ hk => hk.2))); replace hx383_0 := (cell_far (p := ⟨gb381, 0, none⟩) (by first | (rw [add_block]; exact hn383_0) | (show (Addr.add _ _).block ≠ _; rw [add_block]; exact hn383_0) | exact hn383_0) (.int .u32 ((rd_T31 y372 x10_2).f0))).trans hx383_0; replace hx383_1 := (cell_far (p := ⟨gb381, 0, none⟩) (by first | (rw [add_block]; exact hn383_0) | (show (Addr.add _ _).block ≠ _; rw [add_block]; exact hn383_0) | exact hn383_0) (.int .u32 ((rd_T31 y372 x10_2).f0))).trans hx383_1; replace hx383_2 := (cell_far (p := ⟨gb381, 0, none⟩) (by first | (rw [add_block]; exact hn383_0) | (show (Addr.add _ _).block ≠ _; rw [add_block]; exact hn383_0) | exact hn383_0) (.int .u32 ((rd_T31 y372 x10_2).f0))).trans hx383_2; replace hx383_0 := (cell_far (p := ⟨gb381, 1, none⟩) (by first | (rw [add_block]; exact hn383_1) | (show (Addr.add _ _).block ≠ _; rw [add_block]; exact hn383_1) | exact hn383_1) (.int .u64 ((rd_T31 y372 x10_2).f1))).trans hx383_0; replace hx383_1 := (cell_far (p := ⟨gb381, 1, none⟩) (by first | (rw [add_block]; exact hn383_1) | (show (Addr.add _ _).block ≠ _; rw [add_block]; exact hn383_1) | exact hn383_1) (.int .u64 ((rd_T31 y372 x10_2).f1))).trans hx383_1; replace hx383_2 := (cell_far (p := ⟨gb381, 1, none⟩) (by first | (rw [add_block]; exact hn383_1) | (show (Addr.add _ _).block ≠ _; rw [add_block]; exact hn383_1) | exact hn383_1) (.int .u64 ((rd_T31 y372 x10_2).f1))).trans hx383_2; replace hx383_0 := (cell_far (p := ⟨gb381, 2, none⟩) (by first | (rw [add_block]; exact hn383_2) | (show (Addr.add _ _).block ≠ _; rw [add_block]; exact hn383_2) | exact hn383_2) (.int .u64 ((rd_T31 y372 x10_2).f2))).trans hx383_0; replace hx383_1 := (cell_far (p := ⟨gb381, 2, none⟩) (by first | (rw [add_block]; exact hn383_2) | (show (Addr.add _ _).block ≠ _; rw [add_block]; exact hn383_2) | exact hn383_2) (.int .u64 ((rd_T31 y372 x10_2).f2))).trans hx383_1; replace hx383_2 := (cell_far (p := ⟨gb381, 2, none⟩) (by first | (rw [add_block]; exact hn383_2) | (show (Addr.add _ _).block ≠ _; rw [add_block]; exact hn383_2) | exact hn383_2) (.int .u64 ((rd_T31 y372 x10_2).f2))).trans hx383_2; (try have hy383_0 := fun (n_ : Nat) => (show (((((w36.drewN n_).setCell ⟨gb381, 0, none⟩ (.int .u32 ((rd_T31 y372 x10_2).f0))).setCell ⟨gb381, 1, none⟩ (.int .u64 ((rd_T31 y372 x10_2).f1))).setCell ⟨gb381, 2, none⟩ (.int .u64 ((rd_T31 y372 x10_2).f2)))).cell? _ = some _ from hx383_0)); (try have hy383_1 := fun (n_ : Nat) => (show (((((w36.drewN n_).setCell ⟨gb381, 0, none⟩ (.int .u32 ((rd_T31 y372 x10_2).f0))).setCell ⟨gb381, 1, none⟩ (.int .u64 ((rd_T31 y372 x10_2).f1))).setCell ⟨gb381, 2, none⟩ (.int .u64 ((rd_T31 y372 x10_2).f2)))).cell? _ = some _ from hx383_1)); (try have hy383_2 := fun (n_ : Nat) => (show (((((w36.drewN n_).setCell ⟨gb381, 0, none⟩ (.int .u32 ((rd_T31 y372 x10_2).f0))).setCell ⟨gb381, 1, none⟩ (.int .u64 ((rd_T31 y372 x10_2).f1))).setCell ⟨gb381, 2, none⟩ (.int .u64 ((rd_T31 y372 x10_2).f2)))).cell? _ = some _ from hx383_2)); clear hn383_0; clear hn383_1; clear hn383_2; replace p383 := eq_true p383; replace q383 := eq_true q383))); (try go_quiet (fail)))
                              go_roundg k2
                              case measure => have := HJ12.out; have := HK2.out; omega
                              case rel => exact ⟨(wrap64 (x10_2 + 1)), (by first | rfl | (simp; done) | (simp [*]; done)), H', ⟨by have := HJ12.out; have := HK2.out; omega⟩, ⟨by (with_reducible repeat (first | apply Kd.R_alloc | apply Kd.R_drewN | apply Kd.R_drew)); exact Kd.R_mono (Kd.R_far (p := ⟨gb381, 2, none⟩) (Kd.R_far (p := ⟨gb381, 1, none⟩) (Kd.R_far (p := ⟨gb381, 0, none⟩) (Kd.R_mono HO_8.out (fun k_ hk => (⟨hk, hk.2⟩ : _ ∧ k_ ≠ gb381))) (fun _ hk => hk.2) (.int .u32 ((rd_T31 y372 x10_2).f0))) (fun _ hk => hk.2) (.int .u64 ((rd_T31 y372 x10_2).f1))) (fun _ hk => hk.2) (.int .u64 ((rd_T31 y372 x10_2).f2))) (fun _ hk => trivial)⟩, ⟨by repeat (first | (with_reducible first | exact HB.out | apply below_alloc | apply pw_below_drewN | apply below_drew1 | refine below_set ?_ GE381.out) | exact HB.out)⟩⟩
                          · rw [if_neg c31] at H
                            exact absurd H (by simp)
                      · rw [if_neg c19] at H
                        exact absurd H (by simp)
                    · rw [if_neg c18] at H
                      have c18b0 : decide (x10_2 < (y372.length : Int)) = false := decide_eq_false c18
                      clear c18
                      have H' := Aside0.mk H
                      clear H
                      go_wp2
                      repeat (go_quiet (fail); try go_wp2)
                      go_meet
                      case rel => exact ⟨_, H', ⟨by have := HJ12.out; have := HK2.out; first | omega | exact Nat.le_refl _⟩, ⟨by repeat (first | (with_reducible first | exact HB.out | apply below_alloc | apply pw_below_drewN | apply below_drew1) | exact HB.out)⟩⟩
        · rw [if_neg c12] at H
          have c12b0 : (t377 == 0) = false := beq_eq_false_iff_ne.mpr c12
          have c12b1 : (t377 != 0) = true := bne_iff_ne.mpr c12
          (first | rw [c12b0] | (simp only [i64_w, i32_w]; rw [c12b0]) | skip)
          have H' := Aside0.mk H
          clear H
          go_wp2
          repeat (go_quiet (fail); try go_wp2)
          go_meet
          case rel => exact ⟨_, H', ⟨by first | omega | exact Nat.le_refl _⟩, ⟨by repeat (first | (with_reducible first | exact HB.out | apply below_alloc | apply pw_below_drewN | apply below_drew1) | exact HB.out)⟩⟩
      case rest =>
        clear HC8
        try clear c1
        try clear q1
        try clear c2
        try clear p2
        try clear c3
        try clear p3
        try clear q3
        try clear hx3
        try clear c5
        try clear c5b0
        try clear c5b1
        try clear c6
        try clear c6b0
        try clear c6b1
        try clear p6
        try clear c10
        try clear q10
        try clear c12
        try clear c12b0
        try clear c12b1
        try clear c14
        try clear c14b0
        try clear c14b1
        try clear c14b2
        try clear c17
        try clear c18
        try clear c18b0
        try clear c19
        try clear c19b0
        try clear c20
        try clear c20b0
        try clear c20b1
        try clear c21
        try clear c21b0
        try clear c22
        try clear c22b0
        try clear c31
        try clear c31b0
        try clear c32
        try clear c32b0
        try clear p38
        try clear q38
        try clear hx38
        try clear hcz24_0
        try clear hcz24_1
        try clear hcz24_2
        try clear hcz28_0
        try clear hcz28_1
        try clear hcz28_2
        try clear hcz34_0
        try clear hcz34_1
        try clear hcz34_2
        try clear hcz37_0
        try clear hcz37_1
        try clear hcz37_2
        try clear hfz24_0
        try clear hfz24_1
        try clear hfz24_2
        try clear hfz28_0
        try clear hfz28_1
        try clear hfz28_2
        try clear hfz34_0
        try clear hfz34_1
        try clear hfz34_2
        try clear hfz37_0
        try clear hfz37_1
        try clear hfz37_2
        try clear hx380_0
        try clear hx380_1
        try clear hx380_2
        try clear hx382_0
        try clear hx382_1
        try clear hx382_2
        try clear hx383_0
        try clear hx383_1
        try clear hx383_2
        try clear p2
        try clear p380
        try clear p382
        try clear p383
        try clear q1
        try clear q10
        try clear q380
        try clear q382
        try clear q383
        obtain ⟨kq, HA, HJ7, HB⟩ := hcut
        cases kq with
        | zero => exact absurd HA.out (by simp [nautiluslaw08_DatMoves.j2])
        | succ kj7 =>
          have H := HA.out
          clear HA
          simp only [nautiluslaw08_DatMoves.j2] at H
          replace H := Option.bind_eq_some_iff.mp H
          obtain ⟨⟨t384, t385⟩, A390, H⟩ := H
          replace H : (if t385 = 0 then (nautiluslaw08_DatMoves.l1 kj7 y372 t371 t384 0 0) else (if t371 = true then ((dat_Right.f y372).bind fun t388 => (some (!t388))) else (some false))) = some r := H
          have A39 := Aside0.mk A390
          clear A390
          by_cases c40 : t385 = 0
          · rw [if_pos c40] at H
            have c40b0 : (t385 == 0) = true := beq_iff_eq.mpr c40
            have c40b1 : (t385 != 0) = false := bne_eq_false_iff_eq.mpr c40
            clear c40
            have H' := Aside0.mk H
            clear H
            iterate 3 ((try go_wp2_with (first | (go_at_call 24; (with_reducible refine (dat_Counts.calls kj7 _ _ y372 256 t384 t385 _ ?side1 ?side2 A39.out).mono ?_); (case side1 => repeat (first | exact (Kd.C_below HR375.out HB.out) | (with_reducible refine Kd.C_alloc ?_ _) | (with_reducible refine Kd.C_drewN ?_ _) | (with_reducible refine Kd.C_drew ?_))); (case side2 => exact HC375.out); rintro e w41 ⟨v386, rfl, ho0, hb⟩; have n0_ := Aside0.mk (Kd.R_lower ho0 (below_size (by repeat (first | (with_reducible first | exact HB.out | apply below_alloc | apply pw_below_drewN | apply below_drew1) | exact HB.out)))); have n1_ := Aside0.mk (below_step (by repeat (first | (with_reducible first | exact HB.out | apply below_alloc | apply pw_below_drewN | apply below_drew1) | exact HB.out)) hb); clear HB; have HO387 := n0_; have HB := n1_; clear n0_ n1_; (try clear hb); (try clear hb2); (try clear hk); (try clear hi); (try clear ho0)))); (try go_quiet (fail)))
            go_loopg [14, 15] kj7 (fun kq v14 v15 w' => ∃ (x14_2 : Int) (x15_2 : Int), v14 = .int .i64 x14_2 ∧ v15 = .int .i64 x15_2 ∧ Aside0 (nautiluslaw08_DatMoves.l1 kq y372 t371 t384 x14_2 x15_2 = some r) ∧ Aside0 (kq ≤ kj7) ∧ Aside0 (Kd.R (Kd.int .i64) 3 w' w.heap.size (fun _ => True) v386 t384) ∧ Aside0 (Below w.heap.size w w'))
            case atStart => exact ⟨(0), (0), (by first | rfl | (simp; done) | (simp [*]; done)), (by first | rfl | (simp; done) | (simp [*]; done)), H', ⟨Nat.le_refl _⟩, ⟨by (with_reducible repeat (first | apply Kd.R_alloc | apply Kd.R_drewN | apply Kd.R_drew)); exact HO387.out⟩, ⟨by repeat (first | (with_reducible first | exact HB.out | apply below_alloc | apply pw_below_drewN | apply below_drew1) | exact HB.out)⟩⟩
            case round =>
              clear H'
              try clear c1
              try clear q1
              try clear c2
              try clear p2
              try clear c3
              try clear p3
              try clear q3
              try clear hx3
              try clear c4
              try clear c5
              try clear c5b0
              try clear c5b1
              try clear c6
              try clear c6b0
              try clear c6b1
              try clear p6
              try clear c10
              try clear q10
              try clear c12
              try clear c12b0
              try clear c12b1
              try clear c14
              try clear c14b0
              try clear c14b1
              try clear c14b2
              try clear c17
              try clear c18
              try clear c18b0
              try clear c19
              try clear c19b0
              try clear c20
              try clear c20b0
              try clear c20b1
              try clear c21
              try clear c21b0
              try clear c22
              try clear c22b0
              try clear c31
              try clear c31b0
              try clear c32
              try clear c32b0
              try clear p38
              try clear q38
              try clear hx38
              try clear c40
              try clear c40b0
              try clear c40b1
              try clear hcz24_0
              try clear hcz24_1
              try clear hcz24_2
              try clear hcz28_0
              try clear hcz28_1
              try clear hcz28_2
              try clear hcz34_0
              try clear hcz34_1
              try clear hcz34_2
              try clear hcz37_0
              try clear hcz37_1
              try clear hcz37_2
              try clear hfz24_0
              try clear hfz24_1
              try clear hfz24_2
              try clear hfz28_0
              try clear hfz28_1
              try clear hfz28_2
              try clear hfz34_0
              try clear hfz34_1
              try clear hfz34_2
              try clear hfz37_0
              try clear hfz37_1
              try clear hfz37_2
              try clear hx380_0
              try clear hx380_1
              try clear hx380_2
              try clear hx382_0
              try clear hx382_1
              try clear hx382_2
              try clear hx383_0
              try clear hx383_1
              try clear hx383_2
              try clear p2
              try clear p3
              try clear p38
              try clear p380
              try clear p382
              try clear p383
              try clear p6
              try clear q1
              try clear q10
              try clear q3
              try clear q38
              try clear q380
              try clear q382
              try clear q383
              obtain ⟨x14_2, x15_2, rfl, rfl, HA, HK2, HO_12, HB⟩ := hrel
              cases gk with
              | zero => exact absurd HA.out (by simp [nautiluslaw08_DatMoves.l1])
              | succ k2 =>
                have H := HA.out
                clear HA
                simp only [nautiluslaw08_DatMoves.l1] at H
                by_cases c42 : x15_2 < (t384.length : Int)
                · rw [if_pos c42] at H
                  have c42b0 : decide (x15_2 < (t384.length : Int)) = true := decide_eq_true c42
                  clear c42
                  by_cases c43 : 0 ≤ x15_2
                  · rw [if_pos c43] at H
                    have c43b0 : decide (0 ≤ x15_2) = true := decide_eq_true c43
                    clear c43
                    have H' := Aside0.mk H
                    clear H
                    obtain ⟨Ao44, co44, eo44⟩ := Kd.R_slice HO_12.out
                    subst eo44
                    have p389 : 0 ≤ (x15_2 : Int) := of_decide_eq_true (by first | (with_reducible assumption) | assumption)
                    have q389 : x15_2 < (t384.length : Int) := of_decide_eq_true (by first | (with_reducible assumption) | assumption)
                    obtain ⟨ad389, e389, hx389_0⟩ := Kd.at_int (Kd.R_reads' HO_12.out).2.2 x15_2 p389 q389
                    cases e389
                    replace p389 := eq_true p389
                    replace q389 := eq_true q389
                    go_wp2
                    repeat (go_quiet (fail); try go_wp2)
                    go_roundg k2
                    case measure => have := HJ7.out; have := HK2.out; omega
                    case rel => exact ⟨(wrap64 (x14_2 + (rd t384 x15_2))), (wrap64 (x15_2 + 1)), (by first | rfl | (simp; done) | (simp [*]; done)), (by first | rfl | (simp; done) | (simp [*]; done)), H', ⟨by have := HJ7.out; have := HK2.out; omega⟩, ⟨by (with_reducible repeat (first | apply Kd.R_alloc | apply Kd.R_drewN | apply Kd.R_drew)); exact HO_12.out⟩, ⟨by repeat (first | (with_reducible first | exact HB.out | apply below_alloc | apply pw_below_drewN | apply below_drew1) | exact HB.out)⟩⟩
                  · rw [if_neg c43] at H
                    exact absurd H (by simp)
                · rw [if_neg c42] at H
                  have c42b0 : decide (x15_2 < (t384.length : Int)) = false := decide_eq_false c42
                  clear c42
                  have H' := Aside0.mk H
                  clear H
                  obtain ⟨Ao45, co45, eo45⟩ := Kd.R_slice HO_12.out
                  subst eo45
                  go_wp2
                  repeat (go_quiet (fail); try go_wp2)
                  go_loopg [14, 16] k2 (fun kq v14 v16 w' => ∃ (x14_3 : Int) (x16_3 : Int), v14 = .int .i64 x14_3 ∧ v16 = .int .i64 x16_3 ∧ Aside0 (nautiluslaw08_DatMoves.l2 kq y372 t371 t384 x14_3 x16_3 = some r) ∧ Aside0 (kq ≤ k2) ∧ Aside0 (Kd.R (Kd.int .i64) 3 w' w.heap.size (fun _ => True) (.slice Ao45 t384.length co45) t384) ∧ Aside0 (Below w.heap.size w w'))
                  case atStart => exact ⟨(x14_2), (0), (by first | rfl | (simp; done) | (simp [*]; done)), (by first | rfl | (simp; done) | (simp [*]; done)), H', ⟨Nat.le_refl _⟩, ⟨by (with_reducible repeat (first | apply Kd.R_alloc | apply Kd.R_drewN | apply Kd.R_drew)); exact HO_12.out⟩, ⟨by repeat (first | (with_reducible first | exact HB.out | apply below_alloc | apply pw_below_drewN | apply below_drew1) | exact HB.out)⟩⟩
                  case round =>
                    clear H'
                    try clear c1
                    try clear q1
                    try clear c2
                    try clear p2
                    try clear c3
                    try clear p3
                    try clear q3
                    try clear hx3
                    try clear c4
                    try clear c5
                    try clear c5b0
                    try clear c5b1
                    try clear c6
                    try clear c6b0
                    try clear c6b1
                    try clear p6
                    try clear c10
                    try clear q10
                    try clear c12
                    try clear c12b0
                    try clear c12b1
                    try clear c14
                    try clear c14b0
                    try clear c14b1
                    try clear c14b2
                    try clear c17
                    try clear c18
                    try clear c18b0
                    try clear c19
                    try clear c19b0
                    try clear c20
                    try clear c20b0
                    try clear c20b1
                    try clear c21
                    try clear c21b0
                    try clear c22
                    try clear c22b0
                    try clear c31
                    try clear c31b0
                    try clear c32
                    try clear c32b0
                    try clear p38
                    try clear q38
                    try clear hx38
                    try clear c40
                    try clear c40b0
                    try clear c40b1
                    try clear c42
                    try clear c42b0
                    try clear c43
                    try clear c43b0
                    try clear hcz24_0
                    try clear hcz24_1
                    try clear hcz24_2
                    try clear hcz28_0
                    try clear hcz28_1
                    try clear hcz28_2
                    try clear hcz34_0
                    try clear hcz34_1
                    try clear hcz34_2
                    try clear hcz37_0
                    try clear hcz37_1
                    try clear hcz37_2
                    try clear hfz24_0
                    try clear hfz24_1
                    try clear hfz24_2
                    try clear hfz28_0
                    try clear hfz28_1
                    try clear hfz28_2
                    try clear hfz34_0
                    try clear hfz34_1
                    try clear hfz34_2
                    try clear hfz37_0
                    try clear hfz37_1
                    try clear hfz37_2
                    try clear hx380_0
                    try clear hx380_1
                    try clear hx380_2
                    try clear hx382_0
                    try clear hx382_1
                    try clear hx382_2
                    try clear hx383_0
                    try clear hx383_1
                    try clear hx383_2
                    try clear hx389_0
                    try clear p2
                    try clear p3
                    try clear p38
                    try clear p380
                    try clear p382
                    try clear p383
                    try clear p389
                    try clear p6
                    try clear q1
                    try clear q10
                    try clear q3
                    try clear q38
                    try clear q380
                    try clear q382
                    try clear q383
                    try clear q389
                    obtain ⟨x14_3, x16_3, rfl, rfl, HA, HK3, HO_12, HB⟩ := hrel
                    cases gk with
                    | zero => exact absurd HA.out (by simp [nautiluslaw08_DatMoves.l2])
                    | succ k3 =>
                      have H := HA.out
                      clear HA
                      simp only [nautiluslaw08_DatMoves.l2] at H
                      by_cases c46 : x16_3 < (y372.length : Int)
                      · rw [if_pos c46] at H
                        have c46b0 : decide (x16_3 < (y372.length : Int)) = true := decide_eq_true c46
                        clear c46
                        by_cases c47 : 0 ≤ x16_3
                        · rw [if_pos c47] at H
                          have c47b0 : decide (0 ≤ x16_3) = true := decide_eq_true c47
                          clear c47
                          by_cases c48 : (!(((rd_T31 y372 x16_3).f0) == 0) || (!(((rd_T31 y372 x16_3).f1) == 0) || (!(((rd_T31 y372 x16_3).f2) == 0)))) = true
                          · rw [if_pos c48] at H
                            have c48b0 : (!(((rd_T31 y372 x16_3).f0) == 0) || (!(((rd_T31 y372 x16_3).f1) == 0) || (!(((rd_T31 y372 x16_3).f2) == 0)))) = true := c48
                            clear c48
                            have H' := Aside0.mk H
                            clear H
                            have p390 : 0 ≤ (x16_3 : Int) := of_decide_eq_true (by first | (with_reducible assumption) | assumption)
                            have q390 : x16_3 < (y372.length : Int) := of_decide_eq_true (by first | (with_reducible assumption) | assumption)
                            obtain ⟨ad390, e390, hx390_0, hx390_1, hx390_2⟩ := at_T31 HR375.out x16_3 p390 q390
                            cases e390
                            replace hx390_0 := (HB.out.cell (World.block_lt_of_cell? w _ hx390_0)).trans hx390_0
                            replace hx390_1 := (HB.out.cell (World.block_lt_of_cell? w _ hx390_1)).trans hx390_1
                            replace hx390_2 := (HB.out.cell (World.block_lt_of_cell? w _ hx390_2)).trans hx390_2
                            replace p390 := eq_true p390
                            replace q390 := eq_true q390
                            go_wp2
                            repeat (go_quiet (fail); try go_wp2)
                            go_roundg k3
                            case measure => have := HJ7.out; have := HK2.out; have := HK3.out; omega
                            case rel => exact ⟨(wrap64 (x14_3 - 1)), (wrap64 (x16_3 + 1)), (by first | rfl | (simp; done) | (simp [*]; done)), (by first | rfl | (simp; done) | (simp [*]; done)), H', ⟨by have := HJ7.out; have := HK2.out; have := HK3.out; omega⟩, ⟨by (with_reducible repeat (first | apply Kd.R_alloc | apply Kd.R_drewN | apply Kd.R_drew)); exact HO_12.out⟩, ⟨by repeat (first | (with_reducible first | exact HB.out | apply below_alloc | apply pw_below_drewN | apply below_drew1) | exact HB.out)⟩⟩
                          · rw [if_neg c48] at H
                            have c48b0 : (!(((rd_T31 y372 x16_3).f0) == 0) || (!(((rd_T31 y372 x16_3).f1) == 0) || (!(((rd_T31 y372 x16_3).f2) == 0)))) = false := by simpa using c48
                            clear c48
                            have H' := Aside0.mk H
                            clear H
                            have p390 : 0 ≤ (x16_3 : Int) := of_decide_eq_true (by first | (with_reducible assumption) | assumption)
                            have q390 : x16_3 < (y372.length : Int) := of_decide_eq_true (by first | (with_reducible assumption) | assumption)
                            obtain ⟨ad390, e390, hx390_0, hx390_1, hx390_2⟩ := at_T31 HR375.out x16_3 p390 q390
                            cases e390
                            replace hx390_0 := (HB.out.cell (World.block_lt_of_cell? w _ hx390_0)).trans hx390_0
                            replace hx390_1 := (HB.out.cell (World.block_lt_of_cell? w _ hx390_1)).trans hx390_1
                            replace hx390_2 := (HB.out.cell (World.block_lt_of_cell? w _ hx390_2)).trans hx390_2
                            replace p390 := eq_true p390
                            replace q390 := eq_true q390
                            go_wp2
                            repeat (go_quiet (fail); try go_wp2)
                            go_roundg k3
                            case measure => have := HJ7.out; have := HK2.out; have := HK3.out; omega
                            case rel => exact ⟨(x14_3), (wrap64 (x16_3 + 1)), (by first | rfl | (simp; done) | (simp [*]; done)), (by first | rfl | (simp; done) | (simp [*]; done)), H', ⟨by have := HJ7.out; have := HK2.out; have := HK3.out; omega⟩, ⟨by (with_reducible repeat (first | apply Kd.R_alloc | apply Kd.R_drewN | apply Kd.R_drew)); exact HO_12.out⟩, ⟨by repeat (first | (with_reducible first | exact HB.out | apply below_alloc | apply pw_below_drewN | apply below_drew1) | exact HB.out)⟩⟩
                        · rw [if_neg c47] at H
                          exact absurd H (by simp)
                      · rw [if_neg c46] at H
                        have c46b0 : decide (x16_3 < (y372.length : Int)) = false := decide_eq_false c46
                        clear c46
                        by_cases c49 : t371 = true
                        · subst c49
                          have H1 : (if x14_3 = 0 then (some ((t384.length : Int) == 256)) else (some false)) = some r := by rw [if_pos rfl] at H; exact H
                          clear H
                          have H := H1
                          clear H1
                          by_cases c50 : x14_3 = 0
                          · rw [if_pos c50] at H
                            have c50b0 : (x14_3 == 0) = true := beq_iff_eq.mpr c50
                            have c50b1 : (x14_3 != 0) = false := bne_eq_false_iff_eq.mpr c50
                            clear c50
                            obtain rfl := Option.some.inj H
                            go_wp2
                            repeat (go_quiet (fail); try go_wp2)
                            go_ret
                            exact ⟨by first | rfl | (simp [errW_none, errW_some] <;> rfl) | (simp [*, errW_none, errW_some] <;> rfl) | (simp [show IntKind.u64.wrap 0 = 0 from rfl, Int.zero_tdiv]; done), by repeat (first | (with_reducible first | exact HB.out | apply below_alloc | apply pw_below_drewN | apply below_drew1) | exact HB.out)⟩
                          · rw [if_neg c50] at H
                            have c50b0 : (x14_3 == 0) = false := beq_eq_false_iff_ne.mpr c50
                            have c50b1 : (x14_3 != 0) = true := bne_iff_ne.mpr c50
                            obtain rfl := Option.some.inj H
                            go_wp2
                            repeat (go_quiet (fail); try go_wp2)
                            go_ret
                            exact ⟨by first | rfl | (simp [errW_none, errW_some] <;> rfl) | (simp [*, errW_none, errW_some] <;> rfl) | (simp [show IntKind.u64.wrap 0 = 0 from rfl, Int.zero_tdiv]; done), by repeat (first | (with_reducible first | exact HB.out | apply below_alloc | apply pw_below_drewN | apply below_drew1) | exact HB.out)⟩
                        · replace c49 := Bool.eq_false_iff.mpr c49
                          subst c49
                          have H1 : (some false) = some r := by rw [if_neg (show ¬ (false = true) by decide)] at H; exact H
                          clear H
                          have H := H1
                          clear H1
                          obtain rfl := Option.some.inj H
                          go_wp2
                          repeat (go_quiet (fail); try go_wp2)
                          go_ret
                          exact ⟨by first | rfl | (simp [errW_none, errW_some] <;> rfl) | (simp [*, errW_none, errW_some] <;> rfl) | (simp [show IntKind.u64.wrap 0 = 0 from rfl, Int.zero_tdiv]; done), by repeat (first | (with_reducible first | exact HB.out | apply below_alloc | apply pw_below_drewN | apply below_drew1) | exact HB.out)⟩
          · rw [if_neg c40] at H
            have c40b0 : (t385 == 0) = false := beq_eq_false_iff_ne.mpr c40
            have c40b1 : (t385 != 0) = true := bne_iff_ne.mpr c40
            by_cases c51 : t371 = true
            · subst c51
              have H1 : ((dat_Right.f y372).bind fun t388 => (some (!t388))) = some r := by rw [if_pos rfl] at H; exact H
              clear H
              have H := H1
              clear H1
              replace H := Option.bind_eq_some_iff.mp H
              obtain ⟨t388, A520, H⟩ := H
              replace H : (some (!t388)) = some r := H
              have A52 := Aside0.mk A520
              clear A520
              obtain rfl := Option.some.inj H
              iterate 3 ((try go_wp2_with (first | (go_at_call 24; (with_reducible refine (dat_Counts.calls kj7 _ _ y372 256 t384 t385 _ ?side1 ?side2 A39.out).mono ?_); (case side1 => repeat (first | exact (Kd.C_below HR375.out HB.out) | (with_reducible refine Kd.C_alloc ?_ _) | (with_reducible refine Kd.C_drewN ?_ _) | (with_reducible refine Kd.C_drew ?_))); (case side2 => exact HC375.out); rintro e w53 ⟨v386, rfl, ho0, hb⟩; have n0_ := Aside0.mk (Kd.R_lower ho0 (below_size (by repeat (first | (with_reducible first | exact HB.out | apply below_alloc | apply pw_below_drewN | apply below_drew1) | exact HB.out)))); have n1_ := Aside0.mk (below_step (by repeat (first | (with_reducible first | exact HB.out | apply below_alloc | apply pw_below_drewN | apply below_drew1) | exact HB.out)) hb); clear HB; have HO387 := n0_; have HB := n1_; clear n0_ n1_; (try clear hb); (try clear hb2); (try clear hk); (try clear hi); (try clear ho0)) | (go_at_call 17; (with_reducible refine (dat_Right.calls _ _ y372 t388 _ ?side1 ?side2 A52.out).mono ?_); (case side1 => repeat (first | exact (Kd.C_below HR375.out HB.out) | (with_reducible refine Kd.C_alloc ?_ _) | (with_reducible refine Kd.C_drewN ?_ _) | (with_reducible refine Kd.C_drew ?_))); (case side2 => exact HC375.out); rintro e w54 ⟨rfl, hb⟩; have n0_ := Aside0.mk (Kd.R_below (by (with_reducible repeat (first | apply Kd.R_alloc | apply Kd.R_drewN | apply Kd.R_drew)); exact HO387.out) hb); have n1_ := Aside0.mk (below_step (by repeat (first | (with_reducible first | exact HB.out | apply below_alloc | apply pw_below_drewN | apply below_drew1) | exact HB.out)) hb); clear HO387; clear HB; have HO387 := n0_; have HB := n1_; clear n0_ n1_; (try clear hb); (try clear hb2); (try clear hk); (try clear hi)))); (try go_quiet (fail)))
              go_ret
              exact ⟨by first | rfl | (simp [errW_none, errW_some] <;> rfl) | (simp [*, errW_none, errW_some] <;> rfl) | (simp [show IntKind.u64.wrap 0 = 0 from rfl, Int.zero_tdiv]; done), by repeat (first | (with_reducible first | exact HB.out | apply below_alloc | apply pw_below_drewN | apply below_drew1) | exact HB.out)⟩
            · replace c51 := Bool.eq_false_iff.mpr c51
              subst c51
              have H1 : (some false) = some r := by rw [if_neg (show ¬ (false = true) by decide)] at H; exact H
              clear H
              have H := H1
              clear H1
              obtain rfl := Option.some.inj H
              iterate 3 ((try go_wp2_with (first | (go_at_call 24; (with_reducible refine (dat_Counts.calls kj7 _ _ y372 256 t384 t385 _ ?side1 ?side2 A39.out).mono ?_); (case side1 => repeat (first | exact (Kd.C_below HR375.out HB.out) | (with_reducible refine Kd.C_alloc ?_ _) | (with_reducible refine Kd.C_drewN ?_ _) | (with_reducible refine Kd.C_drew ?_))); (case side2 => exact HC375.out); rintro e w55 ⟨v386, rfl, ho0, hb⟩; have n0_ := Aside0.mk (Kd.R_lower ho0 (below_size (by repeat (first | (with_reducible first | exact HB.out | apply below_alloc | apply pw_below_drewN | apply below_drew1) | exact HB.out)))); have n1_ := Aside0.mk (below_step (by repeat (first | (with_reducible first | exact HB.out | apply below_alloc | apply pw_below_drewN | apply below_drew1) | exact HB.out)) hb); clear HB; have HO387 := n0_; have HB := n1_; clear n0_ n1_; (try clear hb); (try clear hb2); (try clear hk); (try clear hi); (try clear ho0)))); (try go_quiet (fail)))
              go_ret
              exact ⟨by first | rfl | (simp [errW_none, errW_some] <;> rfl) | (simp [*, errW_none, errW_some] <;> rfl) | (simp [show IntKind.u64.wrap 0 = 0 from rfl, Int.zero_tdiv]; done), by repeat (first | (with_reducible first | exact HB.out | apply below_alloc | apply pw_below_drewN | apply below_drew1) | exact HB.out)⟩
    · rw [if_neg c6] at H
      exact absurd H (by simp)
  · rw [if_neg c5] at H
    exact absurd H (by simp)

/-- THE ONE PURE STATEMENT of nautiluslaw08_DatMoves: yours. -/
def nautiluslaw08_DatMoves.Pure : Prop := ∀ (l0 : List (S31)) (a1 : Int) (a2 : Int), l0.length ≤ maxLen → (∀ x ∈ l0, (Lit.int .u32 x.f0).wf = true ∧ (Lit.int .u64 x.f1).wf = true ∧ (Lit.int .u64 x.f2).wf = true) → (Lit.int .u32 a1).wf = true → (Lit.int .u32 a2).wf = true → ∃ k, nautiluslaw08_DatMoves.f k l0 a1 a2 = some true
theorem nautiluslaw08_DatMoves.walk (P : nautiluslaw08_DatMoves.Pure) (a0 : Option Addr) (len0 cap0 : Nat) (z0 : List (S31)) (a1 : Int) (a2 : Int) (w : World) (w0 : z0.length = len0 ∧ len0 ≤ cap0 ∧ len0 ≤ maxLen ∧ Kd.C k31 w a0 len0 z0 ∧ ∀ x ∈ z0, (Lit.int .u32 x.f0).wf = true ∧ (Lit.int .u64 x.f1).wf = true ∧ (Lit.int .u64 x.f2).wf = true) (w1 : (Lit.int .u32 a1).wf = true) (w2 : (Lit.int .u32 a2).wf = true) :
    Calls Try.prog 6 #[.slice a0 len0 cap0, .int .u32 a1, .int .u32 a2] w fun e w' => e = .returned (.bool true) ∧ Below w.heap.size w w' := by
  obtain ⟨hl0, hc0, hm0, hC0, hw0⟩ := w0
  subst hl0
  obtain ⟨k, h⟩ := P z0 a1 a2 hm0 hw0 w1 w2
  refine (nautiluslaw08_DatMoves.calls k _ _ z0 a1 a2 true w hC0 hc0 h).mono ?_
  rintro e w' ⟨rfl, hd⟩
  exact ⟨rfl, hd⟩

end Go.Proofs.Ytiajhfinkpddbaa.Q
