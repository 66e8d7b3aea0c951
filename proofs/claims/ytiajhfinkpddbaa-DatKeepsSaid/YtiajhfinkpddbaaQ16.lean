/- Functions of the translation as plain Lean functions, and that the translation computes them: printed by this session's driver of the print. -/
import Derived.Test.YtiajhfinkpddbaaQ0
import Derived.Test.YtiajhfinkpddbaaQ1
import Derived.Test.YtiajhfinkpddbaaQ7
import Derived.Test.YtiajhfinkpddbaaQ8
import Derived.Test.YtiajhfinkpddbaaQ9
import Derived.Test.YtiajhfinkpddbaaHCut
import Derived.Test.YtiajhfinkpddbaaHLives
namespace Go.Proofs.Ytiajhfinkpddbaa.Q
open Go.Proofs.Ytiajhfinkpddbaa.H
open Go.RowKit Go.Proofs.YtiajhfinkpddbaaW.PrintWords Go.Proofs.YtiajhfinkpddbaaW.PrintLast Go.Proofs.YtiajhfinkpddbaaW.PrintMore
attribute [local go_sem] max2_int min2_int max_two min_two max_three min_three max_four min_four   -- for this text's walks alone
set_option linter.unusedVariables false
set_option linter.unusedSimpArgs false

attribute [local go_sem high] eqA31
/-! ### nautiluslaw08_DatKeeps: function 3 -/
mutual
def nautiluslaw08_DatKeeps.j0 : Nat → List (S31) → Int → Int → Int → Bool → List (S31) → Int → Int → Bool → Option (Bool)
  | 0, _, _, _, _, _, _, _, _, _ => none
  | k + 1, x0, x2, x3, x4, x11, x12, x13, x15, x76 => if x76 = true then (some false) else (nautiluslaw08_DatKeeps.l0 k x0 x2 x3 x4 x11 x12 x13 x15 0)
def nautiluslaw08_DatKeeps.l0 : Nat → List (S31) → Int → Int → Int → Bool → List (S31) → Int → Int → Int → Option (Bool)
  | 0, _, _, _, _, _, _, _, _, _ => none
  | k + 1, x0, x2, x3, x4, x11, x12, x13, x15, x16 => if x16 < (x0.length : Int) then (if x16 = x15 then (nautiluslaw08_DatKeeps.l0 k x0 x2 x3 x4 x11 x12 x13 x15 (wrap64 (x16 + 1))) else (if 0 ≤ x16 then (if x16 < (x12.length : Int) then (if (!(((rd_T31 x12 x16).f0) == ((rd_T31 x0 x16).f0)) || (!(((rd_T31 x12 x16).f1) == ((rd_T31 x0 x16).f1)) || (!(((rd_T31 x12 x16).f2) == ((rd_T31 x0 x16).f2))))) = true then (some false) else (nautiluslaw08_DatKeeps.l0 k x0 x2 x3 x4 x11 x12 x13 x15 (wrap64 (x16 + 1)))) else (none)) else (none))) else ((dat_End.f x12 x13 x3).bind fun bt203 => (if bt203.2 = 0 then (if (bt203.1.length : Int) = (x12.length : Int) then (if 0 ≤ x15 then (if x15 < (bt203.1.length : Int) then ((dat_Lives.f ((rd_T31 bt203.1 x15).f0) ((rd_T31 bt203.1 x15).f1) ((rd_T31 bt203.1 x15).f2) (([x4] : List Int))).bind fun t211 => (if x11 = true then (if x4 ≥ x2 then (some (t211 == (decide (x4 < x3)))) else (some (t211 == false))) else (some false))) else (none)) else (none)) else (some false)) else (some x11)))
end
def nautiluslaw08_DatKeeps.f (k : Nat) (l0 : List (S31)) (a1 : Int) (a2 : Int) (a3 : Int) (a4 : Int) : Option (Bool) := (nautiluslaw08_shown.f k).bind fun t188 => (if 0 ≤ (mn (l0.length : Int) 2000) then (if (mn (l0.length : Int) 2000) ≤ (l0.length : Int) then ((some (l0.take (mn (l0.length : Int) 2000 : Int).toNat : List (S31))).bind fun y189 => ((dat_Begin.f k y189 a1 a2).bind fun bt193 => (if bt193.2.2 = 0 then (if (wrap64 (bt193.2.1)) < 1 then (nautiluslaw08_DatKeeps.j0 k y189 a2 a3 a4 t188 bt193.1 bt193.2.1 (wrap64 (bt193.2.1)) true) else (if (wrap64 (bt193.2.1)) ≥ (bt193.1.length : Int) then (nautiluslaw08_DatKeeps.j0 k y189 a2 a3 a4 t188 bt193.1 bt193.2.1 (wrap64 (bt193.2.1)) true) else (if (bt193.1.length : Int) < (y189.length : Int) then (nautiluslaw08_DatKeeps.j0 k y189 a2 a3 a4 t188 bt193.1 bt193.2.1 (wrap64 (bt193.2.1)) true) else (if (bt193.1.length : Int) > (wrap64 ((y189.length : Int) + 1)) then (nautiluslaw08_DatKeeps.j0 k y189 a2 a3 a4 t188 bt193.1 bt193.2.1 (wrap64 (bt193.2.1)) true) else (if 0 ≤ (wrap64 (bt193.2.1)) then (if (wrap64 (bt193.2.1)) < (bt193.1.length : Int) then (if (!(((rd_T31 bt193.1 (wrap64 (bt193.2.1))).f0) == a1) || (!(((rd_T31 bt193.1 (wrap64 (bt193.2.1))).f1) == a2) || (!(((rd_T31 bt193.1 (wrap64 (bt193.2.1))).f2) == 0)))) = true then (nautiluslaw08_DatKeeps.j0 k y189 a2 a3 a4 t188 bt193.1 bt193.2.1 (wrap64 (bt193.2.1)) true) else ((dat_Lives.f ((rd_T31 bt193.1 (wrap64 (bt193.2.1))).f0) ((rd_T31 bt193.1 (wrap64 (bt193.2.1))).f1) ((rd_T31 bt193.1 (wrap64 (bt193.2.1))).f2) ([] : List Int)).bind fun t200 => (nautiluslaw08_DatKeeps.j0 k y189 a2 a3 a4 t188 bt193.1 bt193.2.1 (wrap64 (bt193.2.1)) (!t200)))) else (none)) else (none)))))) else (some t188)))) else (none)) else (none))
theorem nautiluslaw08_DatKeeps.mono_l : ∀ k, (∀ y0 y1 y2 y3 y4 y5 y6 y7 y8, LeO (nautiluslaw08_DatKeeps.j0 k y0 y1 y2 y3 y4 y5 y6 y7 y8) (nautiluslaw08_DatKeeps.j0 (k + 1) y0 y1 y2 y3 y4 y5 y6 y7 y8)) ∧ (∀ y0 y1 y2 y3 y4 y5 y6 y7 y8, LeO (nautiluslaw08_DatKeeps.l0 k y0 y1 y2 y3 y4 y5 y6 y7 y8) (nautiluslaw08_DatKeeps.l0 (k + 1) y0 y1 y2 y3 y4 y5 y6 y7 y8))
  | 0 => ⟨fun _ _ _ _ _ _ _ _ _ r h => by simp [nautiluslaw08_DatKeeps.j0] at h, fun _ _ _ _ _ _ _ _ _ r h => by simp [nautiluslaw08_DatKeeps.l0] at h⟩
  | k + 1 => by
    obtain ⟨ih0, ih1⟩ := nautiluslaw08_DatKeeps.mono_l k
    refine ⟨?_, ?_⟩
    · intro y0 y1 y2 y3 y4 y5 y6 y7 y8
      unfold nautiluslaw08_DatKeeps.j0
      repeat' first
      | (with_reducible exact ih0 _ _ _ _ _ _ _ _ _)
      | (with_reducible exact ih1 _ _ _ _ _ _ _ _ _)
      | (with_reducible exact dat_Begin.mono _ _ _ _)
      | (with_reducible exact nautiluslaw08_shown.mono _)
      | (with_reducible exact LeO.refl _)
      | (with_reducible exact LeO.none _)
      | (with_reducible refine LeO.ite ?_ ?_)
      | (with_reducible refine LeO.bind ?_ (fun _ => ?_))
      | exact ih0 _ _ _ _ _ _ _ _ _
      | exact ih1 _ _ _ _ _ _ _ _ _
      | exact dat_Begin.mono _ _ _ _
      | exact nautiluslaw08_shown.mono _
      | exact LeO.none _
      | refine LeO.ite ?_ ?_
      | refine LeO.bind ?_ (fun _ => ?_)
    · intro y0 y1 y2 y3 y4 y5 y6 y7 y8
      unfold nautiluslaw08_DatKeeps.l0
      repeat' first
      | (with_reducible exact ih0 _ _ _ _ _ _ _ _ _)
      | (with_reducible exact ih1 _ _ _ _ _ _ _ _ _)
      | (with_reducible exact dat_Begin.mono _ _ _ _)
      | (with_reducible exact nautiluslaw08_shown.mono _)
      | (with_reducible exact LeO.refl _)
      | (with_reducible exact LeO.none _)
      | (with_reducible refine LeO.ite ?_ ?_)
      | (with_reducible refine LeO.bind ?_ (fun _ => ?_))
      | exact ih0 _ _ _ _ _ _ _ _ _
      | exact ih1 _ _ _ _ _ _ _ _ _
      | exact dat_Begin.mono _ _ _ _
      | exact nautiluslaw08_shown.mono _
      | exact LeO.none _
      | refine LeO.ite ?_ ?_
      | refine LeO.bind ?_ (fun _ => ?_)
theorem nautiluslaw08_DatKeeps.mono : ∀ a0 a1 a2 a3 a4 k, LeO (nautiluslaw08_DatKeeps.f k a0 a1 a2 a3 a4) (nautiluslaw08_DatKeeps.f (k + 1) a0 a1 a2 a3 a4) := by
  intro a0 a1 a2 a3 a4 k
  obtain ⟨ih0, ih1⟩ := nautiluslaw08_DatKeeps.mono_l k
  unfold nautiluslaw08_DatKeeps.f
  repeat' first
      | (with_reducible exact ih0 _ _ _ _ _ _ _ _ _)
      | (with_reducible exact ih1 _ _ _ _ _ _ _ _ _)
      | (with_reducible exact dat_Begin.mono _ _ _ _)
      | (with_reducible exact nautiluslaw08_shown.mono _)
      | (with_reducible exact LeO.refl _)
      | (with_reducible exact LeO.none _)
      | (with_reducible refine LeO.ite ?_ ?_)
      | (with_reducible refine LeO.bind ?_ (fun _ => ?_))
      | exact ih0 _ _ _ _ _ _ _ _ _
      | exact ih1 _ _ _ _ _ _ _ _ _
      | exact dat_Begin.mono _ _ _ _
      | exact nautiluslaw08_shown.mono _
      | exact LeO.none _
      | refine LeO.ite ?_ ?_
      | refine LeO.bind ?_ (fun _ => ?_)
set_option maxHeartbeats 8000000 in
set_option maxRecDepth 100000 in
theorem nautiluslaw08_DatKeeps.calls (k : Nat) (A0 : Option Addr) (c0 : Nat) (l0 : List (S31)) (a1 : Int) (a2 : Int) (a3 : Int) (a4 : Int) (r : Bool) (w : World) (hr0 : Kd.C k31 w A0 l0.length l0) (hc0 : l0.length ≤ c0) (h : nautiluslaw08_DatKeeps.f k l0 a1 a2 a3 a4 = some r) :
    Calls Try.prog 3 #[.slice A0 l0.length c0, .int .u32 a1, .int .u64 a2, .int .u64 a3, .int .u64 a4] w fun e w' => e = .returned (.bool r) ∧ Below w.heap.size w w' := by
  have hu31 := Try.underlying31
  have HR0 := Aside0.mk hr0
  have HC0 := Aside0.mk hc0
  clear hr0 hc0
  have HB := Aside0.mk (Below.refl w.heap.size w)
  have H : ((nautiluslaw08_shown.f k).bind fun t188 => (if 0 ≤ (mn (l0.length : Int) 2000) then (if (mn (l0.length : Int) 2000) ≤ (l0.length : Int) then ((some (l0.take (mn (l0.length : Int) 2000 : Int).toNat : List (S31))).bind fun y189 => ((dat_Begin.f k y189 a1 a2).bind fun bt193 => (if bt193.2.2 = 0 then (if (wrap64 (bt193.2.1)) < 1 then (nautiluslaw08_DatKeeps.j0 k y189 a2 a3 a4 t188 bt193.1 bt193.2.1 (wrap64 (bt193.2.1)) true) else (if (wrap64 (bt193.2.1)) ≥ (bt193.1.length : Int) then (nautiluslaw08_DatKeeps.j0 k y189 a2 a3 a4 t188 bt193.1 bt193.2.1 (wrap64 (bt193.2.1)) true) else (if (bt193.1.length : Int) < (y189.length : Int) then (nautiluslaw08_DatKeeps.j0 k y189 a2 a3 a4 t188 bt193.1 bt193.2.1 (wrap64 (bt193.2.1)) true) else (if (bt193.1.length : Int) > (wrap64 ((y189.length : Int) + 1)) then (nautiluslaw08_DatKeeps.j0 k y189 a2 a3 a4 t188 bt193.1 bt193.2.1 (wrap64 (bt193.2.1)) true) else (if 0 ≤ (wrap64 (bt193.2.1)) then (if (wrap64 (bt193.2.1)) < (bt193.1.length : Int) then (if (!(((rd_T31 bt193.1 (wrap64 (bt193.2.1))).f0) == a1) || (!(((rd_T31 bt193.1 (wrap64 (bt193.2.1))).f1) == a2) || (!(((rd_T31 bt193.1 (wrap64 (bt193.2.1))).f2) == 0)))) = true then (nautiluslaw08_DatKeeps.j0 k y189 a2 a3 a4 t188 bt193.1 bt193.2.1 (wrap64 (bt193.2.1)) true) else ((dat_Lives.f ((rd_T31 bt193.1 (wrap64 (bt193.2.1))).f0) ((rd_T31 bt193.1 (wrap64 (bt193.2.1))).f1) ((rd_T31 bt193.1 (wrap64 (bt193.2.1))).f2) ([] : List Int)).bind fun t200 => (nautiluslaw08_DatKeeps.j0 k y189 a2 a3 a4 t188 bt193.1 bt193.2.1 (wrap64 (bt193.2.1)) (!t200)))) else (none)) else (none)))))) else (some t188)))) else (none)) else (none))) = some r := h
  clear h
  replace H := Option.bind_eq_some_iff.mp H
  obtain ⟨t188, A60, H⟩ := H
  replace H : (if 0 ≤ (mn (l0.length : Int) 2000) then (if (mn (l0.length : Int) 2000) ≤ (l0.length : Int) then ((some (l0.take (mn (l0.length : Int) 2000 : Int).toNat : List (S31))).bind fun y189 => ((dat_Begin.f k y189 a1 a2).bind fun bt193 => (if bt193.2.2 = 0 then (if (wrap64 (bt193.2.1)) < 1 then (nautiluslaw08_DatKeeps.j0 k y189 a2 a3 a4 t188 bt193.1 bt193.2.1 (wrap64 (bt193.2.1)) true) else (if (wrap64 (bt193.2.1)) ≥ (bt193.1.length : Int) then (nautiluslaw08_DatKeeps.j0 k y189 a2 a3 a4 t188 bt193.1 bt193.2.1 (wrap64 (bt193.2.1)) true) else (if (bt193.1.length : Int) < (y189.length : Int) then (nautiluslaw08_DatKeeps.j0 k y189 a2 a3 a4 t188 bt193.1 bt193.2.1 (wrap64 (bt193.2.1)) true) else (if (bt193.1.length : Int) > (wrap64 ((y189.length : Int) + 1)) then (nautiluslaw08_DatKeeps.j0 k y189 a2 a3 a4 t188 bt193.1 bt193.2.1 (wrap64 (bt193.2.1)) true) else (if 0 ≤ (wrap64 (bt193.2.1)) then (if (wrap64 (bt193.2.1)) < (bt193.1.length : Int) then (if (!(((rd_T31 bt193.1 (wrap64 (bt193.2.1))).f0) == a1) || (!(((rd_T31 bt193.1 (wrap64 (bt193.2.1))).f1) == a2) || (!(((rd_T31 bt193.1 (wrap64 (bt193.2.1))).f2) == 0)))) = true then (nautiluslaw08_DatKeeps.j0 k y189 a2 a3 a4 t188 bt193.1 bt193.2.1 (wrap64 (bt193.2.1)) true) else ((dat_Lives.f ((rd_T31 bt193.1 (wrap64 (bt193.2.1))).f0) ((rd_T31 bt193.1 (wrap64 (bt193.2.1))).f1) ((rd_T31 bt193.1 (wrap64 (bt193.2.1))).f2) ([] : List Int)).bind fun t200 => (nautiluslaw08_DatKeeps.j0 k y189 a2 a3 a4 t188 bt193.1 bt193.2.1 (wrap64 (bt193.2.1)) (!t200)))) else (none)) else (none)))))) else (some t188)))) else (none)) else (none)) = some r := H
  have A6 := Aside0.mk A60
  clear A60
  by_cases c7 : 0 ≤ (mn (l0.length : Int) 2000)
  · rw [if_pos c7] at H
    have c7b0 := eq_true c7
    have c7b1 : decide (0 ≤ (mn (l0.length : Int) 2000)) = true := decide_eq_true c7
    clear c7
    by_cases c8 : (mn (l0.length : Int) 2000) ≤ (l0.length : Int)
    · rw [if_pos c8] at H
      have c8b0 := eq_true c8
      have c8b1 : decide ((mn (l0.length : Int) 2000) ≤ (l0.length : Int)) = true := decide_eq_true c8
      clear c8
      obtain ⟨y189, hy189⟩ : ∃ y_ : List (S31), y_ = (l0.take (mn (l0.length : Int) 2000 : Int).toNat) := ⟨_, rfl⟩
      replace H : ((dat_Begin.f k y189 a1 a2).bind fun bt193 => (if bt193.2.2 = 0 then (if (wrap64 (bt193.2.1)) < 1 then (nautiluslaw08_DatKeeps.j0 k y189 a2 a3 a4 t188 bt193.1 bt193.2.1 (wrap64 (bt193.2.1)) true) else (if (wrap64 (bt193.2.1)) ≥ (bt193.1.length : Int) then (nautiluslaw08_DatKeeps.j0 k y189 a2 a3 a4 t188 bt193.1 bt193.2.1 (wrap64 (bt193.2.1)) true) else (if (bt193.1.length : Int) < (y189.length : Int) then (nautiluslaw08_DatKeeps.j0 k y189 a2 a3 a4 t188 bt193.1 bt193.2.1 (wrap64 (bt193.2.1)) true) else (if (bt193.1.length : Int) > (wrap64 ((y189.length : Int) + 1)) then (nautiluslaw08_DatKeeps.j0 k y189 a2 a3 a4 t188 bt193.1 bt193.2.1 (wrap64 (bt193.2.1)) true) else (if 0 ≤ (wrap64 (bt193.2.1)) then (if (wrap64 (bt193.2.1)) < (bt193.1.length : Int) then (if (!(((rd_T31 bt193.1 (wrap64 (bt193.2.1))).f0) == a1) || (!(((rd_T31 bt193.1 (wrap64 (bt193.2.1))).f1) == a2) || (!(((rd_T31 bt193.1 (wrap64 (bt193.2.1))).f2) == 0)))) = true then (nautiluslaw08_DatKeeps.j0 k y189 a2 a3 a4 t188 bt193.1 bt193.2.1 (wrap64 (bt193.2.1)) true) else ((dat_Lives.f ((rd_T31 bt193.1 (wrap64 (bt193.2.1))).f0) ((rd_T31 bt193.1 (wrap64 (bt193.2.1))).f1) ((rd_T31 bt193.1 (wrap64 (bt193.2.1))).f2) ([] : List Int)).bind fun t200 => (nautiluslaw08_DatKeeps.j0 k y189 a2 a3 a4 t188 bt193.1 bt193.2.1 (wrap64 (bt193.2.1)) (!t200)))) else (none)) else (none)))))) else (some t188))) = some r := by first | (rw [hy189]; with_reducible exact H) | (have H2_ := (Option.bind_some _ _).symm.trans H; rw [hy189]; with_reducible exact H2_) | (have H2_ := (Option.bind_some _ _).symm.trans H; with_reducible exact H2_) | with_reducible exact H | (rw [hy189]; exact H) | exact H
      have Ny189 := Aside0.mk hy189
      clear hy189
      replace H := Option.bind_eq_some_iff.mp H
      obtain ⟨⟨t193, t194, t195⟩, A90, H⟩ := H
      replace H : (if t195 = 0 then (if (wrap64 (t194)) < 1 then (nautiluslaw08_DatKeeps.j0 k y189 a2 a3 a4 t188 t193 t194 (wrap64 (t194)) true) else (if (wrap64 (t194)) ≥ (t193.length : Int) then (nautiluslaw08_DatKeeps.j0 k y189 a2 a3 a4 t188 t193 t194 (wrap64 (t194)) true) else (if (t193.length : Int) < (y189.length : Int) then (nautiluslaw08_DatKeeps.j0 k y189 a2 a3 a4 t188 t193 t194 (wrap64 (t194)) true) else (if (t193.length : Int) > (wrap64 ((y189.length : Int) + 1)) then (nautiluslaw08_DatKeeps.j0 k y189 a2 a3 a4 t188 t193 t194 (wrap64 (t194)) true) else (if 0 ≤ (wrap64 (t194)) then (if (wrap64 (t194)) < (t193.length : Int) then (if (!(((rd_T31 t193 (wrap64 (t194))).f0) == a1) || (!(((rd_T31 t193 (wrap64 (t194))).f1) == a2) || (!(((rd_T31 t193 (wrap64 (t194))).f2) == 0)))) = true then (nautiluslaw08_DatKeeps.j0 k y189 a2 a3 a4 t188 t193 t194 (wrap64 (t194)) true) else ((dat_Lives.f ((rd_T31 t193 (wrap64 (t194))).f0) ((rd_T31 t193 (wrap64 (t194))).f1) ((rd_T31 t193 (wrap64 (t194))).f2) ([] : List Int)).bind fun t200 => (nautiluslaw08_DatKeeps.j0 k y189 a2 a3 a4 t188 t193 t194 (wrap64 (t194)) (!t200)))) else (none)) else (none)))))) else (some t188)) = some r := H
      have A9 := Aside0.mk A90
      clear A90
      by_cases c10 : t195 = 0
      · rw [if_pos c10] at H
        have c10b0 : (t195 == 0) = true := beq_iff_eq.mpr c10
        have c10b1 : (t195 != 0) = false := bne_eq_false_iff_eq.mpr c10
        clear c10
        have HC11 := Aside0.mk H
        clear H
        go_enter Try.func3, Try.ntmps3
        go_upto_region 7 with (first | (go_at_call 9; (with_reducible refine (nautiluslaw08_shown.calls k  t188 _ A6.out).mono ?_); rintro e w12 ⟨rfl, hb⟩; have n0_ := Aside0.mk (below_step (by repeat (first | (with_reducible first | exact HB.out | apply below_alloc | apply pw_below_drewN | apply below_drew1) | exact HB.out)) hb); clear HB; have HB := n0_; clear n0_; (try clear hb); (try clear hb2); (try clear hk); (try clear hi); have q13 : ((mn (l0.length : Int) 2000) : Int) ≤ ((l0.length : Int) : Int) := of_decide_eq_true (by first | (with_reducible assumption) | assumption); obtain ⟨i013, hi013, _, hsz13, _⟩ := info_parts info31; have hroom13 : l0.length ≤ c0 := HC0.out; have hC13 : Kd.C k31 _ A0 l0.length l0 := HR0.out; have hcut13 := cut_to (P := Try.prog) 22 31 .i64 Try.underlying22 hi013 A0 l0.length c0 (mn (l0.length : Int) 2000) (of_decide_eq_true (by first | (with_reducible assumption) | assumption)) q13 hroom13; have hr13 := Kd.C_take (m := ((mn (l0.length : Int) 2000) : Int).toNat) hC13 (by omega); have hy13 : y189.length = ((mn (l0.length : Int) 2000) : Int).toNat := (by rw [Ny189.out, List.length_take]; omega); rw [← Ny189.out] at hr13; rw [← hy13] at hcut13; have HR192 := Aside0.mk hr13; have HC192 := Aside0.mk (show y189.length ≤ c0 from by omega); clear hr13 hC13 hroom13 hi013 hsz13; have KY13 := Aside0.mk hy13; clear hy13; clear hcut13; replace q13 := eq_true q13) | ((with_reducible refine gate_callee (f := 10) rfl ?_); refine goesL_ (some 22) rfl rfl Try.func10 (by kernel_rfl) rfl #[.slice A0 l0.length c0] rfl (by (try simp only [List.map_toArray, List.map_cons, List.map_nil]); first | done | rfl | (simp only [List.length_drop, List.length_take]; rfl)) ?_; (refine (nautiluslaw08_cut.calls A0 l0.length c0 y189.length _ ?side1 ?side2 ?side3).mono ?_); (case side1 => exact Kd.C_max HR0.out); (case side2 => exact HC0.out); (case side3 => exact KY13.out); rintro e w' ⟨rfl, rfl⟩; refine ⟨_, rfl, ?_⟩) | (go_at_call 11; (with_reducible refine (dat_Begin.calls k _ _ y189 a1 a2 t193 t194 t195 _ ?side1 ?side2 A9.out).mono ?_); (case side1 => repeat (first | exact (Kd.C_below HR192.out HB.out) | (with_reducible refine Kd.C_alloc ?_ _) | (with_reducible refine Kd.C_drewN ?_ _) | (with_reducible refine Kd.C_drew ?_))); (case side2 => exact HC192.out); rintro e w14 ⟨v196, rfl, ho0, hb⟩; have n0_ := Aside0.mk (Kd.R_lower ho0 (below_size (by repeat (first | (with_reducible first | exact HB.out | apply below_alloc | apply pw_below_drewN | apply below_drew1) | exact HB.out)))); have n1_ := Aside0.mk (below_step (by repeat (first | (with_reducible first | exact HB.out | apply below_alloc | apply pw_below_drewN | apply below_drew1) | exact HB.out)) hb); clear HB; have HO197 := n0_; have HB := n1_; clear n0_ n1_; (try clear hb); (try clear hb2); (try clear hk); (try clear hi); (try clear ho0)))
        repeat (go_quiet (first | (go_at_call 9; (with_reducible refine (nautiluslaw08_shown.calls k  t188 _ A6.out).mono ?_); rintro e w12 ⟨rfl, hb⟩; have n0_ := Aside0.mk (below_step (by repeat (first | (with_reducible first | exact HB.out | apply below_alloc | apply pw_below_drewN | apply below_drew1) | exact HB.out)) hb); clear HB; have HB := n0_; clear n0_; (try clear hb); (try clear hb2); (try clear hk); (try clear hi); have q13 : ((mn (l0.length : Int) 2000) : Int) ≤ ((l0.length : Int) : Int) := of_decide_eq_true (by first | (with_reducible assumption) | assumption); obtain ⟨i013, hi013, _, hsz13, _⟩ := info_parts info31; have hroom13 : l0.length ≤ c0 := HC0.out; have hC13 : Kd.C k31 _ A0 l0.length l0 := HR0.out; have hcut13 := cut_to (P := Try.prog) 22 31 .i64 Try.underlying22 hi013 A0 l0.length c0 (mn (l0.length : Int) 2000) (of_decide_eq_true (by first | (with_reducible assumption) | assumption)) q13 hroom13; have hr13 := Kd.C_take (m := ((mn (l0.length : Int) 2000) : Int).toNat) hC13 (by omega); have hy13 : y189.length = ((mn (l0.length : Int) 2000) : Int).toNat := (by rw [Ny189.out, List.length_take]; omega); rw [← Ny189.out] at hr13; rw [← hy13] at hcut13; have HR192 := Aside0.mk hr13; have HC192 := Aside0.mk (show y189.length ≤ c0 from by omega); clear hr13 hC13 hroom13 hi013 hsz13; have KY13 := Aside0.mk hy13; clear hy13; clear hcut13; replace q13 := eq_true q13) | ((with_reducible refine gate_callee (f := 10) rfl ?_); refine goesL_ (some 22) rfl rfl Try.func10 (by kernel_rfl) rfl #[.slice A0 l0.length c0] rfl (by (try simp only [List.map_toArray, List.map_cons, List.map_nil]); first | done | rfl | (simp only [List.length_drop, List.length_take]; rfl)) ?_; (refine (nautiluslaw08_cut.calls A0 l0.length c0 y189.length _ ?side1 ?side2 ?side3).mono ?_); (case side1 => exact Kd.C_max HR0.out); (case side2 => exact HC0.out); (case side3 => exact KY13.out); rintro e w' ⟨rfl, rfl⟩; refine ⟨_, rfl, ?_⟩) | (go_at_call 11; (with_reducible refine (dat_Begin.calls k _ _ y189 a1 a2 t193 t194 t195 _ ?side1 ?side2 A9.out).mono ?_); (case side1 => repeat (first | exact (Kd.C_below HR192.out HB.out) | (with_reducible refine Kd.C_alloc ?_ _) | (with_reducible refine Kd.C_drewN ?_ _) | (with_reducible refine Kd.C_drew ?_))); (case side2 => exact HC192.out); rintro e w14 ⟨v196, rfl, ho0, hb⟩; have n0_ := Aside0.mk (Kd.R_lower ho0 (below_size (by repeat (first | (with_reducible first | exact HB.out | apply below_alloc | apply pw_below_drewN | apply below_drew1) | exact HB.out)))); have n1_ := Aside0.mk (below_step (by repeat (first | (with_reducible first | exact HB.out | apply below_alloc | apply pw_below_drewN | apply below_drew1) | exact HB.out)) hb); clear HB; have HO197 := n0_; have HB := n1_; clear n0_ n1_; (try clear hb); (try clear hb2); (try clear hk); (try clear hi); (try clear ho0))); go_upto_region 7 with (first | (go_at_call 9; (with_reducible refine (nautiluslaw08_shown.calls k  t188 _ A6.out).mono ?_); rintro e w12 ⟨rfl, hb⟩; have n0_ := Aside0.mk (below_step (by repeat (first | (with_reducible first | exact HB.out | apply below_alloc | apply pw_below_drewN | apply below_drew1) | exact HB.out)) hb); clear HB; have HB := n0_; clear n0_; (try clear hb); (try clear hb2); (try clear hk); (try clear hi); have q13 : ((mn (l0.length : Int) 2000) : Int) ≤ ((l0.length : Int) : Int) := of_decide_eq_true (by first | (with_reducible assumption) | assumption); obtain ⟨i013, hi013, _, hsz13, _⟩ := info_parts info31; have hroom13 : l0.length ≤ c0 := HC0.out; have hC13 : Kd.C k31 _ A0 l0.length l0 := HR0.out; have hcut13 := cut_to (P := Try.prog) 22 31 .i64 Try.underlying22 hi013 A0 l0.length c0 (mn (l0.length : Int) 2000) (of_decide_eq_true (by first | (with_reducible assumption) | assumption)) q13 hroom13; have hr13 := Kd.C_take (m := ((mn (l0.length : Int) 2000) : Int).toNat) hC13 (by omega); have hy13 : y189.length = ((mn (l0.length : Int) 2000) : Int).toNat := (by rw [Ny189.out, List.length_take]; omega); rw [← Ny189.out] at hr13; rw [← hy13] at hcut13; have HR192 := Aside0.mk hr13; have HC192 := Aside0.mk (show y189.length ≤ c0 from by omega); clear hr13 hC13 hroom13 hi013 hsz13; have KY13 := Aside0.mk hy13; clear hy13; clear hcut13; replace q13 := eq_true q13) | ((with_reducible refine gate_callee (f := 10) rfl ?_); refine goesL_ (some 22) rfl rfl Try.func10 (by kernel_rfl) rfl #[.slice A0 l0.length c0] rfl (by (try simp only [List.map_toArray, List.map_cons, List.map_nil]); first | done | rfl | (simp only [List.length_drop, List.length_take]; rfl)) ?_; (refine (nautiluslaw08_cut.calls A0 l0.length c0 y189.length _ ?side1 ?side2 ?side3).mono ?_); (case side1 => exact Kd.C_max HR0.out); (case side2 => exact HC0.out); (case side3 => exact KY13.out); rintro e w' ⟨rfl, rfl⟩; refine ⟨_, rfl, ?_⟩) | (go_at_call 11; (with_reducible refine (dat_Begin.calls k _ _ y189 a1 a2 t193 t194 t195 _ ?side1 ?side2 A9.out).mono ?_); (case side1 => repeat (first | exact (Kd.C_below HR192.out HB.out) | (with_reducible refine Kd.C_alloc ?_ _) | (with_reducible refine Kd.C_drewN ?_ _) | (with_reducible refine Kd.C_drew ?_))); (case side2 => exact HC192.out); rintro e w14 ⟨v196, rfl, ho0, hb⟩; have n0_ := Aside0.mk (Kd.R_lower ho0 (below_size (by repeat (first | (with_reducible first | exact HB.out | apply below_alloc | apply pw_below_drewN | apply below_drew1) | exact HB.out)))); have n1_ := Aside0.mk (below_step (by repeat (first | (with_reducible first | exact HB.out | apply below_alloc | apply pw_below_drewN | apply below_drew1) | exact HB.out)) hb); clear HB; have HO197 := n0_; have HB := n1_; clear n0_ n1_; (try clear hb); (try clear hb2); (try clear hk); (try clear hi); (try clear ho0))))
        (try simp only [Act.put, List.setIfInBounds_toArray, List.set_cons_zero, List.set_cons_succ])
        go_cut [76] (fun v76 wc => ∃ (kq : Nat) (x76_10 : Bool), v76 = .bool x76_10 ∧ Aside0 (nautiluslaw08_DatKeeps.j0 kq y189 a2 a3 a4 t188 t193 t194 (wrap64 (t194)) x76_10 = some r) ∧ Aside0 (kq ≤ k) ∧ Aside0 (Kd.R k31 31 wc w.heap.size (fun _ => True) v196 t193) ∧ Aside0 (Below w.heap.size w wc))
        case first =>
          have H := HC11.out
          clear HC11
          by_cases c15 : (wrap64 (t194)) < 1
          · rw [if_pos c15] at H
            have c15b0 : decide ((wrap64 (t194)) < 1) = true := decide_eq_true c15
            clear c15
            (first | rw [c15b0] | (simp only [i64_w, i32_w]; rw [c15b0]) | skip)
            have H' := Aside0.mk H
            clear H
            go_wp2
            repeat (go_quiet (fail); try go_wp2)
            go_meet
            case rel => exact ⟨_, (true), (by first | rfl | (simp; done) | (simp [*]; done)), H', ⟨by first | omega | exact Nat.le_refl _⟩, ⟨by (with_reducible repeat (first | apply Kd.R_alloc | apply Kd.R_drewN | apply Kd.R_drew)); exact HO197.out⟩, ⟨by repeat (first | (with_reducible first | exact HB.out | apply below_alloc | apply pw_below_drewN | apply below_drew1) | exact HB.out)⟩⟩
          · rw [if_neg c15] at H
            have c15b0 : decide ((wrap64 (t194)) < 1) = false := decide_eq_false c15
            clear c15
            (first | rw [c15b0] | (simp only [i64_w, i32_w]; rw [c15b0]) | skip)
            by_cases c16 : (wrap64 (t194)) ≥ (t193.length : Int)
            · rw [if_pos c16] at H
              have c16b0 : decide ((t193.length : Int) ≤ (wrap64 (t194))) = true := decide_eq_true c16
              clear c16
              have H' := Aside0.mk H
              clear H
              obtain ⟨Ao17, co17, eo17⟩ := Kd.R_slice HO197.out
              subst eo17
              go_wp2
              repeat (go_quiet (fail); try go_wp2)
              go_meet
              case rel => exact ⟨_, (true), (by first | rfl | (simp; done) | (simp [*]; done)), H', ⟨by first | omega | exact Nat.le_refl _⟩, ⟨by (with_reducible repeat (first | apply Kd.R_alloc | apply Kd.R_drewN | apply Kd.R_drew)); exact HO197.out⟩, ⟨by repeat (first | (with_reducible first | exact HB.out | apply below_alloc | apply pw_below_drewN | apply below_drew1) | exact HB.out)⟩⟩
            · rw [if_neg c16] at H
              have c16b0 : decide ((t193.length : Int) ≤ (wrap64 (t194))) = false := decide_eq_false c16
              clear c16
              by_cases c18 : (t193.length : Int) < (y189.length : Int)
              · rw [if_pos c18] at H
                have c18b0 : decide ((t193.length : Int) < (y189.length : Int)) = true := decide_eq_true c18
                have c18b1 : decide (t193.length < y189.length) = true := decide_eq_true (Int.ofNat_lt.mp c18)
                clear c18
                have H' := Aside0.mk H
                clear H
                obtain ⟨Ao19, co19, eo19⟩ := Kd.R_slice HO197.out
                subst eo19
                go_wp2
                repeat (go_quiet (fail); try go_wp2)
                go_meet
                case rel => exact ⟨_, (true), (by first | rfl | (simp; done) | (simp [*]; done)), H', ⟨by first | omega | exact Nat.le_refl _⟩, ⟨by (with_reducible repeat (first | apply Kd.R_alloc | apply Kd.R_drewN | apply Kd.R_drew)); exact HO197.out⟩, ⟨by repeat (first | (with_reducible first | exact HB.out | apply below_alloc | apply pw_below_drewN | apply below_drew1) | exact HB.out)⟩⟩
              · rw [if_neg c18] at H
                have c18b0 : decide ((t193.length : Int) < (y189.length : Int)) = false := decide_eq_false c18
                have c18b1 : decide (t193.length < y189.length) = false := decide_eq_false (fun h => c18 (Int.ofNat_lt.mpr h))
                clear c18
                by_cases c20 : (t193.length : Int) > (wrap64 ((y189.length : Int) + 1))
                · rw [if_pos c20] at H
                  have c20b0 : decide ((wrap64 ((y189.length : Int) + 1)) < (t193.length : Int)) = true := decide_eq_true c20
                  clear c20
                  have H' := Aside0.mk H
                  clear H
                  obtain ⟨Ao21, co21, eo21⟩ := Kd.R_slice HO197.out
                  subst eo21
                  go_wp2
                  repeat (go_quiet (fail); try go_wp2)
                  go_meet
                  case rel => exact ⟨_, (true), (by first | rfl | (simp; done) | (simp [*]; done)), H', ⟨by first | omega | exact Nat.le_refl _⟩, ⟨by (with_reducible repeat (first | apply Kd.R_alloc | apply Kd.R_drewN | apply Kd.R_drew)); exact HO197.out⟩, ⟨by repeat (first | (with_reducible first | exact HB.out | apply below_alloc | apply pw_below_drewN | apply below_drew1) | exact HB.out)⟩⟩
                · rw [if_neg c20] at H
                  have c20b0 : decide ((wrap64 ((y189.length : Int) + 1)) < (t193.length : Int)) = false := decide_eq_false c20
                  clear c20
                  by_cases c22 : 0 ≤ (wrap64 (t194))
                  · rw [if_pos c22] at H
                    have c22b0 : decide (0 ≤ (wrap64 (t194))) = true := decide_eq_true c22
                    clear c22
                    by_cases c23 : (wrap64 (t194)) < (t193.length : Int)
                    · rw [if_pos c23] at H
                      have c23b0 : decide ((wrap64 (t194)) < (t193.length : Int)) = true := decide_eq_true c23
                      clear c23
                      by_cases c24 : (!(((rd_T31 t193 (wrap64 (t194))).f0) == a1) || (!(((rd_T31 t193 (wrap64 (t194))).f1) == a2) || (!(((rd_T31 t193 (wrap64 (t194))).f2) == 0)))) = true
                      · rw [if_pos c24] at H
                        have c24b0 : (!(((rd_T31 t193 (wrap64 (t194))).f0) == a1) || (!(((rd_T31 t193 (wrap64 (t194))).f1) == a2) || (!(((rd_T31 t193 (wrap64 (t194))).f2) == 0)))) = true := c24
                        clear c24
                        have H' := Aside0.mk H
                        clear H
                        obtain ⟨Ao25, co25, eo25⟩ := Kd.R_slice HO197.out
                        subst eo25
                        have p198 : 0 ≤ ((wrap64 (t194)) : Int) := of_decide_eq_true (by first | (with_reducible assumption) | assumption)
                        have q198 : (wrap64 (t194)) < (t193.length : Int) := of_decide_eq_true (by first | (with_reducible assumption) | assumption)
                        obtain ⟨ad198, e198, hx198_0, hx198_1, hx198_2⟩ := at_T31 (Kd.R_reads' HO197.out).2.2 (wrap64 (t194)) p198 q198
                        cases e198
                        replace p198 := eq_true p198
                        replace q198 := eq_true q198
                        go_wp2
                        repeat (go_quiet (fail); try go_wp2)
                        go_meet
                        case rel => exact ⟨_, (true), (by first | rfl | (simp; done) | (simp [*]; done)), H', ⟨by first | omega | exact Nat.le_refl _⟩, ⟨by (with_reducible repeat (first | apply Kd.R_alloc | apply Kd.R_drewN | apply Kd.R_drew)); exact HO197.out⟩, ⟨by repeat (first | (with_reducible first | exact HB.out | apply below_alloc | apply pw_below_drewN | apply below_drew1) | exact HB.out)⟩⟩
                      · rw [if_neg c24] at H
                        have c24b0 : (!(((rd_T31 t193 (wrap64 (t194))).f0) == a1) || (!(((rd_T31 t193 (wrap64 (t194))).f1) == a2) || (!(((rd_T31 t193 (wrap64 (t194))).f2) == 0)))) = false := by simpa using c24
                        clear c24
                        replace H := Option.bind_eq_some_iff.mp H
                        obtain ⟨t200, A260, H⟩ := H
                        replace H : (nautiluslaw08_DatKeeps.j0 k y189 a2 a3 a4 t188 t193 t194 (wrap64 (t194)) (!t200)) = some r := H
                        have A26 := Aside0.mk A260
                        clear A260
                        have H' := Aside0.mk H
                        clear H
                        obtain ⟨Ao27, co27, eo27⟩ := Kd.R_slice HO197.out
                        subst eo27
                        have p198 : 0 ≤ ((wrap64 (t194)) : Int) := of_decide_eq_true (by first | (with_reducible assumption) | assumption)
                        have q198 : (wrap64 (t194)) < (t193.length : Int) := of_decide_eq_true (by first | (with_reducible assumption) | assumption)
                        obtain ⟨ad198, e198, hx198_0, hx198_1, hx198_2⟩ := at_T31 (Kd.R_reads' HO197.out).2.2 (wrap64 (t194)) p198 q198
                        cases e198
                        replace p198 := eq_true p198
                        replace q198 := eq_true q198
                        have p199 : 0 ≤ ((wrap64 (t194)) : Int) := of_decide_eq_true (by first | (with_reducible assumption) | assumption)
                        have q199 : (wrap64 (t194)) < (t193.length : Int) := of_decide_eq_true (by first | (with_reducible assumption) | assumption)
                        obtain ⟨ad199, e199, hx199_0, hx199_1, hx199_2⟩ := at_T31 (Kd.R_reads' HO197.out).2.2 (wrap64 (t194)) p199 q199
                        obtain rfl : ad198 = ad199 := (by injection e199)
                        replace p199 := eq_true p199
                        replace q199 := eq_true q199
                        iterate 3 ((try go_wp2_with (first | (go_at_call 12; (refine (dat_Lives.calls ((rd_T31 t193 (wrap64 (t194))).f0) ((rd_T31 t193 (wrap64 (t194))).f1) ((rd_T31 t193 (wrap64 (t194))).f2) _ _ ([] : List Int) t200 _ ?side1 ?side2 A26.out).mono ?_); (case side1 => exact Kd.C_nil _ _); (case side2 => exact Nat.le_refl _); rintro e w28 ⟨rfl, hb⟩; have n0_ := Aside0.mk (Kd.R_below (by (with_reducible repeat (first | apply Kd.R_alloc | apply Kd.R_drewN | apply Kd.R_drew)); exact HO197.out) hb); have n1_ := Aside0.mk (below_step (by repeat (first | (with_reducible first | exact HB.out | apply below_alloc | apply pw_below_drewN | apply below_drew1) | exact HB.out)) hb); clear HO197; clear HB; have HO197 := n0_; have HB := n1_; clear n0_ n1_; (try clear hb); (try clear hb2); (try clear hk); (try clear hi)))); (try go_quiet (fail)))
                        go_meet
                        case rel => exact ⟨_, (!t200), (by first | rfl | (simp; done) | (simp [*]; done)), H', ⟨by first | omega | exact Nat.le_refl _⟩, ⟨by (with_reducible repeat (first | apply Kd.R_alloc | apply Kd.R_drewN | apply Kd.R_drew)); exact HO197.out⟩, ⟨by repeat (first | (with_reducible first | exact HB.out | apply below_alloc | apply pw_below_drewN | apply below_drew1) | exact HB.out)⟩⟩
                    · rw [if_neg c23] at H
                      exact absurd H (by simp)
                  · rw [if_neg c22] at H
                    exact absurd H (by simp)
        case rest =>
          clear HC11
          try clear c1
          try clear p1
          try clear q1
          try clear hx1
          try clear c2
          try clear p2
          try clear c3
          try clear p6
          try clear c7
          try clear c7b0
          try clear c7b1
          try clear c8
          try clear c8b0
          try clear c8b1
          try clear c10
          try clear c10b0
          try clear c10b1
          try clear q13
          try clear c15
          try clear c15b0
          try clear c16
          try clear c16b0
          try clear c18
          try clear c18b0
          try clear c18b1
          try clear p19
          try clear q19
          try clear hx19
          try clear c20
          try clear c20b0
          try clear c22
          try clear c22b0
          try clear c23
          try clear c23b0
          try clear c24
          try clear c24b0
          try clear hx198_0
          try clear hx198_1
          try clear hx198_2
          try clear hx199_0
          try clear hx199_1
          try clear hx199_2
          try clear p198
          try clear p199
          try clear q13
          try clear q198
          try clear q199
          obtain ⟨kq, x76_10, rfl, HA, HJ10, HO_12, HB⟩ := hcut
          cases kq with
          | zero => exact absurd HA.out (by simp [nautiluslaw08_DatKeeps.j0])
          | succ kj10 =>
            have H := HA.out
            clear HA
            simp only [nautiluslaw08_DatKeeps.j0] at H
            by_cases c29 : x76_10 = true
            · subst c29
              have H1 : (some false) = some r := by rw [if_pos rfl] at H; exact H
              clear H
              have H := H1
              clear H1
              obtain rfl := Option.some.inj H
              go_wp2
              repeat (go_quiet (fail); try go_wp2)
              go_ret
              exact ⟨by first | rfl | (simp [errW_none, errW_some] <;> rfl) | (simp [*, errW_none, errW_some] <;> rfl) | (simp [show IntKind.u64.wrap 0 = 0 from rfl, Int.zero_tdiv]; done), by repeat (first | (with_reducible first | exact HB.out | apply below_alloc | apply pw_below_drewN | apply below_drew1) | exact HB.out)⟩
            · replace c29 := Bool.eq_false_iff.mpr c29
              subst c29
              have H1 : (nautiluslaw08_DatKeeps.l0 kj10 y189 a2 a3 a4 t188 t193 t194 (wrap64 (t194)) 0) = some r := by rw [if_neg (show ¬ (false = true) by decide)] at H; exact H
              clear H
              have H := H1
              clear H1
              have H' := Aside0.mk H
              clear H
              go_wp2
              repeat (go_quiet (fail); try go_wp2)
              go_loopg [16] kj10 (fun kq v16 w' => ∃ (x16_2 : Int), v16 = .int .i64 x16_2 ∧ Aside0 (nautiluslaw08_DatKeeps.l0 kq y189 a2 a3 a4 t188 t193 t194 (wrap64 (t194)) x16_2 = some r) ∧ Aside0 (kq ≤ kj10) ∧ Aside0 (Kd.R k31 31 w' w.heap.size (fun _ => True) v196 t193) ∧ Aside0 (Below w.heap.size w w'))
              case atStart => exact ⟨(0), (by first | rfl | (simp; done) | (simp [*]; done)), H', ⟨Nat.le_refl _⟩, ⟨by (with_reducible repeat (first | apply Kd.R_alloc | apply Kd.R_drewN | apply Kd.R_drew)); exact HO_12.out⟩, ⟨by repeat (first | (with_reducible first | exact HB.out | apply below_alloc | apply pw_below_drewN | apply below_drew1) | exact HB.out)⟩⟩
              case round =>
                clear H'
                try clear c1
                try clear p1
                try clear q1
                try clear hx1
                try clear c2
                try clear p2
                try clear c3
                try clear p6
                try clear c7
                try clear c7b0
                try clear c7b1
                try clear c8
                try clear c8b0
                try clear c8b1
                try clear c10
                try clear c10b0
                try clear c10b1
                try clear q13
                try clear c15
                try clear c15b0
                try clear c16
                try clear c16b0
                try clear c18
                try clear c18b0
                try clear c18b1
                try clear p19
                try clear q19
                try clear hx19
                try clear c20
                try clear c20b0
                try clear c22
                try clear c22b0
                try clear c23
                try clear c23b0
                try clear c24
                try clear c24b0
                try clear c29
                try clear hx198_0
                try clear hx198_1
                try clear hx198_2
                try clear hx199_0
                try clear hx199_1
                try clear hx199_2
                try clear p1
                try clear p19
                try clear p198
                try clear p199
                try clear p2
                try clear p6
                try clear q1
                try clear q13
                try clear q19
                try clear q198
                try clear q199
                obtain ⟨x16_2, rfl, HA, HK2, HO_12, HB⟩ := hrel
                cases gk with
                | zero => exact absurd HA.out (by simp [nautiluslaw08_DatKeeps.l0])
                | succ k2 =>
                  have H := HA.out
                  clear HA
                  simp only [nautiluslaw08_DatKeeps.l0] at H
                  by_cases c30 : x16_2 < (y189.length : Int)
                  · rw [if_pos c30] at H
                    have c30b0 : decide (x16_2 < (y189.length : Int)) = true := decide_eq_true c30
                    clear c30
                    by_cases c31 : x16_2 = (wrap64 (t194))
                    · rw [if_pos c31] at H
                      have c31b0 : (x16_2 == (wrap64 (t194))) = true := beq_iff_eq.mpr c31
                      have c31b1 : (x16_2 != (wrap64 (t194))) = false := bne_eq_false_iff_eq.mpr c31
                      clear c31
                      have H' := Aside0.mk H
                      clear H
                      go_wp2
                      repeat (go_quiet (fail); try go_wp2)
                      go_roundg k2
                      case measure => have := HJ10.out; have := HK2.out; omega
                      case rel => exact ⟨(wrap64 (x16_2 + 1)), (by first | rfl | (simp; done) | (simp [*]; done)), H', ⟨by have := HJ10.out; have := HK2.out; omega⟩, ⟨by (with_reducible repeat (first | apply Kd.R_alloc | apply Kd.R_drewN | apply Kd.R_drew)); exact HO_12.out⟩, ⟨by repeat (first | (with_reducible first | exact HB.out | apply below_alloc | apply pw_below_drewN | apply below_drew1) | exact HB.out)⟩⟩
                    · rw [if_neg c31] at H
                      have c31b0 : (x16_2 == (wrap64 (t194))) = false := beq_eq_false_iff_ne.mpr c31
                      have c31b1 : (x16_2 != (wrap64 (t194))) = true := bne_iff_ne.mpr c31
                      by_cases c32 : 0 ≤ x16_2
                      · rw [if_pos c32] at H
                        have c32b0 : decide (0 ≤ x16_2) = true := decide_eq_true c32
                        clear c32
                        by_cases c33 : x16_2 < (t193.length : Int)
                        · rw [if_pos c33] at H
                          have c33b0 : decide (x16_2 < (t193.length : Int)) = true := decide_eq_true c33
                          clear c33
                          by_cases c34 : (!(((rd_T31 t193 x16_2).f0) == ((rd_T31 y189 x16_2).f0)) || (!(((rd_T31 t193 x16_2).f1) == ((rd_T31 y189 x16_2).f1)) || (!(((rd_T31 t193 x16_2).f2) == ((rd_T31 y189 x16_2).f2))))) = true
                          · rw [if_pos c34] at H
                            have c34b0 : (!(((rd_T31 t193 x16_2).f0) == ((rd_T31 y189 x16_2).f0)) || (!(((rd_T31 t193 x16_2).f1) == ((rd_T31 y189 x16_2).f1)) || (!(((rd_T31 t193 x16_2).f2) == ((rd_T31 y189 x16_2).f2))))) = true := c34
                            clear c34
                            obtain rfl := Option.some.inj H
                            obtain ⟨Ao35, co35, eo35⟩ := Kd.R_slice HO_12.out
                            subst eo35
                            have p201 : 0 ≤ (x16_2 : Int) := of_decide_eq_true (by first | (with_reducible assumption) | assumption)
                            have q201 : x16_2 < (t193.length : Int) := of_decide_eq_true (by first | (with_reducible assumption) | assumption)
                            obtain ⟨ad201, e201, hx201_0, hx201_1, hx201_2⟩ := at_T31 (Kd.R_reads' HO_12.out).2.2 x16_2 p201 q201
                            cases e201
                            replace p201 := eq_true p201
                            replace q201 := eq_true q201
                            have p202 : 0 ≤ (x16_2 : Int) := of_decide_eq_true (by first | (with_reducible assumption) | assumption)
                            have q202 : x16_2 < (y189.length : Int) := of_decide_eq_true (by first | (with_reducible assumption) | assumption)
                            obtain ⟨ad202, e202, hx202_0, hx202_1, hx202_2⟩ := at_T31 HR192.out x16_2 p202 q202
                            cases e202
                            replace hx202_0 := (HB.out.cell (World.block_lt_of_cell? w _ hx202_0)).trans hx202_0
                            replace hx202_1 := (HB.out.cell (World.block_lt_of_cell? w _ hx202_1)).trans hx202_1
                            replace hx202_2 := (HB.out.cell (World.block_lt_of_cell? w _ hx202_2)).trans hx202_2
                            replace p202 := eq_true p202
                            replace q202 := eq_true q202
                            go_wp2
                            repeat (go_quiet (fail); try go_wp2)
                            go_ret
                            exact ⟨by first | rfl | (simp [errW_none, errW_some] <;> rfl) | (simp [*, errW_none, errW_some] <;> rfl) | (simp [show IntKind.u64.wrap 0 = 0 from rfl, Int.zero_tdiv]; done), by repeat (first | (with_reducible first | exact HB.out | apply below_alloc | apply pw_below_drewN | apply below_drew1) | exact HB.out)⟩
                          · rw [if_neg c34] at H
                            have c34b0 : (!(((rd_T31 t193 x16_2).f0) == ((rd_T31 y189 x16_2).f0)) || (!(((rd_T31 t193 x16_2).f1) == ((rd_T31 y189 x16_2).f1)) || (!(((rd_T31 t193 x16_2).f2) == ((rd_T31 y189 x16_2).f2))))) = false := by simpa using c34
                            clear c34
                            have H' := Aside0.mk H
                            clear H
                            obtain ⟨Ao36, co36, eo36⟩ := Kd.R_slice HO_12.out
                            subst eo36
                            have p201 : 0 ≤ (x16_2 : Int) := of_decide_eq_true (by first | (with_reducible assumption) | assumption)
                            have q201 : x16_2 < (t193.length : Int) := of_decide_eq_true (by first | (with_reducible assumption) | assumption)
                            obtain ⟨ad201, e201, hx201_0, hx201_1, hx201_2⟩ := at_T31 (Kd.R_reads' HO_12.out).2.2 x16_2 p201 q201
                            cases e201
                            replace p201 := eq_true p201
                            replace q201 := eq_true q201
                            have p202 : 0 ≤ (x16_2 : Int) := of_decide_eq_true (by first | (with_reducible assumption) | assumption)
                            have q202 : x16_2 < (y189.length : Int) := of_decide_eq_true (by first | (with_reducible assumption) | assumption)
                            obtain ⟨ad202, e202, hx202_0, hx202_1, hx202_2⟩ := at_T31 HR192.out x16_2 p202 q202
                            cases e202
                            replace hx202_0 := (HB.out.cell (World.block_lt_of_cell? w _ hx202_0)).trans hx202_0
                            replace hx202_1 := (HB.out.cell (World.block_lt_of_cell? w _ hx202_1)).trans hx202_1
                            replace hx202_2 := (HB.out.cell (World.block_lt_of_cell? w _ hx202_2)).trans hx202_2
                            replace p202 := eq_true p202
                            replace q202 := eq_true q202
                            go_wp2
                            repeat (go_quiet (fail); try go_wp2)
                            go_roundg k2
                            case measure => have := HJ10.out; have := HK2.out; omega
                            case rel => exact ⟨(wrap64 (x16_2 + 1)), (by first | rfl | (simp; done) | (simp [*]; done)), H', ⟨by have := HJ10.out; have := HK2.out; omega⟩, ⟨by (with_reducible repeat (first | apply Kd.R_alloc | apply Kd.R_drewN | apply Kd.R_drew)); exact HO_12.out⟩, ⟨by repeat (first | (with_reducible first | exact HB.out | apply below_alloc | apply pw_below_drewN | apply below_drew1) | exact HB.out)⟩⟩
                        · rw [if_neg c33] at H
                          exact absurd H (by simp)
                      · rw [if_neg c32] at H
                        exact absurd H (by simp)
                  · rw [if_neg c30] at H
                    have c30b0 : decide (x16_2 < (y189.length : Int)) = false := decide_eq_false c30
                    clear c30
                    replace H := Option.bind_eq_some_iff.mp H
                    obtain ⟨⟨t203, t204⟩, A370, H⟩ := H
                    replace H : (if t204 = 0 then (if (t203.length : Int) = (t193.length : Int) then (if 0 ≤ (wrap64 (t194)) then (if (wrap64 (t194)) < (t203.length : Int) then ((dat_Lives.f ((rd_T31 t203 (wrap64 (t194))).f0) ((rd_T31 t203 (wrap64 (t194))).f1) ((rd_T31 t203 (wrap64 (t194))).f2) (([a4] : List Int))).bind fun t211 => (if t188 = true then (if a4 ≥ a2 then (some (t211 == (decide (a4 < a3)))) else (some (t211 == false))) else (some false))) else (none)) else (none)) else (some false)) else (some t188)) = some r := H
                    have A37 := Aside0.mk A370
                    clear A370
                    by_cases c38 : t204 = 0
                    · rw [if_pos c38] at H
                      have c38b0 : (t204 == 0) = true := beq_iff_eq.mpr c38
                      have c38b1 : (t204 != 0) = false := bne_eq_false_iff_eq.mpr c38
                      clear c38
                      by_cases c39 : (t203.length : Int) = (t193.length : Int)
                      · rw [if_pos c39] at H
                        have c39b0 : ((t203.length : Int) == (t193.length : Int)) = true := beq_iff_eq.mpr c39
                        have c39b1 : ((t203.length : Int) != (t193.length : Int)) = false := bne_eq_false_iff_eq.mpr c39
                        have c39b2 : (t203.length == t193.length) = true := by first | simpa using c39 | (simp at c39 ⊢; omega)
                        clear c39
                        by_cases c40 : 0 ≤ (wrap64 (t194))
                        · rw [if_pos c40] at H
                          have c40b0 : decide (0 ≤ (wrap64 (t194))) = true := decide_eq_true c40
                          clear c40
                          by_cases c41 : (wrap64 (t194)) < (t203.length : Int)
                          · rw [if_pos c41] at H
                            have c41b0 : decide ((wrap64 (t194)) < (t203.length : Int)) = true := decide_eq_true c41
                            clear c41
                            obtain ⟨y208, hy208⟩ : ∃ y_ : List Int, y_ = (([a4] : List Int)) := ⟨_, rfl⟩
                            replace H : ((dat_Lives.f ((rd_T31 t203 (wrap64 (t194))).f0) ((rd_T31 t203 (wrap64 (t194))).f1) ((rd_T31 t203 (wrap64 (t194))).f2) y208).bind fun t211 => (if t188 = true then (if a4 ≥ a2 then (some (t211 == (decide (a4 < a3)))) else (some (t211 == false))) else (some false))) = some r := by first | (rw [hy208]; with_reducible exact H) | (have H2_ := (Option.bind_some _ _).symm.trans H; rw [hy208]; with_reducible exact H2_) | (have H2_ := (Option.bind_some _ _).symm.trans H; with_reducible exact H2_) | with_reducible exact H | (rw [hy208]; exact H) | exact H
                            have Ny208 := Aside0.mk hy208
                            clear hy208
                            replace H := Option.bind_eq_some_iff.mp H
                            obtain ⟨t211, A420, H⟩ := H
                            replace H : (if t188 = true then (if a4 ≥ a2 then (some (t211 == (decide (a4 < a3)))) else (some (t211 == false))) else (some false)) = some r := H
                            have A42 := Aside0.mk A420
                            clear A420
                            by_cases c43 : t188 = true
                            · subst c43
                              have H1 : (if a4 ≥ a2 then (some (t211 == (decide (a4 < a3)))) else (some (t211 == false))) = some r := by rw [if_pos rfl] at H; exact H
                              clear H
                              have H := H1
                              clear H1
                              by_cases c44 : a4 ≥ a2
                              · rw [if_pos c44] at H
                                have c44b0 : decide (a2 ≤ a4) = true := decide_eq_true c44
                                clear c44
                                obtain rfl := Option.some.inj H
                                obtain ⟨Ao45, co45, eo45⟩ := Kd.R_slice HO_12.out
                                subst eo45
                                iterate 3 ((try go_wp2_with (first | (go_at_call 13; (with_reducible refine (dat_End.calls _ _ t193 t194 a3 t203 t204 _ ?side1 ?side2 A37.out).mono ?_); (case side1 => repeat (first | exact (Kd.R_reads' HO_12.out).2.2 | (with_reducible refine Kd.C_alloc ?_ _) | (with_reducible refine Kd.C_drewN ?_ _) | (with_reducible refine Kd.C_drew ?_))); (case side2 => exact (Kd.R_reads' HO_12.out).2.1); rintro e w46 ⟨v205, rfl, ho0, hb⟩; have n0_ := Aside0.mk (Kd.R_elder' (by (with_reducible repeat (first | apply Kd.R_alloc | apply Kd.R_drewN | apply Kd.R_drew)); exact HO_12.out) (Kd.R_base ho0) hb); have n1_ := Aside0.mk (Kd.R_lower (Kd.R_new' ho0 (Kd.R_lt (by (with_reducible repeat (first | apply Kd.R_alloc | apply Kd.R_drewN | apply Kd.R_drew)); exact HO_12.out))) (below_size (by repeat (first | (with_reducible first | exact HB.out | apply below_alloc | apply pw_below_drewN | apply below_drew1) | exact HB.out)))); have n2_ := Aside0.mk (below_step (by repeat (first | (with_reducible first | exact HB.out | apply below_alloc | apply pw_below_drewN | apply below_drew1) | exact HB.out)) hb); clear HO_12; clear HB; have HO_12 := n0_; have HO206 := n1_; have HB := n2_; clear n0_ n1_ n2_; (try clear hb); (try clear hb2); (try clear hk); (try clear hi); (try clear ho0); obtain ⟨Ao47, co47, eo47⟩ := Kd.R_slice HO206.out; subst eo47; have p207 : 0 ≤ ((wrap64 (t194)) : Int) := of_decide_eq_true (by first | (with_reducible assumption) | assumption); have q207 : (wrap64 (t194)) < (t203.length : Int) := of_decide_eq_true (by first | (with_reducible assumption) | assumption); obtain ⟨ad207, e207, hx207_0, hx207_1, hx207_2⟩ := at_T31 (Kd.R_reads' HO206.out).2.2 (wrap64 (t194)) p207 q207; cases e207; replace p207 := eq_true p207; replace q207 := eq_true q207) | ((with_reducible refine gate_dst (N := 117) rfl ?_); (try (refine gate_guard (by rfl) ?_; dsimp only)); refine Kd.R_lit (Kd.int .u64) _ 24 ?hg (N := 117) ?hd (xs := ([a4] : List Int)) (inner := [.int .u64 a4]) (ok := fun _ => True) (okp := fun _ => True) ?hr ?hp (fun _ hk => hk) trivial (Below.refl _ _) (Nat.le_refl _) (by simp) ?_; (case hd => rfl); (case hg => rfl); (case hr => first | (go_simp; done) | (go_simp; rfl)); (case hp => exact (Reps.one (show Kd.M (Kd.int .u64) _ _ _ a4 [.int .u64 a4] from rfl) (Reps.none _ _))); intro v209 w48 ho49 hb hg_ hnew_; clear hg_ hnew_; (first | rw [← Ny208.out] at ho49 | (simp only [Int.reduceToNat] at ho49; rw [← Ny208.out] at ho49)); have n0_ := Aside0.mk (Kd.R_below (by (with_reducible repeat (first | apply Kd.R_alloc | apply Kd.R_drewN | apply Kd.R_drew)); exact HO_12.out) hb); have n1_ := Aside0.mk (Kd.R_below (by (with_reducible repeat (first | apply Kd.R_alloc | apply Kd.R_drewN | apply Kd.R_drew)); exact HO206.out) hb); have n2_ := Aside0.mk (Kd.R_lower ho49 (below_size (by repeat (first | (with_reducible first | exact HB.out | apply below_alloc | apply pw_below_drewN | apply below_drew1) | exact HB.out)))); have n3_ := Aside0.mk (below_step (by repeat (first | (with_reducible first | exact HB.out | apply below_alloc | apply pw_below_drewN | apply below_drew1) | exact HB.out)) hb); clear HO_12; clear HO206; clear HB; have HO_12 := n0_; have HO206 := n1_; have HO210 := n2_; have HB := n3_; clear n0_ n1_ n2_ n3_; clear hb ho49; obtain ⟨Ao50, co50, eo50⟩ := Kd.R_slice HO210.out; subst eo50) | (go_at_call 12; (with_reducible refine (dat_Lives.calls ((rd_T31 t203 (wrap64 (t194))).f0) ((rd_T31 t203 (wrap64 (t194))).f1) ((rd_T31 t203 (wrap64 (t194))).f2) _ _ y208 t211 _ ?side1 ?side2 A42.out).mono ?_); (case side1 => repeat (first | exact (Kd.R_reads' HO210.out).2.2 | (with_reducible refine Kd.C_alloc ?_ _) | (with_reducible refine Kd.C_drewN ?_ _) | (with_reducible refine Kd.C_drew ?_))); (case side2 => exact (Kd.R_reads' HO210.out).2.1); rintro e w51 ⟨rfl, hb⟩; have n0_ := Aside0.mk (Kd.R_below (by (with_reducible repeat (first | apply Kd.R_alloc | apply Kd.R_drewN | apply Kd.R_drew)); exact HO_12.out) hb); have n1_ := Aside0.mk (Kd.R_below (by (with_reducible repeat (first | apply Kd.R_alloc | apply Kd.R_drewN | apply Kd.R_drew)); exact HO206.out) hb); have n2_ := Aside0.mk (Kd.R_below (by (with_reducible repeat (first | apply Kd.R_alloc | apply Kd.R_drewN | apply Kd.R_drew)); exact HO210.out) hb); have n3_ := Aside0.mk (below_step (by repeat (first | (with_reducible first | exact HB.out | apply below_alloc | apply pw_below_drewN | apply below_drew1) | exact HB.out)) hb); clear HO_12; clear HO206; clear HO210; clear HB; have HO_12 := n0_; have HO206 := n1_; have HO210 := n2_; have HB := n3_; clear n0_ n1_ n2_ n3_; (try clear hb); (try clear hb2); (try clear hk); (try clear hi)))); (try go_quiet (fail)))
                                go_ret
                                exact ⟨by first | rfl | (simp [errW_none, errW_some] <;> rfl) | (simp [*, errW_none, errW_some] <;> rfl) | (simp [show IntKind.u64.wrap 0 = 0 from rfl, Int.zero_tdiv]; done), by repeat (first | (with_reducible first | exact HB.out | apply below_alloc | apply pw_below_drewN | apply below_drew1) | exact HB.out)⟩
                              · rw [if_neg c44] at H
                                have c44b0 : decide (a2 ≤ a4) = false := decide_eq_false c44
                                clear c44
                                obtain rfl := Option.some.inj H
                                obtain ⟨Ao52, co52, eo52⟩ := Kd.R_slice HO_12.out
                                subst eo52
                                iterate 3 ((try go_wp2_with (first | (go_at_call 13; (with_reducible refine (dat_End.calls _ _ t193 t194 a3 t203 t204 _ ?side1 ?side2 A37.out).mono ?_); (case side1 => repeat (first | exact (Kd.R_reads' HO_12.out).2.2 | (with_reducible refine Kd.C_alloc ?_ _) | (with_reducible refine Kd.C_drewN ?_ _) | (with_reducible refine Kd.C_drew ?_))); (case side2 => exact (Kd.R_reads' HO_12.out).2.1); rintro e w53 ⟨v205, rfl, ho0, hb⟩; have n0_ := Aside0.mk (Kd.R_elder' (by (with_reducible repeat (first | apply Kd.R_alloc | apply Kd.R_drewN | apply Kd.R_drew)); exact HO_12.out) (Kd.R_base ho0) hb); have n1_ := Aside0.mk (Kd.R_lower (Kd.R_new' ho0 (Kd.R_lt (by (with_reducible repeat (first | apply Kd.R_alloc | apply Kd.R_drewN | apply Kd.R_drew)); exact HO_12.out))) (below_size (by repeat (first | (with_reducible first | exact HB.out | apply below_alloc | apply pw_below_drewN | apply below_drew1) | exact HB.out)))); have n2_ := Aside0.mk (below_step (by repeat (first | (with_reducible first | exact HB.out | apply below_alloc | apply pw_below_drewN | apply below_drew1) | exact HB.out)) hb); clear HO_12; clear HB; have HO_12 := n0_; have HO206 := n1_; have HB := n2_; clear n0_ n1_ n2_; (try clear hb); (try clear hb2); (try clear hk); (try clear hi); (try clear ho0); obtain ⟨Ao54, co54, eo54⟩ := Kd.R_slice HO206.out; subst eo54; have p207 : 0 ≤ ((wrap64 (t194)) : Int) := of_decide_eq_true (by first | (with_reducible assumption) | assumption); have q207 : (wrap64 (t194)) < (t203.length : Int) := of_decide_eq_true (by first | (with_reducible assumption) | assumption); obtain ⟨ad207, e207, hx207_0, hx207_1, hx207_2⟩ := at_T31 (Kd.R_reads' HO206.out).2.2 (wrap64 (t194)) p207 q207; cases e207; replace p207 := eq_true p207; replace q207 := eq_true q207) | ((with_reducible refine gate_dst (N := 117) rfl ?_); (try (refine gate_guard (by rfl) ?_; dsimp only)); refine Kd.R_lit (Kd.int .u64) _ 24 ?hg (N := 117) ?hd (xs := ([a4] : List Int)) (inner := [.int .u64 a4]) (ok := fun _ => True) (okp := fun _ => True) ?hr ?hp (fun _ hk => hk) trivial (Below.refl _ _) (Nat.le_refl _) (by simp) ?_; (case hd => rfl); (case hg => rfl); (case hr => first | (go_simp; done) | (go_simp; rfl)); (case hp => exact (Reps.one (show Kd.M (Kd.int .u64) _ _ _ a4 [.int .u64 a4] from rfl) (Reps.none _ _))); intro v209 w55 ho56 hb hg_ hnew_; clear hg_ hnew_; (first | rw [← Ny208.out] at ho56 | (simp only [Int.reduceToNat] at ho56; rw [← Ny208.out] at ho56)); have n0_ := Aside0.mk (Kd.R_below (by (with_reducible repeat (first | apply Kd.R_alloc | apply Kd.R_drewN | apply Kd.R_drew)); exact HO_12.out) hb); have n1_ := Aside0.mk (Kd.R_below (by (with_reducible repeat (first | apply Kd.R_alloc | apply Kd.R_drewN | apply Kd.R_drew)); exact HO206.out) hb); have n2_ := Aside0.mk (Kd.R_lower ho56 (below_size (by repeat (first | (with_reducible first | exact HB.out | apply below_alloc | apply pw_below_drewN | apply below_drew1) | exact HB.out)))); have n3_ := Aside0.mk (below_step (by repeat (first | (with_reducible first | exact HB.out | apply below_alloc | apply pw_below_drewN | apply below_drew1) | exact HB.out)) hb); clear HO_12; clear HO206; clear HB; have HO_12 := n0_; have HO206 := n1_; have HO210 := n2_; have HB := n3_; clear n0_ n1_ n2_ n3_; clear hb ho56; obtain ⟨Ao57, co57, eo57⟩ := Kd.R_slice HO210.out; subst eo57) | (go_at_call 12; (with_reducible refine (dat_Lives.calls ((rd_T31 t203 (wrap64 (t194))).f0) ((rd_T31 t203 (wrap64 (t194))).f1) ((rd_T31 t203 (wrap64 (t194))).f2) _ _ y208 t211 _ ?side1 ?side2 A42.out).mono ?_); (case side1 => repeat (first | exact (Kd.R_reads' HO210.out).2.2 | (with_reducible refine Kd.C_alloc ?_ _) | (with_reducible refine Kd.C_drewN ?_ _) | (with_reducible refine Kd.C_drew ?_))); (case side2 => exact (Kd.R_reads' HO210.out).2.1); rintro e w58 ⟨rfl, hb⟩; have n0_ := Aside0.mk (Kd.R_below (by (with_reducible repeat (first | apply Kd.R_alloc | apply Kd.R_drewN | apply Kd.R_drew)); exact HO_12.out) hb); have n1_ := Aside0.mk (Kd.R_below (by (with_reducible repeat (first | apply Kd.R_alloc | apply Kd.R_drewN | apply Kd.R_drew)); exact HO206.out) hb); have n2_ := Aside0.mk (Kd.R_below (by (with_reducible repeat (first | apply Kd.R_alloc | apply Kd.R_drewN | apply Kd.R_drew)); exact HO210.out) hb); have n3_ := Aside0.mk (below_step (by repeat (first | (with_reducible first | exact HB.out | apply below_alloc | apply pw_below_drewN | apply below_drew1) | exact HB.out)) hb); clear HO_12; clear HO206; clear HO210; clear HB; have HO_12 := n0_; have HO206 := n1_; have HO210 := n2_; have HB := n3_; clear n0_ n1_ n2_ n3_; (try clear hb); (try clear hb2); (try clear hk); (try clear hi)))); (try go_quiet (fail)))
                                go_ret
                                exact ⟨by first | rfl | (simp [errW_none, errW_some] <;> rfl) | (simp [*, errW_none, errW_some] <;> rfl) | (simp [show IntKind.u64.wrap 0 = 0 from rfl, Int.zero_tdiv]; done), by repeat (first | (with_reducible first | exact HB.out | apply below_alloc | apply pw_below_drewN | apply below_drew1) | exact HB.out)⟩
                            · replace c43 := Bool.eq_false_iff.mpr c43
                              subst c43
                              have H1 : (some false) = some r := by rw [if_neg (show ¬ (false = true) by decide)] at H; exact H
                              clear H
                              have H := H1
                              clear H1
                              obtain rfl := Option.some.inj H
                              obtain ⟨Ao59, co59, eo59⟩ := Kd.R_slice HO_12.out
                              subst eo59
                              iterate 3 ((try go_wp2_with (first | (go_at_call 13; (with_reducible refine (dat_End.calls _ _ t193 t194 a3 t203 t204 _ ?side1 ?side2 A37.out).mono ?_); (case side1 => repeat (first | exact (Kd.R_reads' HO_12.out).2.2 | (with_reducible refine Kd.C_alloc ?_ _) | (with_reducible refine Kd.C_drewN ?_ _) | (with_reducible refine Kd.C_drew ?_))); (case side2 => exact (Kd.R_reads' HO_12.out).2.1); rintro e w60 ⟨v205, rfl, ho0, hb⟩; have n0_ := Aside0.mk (Kd.R_elder' (by (with_reducible repeat (first | apply Kd.R_alloc | apply Kd.R_drewN | apply Kd.R_drew)); exact HO_12.out) (Kd.R_base ho0) hb); have n1_ := Aside0.mk (Kd.R_lower (Kd.R_new' ho0 (Kd.R_lt (by (with_reducible repeat (first | apply Kd.R_alloc | apply Kd.R_drewN | apply Kd.R_drew)); exact HO_12.out))) (below_size (by repeat (first | (with_reducible first | exact HB.out | apply below_alloc | apply pw_below_drewN | apply below_drew1) | exact HB.out)))); have n2_ := Aside0.mk (below_step (by repeat (first | (with_reducible first | exact HB.out | apply below_alloc | apply pw_below_drewN | apply below_drew1) | exact HB.out)) hb); clear HO_12; clear HB; have HO_12 := n0_; have HO206 := n1_; have HB := n2_; clear n0_ n1_ n2_; (try clear hb); (try clear hb2); (try clear hk); (try clear hi); (try clear ho0); obtain ⟨Ao61, co61, eo61⟩ := Kd.R_slice HO206.out; subst eo61; have p207 : 0 ≤ ((wrap64 (t194)) : Int) := of_decide_eq_true (by first | (with_reducible assumption) | assumption); have q207 : (wrap64 (t194)) < (t203.length : Int) := of_decide_eq_true (by first | (with_reducible assumption) | assumption); obtain ⟨ad207, e207, hx207_0, hx207_1, hx207_2⟩ := at_T31 (Kd.R_reads' HO206.out).2.2 (wrap64 (t194)) p207 q207; cases e207; replace p207 := eq_true p207; replace q207 := eq_true q207) | ((with_reducible refine gate_dst (N := 117) rfl ?_); (try (refine gate_guard (by rfl) ?_; dsimp only)); refine Kd.R_lit (Kd.int .u64) _ 24 ?hg (N := 117) ?hd (xs := ([a4] : List Int)) (inner := [.int .u64 a4]) (ok := fun _ => True) (okp := fun _ => True) ?hr ?hp (fun _ hk => hk) trivial (Below.refl _ _) (Nat.le_refl _) (by simp) ?_; (case hd => rfl); (case hg => rfl); (case hr => first | (go_simp; done) | (go_simp; rfl)); (case hp => exact (Reps.one (show Kd.M (Kd.int .u64) _ _ _ a4 [.int .u64 a4] from rfl) (Reps.none _ _))); intro v209 w62 ho63 hb hg_ hnew_; clear hg_ hnew_; (first | rw [← Ny208.out] at ho63 | (simp only [Int.reduceToNat] at ho63; rw [← Ny208.out] at ho63)); have n0_ := Aside0.mk (Kd.R_below (by (with_reducible repeat (first | apply Kd.R_alloc | apply Kd.R_drewN | apply Kd.R_drew)); exact HO_12.out) hb); have n1_ := Aside0.mk (Kd.R_below (by (with_reducible repeat (first | apply Kd.R_alloc | apply Kd.R_drewN | apply Kd.R_drew)); exact HO206.out) hb); have n2_ := Aside0.mk (Kd.R_lower ho63 (below_size (by repeat (first | (with_reducible first | exact HB.out | apply below_alloc | apply pw_below_drewN | apply below_drew1) | exact HB.out)))); have n3_ := Aside0.mk (below_step (by repeat (first | (with_reducible first | exact HB.out | apply below_alloc | apply pw_below_drewN | apply below_drew1) | exact HB.out)) hb); clear HO_12; clear HO206; clear HB; have HO_12 := n0_; have HO206 := n1_; have HO210 := n2_; have HB := n3_; clear n0_ n1_ n2_ n3_; clear hb ho63; obtain ⟨Ao64, co64, eo64⟩ := Kd.R_slice HO210.out; subst eo64) | (go_at_call 12; (with_reducible refine (dat_Lives.calls ((rd_T31 t203 (wrap64 (t194))).f0) ((rd_T31 t203 (wrap64 (t194))).f1) ((rd_T31 t203 (wrap64 (t194))).f2) _ _ y208 t211 _ ?side1 ?side2 A42.out).mono ?_); (case side1 => repeat (first | exact (Kd.R_reads' HO210.out).2.2 | (with_reducible refine Kd.C_alloc ?_ _) | (with_reducible refine Kd.C_drewN ?_ _) | (with_reducible refine Kd.C_drew ?_))); (case side2 => exact (Kd.R_reads' HO210.out).2.1); rintro e w65 ⟨rfl, hb⟩; have n0_ := Aside0.mk (Kd.R_below (by (with_reducible repeat (first | apply Kd.R_alloc | apply Kd.R_drewN | apply Kd.R_drew)); exact HO_12.out) hb); have n1_ := Aside0.mk (Kd.R_below (by (with_reducible repeat (first | apply Kd.R_alloc | apply Kd.R_drewN | apply Kd.R_drew)); exact HO206.out) hb); have n2_ := Aside0.mk (Kd.R_below (by (with_reducible repeat (first | apply Kd.R_alloc | apply Kd.R_drewN | apply Kd.R_drew)); exact HO210.out) hb); have n3_ := Aside0.mk (below_step (by repeat (first | (with_reducible first | exact HB.out | apply below_alloc | apply pw_below_drewN | apply below_drew1) | exact HB.out)) hb); clear HO_12; clear HO206; clear HO210; clear HB; have HO_12 := n0_; have HO206 := n1_; have HO210 := n2_; have HB := n3_; clear n0_ n1_ n2_ n3_; (try clear hb); (try clear hb2); (try clear hk); (try clear hi)))); (try go_quiet (fail)))
                              go_ret
                              exact ⟨by first | rfl | (simp [errW_none, errW_some] <;> rfl) | (simp [*, errW_none, errW_some] <;> rfl) | (simp [show IntKind.u64.wrap 0 = 0 from rfl, Int.zero_tdiv]; done), by repeat (first | (with_reducible first | exact HB.out | apply below_alloc | apply pw_below_drewN | apply below_drew1) | exact HB.out)⟩
                          · rw [if_neg c41] at H
                            exact absurd H (by simp)
                        · rw [if_neg c40] at H
                          exact absurd H (by simp)
                      · rw [if_neg c39] at H
                        have c39b0 : ((t203.length : Int) == (t193.length : Int)) = false := beq_eq_false_iff_ne.mpr c39
                        have c39b1 : ((t203.length : Int) != (t193.length : Int)) = true := bne_iff_ne.mpr c39
                        have c39b2 : (t203.length == t193.length) = false := by first | simpa using c39 | (simp at c39 ⊢; omega)
                        obtain rfl := Option.some.inj H
                        obtain ⟨Ao66, co66, eo66⟩ := Kd.R_slice HO_12.out
                        subst eo66
                        iterate 3 ((try go_wp2_with (first | (go_at_call 13; (with_reducible refine (dat_End.calls _ _ t193 t194 a3 t203 t204 _ ?side1 ?side2 A37.out).mono ?_); (case side1 => repeat (first | exact (Kd.R_reads' HO_12.out).2.2 | (with_reducible refine Kd.C_alloc ?_ _) | (with_reducible refine Kd.C_drewN ?_ _) | (with_reducible refine Kd.C_drew ?_))); (case side2 => exact (Kd.R_reads' HO_12.out).2.1); rintro e w67 ⟨v205, rfl, ho0, hb⟩; have n0_ := Aside0.mk (Kd.R_elder' (by (with_reducible repeat (first | apply Kd.R_alloc | apply Kd.R_drewN | apply Kd.R_drew)); exact HO_12.out) (Kd.R_base ho0) hb); have n1_ := Aside0.mk (Kd.R_lower (Kd.R_new' ho0 (Kd.R_lt (by (with_reducible repeat (first | apply Kd.R_alloc | apply Kd.R_drewN | apply Kd.R_drew)); exact HO_12.out))) (below_size (by repeat (first | (with_reducible first | exact HB.out | apply below_alloc | apply pw_below_drewN | apply below_drew1) | exact HB.out)))); have n2_ := Aside0.mk (below_step (by repeat (first | (with_reducible first | exact HB.out | apply below_alloc | apply pw_below_drewN | apply below_drew1) | exact HB.out)) hb); clear HO_12; clear HB; have HO_12 := n0_; have HO206 := n1_; have HB := n2_; clear n0_ n1_ n2_; (try clear hb); (try clear hb2); (try clear hk); (try clear hi); (try clear ho0); obtain ⟨Ao68, co68, eo68⟩ := Kd.R_slice HO206.out; subst eo68))); (try go_quiet (fail)))
                        go_ret
                        exact ⟨by first | rfl | (simp [errW_none, errW_some] <;> rfl) | (simp [*, errW_none, errW_some] <;> rfl) | (simp [show IntKind.u64.wrap 0 = 0 from rfl, Int.zero_tdiv]; done), by repeat (first | (with_reducible first | exact HB.out | apply below_alloc | apply pw_below_drewN | apply below_drew1) | exact HB.out)⟩
                    · rw [if_neg c38] at H
                      have c38b0 : (t204 == 0) = false := beq_eq_false_iff_ne.mpr c38
                      have c38b1 : (t204 != 0) = true := bne_iff_ne.mpr c38
                      obtain rfl := Option.some.inj H
                      obtain ⟨Ao69, co69, eo69⟩ := Kd.R_slice HO_12.out
                      subst eo69
                      iterate 3 ((try go_wp2_with (first | (go_at_call 13; (with_reducible refine (dat_End.calls _ _ t193 t194 a3 t203 t204 _ ?side1 ?side2 A37.out).mono ?_); (case side1 => repeat (first | exact (Kd.R_reads' HO_12.out).2.2 | (with_reducible refine Kd.C_alloc ?_ _) | (with_reducible refine Kd.C_drewN ?_ _) | (with_reducible refine Kd.C_drew ?_))); (case side2 => exact (Kd.R_reads' HO_12.out).2.1); rintro e w70 ⟨v205, rfl, ho0, hb⟩; have n0_ := Aside0.mk (Kd.R_elder' (by (with_reducible repeat (first | apply Kd.R_alloc | apply Kd.R_drewN | apply Kd.R_drew)); exact HO_12.out) (Kd.R_base ho0) hb); have n1_ := Aside0.mk (Kd.R_lower (Kd.R_new' ho0 (Kd.R_lt (by (with_reducible repeat (first | apply Kd.R_alloc | apply Kd.R_drewN | apply Kd.R_drew)); exact HO_12.out))) (below_size (by repeat (first | (with_reducible first | exact HB.out | apply below_alloc | apply pw_below_drewN | apply below_drew1) | exact HB.out)))); have n2_ := Aside0.mk (below_step (by repeat (first | (with_reducible first | exact HB.out | apply below_alloc | apply pw_below_drewN | apply below_drew1) | exact HB.out)) hb); clear HO_12; clear HB; have HO_12 := n0_; have HO206 := n1_; have HB := n2_; clear n0_ n1_ n2_; (try clear hb); (try clear hb2); (try clear hk); (try clear hi); (try clear ho0)))); (try go_quiet (fail)))
                      go_ret
                      exact ⟨by first | rfl | (simp [errW_none, errW_some] <;> rfl) | (simp [*, errW_none, errW_some] <;> rfl) | (simp [show IntKind.u64.wrap 0 = 0 from rfl, Int.zero_tdiv]; done), by repeat (first | (with_reducible first | exact HB.out | apply below_alloc | apply pw_below_drewN | apply below_drew1) | exact HB.out)⟩
      · rw [if_neg c10] at H
        have c10b0 : (t195 == 0) = false := beq_eq_false_iff_ne.mpr c10
        have c10b1 : (t195 != 0) = true := bne_iff_ne.mpr c10
        obtain rfl := Option.some.inj H
        go_enter Try.func3, Try.ntmps3
        iterate 3 ((try go_wp2_with (first | (go_at_call 9; (with_reducible refine (nautiluslaw08_shown.calls k  t188 _ A6.out).mono ?_); rintro e w71 ⟨rfl, hb⟩; have n0_ := Aside0.mk (below_step (by repeat (first | (with_reducible first | exact HB.out | apply below_alloc | apply pw_below_drewN | apply below_drew1) | exact HB.out)) hb); clear HB; have HB := n0_; clear n0_; (try clear hb); (try clear hb2); (try clear hk); (try clear hi); have q72 : ((mn (l0.length : Int) 2000) : Int) ≤ ((l0.length : Int) : Int) := of_decide_eq_true (by first | (with_reducible assumption) | assumption); obtain ⟨i072, hi072, _, hsz72, _⟩ := info_parts info31; have hroom72 : l0.length ≤ c0 := HC0.out; have hC72 : Kd.C k31 _ A0 l0.length l0 := HR0.out; have hcut72 := cut_to (P := Try.prog) 22 31 .i64 Try.underlying22 hi072 A0 l0.length c0 (mn (l0.length : Int) 2000) (of_decide_eq_true (by first | (with_reducible assumption) | assumption)) q72 hroom72; have hr72 := Kd.C_take (m := ((mn (l0.length : Int) 2000) : Int).toNat) hC72 (by omega); have hy72 : y189.length = ((mn (l0.length : Int) 2000) : Int).toNat := (by rw [Ny189.out, List.length_take]; omega); rw [← Ny189.out] at hr72; rw [← hy72] at hcut72; have HR192 := Aside0.mk hr72; have HC192 := Aside0.mk (show y189.length ≤ c0 from by omega); clear hr72 hC72 hroom72 hi072 hsz72; have KY72 := Aside0.mk hy72; clear hy72; clear hcut72; replace q72 := eq_true q72) | ((with_reducible refine gate_callee (f := 10) rfl ?_); refine goesL_ (some 22) rfl rfl Try.func10 (by kernel_rfl) rfl #[.slice A0 l0.length c0] rfl (by (try simp only [List.map_toArray, List.map_cons, List.map_nil]); first | done | rfl | (simp only [List.length_drop, List.length_take]; rfl)) ?_; (refine (nautiluslaw08_cut.calls A0 l0.length c0 y189.length _ ?side1 ?side2 ?side3).mono ?_); (case side1 => exact Kd.C_max HR0.out); (case side2 => exact HC0.out); (case side3 => exact KY72.out); rintro e w' ⟨rfl, rfl⟩; refine ⟨_, rfl, ?_⟩) | (go_at_call 11; (with_reducible refine (dat_Begin.calls k _ _ y189 a1 a2 t193 t194 t195 _ ?side1 ?side2 A9.out).mono ?_); (case side1 => repeat (first | exact (Kd.C_below HR192.out HB.out) | (with_reducible refine Kd.C_alloc ?_ _) | (with_reducible refine Kd.C_drewN ?_ _) | (with_reducible refine Kd.C_drew ?_))); (case side2 => exact HC192.out); rintro e w73 ⟨v196, rfl, ho0, hb⟩; have n0_ := Aside0.mk (Kd.R_lower ho0 (below_size (by repeat (first | (with_reducible first | exact HB.out | apply below_alloc | apply pw_below_drewN | apply below_drew1) | exact HB.out)))); have n1_ := Aside0.mk (below_step (by repeat (first | (with_reducible first | exact HB.out | apply below_alloc | apply pw_below_drewN | apply below_drew1) | exact HB.out)) hb); clear HB; have HO197 := n0_; have HB := n1_; clear n0_ n1_; (try clear hb); (try clear hb2); (try clear hk); (try clear hi); (try clear ho0)))); (try go_quiet (fail)))
        go_ret
        exact ⟨by first | rfl | (simp [errW_none, errW_some] <;> rfl) | (simp [*, errW_none, errW_some] <;> rfl) | (simp [show IntKind.u64.wrap 0 = 0 from rfl, Int.zero_tdiv]; done), by repeat (first | (with_reducible first | exact HB.out | apply below_alloc | apply pw_below_drewN | apply below_drew1) | exact HB.out)⟩
    · rw [if_neg c8] at H
      exact absurd H (by simp)
  · rw [if_neg c7] at H
    exact absurd H (by simp)

/-- THE ONE PURE STATEMENT of nautiluslaw08_DatKeeps: yours. -/
def nautiluslaw08_DatKeeps.Pure : Prop := ∀ (l0 : List (S31)) (a1 : Int) (a2 : Int) (a3 : Int) (a4 : Int), l0.length ≤ maxLen → (∀ x ∈ l0, (Lit.int .u32 x.f0).wf = true ∧ (Lit.int .u64 x.f1).wf = true ∧ (Lit.int .u64 x.f2).wf = true) → (Lit.int .u32 a1).wf = true → (Lit.int .u64 a2).wf = true → (Lit.int .u64 a3).wf = true → (Lit.int .u64 a4).wf = true → ∃ k, nautiluslaw08_DatKeeps.f k l0 a1 a2 a3 a4 = some true
theorem nautiluslaw08_DatKeeps.walk (P : nautiluslaw08_DatKeeps.Pure) (a0 : Option Addr) (len0 cap0 : Nat) (z0 : List (S31)) (a1 : Int) (a2 : Int) (a3 : Int) (a4 : Int) (w : World) (w0 : z0.length = len0 ∧ len0 ≤ cap0 ∧ len0 ≤ maxLen ∧ Kd.C k31 w a0 len0 z0 ∧ ∀ x ∈ z0, (Lit.int .u32 x.f0).wf = true ∧ (Lit.int .u64 x.f1).wf = true ∧ (Lit.int .u64 x.f2).wf = true) (w1 : (Lit.int .u32 a1).wf = true) (w2 : (Lit.int .u64 a2).wf = true) (w3 : (Lit.int .u64 a3).wf = true) (w4 : (Lit.int .u64 a4).wf = true) :
    Calls Try.prog 3 #[.slice a0 len0 cap0, .int .u32 a1, .int .u64 a2, .int .u64 a3, .int .u64 a4] w fun e w' => e = .returned (.bool true) ∧ Below w.heap.size w w' := by
  obtain ⟨hl0, hc0, hm0, hC0, hw0⟩ := w0
  subst hl0
  obtain ⟨k, h⟩ := P z0 a1 a2 a3 a4 hm0 hw0 w1 w2 w3 w4
  refine (nautiluslaw08_DatKeeps.calls k _ _ z0 a1 a2 a3 a4 true w hC0 hc0 h).mono ?_
  rintro e w' ⟨rfl, hd⟩
  exact ⟨rfl, hd⟩

end Go.Proofs.Ytiajhfinkpddbaa.Q
