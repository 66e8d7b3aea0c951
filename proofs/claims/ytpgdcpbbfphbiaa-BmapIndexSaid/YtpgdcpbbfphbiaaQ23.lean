/- Functions of the translation as plain Lean functions, and that the translation computes them: printed by this session's driver of the print. -/
import Derived.Test.YtpgdcpbbfphbiaaQ0
import Derived.Test.YtpgdcpbbfphbiaaQ7
import Derived.Test.YtpgdcpbbfphbiaaQ16
import Derived.Test.YtpgdcpbbfphbiaaQ18
namespace Go.Proofs.Ytpgdcpbbfphbiaa.Q
open Go.Proofs.Ytpgdcpbbfphbiaa.H
open Go.RowKit Go.Proofs.YtpgdcpbbfphbiaaW.PrintWords Go.Proofs.YtpgdcpbbfphbiaaW.PrintLast Go.Proofs.YtpgdcpbbfphbiaaW.PrintMore
attribute [local go_sem] max2_int min2_int max_two min_two max_three min_three max_four min_four   -- for this text's walks alone
set_option linter.unusedVariables false
set_option linter.unusedSimpArgs false

/-! ### nautiluslaw13_BmapIndex: function 6 -/
mutual
def nautiluslaw13_BmapIndex.j0 : Nat → Int → Int → Int → Bool → List Int → Int → Bool → Option (Bool)
  | 0, _, _, _, _, _, _, _ => none
  | k + 1, x0, x1, x2, x7, x8, x9, x24 => if x24 = true then (none) else (if x9 = 0 then (if 0 < (x8.length : Int) then (if (x8.length : Int) = 2 then (if 1 < (x8.length : Int) then (nautiluslaw13_BmapIndex.j1 k x0 x1 x2 x7 x8 (rd x8 1)) else (none)) else (nautiluslaw13_BmapIndex.j1 k x0 x1 x2 x7 x8 (rd x8 0))) else (none)) else (if x7 = true then (if x0 > x1 then (some true) else (if x1 > 8193532 then (some true) else ((bmap_Count.f x0).bind fun t299 => ((bmap_Count.f x1).bind fun t300 => (some (decide (t299 ≤ t300))))))) else (none)))
def nautiluslaw13_BmapIndex.j1 : Nat → Int → Int → Int → Bool → List Int → Int → Option (Bool)
  | 0, _, _, _, _, _, _ => none
  | k + 1, x0, x1, x2, x7, x8, x10 => if (x8.length : Int) = 3 then (if 1 < (x8.length : Int) then (if 2 < (x8.length : Int) then (nautiluslaw13_BmapIndex.j2 k x0 x1 x2 x7 x8 (wrap64 ((wrap64 ((rd x8 1) * 127)) + (rd x8 2)))) else (none)) else (none)) else (nautiluslaw13_BmapIndex.j2 k x0 x1 x2 x7 x8 x10)
def nautiluslaw13_BmapIndex.j2 : Nat → Int → Int → Int → Bool → List Int → Int → Option (Bool)
  | 0, _, _, _, _, _, _ => none
  | k + 1, x0, x1, x2, x7, x8, x10 => if x10 = x2 then (if (x8.length : Int) > 3 then (nautiluslaw13_BmapIndex.j3 k x0 x1 x7 true) else (if (x8.length : Int) > 1 then (if 0 < (x8.length : Int) then (if (rd x8 0) = 0 then (if 0 ≤ (wrap64 ((x8.length : Int) - 1)) then (if (wrap64 ((x8.length : Int) - 1)) < (x8.length : Int) then (nautiluslaw13_BmapIndex.j3 k x0 x1 x7 (decide ((rd x8 (wrap64 ((x8.length : Int) - 1))) ≥ 127))) else (none)) else (none)) else (nautiluslaw13_BmapIndex.j3 k x0 x1 x7 true)) else (none)) else (if 0 ≤ (wrap64 ((x8.length : Int) - 1)) then (if (wrap64 ((x8.length : Int) - 1)) < (x8.length : Int) then (nautiluslaw13_BmapIndex.j3 k x0 x1 x7 (decide ((rd x8 (wrap64 ((x8.length : Int) - 1))) ≥ 127))) else (none)) else (none)))) else (nautiluslaw13_BmapIndex.j3 k x0 x1 x7 true)
def nautiluslaw13_BmapIndex.j3 : Nat → Int → Int → Bool → Bool → Option (Bool)
  | 0, _, _, _, _ => none
  | k + 1, x0, x1, x7, x74 => if x74 = true then (none) else (if x7 = true then (if x0 > x1 then (some true) else (if x1 > 8193532 then (some true) else ((bmap_Count.f x0).bind fun t297 => ((bmap_Count.f x1).bind fun t298 => (some (decide (t297 ≤ t298))))))) else (none))
end
def nautiluslaw13_BmapIndex.f (k : Nat) (a0 : Int) (a1 : Int) (a2 : Int) : Option (Bool) := (nautiluslaw13_shown.f k).bind fun t285 => ((bmap_Way.f k a0 a2).bind fun bt286 => (if bt286.2 = 0 then (nautiluslaw13_BmapIndex.j0 k a0 a1 a2 t285 bt286.1 bt286.2 ((bt286.1.length : Int) == 0)) else (nautiluslaw13_BmapIndex.j0 k a0 a1 a2 t285 bt286.1 bt286.2 false)))
theorem nautiluslaw13_BmapIndex.mono_l : ∀ k, (∀ y0 y1 y2 y3 y4 y5 y6, LeO (nautiluslaw13_BmapIndex.j0 k y0 y1 y2 y3 y4 y5 y6) (nautiluslaw13_BmapIndex.j0 (k + 1) y0 y1 y2 y3 y4 y5 y6)) ∧ (∀ y0 y1 y2 y3 y4 y5, LeO (nautiluslaw13_BmapIndex.j1 k y0 y1 y2 y3 y4 y5) (nautiluslaw13_BmapIndex.j1 (k + 1) y0 y1 y2 y3 y4 y5)) ∧ (∀ y0 y1 y2 y3 y4 y5, LeO (nautiluslaw13_BmapIndex.j2 k y0 y1 y2 y3 y4 y5) (nautiluslaw13_BmapIndex.j2 (k + 1) y0 y1 y2 y3 y4 y5)) ∧ (∀ y0 y1 y2 y3, LeO (nautiluslaw13_BmapIndex.j3 k y0 y1 y2 y3) (nautiluslaw13_BmapIndex.j3 (k + 1) y0 y1 y2 y3))
  | 0 => ⟨fun _ _ _ _ _ _ _ r h => by simp [nautiluslaw13_BmapIndex.j0] at h, fun _ _ _ _ _ _ r h => by simp [nautiluslaw13_BmapIndex.j1] at h, fun _ _ _ _ _ _ r h => by simp [nautiluslaw13_BmapIndex.j2] at h, fun _ _ _ _ r h => by simp [nautiluslaw13_BmapIndex.j3] at h⟩
  | k + 1 => by
    obtain ⟨ih0, ih1, ih2, ih3⟩ := nautiluslaw13_BmapIndex.mono_l k
    refine ⟨?_, ?_, ?_, ?_⟩
    · intro y0 y1 y2 y3 y4 y5 y6
      unfold nautiluslaw13_BmapIndex.j0
      repeat' first
      | (with_reducible exact ih0 _ _ _ _ _ _ _)
      | (with_reducible exact ih1 _ _ _ _ _ _)
      | (with_reducible exact ih2 _ _ _ _ _ _)
      | (with_reducible exact ih3 _ _ _ _)
      | (with_reducible exact bmap_Way.mono _ _ _)
      | (with_reducible exact nautiluslaw13_shown.mono _)
      | (with_reducible exact LeO.refl _)
      | (with_reducible exact LeO.none _)
      | (with_reducible refine LeO.ite ?_ ?_)
      | (with_reducible refine LeO.bind ?_ (fun _ => ?_))
      | exact ih0 _ _ _ _ _ _ _
      | exact ih1 _ _ _ _ _ _
      | exact ih2 _ _ _ _ _ _
      | exact ih3 _ _ _ _
      | exact bmap_Way.mono _ _ _
      | exact nautiluslaw13_shown.mono _
      | exact LeO.none _
      | refine LeO.ite ?_ ?_
      | refine LeO.bind ?_ (fun _ => ?_)
    · intro y0 y1 y2 y3 y4 y5
      unfold nautiluslaw13_BmapIndex.j1
      repeat' first
      | (with_reducible exact ih0 _ _ _ _ _ _ _)
      | (with_reducible exact ih1 _ _ _ _ _ _)
      | (with_reducible exact ih2 _ _ _ _ _ _)
      | (with_reducible exact ih3 _ _ _ _)
      | (with_reducible exact bmap_Way.mono _ _ _)
      | (with_reducible exact nautiluslaw13_shown.mono _)
      | (with_reducible exact LeO.refl _)
      | (with_reducible exact LeO.none _)
      | (with_reducible refine LeO.ite ?_ ?_)
      | (with_reducible refine LeO.bind ?_ (fun _ => ?_))
      | exact ih0 _ _ _ _ _ _ _
      | exact ih1 _ _ _ _ _ _
      | exact ih2 _ _ _ _ _ _
      | exact ih3 _ _ _ _
      | exact bmap_Way.mono _ _ _
      | exact nautiluslaw13_shown.mono _
      | exact LeO.none _
      | refine LeO.ite ?_ ?_
      | refine LeO.bind ?_ (fun _ => ?_)
    · intro y0 y1 y2 y3 y4 y5
      unfold nautiluslaw13_BmapIndex.j2
      repeat' first
      | (with_reducible exact ih0 _ _ _ _ _ _ _)
      | (with_reducible exact ih1 _ _ _ _ _ _)
      | (with_reducible exact ih2 _ _ _ _ _ _)
      | (with_reducible exact ih3 _ _ _ _)
      | (with_reducible exact bmap_Way.mono _ _ _)
      | (with_reducible exact nautiluslaw13_shown.mono _)
      | (with_reducible exact LeO.refl _)
      | (with_reducible exact LeO.none _)
      | (with_reducible refine LeO.ite ?_ ?_)
      | (with_reducible refine LeO.bind ?_ (fun _ => ?_))
      | exact ih0 _ _ _ _ _ _ _
      | exact ih1 _ _ _ _ _ _
      | exact ih2 _ _ _ _ _ _
      | exact ih3 _ _ _ _
      | exact bmap_Way.mono _ _ _
      | exact nautiluslaw13_shown.mono _
      | exact LeO.none _
      | refine LeO.ite ?_ ?_
      | refine LeO.bind ?_ (fun _ => ?_)
    · intro y0 y1 y2 y3
      unfold nautiluslaw13_BmapIndex.j3
      repeat' first
      | (with_reducible exact ih0 _ _ _ _ _ _ _)
      | (with_reducible exact ih1 _ _ _ _ _ _)
      | (with_reducible exact ih2 _ _ _ _ _ _)
      | (with_reducible exact ih3 _ _ _ _)
      | (with_reducible exact bmap_Way.mono _ _ _)
      | (with_reducible exact nautiluslaw13_shown.mono _)
      | (with_reducible exact LeO.refl _)
      | (with_reducible exact LeO.none _)
      | (with_reducible refine LeO.ite ?_ ?_)
      | (with_reducible refine LeO.bind ?_ (fun _ => ?_))
      | exact ih0 _ _ _ _ _ _ _
      | exact ih1 _ _ _ _ _ _
      | exact ih2 _ _ _ _ _ _
      | exact ih3 _ _ _ _
      | exact bmap_Way.mono _ _ _
      | exact nautiluslaw13_shown.mono _
      | exact LeO.none _
      | refine LeO.ite ?_ ?_
      | refine LeO.bind ?_ (fun _ => ?_)
theorem nautiluslaw13_BmapIndex.mono : ∀ a0 a1 a2 k, LeO (nautiluslaw13_BmapIndex.f k a0 a1 a2) (nautiluslaw13_BmapIndex.f (k + 1) a0 a1 a2) := by
  intro a0 a1 a2 k
  obtain ⟨ih0, ih1, ih2, ih3⟩ := nautiluslaw13_BmapIndex.mono_l k
  unfold nautiluslaw13_BmapIndex.f
  repeat' first
      | (with_reducible exact ih0 _ _ _ _ _ _ _)
      | (with_reducible exact ih1 _ _ _ _ _ _)
      | (with_reducible exact ih2 _ _ _ _ _ _)
      | (with_reducible exact ih3 _ _ _ _)
      | (with_reducible exact bmap_Way.mono _ _ _)
      | (with_reducible exact nautiluslaw13_shown.mono _)
      | (with_reducible exact LeO.refl _)
      | (with_reducible exact LeO.none _)
      | (with_reducible refine LeO.ite ?_ ?_)
      | (with_reducible refine LeO.bind ?_ (fun _ => ?_))
      | exact ih0 _ _ _ _ _ _ _
      | exact ih1 _ _ _ _ _ _
      | exact ih2 _ _ _ _ _ _
      | exact ih3 _ _ _ _
      | exact bmap_Way.mono _ _ _
      | exact nautiluslaw13_shown.mono _
      | exact LeO.none _
      | refine LeO.ite ?_ ?_
      | refine LeO.bind ?_ (fun _ => ?_)
set_option maxHeartbeats 8000000 in
set_option maxRecDepth 100000 in
theorem nautiluslaw13_BmapIndex.calls (k : Nat) (a0 : Int) (a1 : Int) (a2 : Int) (r : Bool) (w : World) (h : nautiluslaw13_BmapIndex.f k a0 a1 a2 = some r) :
    Calls Try.prog 6 #[.int .u32 a0, .int .u32 a1, .int .i64 a2] w fun e w' => e = .returned (.bool r) ∧ Below w.heap.size w w' := by
  have HB := Aside0.mk (Below.refl w.heap.size w)
  have H : ((nautiluslaw13_shown.f k).bind fun t285 => ((bmap_Way.f k a0 a2).bind fun bt286 => (if bt286.2 = 0 then (nautiluslaw13_BmapIndex.j0 k a0 a1 a2 t285 bt286.1 bt286.2 ((bt286.1.length : Int) == 0)) else (nautiluslaw13_BmapIndex.j0 k a0 a1 a2 t285 bt286.1 bt286.2 false)))) = some r := h
  clear h
  replace H := Option.bind_eq_some_iff.mp H
  obtain ⟨t285, A40, H⟩ := H
  replace H : ((bmap_Way.f k a0 a2).bind fun bt286 => (if bt286.2 = 0 then (nautiluslaw13_BmapIndex.j0 k a0 a1 a2 t285 bt286.1 bt286.2 ((bt286.1.length : Int) == 0)) else (nautiluslaw13_BmapIndex.j0 k a0 a1 a2 t285 bt286.1 bt286.2 false))) = some r := H
  have A4 := Aside0.mk A40
  clear A40
  replace H := Option.bind_eq_some_iff.mp H
  obtain ⟨⟨t286, t287⟩, A50, H⟩ := H
  replace H : (if t287 = 0 then (nautiluslaw13_BmapIndex.j0 k a0 a1 a2 t285 t286 t287 ((t286.length : Int) == 0)) else (nautiluslaw13_BmapIndex.j0 k a0 a1 a2 t285 t286 t287 false)) = some r := H
  have A5 := Aside0.mk A50
  clear A50
  have HC6 := Aside0.mk H
  clear H
  go_enter Try.func6, Try.ntmps6
  go_upto_region 3 with (first | (go_at_call 9; (with_reducible refine (nautiluslaw13_shown.calls k  t285 _ A4.out).mono ?_); rintro e w7 ⟨rfl, hb⟩; have n0_ := Aside0.mk (below_step (by repeat (first | (with_reducible first | exact HB.out | apply below_alloc | apply pw_below_drewN | apply below_drew1) | exact HB.out)) hb); clear HB; have HB := n0_; clear n0_; (try clear hb); (try clear hb2); (try clear hk); (try clear hi)) | (go_at_call 10; (with_reducible refine (bmap_Way.calls k a0 a2 t286 t287 _ A5.out).mono ?_); rintro e w8 ⟨v288, rfl, ho0, hb⟩; have n0_ := Aside0.mk (Kd.R_lower ho0 (below_size (by repeat (first | (with_reducible first | exact HB.out | apply below_alloc | apply pw_below_drewN | apply below_drew1) | exact HB.out)))); have n1_ := Aside0.mk (below_step (by repeat (first | (with_reducible first | exact HB.out | apply below_alloc | apply pw_below_drewN | apply below_drew1) | exact HB.out)) hb); clear HB; have HO289 := n0_; have HB := n1_; clear n0_ n1_; (try clear hb); (try clear hb2); (try clear hk); (try clear hi); (try clear ho0)))
  repeat (go_quiet (first | (go_at_call 9; (with_reducible refine (nautiluslaw13_shown.calls k  t285 _ A4.out).mono ?_); rintro e w7 ⟨rfl, hb⟩; have n0_ := Aside0.mk (below_step (by repeat (first | (with_reducible first | exact HB.out | apply below_alloc | apply pw_below_drewN | apply below_drew1) | exact HB.out)) hb); clear HB; have HB := n0_; clear n0_; (try clear hb); (try clear hb2); (try clear hk); (try clear hi)) | (go_at_call 10; (with_reducible refine (bmap_Way.calls k a0 a2 t286 t287 _ A5.out).mono ?_); rintro e w8 ⟨v288, rfl, ho0, hb⟩; have n0_ := Aside0.mk (Kd.R_lower ho0 (below_size (by repeat (first | (with_reducible first | exact HB.out | apply below_alloc | apply pw_below_drewN | apply below_drew1) | exact HB.out)))); have n1_ := Aside0.mk (below_step (by repeat (first | (with_reducible first | exact HB.out | apply below_alloc | apply pw_below_drewN | apply below_drew1) | exact HB.out)) hb); clear HB; have HO289 := n0_; have HB := n1_; clear n0_ n1_; (try clear hb); (try clear hb2); (try clear hk); (try clear hi); (try clear ho0))); go_upto_region 3 with (first | (go_at_call 9; (with_reducible refine (nautiluslaw13_shown.calls k  t285 _ A4.out).mono ?_); rintro e w7 ⟨rfl, hb⟩; have n0_ := Aside0.mk (below_step (by repeat (first | (with_reducible first | exact HB.out | apply below_alloc | apply pw_below_drewN | apply below_drew1) | exact HB.out)) hb); clear HB; have HB := n0_; clear n0_; (try clear hb); (try clear hb2); (try clear hk); (try clear hi)) | (go_at_call 10; (with_reducible refine (bmap_Way.calls k a0 a2 t286 t287 _ A5.out).mono ?_); rintro e w8 ⟨v288, rfl, ho0, hb⟩; have n0_ := Aside0.mk (Kd.R_lower ho0 (below_size (by repeat (first | (with_reducible first | exact HB.out | apply below_alloc | apply pw_below_drewN | apply below_drew1) | exact HB.out)))); have n1_ := Aside0.mk (below_step (by repeat (first | (with_reducible first | exact HB.out | apply below_alloc | apply pw_below_drewN | apply below_drew1) | exact HB.out)) hb); clear HB; have HO289 := n0_; have HB := n1_; clear n0_ n1_; (try clear hb); (try clear hb2); (try clear hk); (try clear hi); (try clear ho0))))
  (try simp only [Act.put, List.setIfInBounds_toArray, List.set_cons_zero, List.set_cons_succ])
  go_cut [24] (fun v24 wc => ∃ (kq : Nat) (x24_5 : Bool), v24 = .bool x24_5 ∧ Aside0 (nautiluslaw13_BmapIndex.j0 kq a0 a1 a2 t285 t286 t287 x24_5 = some r) ∧ Aside0 (kq ≤ k) ∧ Aside0 (Kd.R (Kd.int .i64) 3 wc w.heap.size (fun _ => True) v288 t286) ∧ Aside0 (Below w.heap.size w wc))
  case first =>
    have H := HC6.out
    clear HC6
    by_cases c9 : t287 = 0
    · rw [if_pos c9] at H
      have c9b0 : (t287 == 0) = true := beq_iff_eq.mpr c9
      have c9b1 : (t287 != 0) = false := bne_eq_false_iff_eq.mpr c9
      clear c9
      (first | rw [c9b0] | (simp only [i64_w, i32_w]; rw [c9b0]) | skip)
      have H' := Aside0.mk H
      clear H
      obtain ⟨Ao10, co10, eo10⟩ := Kd.R_slice HO289.out
      subst eo10
      go_wp2
      repeat (go_quiet (fail); try go_wp2)
      go_meet
      case rel => exact ⟨_, (((t286.length : Int) == 0)), (by first | rfl | (simp; done) | (simp [*]; done)), H', ⟨by first | omega | exact Nat.le_refl _⟩, ⟨by (with_reducible repeat (first | apply Kd.R_alloc | apply Kd.R_drewN | apply Kd.R_drew)); exact HO289.out⟩, ⟨by repeat (first | (with_reducible first | exact HB.out | apply below_alloc | apply pw_below_drewN | apply below_drew1) | exact HB.out)⟩⟩
    · rw [if_neg c9] at H
      have c9b0 : (t287 == 0) = false := beq_eq_false_iff_ne.mpr c9
      have c9b1 : (t287 != 0) = true := bne_iff_ne.mpr c9
      (first | rw [c9b0] | (simp only [i64_w, i32_w]; rw [c9b0]) | skip)
      have H' := Aside0.mk H
      clear H
      go_wp2
      repeat (go_quiet (fail); try go_wp2)
      go_meet
      case rel => exact ⟨_, (false), (by first | rfl | (simp; done) | (simp [*]; done)), H', ⟨by first | omega | exact Nat.le_refl _⟩, ⟨by (with_reducible repeat (first | apply Kd.R_alloc | apply Kd.R_drewN | apply Kd.R_drew)); exact HO289.out⟩, ⟨by repeat (first | (with_reducible first | exact HB.out | apply below_alloc | apply pw_below_drewN | apply below_drew1) | exact HB.out)⟩⟩
  case rest =>
    clear HC6
    try clear p2
    try clear c6
    try clear c9
    try clear c9b0
    try clear c9b1
    obtain ⟨kq, x24_5, rfl, HA, HJ5, HO_8, HB⟩ := hcut
    cases kq with
    | zero => exact absurd HA.out (by simp [nautiluslaw13_BmapIndex.j0])
    | succ kj5 =>
      have H := HA.out
      clear HA
      simp only [nautiluslaw13_BmapIndex.j0] at H
      by_cases c11 : x24_5 = true
      · subst c11
        have H1 : (none) = some r := by rw [if_pos rfl] at H; exact H
        clear H
        have H := H1
        clear H1
        exact absurd H (by simp)
      · replace c11 := Bool.eq_false_iff.mpr c11
        subst c11
        have H1 : (if t287 = 0 then (if 0 < (t286.length : Int) then (if (t286.length : Int) = 2 then (if 1 < (t286.length : Int) then (nautiluslaw13_BmapIndex.j1 kj5 a0 a1 a2 t285 t286 (rd t286 1)) else (none)) else (nautiluslaw13_BmapIndex.j1 kj5 a0 a1 a2 t285 t286 (rd t286 0))) else (none)) else (if t285 = true then (if a0 > a1 then (some true) else (if a1 > 8193532 then (some true) else ((bmap_Count.f a0).bind fun t299 => ((bmap_Count.f a1).bind fun t300 => (some (decide (t299 ≤ t300))))))) else (none))) = some r := by rw [if_neg (show ¬ (false = true) by decide)] at H; exact H
        clear H
        have H := H1
        clear H1
        by_cases c12 : t287 = 0
        · rw [if_pos c12] at H
          have c12b0 : (t287 == 0) = true := beq_iff_eq.mpr c12
          have c12b1 : (t287 != 0) = false := bne_eq_false_iff_eq.mpr c12
          clear c12
          by_cases c13 : 0 < (t286.length : Int)
          · rw [if_pos c13] at H
            have c13b0 : decide (0 < (t286.length : Int)) = true := decide_eq_true c13
            have c13b1 : decide (0 < t286.length) = true := decide_eq_true (by omega)
            clear c13
            have HC14 := Aside0.mk H
            clear H
            obtain ⟨Ao15, co15, eo15⟩ := Kd.R_slice HO_8.out
            subst eo15
            have p290 : 0 ≤ (0 : Int) := (by omega)
            have q290 : 0 < (t286.length : Int) := of_decide_eq_true (by first | (with_reducible assumption) | assumption)
            obtain ⟨ad290, e290, hx290_0⟩ := Kd.at_int (Kd.R_reads' HO_8.out).2.2 0 p290 q290
            cases e290
            have qi290 : (0 < t286.length) = True := eq_true (by omega)
            (try rw [show ((0 : Int)).toNat = 0 from rfl] at hx290_0)
            (try rw [Addr.add_zero'] at hx290_0)
            replace p290 := eq_true p290
            replace q290 := eq_true q290
            go_upto_if 32 with (fail)
            repeat (go_quiet (fail); go_upto_if 32 with (fail))
            go_cut [10] (fun v10 wc => ∃ (kq : Nat) (x10_13 : Int), v10 = .int .i64 x10_13 ∧ Aside0 (nautiluslaw13_BmapIndex.j1 kq a0 a1 a2 t285 t286 x10_13 = some r) ∧ Aside0 (kq ≤ kj5) ∧ Aside0 (Kd.R (Kd.int .i64) 3 wc w.heap.size (fun _ => True) (.slice (some ad290) t286.length co15) t286) ∧ Aside0 (Below w.heap.size w wc))
            case first =>
              have H := HC14.out
              clear HC14
              by_cases c16 : (t286.length : Int) = 2
              · rw [if_pos c16] at H
                have c16b0 : ((t286.length : Int) == 2) = true := beq_iff_eq.mpr c16
                have c16b1 : ((t286.length : Int) != 2) = false := bne_eq_false_iff_eq.mpr c16
                clear c16
                (first | rw [c16b0] | (simp only [i64_w, i32_w]; rw [c16b0]) | skip)
                by_cases c17 : 1 < (t286.length : Int)
                · rw [if_pos c17] at H
                  have c17b0 : decide (1 < (t286.length : Int)) = true := decide_eq_true c17
                  have c17b1 : decide (1 < t286.length) = true := decide_eq_true (by omega)
                  clear c17
                  have H' := Aside0.mk H
                  clear H
                  have p291 : 0 ≤ (1 : Int) := (by omega)
                  have q291 : 1 < (t286.length : Int) := of_decide_eq_true (by first | (with_reducible assumption) | assumption)
                  obtain ⟨ad291, e291, hx291_0⟩ := Kd.at_int (Kd.R_reads' HO_8.out).2.2 1 p291 q291
                  obtain rfl : ad290 = ad291 := (by injection e291)
                  (try simp only [show (1 : Int).toNat = 1 from rfl, Nat.reduceMul, Nat.reduceEqDiff, Go.Addr.add, ↓reduceIte] at hx291_0)
                  have qi291 : (1 < t286.length) = True := eq_true (by omega)
                  (try rw [show ((1 : Int)).toNat = 1 from rfl] at hx291_0)
                  replace p291 := eq_true p291
                  replace q291 := eq_true q291
                  go_wp2
                  repeat (go_quiet (fail); try go_wp2)
                  go_meet
                  case rel => exact ⟨_, (rd t286 1), (by first | rfl | (simp; done) | (simp [*]; done)), H', ⟨by have := HJ5.out; first | omega | exact Nat.le_refl _⟩, ⟨by (with_reducible repeat (first | apply Kd.R_alloc | apply Kd.R_drewN | apply Kd.R_drew)); exact HO_8.out⟩, ⟨by repeat (first | (with_reducible first | exact HB.out | apply below_alloc | apply pw_below_drewN | apply below_drew1) | exact HB.out)⟩⟩
                · rw [if_neg c17] at H
                  exact absurd H (by simp)
              · rw [if_neg c16] at H
                have c16b0 : ((t286.length : Int) == 2) = false := beq_eq_false_iff_ne.mpr c16
                have c16b1 : ((t286.length : Int) != 2) = true := bne_iff_ne.mpr c16
                (first | rw [c16b0] | (simp only [i64_w, i32_w]; rw [c16b0]) | skip)
                have H' := Aside0.mk H
                clear H
                go_wp2
                repeat (go_quiet (fail); try go_wp2)
                go_meet
                case rel => exact ⟨_, (rd t286 0), (by first | rfl | (simp; done) | (simp [*]; done)), H', ⟨by have := HJ5.out; first | omega | exact Nat.le_refl _⟩, ⟨by (with_reducible repeat (first | apply Kd.R_alloc | apply Kd.R_drewN | apply Kd.R_drew)); exact HO_8.out⟩, ⟨by repeat (first | (with_reducible first | exact HB.out | apply below_alloc | apply pw_below_drewN | apply below_drew1) | exact HB.out)⟩⟩
            case rest =>
              clear HC14
              try clear c1
              try clear p2
              try clear q2
              try clear hx2
              try clear qi2
              try clear c6
              try clear c9
              try clear c9b0
              try clear c9b1
              try clear c11
              try clear c12
              try clear c12b0
              try clear c12b1
              try clear c13
              try clear c13b0
              try clear c13b1
              try clear c16
              try clear c16b0
              try clear c16b1
              try clear c17
              try clear c17b0
              try clear c17b1
              try clear hx290_0
              try clear hx291_0
              try clear p2
              try clear p290
              try clear p291
              try clear q290
              try clear q291
              obtain ⟨kq, x10_13, rfl, HA, HJ13, HO_8, HB⟩ := hcut
              cases kq with
              | zero => exact absurd HA.out (by simp [nautiluslaw13_BmapIndex.j1])
              | succ kj13 =>
                have H := HA.out
                clear HA
                simp only [nautiluslaw13_BmapIndex.j1] at H
                have HC18 := Aside0.mk H
                clear H
                go_upto_if 38 with (fail)
                repeat (go_quiet (fail); go_upto_if 38 with (fail))
                go_cut [10] (fun v10 wc => ∃ (kq : Nat) (x10_17 : Int), v10 = .int .i64 x10_17 ∧ Aside0 (nautiluslaw13_BmapIndex.j2 kq a0 a1 a2 t285 t286 x10_17 = some r) ∧ Aside0 (kq ≤ kj13) ∧ Aside0 (Kd.R (Kd.int .i64) 3 wc w.heap.size (fun _ => True) (.slice (some ad290) t286.length co15) t286) ∧ Aside0 (Below w.heap.size w wc))
                case first =>
                  have H := HC18.out
                  clear HC18
                  by_cases c19 : (t286.length : Int) = 3
                  · rw [if_pos c19] at H
                    have c19b0 : ((t286.length : Int) == 3) = true := beq_iff_eq.mpr c19
                    have c19b1 : ((t286.length : Int) != 3) = false := bne_eq_false_iff_eq.mpr c19
                    clear c19
                    (first | rw [c19b0] | (simp only [i64_w, i32_w]; rw [c19b0]) | skip)
                    by_cases c20 : 1 < (t286.length : Int)
                    · rw [if_pos c20] at H
                      have c20b0 : decide (1 < (t286.length : Int)) = true := decide_eq_true c20
                      have c20b1 : decide (1 < t286.length) = true := decide_eq_true (by omega)
                      clear c20
                      by_cases c21 : 2 < (t286.length : Int)
                      · rw [if_pos c21] at H
                        have c21b0 : decide (2 < (t286.length : Int)) = true := decide_eq_true c21
                        have c21b1 : decide (2 < t286.length) = true := decide_eq_true (by omega)
                        clear c21
                        have H' := Aside0.mk H
                        clear H
                        have p292 : 0 ≤ (1 : Int) := (by omega)
                        have q292 : 1 < (t286.length : Int) := of_decide_eq_true (by first | (with_reducible assumption) | assumption)
                        obtain ⟨ad292, e292, hx292_0⟩ := Kd.at_int (Kd.R_reads' HO_8.out).2.2 1 p292 q292
                        obtain rfl : ad290 = ad292 := (by injection e292)
                        (try simp only [show (1 : Int).toNat = 1 from rfl, Nat.reduceMul, Nat.reduceEqDiff, Go.Addr.add, ↓reduceIte] at hx292_0)
                        have qi292 : (1 < t286.length) = True := eq_true (by omega)
                        (try rw [show ((1 : Int)).toNat = 1 from rfl] at hx292_0)
                        replace p292 := eq_true p292
                        replace q292 := eq_true q292
                        have p293 : 0 ≤ (2 : Int) := (by omega)
                        have q293 : 2 < (t286.length : Int) := of_decide_eq_true (by first | (with_reducible assumption) | assumption)
                        obtain ⟨ad293, e293, hx293_0⟩ := Kd.at_int (Kd.R_reads' HO_8.out).2.2 2 p293 q293
                        obtain rfl : ad290 = ad293 := (by injection e293)
                        (try simp only [show (2 : Int).toNat = 2 from rfl, Nat.reduceMul, Nat.reduceEqDiff, Go.Addr.add, ↓reduceIte] at hx293_0)
                        have qi293 : (2 < t286.length) = True := eq_true (by omega)
                        (try rw [show ((2 : Int)).toNat = 2 from rfl] at hx293_0)
                        replace p293 := eq_true p293
                        replace q293 := eq_true q293
                        go_wp2
                        repeat (go_quiet (fail); try go_wp2)
                        go_meet
                        case rel => exact ⟨_, (wrap64 ((wrap64 ((rd t286 1) * 127)) + (rd t286 2))), (by first | rfl | (simp; done) | (simp [*]; done)), H', ⟨by have := HJ5.out; have := HJ13.out; first | omega | exact Nat.le_refl _⟩, ⟨by (with_reducible repeat (first | apply Kd.R_alloc | apply Kd.R_drewN | apply Kd.R_drew)); exact HO_8.out⟩, ⟨by repeat (first | (with_reducible first | exact HB.out | apply below_alloc | apply pw_below_drewN | apply below_drew1) | exact HB.out)⟩⟩
                      · rw [if_neg c21] at H
                        exact absurd H (by simp)
                    · rw [if_neg c20] at H
                      exact absurd H (by simp)
                  · rw [if_neg c19] at H
                    have c19b0 : ((t286.length : Int) == 3) = false := beq_eq_false_iff_ne.mpr c19
                    have c19b1 : ((t286.length : Int) != 3) = true := bne_iff_ne.mpr c19
                    (first | rw [c19b0] | (simp only [i64_w, i32_w]; rw [c19b0]) | skip)
                    have H' := Aside0.mk H
                    clear H
                    go_wp2
                    repeat (go_quiet (fail); try go_wp2)
                    go_meet
                    case rel => exact ⟨_, (x10_13), (by first | rfl | (simp; done) | (simp [*]; done)), H', ⟨by have := HJ5.out; have := HJ13.out; first | omega | exact Nat.le_refl _⟩, ⟨by (with_reducible repeat (first | apply Kd.R_alloc | apply Kd.R_drewN | apply Kd.R_drew)); exact HO_8.out⟩, ⟨by repeat (first | (with_reducible first | exact HB.out | apply below_alloc | apply pw_below_drewN | apply below_drew1) | exact HB.out)⟩⟩
                case rest =>
                  clear HC18
                  try clear c1
                  try clear c2
                  try clear p2
                  try clear q2
                  try clear hx2
                  try clear qi2
                  try clear c6
                  try clear p6
                  try clear c9
                  try clear c9b0
                  try clear c9b1
                  try clear c11
                  try clear c12
                  try clear c12b0
                  try clear c12b1
                  try clear c13
                  try clear c13b0
                  try clear c13b1
                  try clear c16
                  try clear c16b0
                  try clear c16b1
                  try clear c17
                  try clear c17b0
                  try clear c17b1
                  try clear c19
                  try clear c19b0
                  try clear c19b1
                  try clear c20
                  try clear c20b0
                  try clear c20b1
                  try clear c21
                  try clear c21b0
                  try clear c21b1
                  try clear hx290_0
                  try clear hx291_0
                  try clear hx292_0
                  try clear hx293_0
                  try clear p2
                  try clear p290
                  try clear p291
                  try clear p292
                  try clear p293
                  try clear q2
                  try clear q290
                  try clear q291
                  try clear q292
                  try clear q293
                  obtain ⟨kq, x10_17, rfl, HA, HJ17, HO_8, HB⟩ := hcut
                  cases kq with
                  | zero => exact absurd HA.out (by simp [nautiluslaw13_BmapIndex.j2])
                  | succ kj17 =>
                    have H := HA.out
                    clear HA
                    simp only [nautiluslaw13_BmapIndex.j2] at H
                    have HC22 := Aside0.mk H
                    clear H
                    go_upto_region 11 with (fail)
                    repeat (go_quiet (fail); go_upto_region 11 with (fail))
                    go_cut [74] (fun v74 wc => ∃ (kq : Nat) (x74_21 : Bool), v74 = .bool x74_21 ∧ Aside0 (nautiluslaw13_BmapIndex.j3 kq a0 a1 t285 x74_21 = some r) ∧ Aside0 (kq ≤ kj17) ∧ Aside0 (Below w.heap.size w wc))
                    case first =>
                      have H := HC22.out
                      clear HC22
                      by_cases c23 : x10_17 = a2
                      · rw [if_pos c23] at H
                        have c23b0 : (x10_17 == a2) = true := beq_iff_eq.mpr c23
                        have c23b1 : (x10_17 != a2) = false := bne_eq_false_iff_eq.mpr c23
                        clear c23
                        (first | rw [c23b0] | (simp only [i64_w, i32_w]; rw [c23b0]) | skip)
                        by_cases c24 : (t286.length : Int) > 3
                        · rw [if_pos c24] at H
                          have c24b0 : decide (3 < (t286.length : Int)) = true := decide_eq_true c24
                          have c24b1 : decide (3 < t286.length) = true := decide_eq_true (by omega)
                          clear c24
                          have H' := Aside0.mk H
                          clear H
                          go_wp2
                          repeat (go_quiet (fail); try go_wp2)
                          go_meet
                          case rel => exact ⟨_, (true), (by first | rfl | (simp; done) | (simp [*]; done)), H', ⟨by have := HJ5.out; have := HJ13.out; have := HJ17.out; first | omega | exact Nat.le_refl _⟩, ⟨by repeat (first | (with_reducible first | exact HB.out | apply below_alloc | apply pw_below_drewN | apply below_drew1) | exact HB.out)⟩⟩
                        · rw [if_neg c24] at H
                          have c24b0 : decide (3 < (t286.length : Int)) = false := decide_eq_false c24
                          have c24b1 : decide (3 < t286.length) = false := decide_eq_false (by omega)
                          clear c24
                          by_cases c25 : (t286.length : Int) > 1
                          · rw [if_pos c25] at H
                            have c25b0 : decide (1 < (t286.length : Int)) = true := decide_eq_true c25
                            have c25b1 : decide (1 < t286.length) = true := decide_eq_true (by omega)
                            clear c25
                            by_cases c26 : 0 < (t286.length : Int)
                            · rw [if_pos c26] at H
                              have c26b0 : decide (0 < (t286.length : Int)) = true := decide_eq_true c26
                              have c26b1 : decide (0 < t286.length) = true := decide_eq_true (by omega)
                              clear c26
                              by_cases c27 : (rd t286 0) = 0
                              · rw [if_pos c27] at H
                                have c27b0 : ((rd t286 0) == 0) = true := beq_iff_eq.mpr c27
                                have c27b1 : ((rd t286 0) != 0) = false := bne_eq_false_iff_eq.mpr c27
                                clear c27
                                obtain ⟨ji28, hji28⟩ : ∃ j_ : Int, (wrap64 ((t286.length : Int) - 1)) = j_ := ⟨_, rfl⟩
                                replace H : (if 0 ≤ (ji28) then (if (ji28) < (t286.length : Int) then (nautiluslaw13_BmapIndex.j3 kj17 a0 a1 t285 (decide ((rd t286 (ji28)) ≥ 127))) else (none)) else (none)) = some r := by first | (rw [hji28] at H; exact H) | (simp only [hji28] at H ⊢; exact H)
                                have hji28w : (IntKind.i64.wrap ((t286.length : Int) - 1)) = ji28 := (i64_w _).trans hji28
                                by_cases c29 : 0 ≤ (ji28)
                                · rw [if_pos c29] at H
                                  have c29b0 : decide (0 ≤ (ji28)) = true := decide_eq_true c29
                                  clear c29
                                  by_cases c30 : (ji28) < (t286.length : Int)
                                  · rw [if_pos c30] at H
                                    have c30b0 : decide ((ji28) < (t286.length : Int)) = true := decide_eq_true c30
                                    clear c30
                                    have H' := Aside0.mk H
                                    clear H
                                    have p294 : 0 ≤ (0 : Int) := (by omega)
                                    have q294 : 0 < (t286.length : Int) := of_decide_eq_true (by first | (with_reducible assumption) | assumption)
                                    obtain ⟨ad294, e294, hx294_0⟩ := Kd.at_int (Kd.R_reads' HO_8.out).2.2 0 p294 q294
                                    obtain rfl : ad290 = ad294 := (by injection e294)
                                    have qi294 : (0 < t286.length) = True := eq_true (by omega)
                                    (try rw [show ((0 : Int)).toNat = 0 from rfl] at hx294_0)
                                    (try rw [Addr.add_zero'] at hx294_0)
                                    replace p294 := eq_true p294
                                    replace q294 := eq_true q294
                                    have p295 : 0 ≤ ((ji28) : Int) := of_decide_eq_true (by first | (with_reducible assumption) | assumption)
                                    have q295 : (ji28) < (t286.length : Int) := of_decide_eq_true (by first | (with_reducible assumption) | assumption)
                                    obtain ⟨ad295, e295, hx295_0⟩ := Kd.at_int (Kd.R_reads' HO_8.out).2.2 (ji28) p295 q295
                                    obtain rfl : ad290 = ad295 := (by injection e295)
                                    replace p295 := eq_true p295
                                    replace q295 := eq_true q295
                                    go_wp2
                                    repeat (go_quiet (fail); try go_wp2)
                                    go_meet
                                    case rel => exact ⟨_, (decide ((rd t286 (ji28)) ≥ 127)), (by first | rfl | (simp; done) | (simp only [← hji28] <;> (first | rfl | simp)) | (simp [*]; done)), H', ⟨by have := HJ5.out; have := HJ13.out; have := HJ17.out; first | omega | exact Nat.le_refl _⟩, ⟨by repeat (first | (with_reducible first | exact HB.out | apply below_alloc | apply pw_below_drewN | apply below_drew1) | exact HB.out)⟩⟩
                                  · rw [if_neg c30] at H
                                    exact absurd H (by simp)
                                · rw [if_neg c29] at H
                                  exact absurd H (by simp)
                              · rw [if_neg c27] at H
                                have c27b0 : ((rd t286 0) == 0) = false := beq_eq_false_iff_ne.mpr c27
                                have c27b1 : ((rd t286 0) != 0) = true := bne_iff_ne.mpr c27
                                have H' := Aside0.mk H
                                clear H
                                have p294 : 0 ≤ (0 : Int) := (by omega)
                                have q294 : 0 < (t286.length : Int) := of_decide_eq_true (by first | (with_reducible assumption) | assumption)
                                obtain ⟨ad294, e294, hx294_0⟩ := Kd.at_int (Kd.R_reads' HO_8.out).2.2 0 p294 q294
                                obtain rfl : ad290 = ad294 := (by injection e294)
                                have qi294 : (0 < t286.length) = True := eq_true (by omega)
                                (try rw [show ((0 : Int)).toNat = 0 from rfl] at hx294_0)
                                (try rw [Addr.add_zero'] at hx294_0)
                                replace p294 := eq_true p294
                                replace q294 := eq_true q294
                                go_wp2
                                repeat (go_quiet (fail); try go_wp2)
                                go_meet
                                case rel => exact ⟨_, (true), (by first | rfl | (simp; done) | (simp [*]; done)), H', ⟨by have := HJ5.out; have := HJ13.out; have := HJ17.out; first | omega | exact Nat.le_refl _⟩, ⟨by repeat (first | (with_reducible first | exact HB.out | apply below_alloc | apply pw_below_drewN | apply below_drew1) | exact HB.out)⟩⟩
                            · rw [if_neg c26] at H
                              exact absurd H (by simp)
                          · rw [if_neg c25] at H
                            have c25b0 : decide (1 < (t286.length : Int)) = false := decide_eq_false c25
                            have c25b1 : decide (1 < t286.length) = false := decide_eq_false (by omega)
                            clear c25
                            obtain ⟨ji31, hji31⟩ : ∃ j_ : Int, (wrap64 ((t286.length : Int) - 1)) = j_ := ⟨_, rfl⟩
                            replace H : (if 0 ≤ (ji31) then (if (ji31) < (t286.length : Int) then (nautiluslaw13_BmapIndex.j3 kj17 a0 a1 t285 (decide ((rd t286 (ji31)) ≥ 127))) else (none)) else (none)) = some r := by first | (rw [hji31] at H; exact H) | (simp only [hji31] at H ⊢; exact H)
                            have hji31w : (IntKind.i64.wrap ((t286.length : Int) - 1)) = ji31 := (i64_w _).trans hji31
                            by_cases c32 : 0 ≤ (ji31)
                            · rw [if_pos c32] at H
                              have c32b0 : decide (0 ≤ (ji31)) = true := decide_eq_true c32
                              clear c32
                              by_cases c33 : (ji31) < (t286.length : Int)
                              · rw [if_pos c33] at H
                                have c33b0 : decide ((ji31) < (t286.length : Int)) = true := decide_eq_true c33
                                clear c33
                                have H' := Aside0.mk H
                                clear H
                                have p296 : 0 ≤ ((ji31) : Int) := of_decide_eq_true (by first | (with_reducible assumption) | assumption)
                                have q296 : (ji31) < (t286.length : Int) := of_decide_eq_true (by first | (with_reducible assumption) | assumption)
                                obtain ⟨ad296, e296, hx296_0⟩ := Kd.at_int (Kd.R_reads' HO_8.out).2.2 (ji31) p296 q296
                                obtain rfl : ad290 = ad296 := (by injection e296)
                                replace p296 := eq_true p296
                                replace q296 := eq_true q296
                                go_wp2
                                repeat (go_quiet (fail); try go_wp2)
                                go_meet
                                case rel => exact ⟨_, (decide ((rd t286 (ji31)) ≥ 127)), (by first | rfl | (simp; done) | (simp only [← hji31] <;> (first | rfl | simp)) | (simp [*]; done)), H', ⟨by have := HJ5.out; have := HJ13.out; have := HJ17.out; first | omega | exact Nat.le_refl _⟩, ⟨by repeat (first | (with_reducible first | exact HB.out | apply below_alloc | apply pw_below_drewN | apply below_drew1) | exact HB.out)⟩⟩
                              · rw [if_neg c33] at H
                                exact absurd H (by simp)
                            · rw [if_neg c32] at H
                              exact absurd H (by simp)
                      · rw [if_neg c23] at H
                        have c23b0 : (x10_17 == a2) = false := beq_eq_false_iff_ne.mpr c23
                        have c23b1 : (x10_17 != a2) = true := bne_iff_ne.mpr c23
                        (first | rw [c23b0] | (simp only [i64_w, i32_w]; rw [c23b0]) | skip)
                        have H' := Aside0.mk H
                        clear H
                        go_wp2
                        repeat (go_quiet (fail); try go_wp2)
                        go_meet
                        case rel => exact ⟨_, (true), (by first | rfl | (simp; done) | (simp [*]; done)), H', ⟨by have := HJ5.out; have := HJ13.out; have := HJ17.out; first | omega | exact Nat.le_refl _⟩, ⟨by repeat (first | (with_reducible first | exact HB.out | apply below_alloc | apply pw_below_drewN | apply below_drew1) | exact HB.out)⟩⟩
                    case rest =>
                      clear HC22
                      try clear c1
                      try clear c2
                      try clear p2
                      try clear q2
                      try clear hx2
                      try clear qi2
                      try clear c3
                      try clear c6
                      try clear p6
                      try clear c9
                      try clear c9b0
                      try clear c9b1
                      try clear c11
                      try clear c12
                      try clear c12b0
                      try clear c12b1
                      try clear c13
                      try clear c13b0
                      try clear c13b1
                      try clear c16
                      try clear c16b0
                      try clear c16b1
                      try clear c17
                      try clear c17b0
                      try clear c17b1
                      try clear c19
                      try clear c19b0
                      try clear c19b1
                      try clear c20
                      try clear c20b0
                      try clear c20b1
                      try clear c21
                      try clear c21b0
                      try clear c21b1
                      try clear c23
                      try clear c23b0
                      try clear c23b1
                      try clear c24
                      try clear c24b0
                      try clear c24b1
                      try clear c25
                      try clear c25b0
                      try clear c25b1
                      try clear c26
                      try clear c26b0
                      try clear c26b1
                      try clear c27
                      try clear c27b0
                      try clear c27b1
                      try clear c29
                      try clear c29b0
                      try clear p29
                      try clear q29
                      try clear hx29
                      try clear qi29
                      try clear c30
                      try clear c30b0
                      try clear c32
                      try clear c32b0
                      try clear c33
                      try clear c33b0
                      try clear hx290_0
                      try clear hx291_0
                      try clear hx292_0
                      try clear hx293_0
                      try clear hx294_0
                      try clear hx295_0
                      try clear hx296_0
                      try clear p2
                      try clear p290
                      try clear p291
                      try clear p292
                      try clear p293
                      try clear p294
                      try clear p295
                      try clear p296
                      try clear p6
                      try clear q2
                      try clear q290
                      try clear q291
                      try clear q292
                      try clear q293
                      try clear q294
                      try clear q295
                      try clear q296
                      obtain ⟨kq, x74_21, rfl, HA, HJ21, HB⟩ := hcut
                      cases kq with
                      | zero => exact absurd HA.out (by simp [nautiluslaw13_BmapIndex.j3])
                      | succ kj21 =>
                        have H := HA.out
                        clear HA
                        simp only [nautiluslaw13_BmapIndex.j3] at H
                        by_cases c34 : x74_21 = true
                        · subst c34
                          have H1 : (none) = some r := by rw [if_pos rfl] at H; exact H
                          clear H
                          have H := H1
                          clear H1
                          exact absurd H (by simp)
                        · replace c34 := Bool.eq_false_iff.mpr c34
                          subst c34
                          have H1 : (if t285 = true then (if a0 > a1 then (some true) else (if a1 > 8193532 then (some true) else ((bmap_Count.f a0).bind fun t297 => ((bmap_Count.f a1).bind fun t298 => (some (decide (t297 ≤ t298))))))) else (none)) = some r := by rw [if_neg (show ¬ (false = true) by decide)] at H; exact H
                          clear H
                          have H := H1
                          clear H1
                          by_cases c35 : t285 = true
                          · subst c35
                            have H1 : (if a0 > a1 then (some true) else (if a1 > 8193532 then (some true) else ((bmap_Count.f a0).bind fun t297 => ((bmap_Count.f a1).bind fun t298 => (some (decide (t297 ≤ t298))))))) = some r := by rw [if_pos rfl] at H; exact H
                            clear H
                            have H := H1
                            clear H1
                            by_cases c36 : a0 > a1
                            · rw [if_pos c36] at H
                              have c36b0 : decide (a1 < a0) = true := decide_eq_true c36
                              clear c36
                              obtain rfl := Option.some.inj H
                              go_wp2
                              repeat (go_quiet (fail); try go_wp2)
                              go_ret
                              exact ⟨by first | rfl | (simp [errW_none, errW_some] <;> rfl) | (simp [*, errW_none, errW_some] <;> rfl) | (simp [show IntKind.u64.wrap 0 = 0 from rfl, Int.zero_tdiv]; done), by repeat (first | (with_reducible first | exact HB.out | apply below_alloc | apply pw_below_drewN | apply below_drew1) | exact HB.out)⟩
                            · rw [if_neg c36] at H
                              have c36b0 : decide (a1 < a0) = false := decide_eq_false c36
                              clear c36
                              by_cases c37 : a1 > 8193532
                              · rw [if_pos c37] at H
                                have c37b0 : decide (8193532 < a1) = true := decide_eq_true c37
                                clear c37
                                obtain rfl := Option.some.inj H
                                go_wp2
                                repeat (go_quiet (fail); try go_wp2)
                                go_ret
                                exact ⟨by first | rfl | (simp [errW_none, errW_some] <;> rfl) | (simp [*, errW_none, errW_some] <;> rfl) | (simp [show IntKind.u64.wrap 0 = 0 from rfl, Int.zero_tdiv]; done), by repeat (first | (with_reducible first | exact HB.out | apply below_alloc | apply pw_below_drewN | apply below_drew1) | exact HB.out)⟩
                              · rw [if_neg c37] at H
                                have c37b0 : decide (8193532 < a1) = false := decide_eq_false c37
                                clear c37
                                replace H := Option.bind_eq_some_iff.mp H
                                obtain ⟨t297, A380, H⟩ := H
                                replace H : ((bmap_Count.f a1).bind fun t298 => (some (decide (t297 ≤ t298)))) = some r := H
                                have A38 := Aside0.mk A380
                                clear A380
                                replace H := Option.bind_eq_some_iff.mp H
                                obtain ⟨t298, A390, H⟩ := H
                                replace H : (some (decide (t297 ≤ t298))) = some r := H
                                have A39 := Aside0.mk A390
                                clear A390
                                obtain rfl := Option.some.inj H
                                iterate 3 ((try go_wp2_with (first | (go_at_call 12; (with_reducible refine (bmap_Count.calls a0 t297 _ A38.out).mono ?_); rintro e w' ⟨rfl, ⟨nd, rfl⟩⟩; (try first | exact ⟨rfl, _, World.drewN_drewN _ _ _⟩ | exact ⟨rfl, _, Eq.trans (World.drewN_drewN _ _ _) (congrArg (World.drewN _) (Nat.add_assoc _ _ _))⟩)) | (go_at_call 12; (with_reducible refine (bmap_Count.calls a1 t298 _ A39.out).mono ?_); rintro e w' ⟨rfl, ⟨nd, rfl⟩⟩; (try first | exact ⟨rfl, _, World.drewN_drewN _ _ _⟩ | exact ⟨rfl, _, Eq.trans (World.drewN_drewN _ _ _) (congrArg (World.drewN _) (Nat.add_assoc _ _ _))⟩)))); (try go_quiet (first | (go_at_call 12; (with_reducible refine (bmap_Count.calls a0 t297 _ A38.out).mono ?_); rintro e w' ⟨rfl, ⟨nd, rfl⟩⟩; (try first | exact ⟨rfl, _, World.drewN_drewN _ _ _⟩ | exact ⟨rfl, _, Eq.trans (World.drewN_drewN _ _ _) (congrArg (World.drewN _) (Nat.add_assoc _ _ _))⟩)) | (go_at_call 12; (with_reducible refine (bmap_Count.calls a1 t298 _ A39.out).mono ?_); rintro e w' ⟨rfl, ⟨nd, rfl⟩⟩; (try first | exact ⟨rfl, _, World.drewN_drewN _ _ _⟩ | exact ⟨rfl, _, Eq.trans (World.drewN_drewN _ _ _) (congrArg (World.drewN _) (Nat.add_assoc _ _ _))⟩)))))
                                go_ret
                                exact ⟨by first | rfl | (simp [errW_none, errW_some] <;> rfl) | (simp [*, errW_none, errW_some] <;> rfl) | (simp [show IntKind.u64.wrap 0 = 0 from rfl, Int.zero_tdiv]; done), by repeat (first | (with_reducible first | exact HB.out | apply below_alloc | apply pw_below_drewN | apply below_drew1) | exact HB.out)⟩
                          · replace c35 := Bool.eq_false_iff.mpr c35
                            subst c35
                            have H1 : (none) = some r := by rw [if_neg (show ¬ (false = true) by decide)] at H; exact H
                            clear H
                            have H := H1
                            clear H1
                            exact absurd H (by simp)
          · rw [if_neg c13] at H
            exact absurd H (by simp)
        · rw [if_neg c12] at H
          have c12b0 : (t287 == 0) = false := beq_eq_false_iff_ne.mpr c12
          have c12b1 : (t287 != 0) = true := bne_iff_ne.mpr c12
          by_cases c40 : t285 = true
          · subst c40
            have H1 : (if a0 > a1 then (some true) else (if a1 > 8193532 then (some true) else ((bmap_Count.f a0).bind fun t299 => ((bmap_Count.f a1).bind fun t300 => (some (decide (t299 ≤ t300))))))) = some r := by rw [if_pos rfl] at H; exact H
            clear H
            have H := H1
            clear H1
            by_cases c41 : a0 > a1
            · rw [if_pos c41] at H
              have c41b0 : decide (a1 < a0) = true := decide_eq_true c41
              clear c41
              obtain rfl := Option.some.inj H
              go_wp2
              repeat (go_quiet (fail); try go_wp2)
              go_ret
              exact ⟨by first | rfl | (simp [errW_none, errW_some] <;> rfl) | (simp [*, errW_none, errW_some] <;> rfl) | (simp [show IntKind.u64.wrap 0 = 0 from rfl, Int.zero_tdiv]; done), by repeat (first | (with_reducible first | exact HB.out | apply below_alloc | apply pw_below_drewN | apply below_drew1) | exact HB.out)⟩
            · rw [if_neg c41] at H
              have c41b0 : decide (a1 < a0) = false := decide_eq_false c41
              clear c41
              by_cases c42 : a1 > 8193532
              · rw [if_pos c42] at H
                have c42b0 : decide (8193532 < a1) = true := decide_eq_true c42
                clear c42
                obtain rfl := Option.some.inj H
                go_wp2
                repeat (go_quiet (fail); try go_wp2)
                go_ret
                exact ⟨by first | rfl | (simp [errW_none, errW_some] <;> rfl) | (simp [*, errW_none, errW_some] <;> rfl) | (simp [show IntKind.u64.wrap 0 = 0 from rfl, Int.zero_tdiv]; done), by repeat (first | (with_reducible first | exact HB.out | apply below_alloc | apply pw_below_drewN | apply below_drew1) | exact HB.out)⟩
              · rw [if_neg c42] at H
                have c42b0 : decide (8193532 < a1) = false := decide_eq_false c42
                clear c42
                replace H := Option.bind_eq_some_iff.mp H
                obtain ⟨t299, A430, H⟩ := H
                replace H : ((bmap_Count.f a1).bind fun t300 => (some (decide (t299 ≤ t300)))) = some r := H
                have A43 := Aside0.mk A430
                clear A430
                replace H := Option.bind_eq_some_iff.mp H
                obtain ⟨t300, A440, H⟩ := H
                replace H : (some (decide (t299 ≤ t300))) = some r := H
                have A44 := Aside0.mk A440
                clear A440
                obtain rfl := Option.some.inj H
                iterate 3 ((try go_wp2_with (first | (go_at_call 12; (with_reducible refine (bmap_Count.calls a0 t299 _ A43.out).mono ?_); rintro e w' ⟨rfl, ⟨nd, rfl⟩⟩; (try first | exact ⟨rfl, _, World.drewN_drewN _ _ _⟩ | exact ⟨rfl, _, Eq.trans (World.drewN_drewN _ _ _) (congrArg (World.drewN _) (Nat.add_assoc _ _ _))⟩)) | (go_at_call 12; (with_reducible refine (bmap_Count.calls a1 t300 _ A44.out).mono ?_); rintro e w' ⟨rfl, ⟨nd, rfl⟩⟩; (try first | exact ⟨rfl, _, World.drewN_drewN _ _ _⟩ | exact ⟨rfl, _, Eq.trans (World.drewN_drewN _ _ _) (congrArg (World.drewN _) (Nat.add_assoc _ _ _))⟩)))); (try go_quiet (first | (go_at_call 12; (with_reducible refine (bmap_Count.calls a0 t299 _ A43.out).mono ?_); rintro e w' ⟨rfl, ⟨nd, rfl⟩⟩; (try first | exact ⟨rfl, _, World.drewN_drewN _ _ _⟩ | exact ⟨rfl, _, Eq.trans (World.drewN_drewN _ _ _) (congrArg (World.drewN _) (Nat.add_assoc _ _ _))⟩)) | (go_at_call 12; (with_reducible refine (bmap_Count.calls a1 t300 _ A44.out).mono ?_); rintro e w' ⟨rfl, ⟨nd, rfl⟩⟩; (try first | exact ⟨rfl, _, World.drewN_drewN _ _ _⟩ | exact ⟨rfl, _, Eq.trans (World.drewN_drewN _ _ _) (congrArg (World.drewN _) (Nat.add_assoc _ _ _))⟩)))))
                go_ret
                exact ⟨by first | rfl | (simp [errW_none, errW_some] <;> rfl) | (simp [*, errW_none, errW_some] <;> rfl) | (simp [show IntKind.u64.wrap 0 = 0 from rfl, Int.zero_tdiv]; done), by repeat (first | (with_reducible first | exact HB.out | apply below_alloc | apply pw_below_drewN | apply below_drew1) | exact HB.out)⟩
          · replace c40 := Bool.eq_false_iff.mpr c40
            subst c40
            have H1 : (none) = some r := by rw [if_neg (show ¬ (false = true) by decide)] at H; exact H
            clear H
            have H := H1
            clear H1
            exact absurd H (by simp)

/-- THE ONE PURE STATEMENT of nautiluslaw13_BmapIndex: yours. -/
def nautiluslaw13_BmapIndex.Pure : Prop := ∀ (a0 : Int) (a1 : Int) (a2 : Int), (Lit.int .u32 a0).wf = true → (Lit.int .u32 a1).wf = true → (Lit.int .i64 a2).wf = true → ∃ k, nautiluslaw13_BmapIndex.f k a0 a1 a2 = some true
theorem nautiluslaw13_BmapIndex.walk (P : nautiluslaw13_BmapIndex.Pure) (a0 : Int) (a1 : Int) (a2 : Int) (w : World) (w0 : (Lit.int .u32 a0).wf = true) (w1 : (Lit.int .u32 a1).wf = true) (w2 : (Lit.int .i64 a2).wf = true) :
    Calls Try.prog 6 #[.int .u32 a0, .int .u32 a1, .int .i64 a2] w fun e w' => e = .returned (.bool true) ∧ Below w.heap.size w w' := by
  obtain ⟨k, h⟩ := P a0 a1 a2 w0 w1 w2
  refine (nautiluslaw13_BmapIndex.calls k a0 a1 a2 true w h).mono ?_
  rintro e w' ⟨rfl, hd⟩
  exact ⟨rfl, hd⟩

end Go.Proofs.Ytpgdcpbbfphbiaa.Q
