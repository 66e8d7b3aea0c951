/- Functions of the translation as plain Lean functions, and that the translation computes them: printed by this session's driver of the print. -/
import Derived.Test.YtmpcpcfdomlehaaQ0
import Derived.Test.YtmpcpcfdomlehaaQ4
import Derived.Test.YtmpcpcfdomlehaaHRootR
namespace Go.Proofs.Ytmpcpcfdomlehaa.Q
open Go.Proofs.Ytmpcpcfdomlehaa.H
open Go.RowKit Go.Proofs.YtmpcpcfdomlehaaW.PrintWords Go.Proofs.YtmpcpcfdomlehaaW.PrintLast Go.Proofs.YtmpcpcfdomlehaaW.PrintMore
attribute [local go_sem] max2_int min2_int max_two min_two max_three min_three max_four min_four   -- for this text's walks alone
set_option linter.unusedVariables false
set_option linter.unusedSimpArgs false

/-! ### nautiluslaw16_RootDoubles: function 6 -/
def nautiluslaw16_RootDoubles.j0 : Nat → Bool → Bool → Int → Int → List Int → List Int → Option (Bool)
  | 0, _, _, _, _, _, _ => none
  | k + 1, x3, x36, x291000, x291001, x291002, x291003 => if x36 = true then (none) else (if 0 ≤ (wrap64 ((x291002.length : Int) + 1)) then (if (wrap64 ((x291002.length : Int) + 1) : Int).toNat ≤ 70368744177664 then ((some (List.replicate 0 0 : List Int)).bind fun y296 => (if y296.length + x291002.length < 35184372088832 then ((some (y296 ++ x291002 : List Int)).bind fun y299 => (if 0 < (x291003.length : Int) then ((some (([rd x291003 0] : List Int) : List Int)).bind fun y303 => (if y299.length + y303.length < 35184372088832 then (if 1 ≤ (x291002.length : Int) then (if x3 = true then ((root_Right.f x291000 x291001 (y299 ++ y303) x291003).bind fun t311 => (if t311 = true then (none) else ((root_Right.f x291000 x291001 (x291002.drop 1) x291003).bind fun t312 => (some (t312 == (decide ((x291002.length : Int) > 1))))))) else (none)) else (none)) else (none))) else (none))) else (none))) else (none)) else (none))
def nautiluslaw16_RootDoubles.f (k : Nat) (a0_0 : Int) (a0_1 : Int) (l0_2 : List Int) (l0_3 : List Int) : Option (Bool) := (nautiluslaw16_shown.f k).bind fun t291 => (if 0 ≤ (mn (l0_2.length : Int) 100) then (if (mn (l0_2.length : Int) 100) ≤ (l0_2.length : Int) then (if 0 ≤ (mn (l0_3.length : Int) 100) then (if (mn (l0_3.length : Int) 100) ≤ (l0_3.length : Int) then ((root_Right.f a0_0 a0_1 (l0_2.take ((mn (l0_2.length : Int) 100) : Int).toNat) (l0_3.take ((mn (l0_3.length : Int) 100) : Int).toNat)).bind fun t294 => (if t294 = true then (if ((l0_2.take ((mn (l0_2.length : Int) 100) : Int).toNat).length : Int) < 1 then (nautiluslaw16_RootDoubles.j0 k t291 true a0_0 a0_1 (l0_2.take ((mn (l0_2.length : Int) 100) : Int).toNat) (l0_3.take ((mn (l0_3.length : Int) 100) : Int).toNat)) else (nautiluslaw16_RootDoubles.j0 k t291 (decide (((l0_3.take ((mn (l0_3.length : Int) 100) : Int).toNat).length : Int) < 1)) a0_0 a0_1 (l0_2.take ((mn (l0_2.length : Int) 100) : Int).toNat) (l0_3.take ((mn (l0_3.length : Int) 100) : Int).toNat))) else (some t291))) else (none)) else (none)) else (none)) else (none))
theorem nautiluslaw16_RootDoubles.mono_l : ∀ k, (∀ y0 y1 y2 y3 y4 y5, LeO (nautiluslaw16_RootDoubles.j0 k y0 y1 y2 y3 y4 y5) (nautiluslaw16_RootDoubles.j0 (k + 1) y0 y1 y2 y3 y4 y5))
  | 0 => fun _ _ _ _ _ _ r h => by simp [nautiluslaw16_RootDoubles.j0] at h
  | k + 1 => by
    have ih0 := nautiluslaw16_RootDoubles.mono_l k
    · intro y0 y1 y2 y3 y4 y5
      unfold nautiluslaw16_RootDoubles.j0
      repeat' first
      | (with_reducible exact ih0 _ _ _ _ _ _)
      | (with_reducible exact nautiluslaw16_shown.mono _)
      | (with_reducible exact LeO.refl _)
      | (with_reducible exact LeO.none _)
      | (with_reducible refine LeO.ite ?_ ?_)
      | (with_reducible refine LeO.bind ?_ (fun _ => ?_))
      | exact ih0 _ _ _ _ _ _
      | exact nautiluslaw16_shown.mono _
      | exact LeO.none _
      | refine LeO.ite ?_ ?_
      | refine LeO.bind ?_ (fun _ => ?_)
theorem nautiluslaw16_RootDoubles.mono : ∀ a0 a1 a2 a3 k, LeO (nautiluslaw16_RootDoubles.f k a0 a1 a2 a3) (nautiluslaw16_RootDoubles.f (k + 1) a0 a1 a2 a3) := by
  intro a0 a1 a2 a3 k
  have ih0 := nautiluslaw16_RootDoubles.mono_l k
  unfold nautiluslaw16_RootDoubles.f
  repeat' first
      | (with_reducible exact ih0 _ _ _ _ _ _)
      | (with_reducible exact nautiluslaw16_shown.mono _)
      | (with_reducible exact LeO.refl _)
      | (with_reducible exact LeO.none _)
      | (with_reducible refine LeO.ite ?_ ?_)
      | (with_reducible refine LeO.bind ?_ (fun _ => ?_))
      | exact ih0 _ _ _ _ _ _
      | exact nautiluslaw16_shown.mono _
      | exact LeO.none _
      | refine LeO.ite ?_ ?_
      | refine LeO.bind ?_ (fun _ => ?_)
def nautiluslaw16_RootDoubles.T9 : Bool × List (List Nat × List Nat) := (true, [([], []), ([0], [0]), ([1], [1]), ([2], [2]), ([3], [3]), ([], []), ([5], [5]), ([4, 6], [4, 6]), ([], []), ([8], [8]), ([9], [9]), ([10], [10]), ([11], [11]), ([7, 12, 7], [7, 12]), ([0, 1, 2, 3, 4, 5, 6, 7, 8, 9, 10, 11, 12, 13], []), ([14, 13, 13, 0, 1, 2, 3, 4, 5, 6, 7, 8, 9, 10, 11, 12, 13], [13, 14])])
def nautiluslaw16_RootDoubles.B9 : List Nat := [0, 1, 3, 7, 15, 0, 32, 127, 0, 256, 768, 1792, 3840, 8191, 16383, 32767]
theorem nautiluslaw16_RootDoubles.tab9 : rtab .any (opsOf Try.f6 9) = nautiluslaw16_RootDoubles.T9 := by kernel_rfl
theorem nautiluslaw16_RootDoubles.bits9 : waitsOk nautiluslaw16_RootDoubles.T9.2 nautiluslaw16_RootDoubles.B9 = true := by kernel_rfl
def nautiluslaw16_RootDoubles.T12 : Bool × List (List Nat × List Nat) := (true, [([], []), ([0], [0]), ([1], [1]), ([2, 1, 1], [1, 2]), ([3, 1], [1, 3]), ([1, 4], [1, 4]), ([5, 3], [5]), ([6], [6]), ([7, 6, 6], [6, 7]), ([6], [6]), ([9, 6], [6, 9]), ([10, 6], [6, 10]), ([11, 6], [6, 11]), ([8, 12, 6], [6, 8, 12]), ([6, 13], [6, 13]), ([14, 8, 0, 1, 2, 3, 4, 5, 6, 7, 8, 9, 10, 11, 12, 13, 14], [14])])
def nautiluslaw16_RootDoubles.B12 : List Nat := [0, 1, 3, 7, 15, 31, 63, 127, 255, 127, 639, 1663, 3711, 8191, 16383, 32767]
theorem nautiluslaw16_RootDoubles.tab12 : rtab .any (opsOf Try.f6 12) = nautiluslaw16_RootDoubles.T12 := by kernel_rfl
theorem nautiluslaw16_RootDoubles.bits12 : waitsOk nautiluslaw16_RootDoubles.T12.2 nautiluslaw16_RootDoubles.B12 = true := by kernel_rfl
def dkQ13 (n : Nat) (l : List Int) : List Int := l.drop n
theorem dkQ13_len (n : Nat) (l : List Int) : (dkQ13 n l).length = l.length - n := List.length_drop ..
theorem dkQ13_def (l : List Int) : List.drop (Int.toNat 1) l = dkQ13 1 l := rfl
def tkQ13 (n : Nat) (l : List Int) : List Int := l.take n
theorem tkQ13_len (n : Nat) (l : List Int) : (tkQ13 n l).length = min n l.length := List.length_take ..
theorem tkQ13_def (n : Nat) (l : List Int) : List.take n l = tkQ13 n l := rfl
set_option maxHeartbeats 8000000 in
set_option maxRecDepth 100000 in
theorem nautiluslaw16_RootDoubles.calls (k : Nat) (a0_0 : Int) (a0_1 : Int) (A0_2 : Option Addr) (c0_2 : Nat) (l0_2 : List Int) (A0_3 : Option Addr) (c0_3 : Nat) (l0_3 : List Int) (r : Bool) (w : World) (hr0_2 : Kd.C (Kd.int .u32) w A0_2 l0_2.length l0_2) (hc0_2 : l0_2.length ≤ c0_2) (hr0_3 : Kd.C (Kd.int .u32) w A0_3 l0_3.length l0_3) (hc0_3 : l0_3.length ≤ c0_3) (h : nautiluslaw16_RootDoubles.f k a0_0 a0_1 l0_2 l0_3 = some r) :
    Calls Try.prog 6 #[.agg #[.int .u64 a0_0, .int .u64 a0_1, .slice A0_2 l0_2.length c0_2, .slice A0_3 l0_3.length c0_3]] w fun e w' => e = .returned (.bool r) ∧ Below w.heap.size w w' := by
  have hu25 := Try.underlying25
  have HR0_2 := Aside0.mk hr0_2
  have HC0_2 := Aside0.mk hc0_2
  clear hr0_2 hc0_2
  have HR0_3 := Aside0.mk hr0_3
  have HC0_3 := Aside0.mk hc0_3
  clear hr0_3 hc0_3
  have HB := Aside0.mk (Below.refl w.heap.size w)
  have H : ((nautiluslaw16_shown.f k).bind fun t291 => (if 0 ≤ (mn (l0_2.length : Int) 100) then (if (mn (l0_2.length : Int) 100) ≤ (l0_2.length : Int) then (if 0 ≤ (mn (l0_3.length : Int) 100) then (if (mn (l0_3.length : Int) 100) ≤ (l0_3.length : Int) then ((root_Right.f a0_0 a0_1 (l0_2.take ((mn (l0_2.length : Int) 100) : Int).toNat) (l0_3.take ((mn (l0_3.length : Int) 100) : Int).toNat)).bind fun t294 => (if t294 = true then (if ((l0_2.take ((mn (l0_2.length : Int) 100) : Int).toNat).length : Int) < 1 then (nautiluslaw16_RootDoubles.j0 k t291 true a0_0 a0_1 (l0_2.take ((mn (l0_2.length : Int) 100) : Int).toNat) (l0_3.take ((mn (l0_3.length : Int) 100) : Int).toNat)) else (nautiluslaw16_RootDoubles.j0 k t291 (decide (((l0_3.take ((mn (l0_3.length : Int) 100) : Int).toNat).length : Int) < 1)) a0_0 a0_1 (l0_2.take ((mn (l0_2.length : Int) 100) : Int).toNat) (l0_3.take ((mn (l0_3.length : Int) 100) : Int).toNat))) else (some t291))) else (none)) else (none)) else (none)) else (none))) = some r := h
  clear h
  replace H := Option.bind_eq_some_iff.mp H
  obtain ⟨t291, A20, H⟩ := H
  replace H : (if 0 ≤ (mn (l0_2.length : Int) 100) then (if (mn (l0_2.length : Int) 100) ≤ (l0_2.length : Int) then (if 0 ≤ (mn (l0_3.length : Int) 100) then (if (mn (l0_3.length : Int) 100) ≤ (l0_3.length : Int) then ((root_Right.f a0_0 a0_1 (l0_2.take ((mn (l0_2.length : Int) 100) : Int).toNat) (l0_3.take ((mn (l0_3.length : Int) 100) : Int).toNat)).bind fun t294 => (if t294 = true then (if ((l0_2.take ((mn (l0_2.length : Int) 100) : Int).toNat).length : Int) < 1 then (nautiluslaw16_RootDoubles.j0 k t291 true a0_0 a0_1 (l0_2.take ((mn (l0_2.length : Int) 100) : Int).toNat) (l0_3.take ((mn (l0_3.length : Int) 100) : Int).toNat)) else (nautiluslaw16_RootDoubles.j0 k t291 (decide (((l0_3.take ((mn (l0_3.length : Int) 100) : Int).toNat).length : Int) < 1)) a0_0 a0_1 (l0_2.take ((mn (l0_2.length : Int) 100) : Int).toNat) (l0_3.take ((mn (l0_3.length : Int) 100) : Int).toNat))) else (some t291))) else (none)) else (none)) else (none)) else (none)) = some r := H
  have A2 := Aside0.mk A20
  clear A20
  obtain ⟨ji3, hji3⟩ : ∃ j_ : Int, (mn (l0_2.length : Int) 100) = j_ := ⟨_, rfl⟩
  replace H : (if 0 ≤ (ji3) then (if (ji3) ≤ (l0_2.length : Int) then (if 0 ≤ (mn (l0_3.length : Int) 100) then (if (mn (l0_3.length : Int) 100) ≤ (l0_3.length : Int) then ((root_Right.f a0_0 a0_1 (tkQ13 ((ji3) : Int).toNat l0_2) (l0_3.take ((mn (l0_3.length : Int) 100) : Int).toNat)).bind fun t294 => (if t294 = true then (if ((tkQ13 ((ji3) : Int).toNat l0_2).length : Int) < 1 then (nautiluslaw16_RootDoubles.j0 k t291 true a0_0 a0_1 (tkQ13 ((ji3) : Int).toNat l0_2) (l0_3.take ((mn (l0_3.length : Int) 100) : Int).toNat)) else (nautiluslaw16_RootDoubles.j0 k t291 (decide (((l0_3.take ((mn (l0_3.length : Int) 100) : Int).toNat).length : Int) < 1)) a0_0 a0_1 (tkQ13 ((ji3) : Int).toNat l0_2) (l0_3.take ((mn (l0_3.length : Int) 100) : Int).toNat))) else (some t291))) else (none)) else (none)) else (none)) else (none)) = some r := by first | (rw [hji3] at H; exact H) | (simp only [hji3] at H ⊢; exact H)
  (try rw [hji3] at A2)
  (try (have hji3h : ji3 ≤ 100 := by (rw [← hji3]; unfold mn; (repeat' split) <;> omega)))
  (try (have hji3g : ji3 ≤ 64 := by omega))
  (try (have hji3l : 0 ≤ ji3 := by (rw [← hji3]; unfold mn; (repeat' split) <;> omega)))
  (try (have hji3m : 0 ≤ ji3 := by omega))
  have hji3_ : (if 100 < (l0_2.length : Int) then 100 else (l0_2.length : Int)) = ji3 := hji3
  by_cases c4 : 0 ≤ (ji3)
  · rw [if_pos c4] at H
    have c4b0 := eq_true c4
    have c4b1 : decide (0 ≤ (ji3)) = true := decide_eq_true c4
    clear c4
    by_cases c5 : (ji3) ≤ (l0_2.length : Int)
    · rw [if_pos c5] at H
      have c5b0 := eq_true c5
      have c5b1 : decide ((ji3) ≤ (l0_2.length : Int)) = true := decide_eq_true c5
      clear c5
      obtain ⟨ji6, hji6⟩ : ∃ j_ : Int, (mn (l0_3.length : Int) 100) = j_ := ⟨_, rfl⟩
      replace H : (if 0 ≤ (ji6) then (if (ji6) ≤ (l0_3.length : Int) then ((root_Right.f a0_0 a0_1 (tkQ13 ((ji3) : Int).toNat l0_2) (tkQ13 ((ji6) : Int).toNat l0_3)).bind fun t294 => (if t294 = true then (if ((tkQ13 ((ji3) : Int).toNat l0_2).length : Int) < 1 then (nautiluslaw16_RootDoubles.j0 k t291 true a0_0 a0_1 (tkQ13 ((ji3) : Int).toNat l0_2) (tkQ13 ((ji6) : Int).toNat l0_3)) else (nautiluslaw16_RootDoubles.j0 k t291 (decide (((tkQ13 ((ji6) : Int).toNat l0_3).length : Int) < 1)) a0_0 a0_1 (tkQ13 ((ji3) : Int).toNat l0_2) (tkQ13 ((ji6) : Int).toNat l0_3))) else (some t291))) else (none)) else (none)) = some r := by first | (rw [hji6] at H; exact H) | (simp only [hji6] at H ⊢; exact H)
      (try rw [hji6] at A2)
      (try (have hji6h : ji6 ≤ 100 := by (rw [← hji6]; unfold mn; (repeat' split) <;> omega)))
      (try (have hji6g : ji6 ≤ 64 := by omega))
      (try (have hji6l : 0 ≤ ji6 := by (rw [← hji6]; unfold mn; (repeat' split) <;> omega)))
      (try (have hji6m : 0 ≤ ji6 := by omega))
      have hji6_ : (if 100 < (l0_3.length : Int) then 100 else (l0_3.length : Int)) = ji6 := hji6
      by_cases c7 : 0 ≤ (ji6)
      · rw [if_pos c7] at H
        have c7b0 := eq_true c7
        have c7b1 : decide (0 ≤ (ji6)) = true := decide_eq_true c7
        clear c7
        by_cases c8 : (ji6) ≤ (l0_3.length : Int)
        · rw [if_pos c8] at H
          have c8b0 := eq_true c8
          have c8b1 : decide ((ji6) ≤ (l0_3.length : Int)) = true := decide_eq_true c8
          clear c8
          replace H := Option.bind_eq_some_iff.mp H
          obtain ⟨t294, A90, H⟩ := H
          replace H : (if t294 = true then (if ((tkQ13 ((ji3) : Int).toNat l0_2).length : Int) < 1 then (nautiluslaw16_RootDoubles.j0 k t291 true a0_0 a0_1 (tkQ13 ((ji3) : Int).toNat l0_2) (tkQ13 ((ji6) : Int).toNat l0_3)) else (nautiluslaw16_RootDoubles.j0 k t291 (decide (((tkQ13 ((ji6) : Int).toNat l0_3).length : Int) < 1)) a0_0 a0_1 (tkQ13 ((ji3) : Int).toNat l0_2) (tkQ13 ((ji6) : Int).toNat l0_3))) else (some t291)) = some r := H
          have A9 := Aside0.mk A90
          clear A90
          by_cases c10 : t294 = true
          · subst c10
            have H1 : (if ((tkQ13 ((ji3) : Int).toNat l0_2).length : Int) < 1 then (nautiluslaw16_RootDoubles.j0 k t291 true a0_0 a0_1 (tkQ13 ((ji3) : Int).toNat l0_2) (tkQ13 ((ji6) : Int).toNat l0_3)) else (nautiluslaw16_RootDoubles.j0 k t291 (decide (((tkQ13 ((ji6) : Int).toNat l0_3).length : Int) < 1)) a0_0 a0_1 (tkQ13 ((ji3) : Int).toNat l0_2) (tkQ13 ((ji6) : Int).toNat l0_3))) = some r := by rw [if_pos rfl] at H; exact H
            clear H
            have H := H1
            clear H1
            have HC11 := Aside0.mk H
            clear H
            go_enter Try.func6, Try.ntmps6
            go_upto_region 6 with (first | ((with_reducible refine gate_dst (N := 1) rfl ?_); (try (refine gate_guard (by rfl) ?_; dsimp only)); refine box_event ?hg (N := 1) ?hd (cs := #[.int .u64 a0_0, .int .u64 a0_1, .slice A0_2 l0_2.length c0_2, .slice A0_3 l0_3.length c0_3]) (t := 25) ?hr ?_; (case hd => rfl); (case hg => rfl); (case hr => first | (go_simp; done) | (go_simp; rfl)); intro gb290 hg w12 hbox hb; have n0_ := Aside0.mk (below_step (by repeat (first | (with_reducible first | exact HB.out | apply below_alloc | apply pw_below_drewN | apply below_drew1) | exact HB.out)) hb); have n1_ := Aside0.mk (hbox); have n2_ := Aside0.mk ((by rw [hg]; exact (below_size (by repeat (first | (with_reducible first | exact HB.out | apply below_alloc | apply pw_below_drewN | apply below_drew1) | exact HB.out))) : w.heap.size ≤ gb290)); have n3_ := Aside0.mk ((by rw [hg]; exact (below_size (by repeat (first | (with_reducible first | exact HB.out | apply below_alloc | apply pw_below_drewN | apply below_drew1) | exact HB.out))) : w.heap.size ≤ gb290)); clear HB; have HB := n0_; have BK290 := n1_; have GW290 := n2_; have GE290 := n3_; clear n0_ n1_ n2_ n3_; clear hb hbox hg) | ((with_reducible refine gate_callee (f := 7) rfl ?_); refine goesL_ (some 6) rfl rfl Try.func7 (by kernel_rfl) rfl #[] rfl (by (try simp only [List.map_toArray, List.map_cons, List.map_nil]); first | done | rfl | (simp only [dkQ13_len, tkQ13_len]; rfl)) ?_; (with_reducible refine (nautiluslaw16_shown.calls k  t291 _ A2.out).mono ?_); rintro e w13 ⟨rfl, hb⟩; refine ⟨_, rfl, ?_⟩; have n0_ := Aside0.mk (blk_below (g := gb290) (o := .cells #[.int .u64 a0_0, .int .u64 a0_1, .slice A0_2 l0_2.length c0_2, .slice A0_3 l0_3.length c0_3] 25 (0, 0)) (by (with_reducible repeat (first | refine blk_drewN ?_ _ | refine blk_drew ?_ | refine blk_alloc ?_ _)); exact BK290.out) hb); have n1_ := Aside0.mk (below_step (by repeat (first | (with_reducible first | exact HB.out | apply below_alloc | apply pw_below_drewN | apply below_drew1 | refine below_set ?_ GE290.out) | exact HB.out)) hb); clear BK290; clear HB; have BK290 := n0_; have HB := n1_; clear n0_ n1_; (try clear hb); (try clear hb2); (try clear hk); (try clear hi); have hcz14_0 : w13.cell? ⟨gb290, 0, none⟩ = some (.int .u64 a0_0) := (blk_cell BK290.out 0).trans rfl; have hcz14_1 : w13.cell? ⟨gb290, 1, none⟩ = some (.int .u64 a0_1) := (blk_cell BK290.out 1).trans rfl; have hcz14_2 : w13.cell? ⟨gb290, 2, none⟩ = some (.slice A0_2 l0_2.length c0_2) := (blk_cell BK290.out 2).trans rfl; have hcz14_3 : w13.cell? ⟨gb290, 3, none⟩ = some (.slice A0_3 l0_3.length c0_3) := (blk_cell BK290.out 3).trans rfl; have hfz14_0 := blk_frozen BK290.out 0; have hfz14_1 := blk_frozen BK290.out 1; have hfz14_2 := blk_frozen BK290.out 2; have hfz14_3 := blk_frozen BK290.out 3; obtain ⟨i015, hi015, _, hsz15, _⟩ := info_parts info35; obtain ⟨hcut15, hA15, hC15⟩ := print_take_of (P := Try.prog) (Value.int .u32) 0 23 35 .i64 Try.underlying23 hi015 hsz15 A0_2 c0_2 l0_2 (ji3) (of_decide_eq_true (by first | (with_reducible assumption) | assumption)) (of_decide_eq_true (by first | (with_reducible assumption) | assumption)) HC0_2.out; (try simp only [tkQ13_def] at hcut15 hA15 hC15); have HR292 := Aside0.mk (Kd.C_of_reads (h1 := fun _ => rfl) (hA15 _ (Kd.reads_of_C HR0_2.out))); have HC292 := Aside0.mk hC15; clear hA15 hC15 hi015 hsz15; obtain ⟨i016, hi016, _, hsz16, _⟩ := info_parts info35; obtain ⟨hcut16, hA16, hC16⟩ := print_take_of (P := Try.prog) (Value.int .u32) 0 23 35 .i64 Try.underlying23 hi016 hsz16 A0_3 c0_3 l0_3 (ji6) (of_decide_eq_true (by first | (with_reducible assumption) | assumption)) (of_decide_eq_true (by first | (with_reducible assumption) | assumption)) HC0_3.out; (try simp only [tkQ13_def] at hcut16 hA16 hC16); have HR293 := Aside0.mk (Kd.C_of_reads (h1 := fun _ => rfl) (hA16 _ (Kd.reads_of_C HR0_3.out))); have HC293 := Aside0.mk hC16; clear hA16 hC16 hi016 hsz16) | ((with_reducible refine gate_callee (f := 12) rfl ?_); refine goesL_ (some 24) rfl rfl Try.func12 (by kernel_rfl) rfl #[.agg #[.int .u64 a0_0, .int .u64 a0_1, .slice A0_2 (tkQ13 ((ji3) : Int).toNat l0_2).length c0_2, .slice A0_3 (tkQ13 ((ji6) : Int).toNat l0_3).length c0_3]] rfl (by (try simp only [List.map_toArray, List.map_cons, List.map_nil]); first | done | (rw [show (tkQ13 ((ji3) : Int).toNat l0_2).length = (ji3).toNat from (by rw [tkQ13_len]; have h_ : ((ji3) : Int) ≤ (l0_2.length : Int) := (by first | (exact of_decide_eq_true (by with_reducible assumption)) | (rw [← hji3]; unfold mn; (repeat' split) <;> omega) | exact of_decide_eq_true (by assumption)); omega)] <;> rfl) | (rw [show (tkQ13 ((ji6) : Int).toNat l0_3).length = (ji6).toNat from (by rw [tkQ13_len]; have h_ : ((ji6) : Int) ≤ (l0_3.length : Int) := (by first | (exact of_decide_eq_true (by with_reducible assumption)) | (rw [← hji6]; unfold mn; (repeat' split) <;> omega) | exact of_decide_eq_true (by assumption)); omega)] <;> rfl) | (simp only [hji3, hji6]; rfl) | rfl | (simp only [dkQ13_len, tkQ13_len]; rfl)) ?_; (with_reducible refine (root_Right.calls a0_0 a0_1 _ _ (tkQ13 ((ji3) : Int).toNat l0_2) _ _ (tkQ13 ((ji6) : Int).toNat l0_3) true _ ?side1 ?side2 ?side3 ?side4 A9.out).mono ?_); (case side1 => exact Kd.C_below HR292.out (by repeat (first | (with_reducible first | exact HB.out | apply below_alloc | apply pw_below_drewN | apply below_drew1 | refine below_set ?_ GE290.out) | exact HB.out))); (case side2 => exact HC292.out); (case side3 => exact Kd.C_below HR293.out (by repeat (first | (with_reducible first | exact HB.out | apply below_alloc | apply pw_below_drewN | apply below_drew1 | refine below_set ?_ GE290.out) | exact HB.out))); (case side4 => exact HC293.out); rintro e w17 ⟨rfl, hb⟩; refine ⟨_, rfl, ?_⟩; have n0_ := Aside0.mk (blk_below (g := gb290) (o := .cells #[.int .u64 a0_0, .int .u64 a0_1, .slice A0_2 (tkQ13 ((ji3) : Int).toNat l0_2).length c0_2, .slice A0_3 (tkQ13 ((ji6) : Int).toNat l0_3).length c0_3] 25 (0, 0)) (by (with_reducible repeat (first | refine blk_drewN ?_ _ | refine blk_drew ?_ | refine blk_alloc ?_ _)); refine blk_put (cs := #[.int .u64 a0_0, .int .u64 a0_1, .slice A0_2 (tkQ13 ((ji3) : Int).toNat l0_2).length c0_2, .slice A0_3 l0_3.length c0_3]) ?_ 3 _ rfl; (with_reducible repeat (first | refine blk_drewN ?_ _ | refine blk_drew ?_ | refine blk_alloc ?_ _)); refine blk_put (cs := #[.int .u64 a0_0, .int .u64 a0_1, .slice A0_2 l0_2.length c0_2, .slice A0_3 l0_3.length c0_3]) ?_ 2 _ rfl; (with_reducible repeat (first | refine blk_drewN ?_ _ | refine blk_drew ?_ | refine blk_alloc ?_ _)); exact BK290.out) hb); have n1_ := Aside0.mk (below_step (by repeat (first | (with_reducible first | exact HB.out | apply below_alloc | apply pw_below_drewN | apply below_drew1 | refine below_set ?_ GE290.out) | exact HB.out)) hb); clear BK290; clear HB; have BK290 := n0_; have HB := n1_; clear n0_ n1_; (try clear hb); (try clear hb2); (try clear hk); (try clear hi)))
            (try simp only [Act.put, List.setIfInBounds_toArray, List.set_cons_zero, List.set_cons_succ])
            go_cut [36] (fun v36 wc => ∃ (kq : Nat) (x36_10 : Bool), v36 = .bool x36_10 ∧ Aside0 (nautiluslaw16_RootDoubles.j0 kq t291 x36_10 a0_0 a0_1 (tkQ13 ((ji3) : Int).toNat l0_2) (tkQ13 ((ji6) : Int).toNat l0_3) = some r) ∧ Aside0 (kq ≤ k) ∧ Aside0 (wc.heap[gb290]? = some (.cells #[.int .u64 a0_0, .int .u64 a0_1, .slice A0_2 (tkQ13 ((ji3) : Int).toNat l0_2).length c0_2, .slice A0_3 (tkQ13 ((ji6) : Int).toNat l0_3).length c0_3] 25 (0, 0))) ∧ Aside0 (Below w.heap.size w wc))
            case first =>
              have H := HC11.out
              clear HC11
              by_cases c18 : ((tkQ13 ((ji3) : Int).toNat l0_2).length : Int) < 1
              · rw [if_pos c18] at H
                have c18b0 : decide (((tkQ13 ((ji3) : Int).toNat l0_2).length : Int) < 1) = true := decide_eq_true c18
                have c18b1 : decide ((tkQ13 ((ji3) : Int).toNat l0_2).length < 1) = true := decide_eq_true (by omega)
                clear c18
                (first | rw [c18b0] | (simp only [i64_w, i32_w]; rw [c18b0]) | skip)
                have H' := Aside0.mk H
                clear H
                have hcz19_0 : w17.cell? ⟨gb290, 0, none⟩ = some (.int .u64 a0_0) := (blk_cell BK290.out 0).trans rfl
                have hcz19_1 : w17.cell? ⟨gb290, 1, none⟩ = some (.int .u64 a0_1) := (blk_cell BK290.out 1).trans rfl
                have hcz19_2 : w17.cell? ⟨gb290, 2, none⟩ = some (.slice A0_2 (tkQ13 ((ji3) : Int).toNat l0_2).length c0_2) := (blk_cell BK290.out 2).trans rfl
                have hcz19_3 : w17.cell? ⟨gb290, 3, none⟩ = some (.slice A0_3 (tkQ13 ((ji6) : Int).toNat l0_3).length c0_3) := (blk_cell BK290.out 3).trans rfl
                have hfz19_0 := blk_frozen BK290.out 0
                have hfz19_1 := blk_frozen BK290.out 1
                have hfz19_2 := blk_frozen BK290.out 2
                have hfz19_3 := blk_frozen BK290.out 3
                go_wp2
                go_meet
                case rel => exact ⟨_, (true), (by first | rfl | (simp; done) | (simp [*]; done)), H', ⟨by first | omega | exact Nat.le_refl _⟩, ⟨by (with_reducible repeat (first | refine blk_drewN ?_ _ | refine blk_drew ?_ | refine blk_alloc ?_ _)); exact BK290.out⟩, ⟨by repeat (first | (with_reducible first | exact HB.out | apply below_alloc | apply pw_below_drewN | apply below_drew1 | refine below_set ?_ GE290.out) | exact HB.out)⟩⟩
              · rw [if_neg c18] at H
                have c18b0 : decide (((tkQ13 ((ji3) : Int).toNat l0_2).length : Int) < 1) = false := decide_eq_false c18
                have c18b1 : decide ((tkQ13 ((ji3) : Int).toNat l0_2).length < 1) = false := decide_eq_false (by omega)
                clear c18
                (first | rw [c18b0] | (simp only [i64_w, i32_w]; rw [c18b0]) | skip)
                have H' := Aside0.mk H
                clear H
                have hcz20_0 : w17.cell? ⟨gb290, 0, none⟩ = some (.int .u64 a0_0) := (blk_cell BK290.out 0).trans rfl
                have hcz20_1 : w17.cell? ⟨gb290, 1, none⟩ = some (.int .u64 a0_1) := (blk_cell BK290.out 1).trans rfl
                have hcz20_2 : w17.cell? ⟨gb290, 2, none⟩ = some (.slice A0_2 (tkQ13 ((ji3) : Int).toNat l0_2).length c0_2) := (blk_cell BK290.out 2).trans rfl
                have hcz20_3 : w17.cell? ⟨gb290, 3, none⟩ = some (.slice A0_3 (tkQ13 ((ji6) : Int).toNat l0_3).length c0_3) := (blk_cell BK290.out 3).trans rfl
                have hfz20_0 := blk_frozen BK290.out 0
                have hfz20_1 := blk_frozen BK290.out 1
                have hfz20_2 := blk_frozen BK290.out 2
                have hfz20_3 := blk_frozen BK290.out 3
                go_wp2
                go_meet
                case rel => exact ⟨_, (decide (((tkQ13 ((ji6) : Int).toNat l0_3).length : Int) < 1)), (by first | rfl | (simp; done) | (simp only [← hji6] <;> (first | rfl | simp)) | (simp [*]; done)), H', ⟨by first | omega | exact Nat.le_refl _⟩, ⟨by (with_reducible repeat (first | refine blk_drewN ?_ _ | refine blk_drew ?_ | refine blk_alloc ?_ _)); exact BK290.out⟩, ⟨by repeat (first | (with_reducible first | exact HB.out | apply below_alloc | apply pw_below_drewN | apply below_drew1 | refine below_set ?_ GE290.out) | exact HB.out)⟩⟩
            case rest =>
              clear HC11
              try clear c1
              try clear p2
              try clear c4
              try clear c4b0
              try clear c4b1
              try clear c5
              try clear c5b0
              try clear c5b1
              try clear c6
              try clear c7
              try clear c7b0
              try clear c7b1
              try clear c8
              try clear c8b0
              try clear c8b1
              try clear c10
              try clear c12
              try clear c18
              try clear c18b0
              try clear c18b1
              try clear hcz14_0
              try clear hcz14_1
              try clear hcz14_2
              try clear hcz14_3
              try clear hcz19_0
              try clear hcz19_1
              try clear hcz19_2
              try clear hcz19_3
              try clear hcz20_0
              try clear hcz20_1
              try clear hcz20_2
              try clear hcz20_3
              try clear hfz14_0
              try clear hfz14_1
              try clear hfz14_2
              try clear hfz14_3
              try clear hfz19_0
              try clear hfz19_1
              try clear hfz19_2
              try clear hfz19_3
              try clear hfz20_0
              try clear hfz20_1
              try clear hfz20_2
              try clear hfz20_3
              obtain ⟨kq, x36_10, rfl, HA, HJ10, BK290, HB⟩ := hcut
              cases kq with
              | zero => exact absurd HA.out (by simp [nautiluslaw16_RootDoubles.j0])
              | succ kj10 =>
                have H := HA.out
                clear HA
                simp only [nautiluslaw16_RootDoubles.j0] at H
                by_cases c21 : x36_10 = true
                · subst c21
                  have H1 : (none) = some r := by rw [if_pos rfl] at H; exact H
                  clear H
                  have H := H1
                  clear H1
                  exact absurd H (by simp)
                · replace c21 := Bool.eq_false_iff.mpr c21
                  subst c21
                  have H1 : (if 0 ≤ (wrap64 (((tkQ13 ((ji3) : Int).toNat l0_2).length : Int) + 1)) then (if (wrap64 (((tkQ13 ((ji3) : Int).toNat l0_2).length : Int) + 1) : Int).toNat ≤ 70368744177664 then ((some (List.replicate 0 0 : List Int)).bind fun y296 => (if y296.length + (tkQ13 ((ji3) : Int).toNat l0_2).length < 35184372088832 then ((some (y296 ++ (tkQ13 ((ji3) : Int).toNat l0_2) : List Int)).bind fun y299 => (if 0 < ((tkQ13 ((ji6) : Int).toNat l0_3).length : Int) then ((some (([rd (tkQ13 ((ji6) : Int).toNat l0_3) 0] : List Int) : List Int)).bind fun y303 => (if y299.length + y303.length < 35184372088832 then (if 1 ≤ ((tkQ13 ((ji3) : Int).toNat l0_2).length : Int) then (if t291 = true then ((root_Right.f a0_0 a0_1 (y299 ++ y303) (tkQ13 ((ji6) : Int).toNat l0_3)).bind fun t311 => (if t311 = true then (none) else ((root_Right.f a0_0 a0_1 (dkQ13 1 (tkQ13 ((ji3) : Int).toNat l0_2)) (tkQ13 ((ji6) : Int).toNat l0_3)).bind fun t312 => (some (t312 == (decide (((tkQ13 ((ji3) : Int).toNat l0_2).length : Int) > 1))))))) else (none)) else (none)) else (none))) else (none))) else (none))) else (none)) else (none)) = some r := by rw [if_neg (show ¬ (false = true) by decide)] at H; exact H
                  clear H
                  have H := H1
                  clear H1
                  obtain ⟨ji22, hji22⟩ : ∃ j_ : Int, (wrap64 (((tkQ13 ((ji3) : Int).toNat l0_2).length : Int) + 1)) = j_ := ⟨_, rfl⟩
                  replace H : (if 0 ≤ (ji22) then (if (ji22 : Int).toNat ≤ 70368744177664 then ((some (List.replicate 0 0 : List Int)).bind fun y296 => (if y296.length + (tkQ13 ((ji3) : Int).toNat l0_2).length < 35184372088832 then ((some (y296 ++ (tkQ13 ((ji3) : Int).toNat l0_2) : List Int)).bind fun y299 => (if 0 < ((tkQ13 ((ji6) : Int).toNat l0_3).length : Int) then ((some (([rd (tkQ13 ((ji6) : Int).toNat l0_3) 0] : List Int) : List Int)).bind fun y303 => (if y299.length + y303.length < 35184372088832 then (if 1 ≤ ((tkQ13 ((ji3) : Int).toNat l0_2).length : Int) then (if t291 = true then ((root_Right.f a0_0 a0_1 (y299 ++ y303) (tkQ13 ((ji6) : Int).toNat l0_3)).bind fun t311 => (if t311 = true then (none) else ((root_Right.f a0_0 a0_1 (dkQ13 1 (tkQ13 ((ji3) : Int).toNat l0_2)) (tkQ13 ((ji6) : Int).toNat l0_3)).bind fun t312 => (some (t312 == (decide (((tkQ13 ((ji3) : Int).toNat l0_2).length : Int) > 1))))))) else (none)) else (none)) else (none))) else (none))) else (none))) else (none)) else (none)) = some r := by first | (rw [hji22] at H; exact H) | (simp only [hji22] at H ⊢; exact H)
                  have hji22w : (IntKind.i64.wrap (((tkQ13 ((ji3) : Int).toNat l0_2).length : Int) + 1)) = ji22 := (i64_w _).trans hji22
                  by_cases c23 : 0 ≤ (ji22)
                  · rw [if_pos c23] at H
                    have c23b0 := eq_true c23
                    have c23b1 : decide (0 ≤ (ji22)) = true := decide_eq_true c23
                    clear c23
                    by_cases c24 : (ji22 : Int).toNat ≤ 70368744177664
                    · rw [if_pos c24] at H
                      have c24b0 := eq_true c24
                      have c24b1 : decide ((ji22 : Int).toNat ≤ 70368744177664) = true := decide_eq_true c24
                      clear c24
                      obtain ⟨y296, hy296⟩ : ∃ y_ : List Int, y_ = (List.replicate 0 0) := ⟨_, rfl⟩
                      replace H : (if y296.length + (tkQ13 ((ji3) : Int).toNat l0_2).length < 35184372088832 then ((some (y296 ++ (tkQ13 ((ji3) : Int).toNat l0_2) : List Int)).bind fun y299 => (if 0 < ((tkQ13 ((ji6) : Int).toNat l0_3).length : Int) then ((some (([rd (tkQ13 ((ji6) : Int).toNat l0_3) 0] : List Int) : List Int)).bind fun y303 => (if y299.length + y303.length < 35184372088832 then (if 1 ≤ ((tkQ13 ((ji3) : Int).toNat l0_2).length : Int) then (if t291 = true then ((root_Right.f a0_0 a0_1 (y299 ++ y303) (tkQ13 ((ji6) : Int).toNat l0_3)).bind fun t311 => (if t311 = true then (none) else ((root_Right.f a0_0 a0_1 (dkQ13 1 (tkQ13 ((ji3) : Int).toNat l0_2)) (tkQ13 ((ji6) : Int).toNat l0_3)).bind fun t312 => (some (t312 == (decide (((tkQ13 ((ji3) : Int).toNat l0_2).length : Int) > 1))))))) else (none)) else (none)) else (none))) else (none))) else (none)) = some r := by first | (rw [hy296]; with_reducible exact H) | (have H2_ := (Option.bind_some _ _).symm.trans H; rw [hy296]; with_reducible exact H2_) | (have H2_ := (Option.bind_some _ _).symm.trans H; with_reducible exact H2_) | with_reducible exact H | (rw [hy296]; exact H) | exact H
                      have Ny296 := Aside0.mk hy296
                      clear hy296
                      by_cases c25 : y296.length + (tkQ13 ((ji3) : Int).toNat l0_2).length < 35184372088832
                      · rw [if_pos c25] at H
                        have LMc25 := Aside0.mk c25
                        clear c25
                        obtain ⟨y299, hy299⟩ : ∃ y_ : List Int, y_ = (y296 ++ (tkQ13 ((ji3) : Int).toNat l0_2)) := ⟨_, rfl⟩
                        replace H : (if 0 < ((tkQ13 ((ji6) : Int).toNat l0_3).length : Int) then ((some (([rd (tkQ13 ((ji6) : Int).toNat l0_3) 0] : List Int) : List Int)).bind fun y303 => (if y299.length + y303.length < 35184372088832 then (if 1 ≤ ((tkQ13 ((ji3) : Int).toNat l0_2).length : Int) then (if t291 = true then ((root_Right.f a0_0 a0_1 (y299 ++ y303) (tkQ13 ((ji6) : Int).toNat l0_3)).bind fun t311 => (if t311 = true then (none) else ((root_Right.f a0_0 a0_1 (dkQ13 1 (tkQ13 ((ji3) : Int).toNat l0_2)) (tkQ13 ((ji6) : Int).toNat l0_3)).bind fun t312 => (some (t312 == (decide (((tkQ13 ((ji3) : Int).toNat l0_2).length : Int) > 1))))))) else (none)) else (none)) else (none))) else (none)) = some r := by first | (rw [hy299]; with_reducible exact H) | (have H2_ := (Option.bind_some _ _).symm.trans H; rw [hy299]; with_reducible exact H2_) | (have H2_ := (Option.bind_some _ _).symm.trans H; with_reducible exact H2_) | with_reducible exact H | (rw [hy299]; exact H) | exact H
                        have Ny299 := Aside0.mk hy299
                        clear hy299
                        by_cases c26 : 0 < ((tkQ13 ((ji6) : Int).toNat l0_3).length : Int)
                        · rw [if_pos c26] at H
                          have c26b0 : decide (0 < ((tkQ13 ((ji6) : Int).toNat l0_3).length : Int)) = true := decide_eq_true c26
                          have c26b1 : decide (0 < (tkQ13 ((ji6) : Int).toNat l0_3).length) = true := decide_eq_true (by omega)
                          clear c26
                          obtain ⟨y303, hy303⟩ : ∃ y_ : List Int, y_ = (([rd (tkQ13 ((ji6) : Int).toNat l0_3) 0] : List Int)) := ⟨_, rfl⟩
                          replace H : (if y299.length + y303.length < 35184372088832 then (if 1 ≤ ((tkQ13 ((ji3) : Int).toNat l0_2).length : Int) then (if t291 = true then ((root_Right.f a0_0 a0_1 (y299 ++ y303) (tkQ13 ((ji6) : Int).toNat l0_3)).bind fun t311 => (if t311 = true then (none) else ((root_Right.f a0_0 a0_1 (dkQ13 1 (tkQ13 ((ji3) : Int).toNat l0_2)) (tkQ13 ((ji6) : Int).toNat l0_3)).bind fun t312 => (some (t312 == (decide (((tkQ13 ((ji3) : Int).toNat l0_2).length : Int) > 1))))))) else (none)) else (none)) else (none)) = some r := by first | (rw [hy303]; with_reducible exact H) | (have H2_ := (Option.bind_some _ _).symm.trans H; rw [hy303]; with_reducible exact H2_) | (have H2_ := (Option.bind_some _ _).symm.trans H; with_reducible exact H2_) | with_reducible exact H | (rw [hy303]; exact H) | exact H
                          have Ny303 := Aside0.mk hy303
                          clear hy303
                          by_cases c27 : y299.length + y303.length < 35184372088832
                          · rw [if_pos c27] at H
                            have LMc27 := Aside0.mk c27
                            clear c27
                            obtain ⟨y306, hy306⟩ : ∃ y_ : List Int, y_ = (y299 ++ y303) := ⟨_, rfl⟩
                            replace H : (if 1 ≤ ((tkQ13 ((ji3) : Int).toNat l0_2).length : Int) then (if t291 = true then ((root_Right.f a0_0 a0_1 y306 (tkQ13 ((ji6) : Int).toNat l0_3)).bind fun t311 => (if t311 = true then (none) else ((root_Right.f a0_0 a0_1 (dkQ13 1 (tkQ13 ((ji3) : Int).toNat l0_2)) (tkQ13 ((ji6) : Int).toNat l0_3)).bind fun t312 => (some (t312 == (decide (((tkQ13 ((ji3) : Int).toNat l0_2).length : Int) > 1))))))) else (none)) else (none)) = some r := by first | (rw [hy306]; with_reducible exact H) | (have H2_ := (Option.bind_some _ _).symm.trans H; rw [hy306]; with_reducible exact H2_) | (have H2_ := (Option.bind_some _ _).symm.trans H; with_reducible exact H2_) | with_reducible exact H | (rw [hy306]; exact H) | exact H
                            have Ny306 := Aside0.mk hy306
                            clear hy306
                            by_cases c28 : 1 ≤ ((tkQ13 ((ji3) : Int).toNat l0_2).length : Int)
                            · rw [if_pos c28] at H
                              have c28b0 := eq_true c28
                              have c28b1 : decide (1 ≤ ((tkQ13 ((ji3) : Int).toNat l0_2).length : Int)) = true := decide_eq_true c28
                              clear c28
                              by_cases c29 : t291 = true
                              · subst c29
                                have H1 : ((root_Right.f a0_0 a0_1 y306 (tkQ13 ((ji6) : Int).toNat l0_3)).bind fun t311 => (if t311 = true then (none) else ((root_Right.f a0_0 a0_1 (dkQ13 1 (tkQ13 ((ji3) : Int).toNat l0_2)) (tkQ13 ((ji6) : Int).toNat l0_3)).bind fun t312 => (some (t312 == (decide (((tkQ13 ((ji3) : Int).toNat l0_2).length : Int) > 1))))))) = some r := by rw [if_pos rfl] at H; exact H
                                clear H
                                have H := H1
                                clear H1
                                replace H := Option.bind_eq_some_iff.mp H
                                obtain ⟨t311, A300, H⟩ := H
                                replace H : (if t311 = true then (none) else ((root_Right.f a0_0 a0_1 (dkQ13 1 (tkQ13 ((ji3) : Int).toNat l0_2)) (tkQ13 ((ji6) : Int).toNat l0_3)).bind fun t312 => (some (t312 == (decide (((tkQ13 ((ji3) : Int).toNat l0_2).length : Int) > 1)))))) = some r := H
                                have A30 := Aside0.mk A300
                                clear A300
                                by_cases c31 : t311 = true
                                · subst c31
                                  have H1 : (none) = some r := by rw [if_pos rfl] at H; exact H
                                  clear H
                                  have H := H1
                                  clear H1
                                  exact absurd H (by simp)
                                · replace c31 := Bool.eq_false_iff.mpr c31
                                  subst c31
                                  have H1 : ((root_Right.f a0_0 a0_1 (dkQ13 1 (tkQ13 ((ji3) : Int).toNat l0_2)) (tkQ13 ((ji6) : Int).toNat l0_3)).bind fun t312 => (some (t312 == (decide (((tkQ13 ((ji3) : Int).toNat l0_2).length : Int) > 1))))) = some r := by rw [if_neg (show ¬ (false = true) by decide)] at H; exact H
                                  clear H
                                  have H := H1
                                  clear H1
                                  replace H := Option.bind_eq_some_iff.mp H
                                  obtain ⟨t312, A320, H⟩ := H
                                  replace H : (some (t312 == (decide (((tkQ13 ((ji3) : Int).toNat l0_2).length : Int) > 1)))) = some r := H
                                  have A32 := Aside0.mk A320
                                  clear A320
                                  obtain rfl := Option.some.inj H
                                  have hcz33_0 : wc.cell? ⟨gb290, 0, none⟩ = some (.int .u64 a0_0) := (blk_cell BK290.out 0).trans rfl
                                  have hcz33_1 : wc.cell? ⟨gb290, 1, none⟩ = some (.int .u64 a0_1) := (blk_cell BK290.out 1).trans rfl
                                  have hcz33_2 : wc.cell? ⟨gb290, 2, none⟩ = some (.slice A0_2 (tkQ13 ((ji3) : Int).toNat l0_2).length c0_2) := (blk_cell BK290.out 2).trans rfl
                                  have hcz33_3 : wc.cell? ⟨gb290, 3, none⟩ = some (.slice A0_3 (tkQ13 ((ji6) : Int).toNat l0_3).length c0_3) := (blk_cell BK290.out 3).trans rfl
                                  have hfz33_0 := blk_frozen BK290.out 0
                                  have hfz33_1 := blk_frozen BK290.out 1
                                  have hfz33_2 := blk_frozen BK290.out 2
                                  have hfz33_3 := blk_frozen BK290.out 3
                                  try go_wp2_with (first | ((with_reducible refine gate_dst (N := 4) rfl ?_); (try (refine gate_guard (by rfl) ?_; dsimp only)); refine box_event ?hg (N := 4) ?hd (cs := #[.int .u64 0, .int .u64 0, .slice none 0 0, .slice none 0 0]) (t := 25) ?hr ?_; (case hd => rfl); (case hg => rfl); (case hr => first | (go_simp; done) | (go_simp; rfl)); intro gb295 hg w34 hbox hb; have n0_ := Aside0.mk (blk_below (g := gb290) (o := .cells #[.int .u64 a0_0, .int .u64 a0_1, .slice A0_2 (tkQ13 ((ji3) : Int).toNat l0_2).length c0_2, .slice A0_3 (tkQ13 ((ji6) : Int).toNat l0_3).length c0_3] 25 (0, 0)) (by (with_reducible repeat (first | refine blk_drewN ?_ _ | refine blk_drew ?_ | refine blk_alloc ?_ _)); exact BK290.out) hb); have n1_ := Aside0.mk (below_step (by repeat (first | (with_reducible first | exact HB.out | apply below_alloc | apply pw_below_drewN | apply below_drew1 | refine below_set ?_ GE290.out) | exact HB.out)) hb); have n2_ := Aside0.mk (hbox); have n3_ := Aside0.mk ((by rw [hg]; exact (below_size (by repeat (first | (with_reducible first | exact HB.out | apply below_alloc | apply pw_below_drewN | apply below_drew1 | refine below_set ?_ GE290.out) | exact HB.out))) : w.heap.size ≤ gb295)); have n4_ := Aside0.mk ((by rw [hg]; exact (below_size (by repeat (first | (with_reducible first | exact HB.out | apply below_alloc | apply pw_below_drewN | apply below_drew1 | refine below_set ?_ GE290.out) | exact HB.out))) : w.heap.size ≤ gb295)); have n5_ := Aside0.mk ((by rw [hg]; exact Nat.ne_of_lt (blk_lt (g := gb290) (o := .cells #[.int .u64 a0_0, .int .u64 a0_1, .slice A0_2 (tkQ13 ((ji3) : Int).toNat l0_2).length c0_2, .slice A0_3 (tkQ13 ((ji6) : Int).toNat l0_3).length c0_3] 25 (0, 0)) (by (with_reducible repeat (first | refine blk_drewN ?_ _ | refine blk_drew ?_ | refine blk_alloc ?_ _)); exact BK290.out)) : gb290 ≠ gb295)); have n6_ := Aside0.mk ((by rw [hg]; exact Nat.ne_of_gt (blk_lt (g := gb290) (o := .cells #[.int .u64 a0_0, .int .u64 a0_1, .slice A0_2 (tkQ13 ((ji3) : Int).toNat l0_2).length c0_2, .slice A0_3 (tkQ13 ((ji6) : Int).toNat l0_3).length c0_3] 25 (0, 0)) (by (with_reducible repeat (first | refine blk_drewN ?_ _ | refine blk_drew ?_ | refine blk_alloc ?_ _)); exact BK290.out)) : gb295 ≠ gb290)); clear BK290; clear HB; have BK290 := n0_; have HB := n1_; have BK295 := n2_; have GW295 := n3_; have GE295 := n4_; have NB290_295 := n5_; have NB295_290 := n6_; clear n0_ n1_ n2_ n3_ n4_ n5_ n6_; clear hb hbox hg; have hnb35 := NB295_290.out; have hnc35 := NB290_295.out; have hcz36_0 : w34.cell? ⟨gb295, 0, none⟩ = some (.int .u64 0) := (blk_cell BK295.out 0).trans rfl; have hcz36_1 : w34.cell? ⟨gb295, 1, none⟩ = some (.int .u64 0) := (blk_cell BK295.out 1).trans rfl; have hcz36_2 : w34.cell? ⟨gb295, 2, none⟩ = some (.slice none 0 0) := (blk_cell BK295.out 2).trans rfl; have hcz36_3 : w34.cell? ⟨gb295, 3, none⟩ = some (.slice none 0 0) := (blk_cell BK295.out 3).trans rfl; have hfz36_0 := blk_frozen BK295.out 0; have hfz36_1 := blk_frozen BK295.out 1; have hfz36_2 := blk_frozen BK295.out 2; have hfz36_3 := blk_frozen BK295.out 3))
                                  have n0_ : Aside0 (((((w34.setCell ⟨gb295, 0, none⟩ (.int .u64 a0_0)).setCell ⟨gb295, 1, none⟩ (.int .u64 a0_1)).setCell ⟨gb295, 2, none⟩ (.slice A0_2 (tkQ13 ((ji3) : Int).toNat l0_2).length c0_2)).setCell ⟨gb295, 3, none⟩ (.slice A0_3 (tkQ13 ((ji6) : Int).toNat l0_3).length c0_3)).heap[gb290]? = some (.cells #[.int .u64 a0_0, .int .u64 a0_1, .slice A0_2 (tkQ13 ((ji3) : Int).toNat l0_2).length c0_2, .slice A0_3 (tkQ13 ((ji6) : Int).toNat l0_3).length c0_3] 25 (0, 0))) := ⟨by (with_reducible repeat (first | refine blk_drewN ?_ _ | refine blk_drew ?_ | refine blk_alloc ?_ _)); refine blk_far ?_ NB290_295.out _; (with_reducible repeat (first | refine blk_drewN ?_ _ | refine blk_drew ?_ | refine blk_alloc ?_ _)); refine blk_far ?_ NB290_295.out _; (with_reducible repeat (first | refine blk_drewN ?_ _ | refine blk_drew ?_ | refine blk_alloc ?_ _)); refine blk_far ?_ NB290_295.out _; (with_reducible repeat (first | refine blk_drewN ?_ _ | refine blk_drew ?_ | refine blk_alloc ?_ _)); refine blk_far ?_ NB290_295.out _; (with_reducible repeat (first | refine blk_drewN ?_ _ | refine blk_drew ?_ | refine blk_alloc ?_ _)); exact BK290.out⟩
                                  have n1_ : Aside0 (((((w34.setCell ⟨gb295, 0, none⟩ (.int .u64 a0_0)).setCell ⟨gb295, 1, none⟩ (.int .u64 a0_1)).setCell ⟨gb295, 2, none⟩ (.slice A0_2 (tkQ13 ((ji3) : Int).toNat l0_2).length c0_2)).setCell ⟨gb295, 3, none⟩ (.slice A0_3 (tkQ13 ((ji6) : Int).toNat l0_3).length c0_3)).heap[gb295]? = some (.cells #[.int .u64 a0_0, .int .u64 a0_1, .slice A0_2 (tkQ13 ((ji3) : Int).toNat l0_2).length c0_2, .slice A0_3 (tkQ13 ((ji6) : Int).toNat l0_3).length c0_3] 25 (0, 0))) := ⟨by (with_reducible repeat (first | refine blk_drewN ?_ _ | refine blk_drew ?_ | refine blk_alloc ?_ _)); refine blk_put (cs := #[.int .u64 a0_0, .int .u64 a0_1, .slice A0_2 (tkQ13 ((ji3) : Int).toNat l0_2).length c0_2, .slice none 0 0]) ?_ 3 _ rfl; (with_reducible repeat (first | refine blk_drewN ?_ _ | refine blk_drew ?_ | refine blk_alloc ?_ _)); refine blk_put (cs := #[.int .u64 a0_0, .int .u64 a0_1, .slice none 0 0, .slice none 0 0]) ?_ 2 _ rfl; (with_reducible repeat (first | refine blk_drewN ?_ _ | refine blk_drew ?_ | refine blk_alloc ?_ _)); refine blk_put (cs := #[.int .u64 a0_0, .int .u64 0, .slice none 0 0, .slice none 0 0]) ?_ 1 _ rfl; (with_reducible repeat (first | refine blk_drewN ?_ _ | refine blk_drew ?_ | refine blk_alloc ?_ _)); refine blk_put (cs := #[.int .u64 0, .int .u64 0, .slice none 0 0, .slice none 0 0]) ?_ 0 _ rfl; (with_reducible repeat (first | refine blk_drewN ?_ _ | refine blk_drew ?_ | refine blk_alloc ?_ _)); exact BK295.out⟩
                                  have n2_ : Aside0 (Below w.heap.size w ((((w34.setCell ⟨gb295, 0, none⟩ (.int .u64 a0_0)).setCell ⟨gb295, 1, none⟩ (.int .u64 a0_1)).setCell ⟨gb295, 2, none⟩ (.slice A0_2 (tkQ13 ((ji3) : Int).toNat l0_2).length c0_2)).setCell ⟨gb295, 3, none⟩ (.slice A0_3 (tkQ13 ((ji6) : Int).toNat l0_3).length c0_3))) := ⟨by repeat (first | (with_reducible first | exact HB.out | apply below_alloc | apply pw_below_drewN | apply below_drew1 | refine below_set ?_ GE290.out | refine below_set ?_ GE295.out) | exact HB.out)⟩
                                  (try clear BK290)
                                  (try clear BK295)
                                  (try clear HB)
                                  generalize ((((w34.setCell ⟨gb295, 0, none⟩ (.int .u64 a0_0)).setCell ⟨gb295, 1, none⟩ (.int .u64 a0_1)).setCell ⟨gb295, 2, none⟩ (.slice A0_2 (tkQ13 ((ji3) : Int).toNat l0_2).length c0_2)).setCell ⟨gb295, 3, none⟩ (.slice A0_3 (tkQ13 ((ji6) : Int).toNat l0_3).length c0_3)) = w37 at n0_ n1_ n2_ ⊢
                                  have BK290 := n0_
                                  have BK295 := n1_
                                  have HB := n2_
                                  clear n0_ n1_ n2_
                                  have n0_ := Aside0.mk (blk_drew BK290.out)
                                  have n1_ := Aside0.mk (blk_drew BK295.out)
                                  have n2_ := Aside0.mk (below_drew1 HB.out)
                                  clear BK290
                                  clear BK295
                                  clear HB
                                  have BK290 := n0_
                                  have BK295 := n1_
                                  have HB := n2_
                                  clear n0_ n1_ n2_
                                  have p302 : 0 ≤ (0 : Int) := (by omega)
                                  have q302 : 0 < ((tkQ13 ((ji6) : Int).toNat l0_3).length : Int) := of_decide_eq_true (by first | (with_reducible assumption) | assumption)
                                  obtain ⟨ad302, e302, hx302_0⟩ := Kd.at_int HR293.out 0 p302 q302
                                  have hw302_0 := hx302_0
                                  (try rw [show ((0 : Int)).toNat = 0 from rfl] at hw302_0)
                                  (try rw [show 0 * 1 = 0 from rfl] at hw302_0)
                                  (try rw [Addr.add_zero'] at hw302_0)
                                  cases e302
                                  have qi302 : (0 < (tkQ13 ((ji6) : Int).toNat l0_3).length) = True := eq_true (by omega)
                                  (try rw [show ((0 : Int)).toNat = 0 from rfl] at hx302_0)
                                  (try rw [Addr.add_zero'] at hx302_0)
                                  replace hx302_0 := (HB.out.cell (World.block_lt_of_cell? w _ hx302_0)).trans hx302_0
                                  replace p302 := eq_true p302
                                  replace q302 := eq_true q302
                                  refine start_ (n := 16) (S := fun w' => w'.cell? ⟨gb290, 0, none⟩ = some (.int .u64 a0_0) ∧ w'.cell? ⟨gb290, 1, none⟩ = some (.int .u64 a0_1) ∧ w'.cell? ⟨gb290, 2, none⟩ = some (.slice A0_2 (tkQ13 ((ji3) : Int).toNat l0_2).length c0_2) ∧ w'.cell? ⟨gb290, 3, none⟩ = some (.slice (some ad302) (tkQ13 ((ji6) : Int).toNat l0_3).length c0_3) ∧ w'.cell? ad302 = some (.int .u32 (rd (tkQ13 ((ji6) : Int).toNat l0_3) 0))) (ds := []) #[false, false, false, false, false, false, false, false, false, false, false, false, false, false, false, false] (by kernel_rfl) rfl rfl ⟨(blk_cell BK290.out 0).trans rfl, (blk_cell BK290.out 1).trans rfl, (blk_cell BK290.out 2).trans rfl, (blk_cell BK290.out 3).trans rfl, ((HB.out.cell (World.block_lt_of_cell? w _ hw302_0)).trans hw302_0)⟩ (fun hHeld => ?_); refine with_tabW nautiluslaw16_RootDoubles.tab9 nautiluslaw16_RootDoubles.bits9 (fun HT_ HW_ => ?_)
                                  generalize w37.drew = w38 at BK290 BK295 HB hx302_0 hHeld ⊢
                                  refine pure_ (i := 0) (N := some 38) (v := ?_) (a' := ?_) #[true, false, false, false, false, false, false, false, false, false, false, false, false, false, false, false] rfl rfl (any_of HT_.out (by kernel_rfl)) (fun _ _ _ h => h) (Or.inl ⟨by rfl, ?_⟩) ?_ ?_
                                  rotate_left
                                  · intro w'
                                    go_simp
                                    with_reducible rfl
                                  rotate_left
                                  · simp only [Act.put, List.setIfInBounds_toArray, List.set_cons_zero, List.set_cons_succ, i64_w, i32_w]
                                    rfl
                                  refine pure_ (i := 5) (N := some 43) (v := ?_) (a' := ?_) #[true, false, false, false, false, true, false, false, false, false, false, false, false, false, false, false] rfl rfl (any_of HT_.out (by kernel_rfl)) (fun _ _ _ h => h) (Or.inl ⟨by rfl, ?_⟩) ?_ ?_
                                  rotate_left
                                  · intro w'
                                    go_simp
                                    with_reducible rfl
                                  rotate_left
                                  · simp only [Act.put, List.setIfInBounds_toArray, List.set_cons_zero, List.set_cons_succ, i64_w, i32_w]
                                    rfl
                                  refine pure_ (i := 8) (N := some 46) (v := ?_) (a' := ?_) #[true, false, false, false, false, true, false, false, true, false, false, false, false, false, false, false] rfl rfl (any_of HT_.out (by kernel_rfl)) (fun _ _ _ h => h) (Or.inl ⟨by rfl, ?_⟩) ?_ ?_
                                  rotate_left
                                  · intro w'
                                    go_simp
                                    with_reducible rfl
                                  rotate_left
                                  · simp only [Act.put, List.setIfInBounds_toArray, List.set_cons_zero, List.set_cons_succ, i64_w, i32_w]
                                    rfl
                                  refine take_ (i := 1) (N := some 39) (v := ?_) (a' := ?_) #[true, true, false, false, false, true, false, false, true, false, false, false, false, false, false, false] rfl rfl (take_ofW HT_.out HW_.out (by kernel_rfl)) (fun _ _ _ h => h) (Or.inl ⟨by rfl, ?_⟩) hHeld ?_ ?_
                                  rotate_left
                                  · rintro w' ⟨s0, s1, s2, s3, s4⟩
                                    go_simp
                                    with_reducible rfl
                                  rotate_left
                                  · simp only [Act.put, List.setIfInBounds_toArray, List.set_cons_zero, List.set_cons_succ, i64_w, i32_w]
                                    rfl
                                  refine pure_ (i := 2) (N := some 40) (v := ?_) (a' := ?_) #[true, true, true, false, false, true, false, false, true, false, false, false, false, false, false, false] rfl rfl (any_of HT_.out (by kernel_rfl)) (fun _ _ _ h => h) (Or.inl ⟨by rfl, ?_⟩) ?_ ?_
                                  rotate_left
                                  · intro w'
                                    go_simp
                                    with_reducible rfl
                                  rotate_left
                                  · simp only [Act.put, List.setIfInBounds_toArray, List.set_cons_zero, List.set_cons_succ, i64_w, i32_w]
                                    rfl
                                  refine pure_ (i := 3) (N := some 41) (v := ?_) (a' := ?_) #[true, true, true, true, false, true, false, false, true, false, false, false, false, false, false, false] rfl rfl (any_of HT_.out (by kernel_rfl)) (fun _ _ _ h => h) (Or.inl ⟨by rfl, ?_⟩) ?_ ?_
                                  rotate_left
                                  · intro w'
                                    go_simp
                                    with_reducible rfl
                                  rotate_left
                                  · simp only [Act.put, List.setIfInBounds_toArray, List.set_cons_zero, List.set_cons_succ, i64_w, i32_w]
                                    rfl
                                  refine take_ (i := 6) (N := some 44) (v := ?_) (a' := ?_) #[true, true, true, true, false, true, true, false, true, false, false, false, false, false, false, false] rfl rfl (take_ofW HT_.out HW_.out (by kernel_rfl)) (fun _ _ _ h => h) (Or.inl ⟨by rfl, ?_⟩) hHeld ?_ ?_
                                  rotate_left
                                  · rintro w' ⟨s0, s1, s2, s3, s4⟩
                                    go_simp
                                    with_reducible rfl
                                  rotate_left
                                  · simp only [Act.put, List.setIfInBounds_toArray, List.set_cons_zero, List.set_cons_succ, i64_w, i32_w]
                                    rfl
                                  refine take_ (i := 9) (N := some 47) (v := ?_) (a' := ?_) #[true, true, true, true, false, true, true, false, true, true, false, false, false, false, false, false] rfl rfl (take_ofW HT_.out HW_.out (by kernel_rfl)) (fun _ _ _ h => h) (Or.inl ⟨by rfl, ?_⟩) hHeld ?_ ?_
                                  rotate_left
                                  · rintro w' ⟨s0, s1, s2, s3, s4⟩
                                    go_simp
                                    with_reducible rfl
                                  rotate_left
                                  · simp only [Act.put, List.setIfInBounds_toArray, List.set_cons_zero, List.set_cons_succ, i64_w, i32_w]
                                    rfl
                                  refine pure_ (i := 10) (N := some 48) (v := ?_) (a' := ?_) #[true, true, true, true, false, true, true, false, true, true, true, false, false, false, false, false] rfl rfl (any_of HT_.out (by kernel_rfl)) (fun _ _ _ h => h) (Or.inl ⟨by rfl, ?_⟩) ?_ ?_
                                  rotate_left
                                  · intro w'
                                    go_simp
                                    with_reducible rfl
                                  rotate_left
                                  · simp only [Act.put, List.setIfInBounds_toArray, List.set_cons_zero, List.set_cons_succ, i64_w, i32_w]
                                    rfl
                                  refine take_ (i := 11) (N := some 49) (v := ?_) (a' := ?_) #[true, true, true, true, false, true, true, false, true, true, true, true, false, false, false, false] rfl rfl (take_ofW HT_.out HW_.out (by kernel_rfl)) (fun _ _ _ h => h) (Or.inl ⟨by rfl, ?_⟩) hHeld ?_ ?_
                                  rotate_left
                                  · rintro w' ⟨s0, s1, s2, s3, s4⟩
                                    go_simp
                                    with_reducible rfl
                                  rotate_left
                                  · simp only [Act.put, List.setIfInBounds_toArray, List.set_cons_zero, List.set_cons_succ, i64_w, i32_w]
                                    rfl
                                  refine join_ (σ := Value × Value × Value) 3 #[true, true, true, true, true, true, true, true, true, true, true, true, true, false, false, false] (fun s_ => [(42, s_.1), (45, s_.2.1), (50, s_.2.2)]) (fun s_ w' => (w'.cell? ⟨gb290, 0, none⟩ = some (.int .u64 a0_0) ∧ w'.cell? ⟨gb290, 1, none⟩ = some (.int .u64 a0_1) ∧ w'.cell? ⟨gb290, 2, none⟩ = some (.slice A0_2 (tkQ13 ((ji3) : Int).toNat l0_2).length c0_2) ∧ w'.cell? ⟨gb290, 3, none⟩ = some (.slice (some ad302) (tkQ13 ((ji6) : Int).toNat l0_3).length c0_3) ∧ w'.cell? ad302 = some (.int .u32 (rd (tkQ13 ((ji6) : Int).toNat l0_3) 0))) ∧ (Kd.R (Kd.int .u32) 35 w' w.heap.size (fun k_ => some k_ ≠ (s_.2.2 : Value).ownBlock) s_.2.1 y299) ∧ (Kd.R (Kd.int .u32) 35 w' w.heap.size (fun k_ => some k_ ≠ (s_.2.1 : Value).ownBlock) s_.2.2 y303) ∧ (w'.heap[gb290]? = some (.cells #[.int .u64 a0_0, .int .u64 a0_1, .slice A0_2 (tkQ13 ((ji3) : Int).toNat l0_2).length c0_2, .slice (some ad302) (tkQ13 ((ji6) : Int).toNat l0_3).length c0_3] 25 (0, 0))) ∧ (w'.heap[gb295]? = some (.cells #[.int .u64 a0_0, .int .u64 a0_1, .slice A0_2 (tkQ13 ((ji3) : Int).toNat l0_2).length c0_2, .slice (some ad302) (tkQ13 ((ji6) : Int).toNat l0_3).length c0_3] 25 (0, 0))) ∧ (Below w.heap.size w w')) ?_ ?_
                                  rotate_left
                                  · intro hCont
                                    refine two_ (i := 4) (j := 12) (Ni := some 42) (Nj := some 50) #[true, true, true, true, true, true, true, false, true, true, true, true, false, false, false, false] #[true, true, true, true, false, true, true, false, true, true, true, true, true, false, false, false] rfl rfl rfl rfl (two_of HT_.out (by kernel_rfl)) (by decide) (by decide) (fun K hK => ?_) (fun K hK => ?_)
                                    · skip
                                      refine R_make0_step (Kd.int .u32) _ 35 (by rfl) (N := 42) rfl 23 _ _ rfl ji22 rfl rfl Try.underlying23 (.int .u32 0) 4 info35 rfl (by decide) (by omega) 0 (ok := fun _ => True) (okp := fun _ => True) rfl (fun _ hk => hk) trivial (of_decide_eq_true (by first | (with_reducible assumption) | assumption)) (Nat.le_trans (Nat.mul_le_mul_right _ (of_decide_eq_true (by first | (with_reducible assumption) | assumption) : ji22.toNat ≤ 70368744177664)) (by omega)) (Below.refl _ _) (Nat.le_refl _) ?_
                                      intro v297 w39 ho40 hb hg_ hnew_
                                      clear hg_ hnew_
                                      (first | rw [← Ny296.out] at ho40 | (simp only [Int.reduceToNat] at ho40; rw [← Ny296.out] at ho40))
                                      have n0_ := Aside0.mk (Kd.R_lower ho40 (below_size (by repeat (first | (with_reducible first | exact HB.out | apply below_alloc | apply pw_below_drewN | apply below_drew1 | refine below_set ?_ GE290.out | refine below_set ?_ GE295.out) | exact HB.out))))
                                      have n1_ := Aside0.mk (blk_below (g := gb290) (o := .cells #[.int .u64 a0_0, .int .u64 a0_1, .slice A0_2 (tkQ13 ((ji3) : Int).toNat l0_2).length c0_2, .slice (some ad302) (tkQ13 ((ji6) : Int).toNat l0_3).length c0_3] 25 (0, 0)) (by (with_reducible repeat (first | refine blk_drewN ?_ _ | refine blk_drew ?_ | refine blk_alloc ?_ _)); exact BK290.out) hb)
                                      have n2_ := Aside0.mk (blk_below (g := gb295) (o := .cells #[.int .u64 a0_0, .int .u64 a0_1, .slice A0_2 (tkQ13 ((ji3) : Int).toNat l0_2).length c0_2, .slice (some ad302) (tkQ13 ((ji6) : Int).toNat l0_3).length c0_3] 25 (0, 0)) (by (with_reducible repeat (first | refine blk_drewN ?_ _ | refine blk_drew ?_ | refine blk_alloc ?_ _)); exact BK295.out) hb)
                                      have n3_ := Aside0.mk (below_step (by repeat (first | (with_reducible first | exact HB.out | apply below_alloc | apply pw_below_drewN | apply below_drew1 | refine below_set ?_ GE290.out | refine below_set ?_ GE295.out) | exact HB.out)) hb)
                                      clear BK290
                                      clear BK295
                                      clear HB
                                      have HO298 := n0_
                                      have BK290 := n1_
                                      have BK295 := n2_
                                      have HB := n3_
                                      clear n0_ n1_ n2_ n3_
                                      clear hb ho40
                                      refine hK.out _ _ ⟨(blk_cell BK290.out 0).trans rfl, (blk_cell BK290.out 1).trans rfl, (blk_cell BK290.out 2).trans rfl, (blk_cell BK290.out 3).trans rfl, ((HB.out.cell (World.block_lt_of_cell? w _ hw302_0)).trans hw302_0)⟩ (fun hHeld => ?_)
                                      clear hK K
                                      refine norm_ (a' := ?_) ?_ ?_
                                      rotate_left
                                      · show Act.put _ (some 42) _ = _
                                        simp only [Act.put, List.setIfInBounds_toArray, List.set_cons_zero, List.set_cons_succ, i64_w, i32_w]
                                        rfl
                                      refine two_ (i := 7) (j := 12) (Ni := some 45) (Nj := some 50) #[true, true, true, true, true, true, true, true, true, true, true, true, false, false, false, false] #[true, true, true, true, true, true, true, false, true, true, true, true, true, false, false, false] rfl rfl rfl rfl (two_of HT_.out (by kernel_rfl)) (by decide) (by decide) (fun K hK => ?_) (fun K hK => ?_)
                                      · skip
                                        refine Kd.R_append_rows_step (Kd.int .u32) (w0 := w) w.heap.size (by rfl) (.tmp 42) (.tmp 44) 23 35 (.int .u32 0) 4 rfl Try.underlying23 info35 rfl (by decide) (by omega) v297 y296 (tkQ13 ((ji3) : Int).toNat l0_2) _ _ _ (fun _ => True) (fun _ => False) rfl rfl ?aO ?aR (fun _ _ h => h) (fun _ h => h.elim) ?aF ?aB ?aS ?aL ?_
                                        (case aR => first | (repeat (first | exact (Kd.C_below HR292.out HB.out) | (with_reducible refine Kd.C_alloc ?_ _) | (with_reducible refine Kd.C_drewN ?_ _) | (with_reducible refine Kd.C_drew ?_))) | (repeat (first | exact (Kd.C_below HR292.out HB.out) | (with_reducible refine Kd.C_alloc ?_ _) | (with_reducible refine Kd.C_drewN ?_ _) | (with_reducible refine Kd.C_drew ?_))))
                                        (case aB => exact (by repeat (first | (with_reducible first | exact HB.out | apply below_alloc | apply pw_below_drewN | apply below_drew1 | refine below_set ?_ GE290.out | refine below_set ?_ GE295.out) | exact HB.out)))
                                        (case aF => exact (fun _ _ => trivial))
                                        (case aO => exact (by (with_reducible repeat (first | apply Kd.R_alloc | apply Kd.R_drewN | apply Kd.R_drew)); exact HO298.out))
                                        (case aS => exact (below_size (by repeat (first | (with_reducible first | exact HB.out | apply below_alloc | apply pw_below_drewN | apply below_drew1 | refine below_set ?_ GE290.out | refine below_set ?_ GE295.out) | exact HB.out))))
                                        (case aL => have := LMc25.out; have hlx_ := (show (tkQ13 ((ji3) : Int).toNat l0_2).length = (ji3).toNat from (by rw [tkQ13_len]; have h_ : ((ji3) : Int) ≤ (l0_2.length : Int) := (by first | (exact of_decide_eq_true (by with_reducible assumption)) | (rw [← hji3]; unfold mn; (repeat' split) <;> omega) | exact of_decide_eq_true (by assumption)); omega)); omega)
                                        intro v300 w41 ho hb hg hat
                                        rw [← Ny299.out] at ho
                                        have n0_ := Aside0.mk (blk_grown (g := gb290) (o := .cells #[.int .u64 a0_0, .int .u64 a0_1, .slice A0_2 (tkQ13 ((ji3) : Int).toNat l0_2).length c0_2, .slice (some ad302) (tkQ13 ((ji6) : Int).toNat l0_3).length c0_3] 25 (0, 0)) (by (with_reducible repeat (first | refine blk_drewN ?_ _ | refine blk_drew ?_ | refine blk_alloc ?_ _)); exact BK290.out) hg (Kd.R_ne HO298.out BK290.out (by decide)))
                                        have n1_ := Aside0.mk (blk_grown (g := gb295) (o := .cells #[.int .u64 a0_0, .int .u64 a0_1, .slice A0_2 (tkQ13 ((ji3) : Int).toNat l0_2).length c0_2, .slice (some ad302) (tkQ13 ((ji6) : Int).toNat l0_3).length c0_3] 25 (0, 0)) (by (with_reducible repeat (first | refine blk_drewN ?_ _ | refine blk_drew ?_ | refine blk_alloc ?_ _)); exact BK295.out) hg (Kd.R_ne HO298.out BK295.out (by decide)))
                                        have n2_ := Aside0.mk (hb)
                                        have n3_ := Aside0.mk (ho)
                                        clear BK290
                                        clear BK295
                                        clear HB
                                        clear HO298
                                        have BK290 := n0_
                                        have BK295 := n1_
                                        have HB := n2_
                                        have HO301 := n3_
                                        clear n0_ n1_ n2_ n3_
                                        clear ho hb hg hat
                                        refine hK.out _ _ ⟨(blk_cell BK290.out 0).trans rfl, (blk_cell BK290.out 1).trans rfl, (blk_cell BK290.out 2).trans rfl, (blk_cell BK290.out 3).trans rfl, ((HB.out.cell (World.block_lt_of_cell? w _ hw302_0)).trans hw302_0)⟩ (fun hHeld => ?_)
                                        clear hK K
                                        refine norm_ (a' := ?_) ?_ ?_
                                        rotate_left
                                        · show Act.put _ (some 45) _ = _
                                          simp only [Act.put, List.setIfInBounds_toArray, List.set_cons_zero, List.set_cons_succ, i64_w, i32_w]
                                          rfl
                                        refine one_ (i := 12) (N := some 50) #[true, true, true, true, true, true, true, true, true, true, true, true, true, false, false, false] rfl rfl (one_of HT_.out (by kernel_rfl)) (by decide) (fun K hK => ?_)
                                        refine Kd.R_lit_step (Kd.int .u32) _ 35 ?hg (N := 50) ?hd (xs := ([rd (tkQ13 ((ji6) : Int).toNat l0_3) 0] : List Int)) (inner := [.int .u32 (rd (tkQ13 ((ji6) : Int).toNat l0_3) 0)]) (ok := fun _ => True) (okp := fun _ => True) ?hr ?hp (fun _ hk => hk) trivial (Below.refl _ _) (Nat.le_refl _) (by simp) ?_; (case hd => rfl); (case hg => rfl); (case hr => first | (go_simp; done) | (go_simp; rfl)); (case hp => exact (Reps.one (show Kd.M (Kd.int .u32) _ _ _ (rd (tkQ13 ((ji6) : Int).toNat l0_3) 0) [.int .u32 (rd (tkQ13 ((ji6) : Int).toNat l0_3) 0)] from rfl) (Reps.none _ _)))
                                        intro v304 w42 ho43 hb hg_ hnew_
                                        clear hg_ hnew_
                                        (first | rw [← Ny303.out] at ho43 | (simp only [Int.reduceToNat] at ho43; rw [← Ny303.out] at ho43))
                                        have n0_ := Aside0.mk (Kd.R_elder' (by (with_reducible repeat (first | apply Kd.R_alloc | apply Kd.R_drewN | apply Kd.R_drew)); exact HO301.out) (Kd.R_base ho43) hb)
                                        have n1_ := Aside0.mk (Kd.R_lower (Kd.R_new' ho43 (Kd.R_lt (by (with_reducible repeat (first | apply Kd.R_alloc | apply Kd.R_drewN | apply Kd.R_drew)); exact HO301.out))) (below_size (by repeat (first | (with_reducible first | exact HB.out | apply below_alloc | apply pw_below_drewN | apply below_drew1 | refine below_set ?_ GE290.out | refine below_set ?_ GE295.out) | exact HB.out))))
                                        have n2_ := Aside0.mk (blk_below (g := gb290) (o := .cells #[.int .u64 a0_0, .int .u64 a0_1, .slice A0_2 (tkQ13 ((ji3) : Int).toNat l0_2).length c0_2, .slice (some ad302) (tkQ13 ((ji6) : Int).toNat l0_3).length c0_3] 25 (0, 0)) (by (with_reducible repeat (first | refine blk_drewN ?_ _ | refine blk_drew ?_ | refine blk_alloc ?_ _)); exact BK290.out) hb)
                                        have n3_ := Aside0.mk (blk_below (g := gb295) (o := .cells #[.int .u64 a0_0, .int .u64 a0_1, .slice A0_2 (tkQ13 ((ji3) : Int).toNat l0_2).length c0_2, .slice (some ad302) (tkQ13 ((ji6) : Int).toNat l0_3).length c0_3] 25 (0, 0)) (by (with_reducible repeat (first | refine blk_drewN ?_ _ | refine blk_drew ?_ | refine blk_alloc ?_ _)); exact BK295.out) hb)
                                        have n4_ := Aside0.mk (below_step (by repeat (first | (with_reducible first | exact HB.out | apply below_alloc | apply pw_below_drewN | apply below_drew1 | refine below_set ?_ GE290.out | refine below_set ?_ GE295.out) | exact HB.out)) hb)
                                        clear HO301
                                        clear BK290
                                        clear BK295
                                        clear HB
                                        have HO301 := n0_
                                        have HO305 := n1_
                                        have BK290 := n2_
                                        have BK295 := n3_
                                        have HB := n4_
                                        clear n0_ n1_ n2_ n3_ n4_
                                        clear hb ho43
                                        refine hK.out _ _ ⟨(blk_cell BK290.out 0).trans rfl, (blk_cell BK290.out 1).trans rfl, (blk_cell BK290.out 2).trans rfl, (blk_cell BK290.out 3).trans rfl, ((HB.out.cell (World.block_lt_of_cell? w _ hw302_0)).trans hw302_0)⟩ (fun hHeld => ?_)
                                        clear hK K
                                        refine norm_ (a' := ?_) ?_ ?_
                                        rotate_left
                                        · show Act.put _ (some 50) _ = _
                                          simp only [Act.put, List.setIfInBounds_toArray, List.set_cons_zero, List.set_cons_succ, i64_w, i32_w]
                                          rfl
                                        exact norm_ (by simp only [putAll, Act.put, List.setIfInBounds_toArray, List.set_cons_zero, List.set_cons_succ]) (hCont (v297, v300, v304) _ ⟨hHeld, (by (with_reducible repeat (first | apply Kd.R_alloc | apply Kd.R_drewN | apply Kd.R_drew)); exact Kd.R_mono HO301.out (fun _ hk => hk.2)), (by (with_reducible repeat (first | apply Kd.R_alloc | apply Kd.R_drewN | apply Kd.R_drew)); exact Kd.R_mono HO305.out (fun _ hk => hk.2)), (by (with_reducible repeat (first | refine blk_drewN ?_ _ | refine blk_drew ?_ | refine blk_alloc ?_ _)); exact BK290.out), (by (with_reducible repeat (first | refine blk_drewN ?_ _ | refine blk_drew ?_ | refine blk_alloc ?_ _)); exact BK295.out), (by repeat (first | (with_reducible first | exact HB.out | apply below_alloc | apply pw_below_drewN | apply below_drew1 | refine below_set ?_ GE290.out | refine below_set ?_ GE295.out) | exact HB.out))⟩)
                                      · skip
                                        refine Kd.R_lit_step (Kd.int .u32) _ 35 ?hg (N := 50) ?hd (xs := ([rd (tkQ13 ((ji6) : Int).toNat l0_3) 0] : List Int)) (inner := [.int .u32 (rd (tkQ13 ((ji6) : Int).toNat l0_3) 0)]) (ok := fun _ => True) (okp := fun _ => True) ?hr ?hp (fun _ hk => hk) trivial (Below.refl _ _) (Nat.le_refl _) (by simp) ?_; (case hd => rfl); (case hg => rfl); (case hr => first | (go_simp; done) | (go_simp; rfl)); (case hp => exact (Reps.one (show Kd.M (Kd.int .u32) _ _ _ (rd (tkQ13 ((ji6) : Int).toNat l0_3) 0) [.int .u32 (rd (tkQ13 ((ji6) : Int).toNat l0_3) 0)] from rfl) (Reps.none _ _)))
                                        intro v304 w41 ho42 hb hg_ hnew_
                                        clear hg_ hnew_
                                        (first | rw [← Ny303.out] at ho42 | (simp only [Int.reduceToNat] at ho42; rw [← Ny303.out] at ho42))
                                        have n0_ := Aside0.mk (Kd.R_elder' (by (with_reducible repeat (first | apply Kd.R_alloc | apply Kd.R_drewN | apply Kd.R_drew)); exact HO298.out) (Kd.R_base ho42) hb)
                                        have n1_ := Aside0.mk (Kd.R_lower (Kd.R_new' ho42 (Kd.R_lt (by (with_reducible repeat (first | apply Kd.R_alloc | apply Kd.R_drewN | apply Kd.R_drew)); exact HO298.out))) (below_size (by repeat (first | (with_reducible first | exact HB.out | apply below_alloc | apply pw_below_drewN | apply below_drew1 | refine below_set ?_ GE290.out | refine below_set ?_ GE295.out) | exact HB.out))))
                                        have n2_ := Aside0.mk (blk_below (g := gb290) (o := .cells #[.int .u64 a0_0, .int .u64 a0_1, .slice A0_2 (tkQ13 ((ji3) : Int).toNat l0_2).length c0_2, .slice (some ad302) (tkQ13 ((ji6) : Int).toNat l0_3).length c0_3] 25 (0, 0)) (by (with_reducible repeat (first | refine blk_drewN ?_ _ | refine blk_drew ?_ | refine blk_alloc ?_ _)); exact BK290.out) hb)
                                        have n3_ := Aside0.mk (blk_below (g := gb295) (o := .cells #[.int .u64 a0_0, .int .u64 a0_1, .slice A0_2 (tkQ13 ((ji3) : Int).toNat l0_2).length c0_2, .slice (some ad302) (tkQ13 ((ji6) : Int).toNat l0_3).length c0_3] 25 (0, 0)) (by (with_reducible repeat (first | refine blk_drewN ?_ _ | refine blk_drew ?_ | refine blk_alloc ?_ _)); exact BK295.out) hb)
                                        have n4_ := Aside0.mk (below_step (by repeat (first | (with_reducible first | exact HB.out | apply below_alloc | apply pw_below_drewN | apply below_drew1 | refine below_set ?_ GE290.out | refine below_set ?_ GE295.out) | exact HB.out)) hb)
                                        clear HO298
                                        clear BK290
                                        clear BK295
                                        clear HB
                                        have HO298 := n0_
                                        have HO305 := n1_
                                        have BK290 := n2_
                                        have BK295 := n3_
                                        have HB := n4_
                                        clear n0_ n1_ n2_ n3_ n4_
                                        clear hb ho42
                                        refine hK.out _ _ ⟨(blk_cell BK290.out 0).trans rfl, (blk_cell BK290.out 1).trans rfl, (blk_cell BK290.out 2).trans rfl, (blk_cell BK290.out 3).trans rfl, ((HB.out.cell (World.block_lt_of_cell? w _ hw302_0)).trans hw302_0)⟩ (fun hHeld => ?_)
                                        clear hK K
                                        refine norm_ (a' := ?_) ?_ ?_
                                        rotate_left
                                        · show Act.put _ (some 50) _ = _
                                          simp only [Act.put, List.setIfInBounds_toArray, List.set_cons_zero, List.set_cons_succ, i64_w, i32_w]
                                          rfl
                                        refine one_ (i := 7) (N := some 45) #[true, true, true, true, true, true, true, true, true, true, true, true, true, false, false, false] rfl rfl (one_of HT_.out (by kernel_rfl)) (by decide) (fun K hK => ?_)
                                        refine Kd.R_append_rows_step (Kd.int .u32) (w0 := w) w.heap.size (by rfl) (.tmp 42) (.tmp 44) 23 35 (.int .u32 0) 4 rfl Try.underlying23 info35 rfl (by decide) (by omega) v297 y296 (tkQ13 ((ji3) : Int).toNat l0_2) _ _ _ (fun k_ => some k_ ≠ (v304 : Value).ownBlock) (fun _ => False) rfl rfl ?aO ?aR (fun _ _ h => h) (fun _ h => h.elim) ?aF ?aB ?aS ?aL ?_
                                        (case aR => first | (repeat (first | exact (Kd.C_below HR292.out HB.out) | (with_reducible refine Kd.C_alloc ?_ _) | (with_reducible refine Kd.C_drewN ?_ _) | (with_reducible refine Kd.C_drew ?_))) | (repeat (first | exact (Kd.C_below HR292.out HB.out) | (with_reducible refine Kd.C_alloc ?_ _) | (with_reducible refine Kd.C_drewN ?_ _) | (with_reducible refine Kd.C_drew ?_))))
                                        (case aB => exact (by repeat (first | (with_reducible first | exact HB.out | apply below_alloc | apply pw_below_drewN | apply below_drew1 | refine below_set ?_ GE290.out | refine below_set ?_ GE295.out) | exact HB.out)))
                                        (case aF => exact (fun k_ hk => Kd.fresh' (Kd.R_lt (by (with_reducible repeat (first | apply Kd.R_alloc | apply Kd.R_drewN | apply Kd.R_drew)); exact HO305.out)) k_ hk))
                                        (case aO => exact (by (with_reducible repeat (first | apply Kd.R_alloc | apply Kd.R_drewN | apply Kd.R_drew)); exact Kd.R_mono HO298.out (fun _ hk => hk.2)))
                                        (case aS => exact (below_size (by repeat (first | (with_reducible first | exact HB.out | apply below_alloc | apply pw_below_drewN | apply below_drew1 | refine below_set ?_ GE290.out | refine below_set ?_ GE295.out) | exact HB.out))))
                                        (case aL => have := LMc25.out; have hlx_ := (show (tkQ13 ((ji3) : Int).toNat l0_2).length = (ji3).toNat from (by rw [tkQ13_len]; have h_ : ((ji3) : Int) ≤ (l0_2.length : Int) := (by first | (exact of_decide_eq_true (by with_reducible assumption)) | (rw [← hji3]; unfold mn; (repeat' split) <;> omega) | exact of_decide_eq_true (by assumption)); omega)); omega)
                                        intro v300 w43 ho hb hg hat
                                        rw [← Ny299.out] at ho
                                        have n0_ := Aside0.mk (blk_grown (g := gb290) (o := .cells #[.int .u64 a0_0, .int .u64 a0_1, .slice A0_2 (tkQ13 ((ji3) : Int).toNat l0_2).length c0_2, .slice (some ad302) (tkQ13 ((ji6) : Int).toNat l0_3).length c0_3] 25 (0, 0)) (by (with_reducible repeat (first | refine blk_drewN ?_ _ | refine blk_drew ?_ | refine blk_alloc ?_ _)); exact BK290.out) hg (Kd.R_ne HO298.out BK290.out (by decide)))
                                        have n1_ := Aside0.mk (blk_grown (g := gb295) (o := .cells #[.int .u64 a0_0, .int .u64 a0_1, .slice A0_2 (tkQ13 ((ji3) : Int).toNat l0_2).length c0_2, .slice (some ad302) (tkQ13 ((ji6) : Int).toNat l0_3).length c0_3] 25 (0, 0)) (by (with_reducible repeat (first | refine blk_drewN ?_ _ | refine blk_drew ?_ | refine blk_alloc ?_ _)); exact BK295.out) hg (Kd.R_ne HO298.out BK295.out (by decide)))
                                        have n2_ := Aside0.mk (Kd.R_after (ok := (fun _ => True)) (by (with_reducible repeat (first | apply Kd.R_alloc | apply Kd.R_drewN | apply Kd.R_drew)); exact HO305.out) hg hat)
                                        have n3_ := Aside0.mk (hb)
                                        have n4_ := Aside0.mk (ho)
                                        clear BK290
                                        clear BK295
                                        clear HO305
                                        clear HB
                                        clear HO298
                                        have BK290 := n0_
                                        have BK295 := n1_
                                        have HO305 := n2_
                                        have HB := n3_
                                        have HO301 := n4_
                                        clear n0_ n1_ n2_ n3_ n4_
                                        clear ho hb hg hat
                                        refine hK.out _ _ ⟨(blk_cell BK290.out 0).trans rfl, (blk_cell BK290.out 1).trans rfl, (blk_cell BK290.out 2).trans rfl, (blk_cell BK290.out 3).trans rfl, ((HB.out.cell (World.block_lt_of_cell? w _ hw302_0)).trans hw302_0)⟩ (fun hHeld => ?_)
                                        clear hK K
                                        refine norm_ (a' := ?_) ?_ ?_
                                        rotate_left
                                        · show Act.put _ (some 45) _ = _
                                          simp only [Act.put, List.setIfInBounds_toArray, List.set_cons_zero, List.set_cons_succ, i64_w, i32_w]
                                          rfl
                                        exact norm_ (by simp only [putAll, Act.put, List.setIfInBounds_toArray, List.set_cons_zero, List.set_cons_succ]) (hCont (v297, v300, v304) _ ⟨hHeld, (by (with_reducible repeat (first | apply Kd.R_alloc | apply Kd.R_drewN | apply Kd.R_drew)); exact HO301.out), (by (with_reducible repeat (first | apply Kd.R_alloc | apply Kd.R_drewN | apply Kd.R_drew)); exact Kd.R_mono HO305.out (fun _ hk => hk.2)), (by (with_reducible repeat (first | refine blk_drewN ?_ _ | refine blk_drew ?_ | refine blk_alloc ?_ _)); exact BK290.out), (by (with_reducible repeat (first | refine blk_drewN ?_ _ | refine blk_drew ?_ | refine blk_alloc ?_ _)); exact BK295.out), (by repeat (first | (with_reducible first | exact HB.out | apply below_alloc | apply pw_below_drewN | apply below_drew1 | refine below_set ?_ GE290.out | refine below_set ?_ GE295.out) | exact HB.out))⟩)
                                    · skip
                                      refine Kd.R_lit_step (Kd.int .u32) _ 35 ?hg (N := 50) ?hd (xs := ([rd (tkQ13 ((ji6) : Int).toNat l0_3) 0] : List Int)) (inner := [.int .u32 (rd (tkQ13 ((ji6) : Int).toNat l0_3) 0)]) (ok := fun _ => True) (okp := fun _ => True) ?hr ?hp (fun _ hk => hk) trivial (Below.refl _ _) (Nat.le_refl _) (by simp) ?_; (case hd => rfl); (case hg => rfl); (case hr => first | (go_simp; done) | (go_simp; rfl)); (case hp => exact (Reps.one (show Kd.M (Kd.int .u32) _ _ _ (rd (tkQ13 ((ji6) : Int).toNat l0_3) 0) [.int .u32 (rd (tkQ13 ((ji6) : Int).toNat l0_3) 0)] from rfl) (Reps.none _ _)))
                                      intro v304 w39 ho40 hb hg_ hnew_
                                      clear hg_ hnew_
                                      (first | rw [← Ny303.out] at ho40 | (simp only [Int.reduceToNat] at ho40; rw [← Ny303.out] at ho40))
                                      have n0_ := Aside0.mk (Kd.R_lower ho40 (below_size (by repeat (first | (with_reducible first | exact HB.out | apply below_alloc | apply pw_below_drewN | apply below_drew1 | refine below_set ?_ GE290.out | refine below_set ?_ GE295.out) | exact HB.out))))
                                      have n1_ := Aside0.mk (blk_below (g := gb290) (o := .cells #[.int .u64 a0_0, .int .u64 a0_1, .slice A0_2 (tkQ13 ((ji3) : Int).toNat l0_2).length c0_2, .slice (some ad302) (tkQ13 ((ji6) : Int).toNat l0_3).length c0_3] 25 (0, 0)) (by (with_reducible repeat (first | refine blk_drewN ?_ _ | refine blk_drew ?_ | refine blk_alloc ?_ _)); exact BK290.out) hb)
                                      have n2_ := Aside0.mk (blk_below (g := gb295) (o := .cells #[.int .u64 a0_0, .int .u64 a0_1, .slice A0_2 (tkQ13 ((ji3) : Int).toNat l0_2).length c0_2, .slice (some ad302) (tkQ13 ((ji6) : Int).toNat l0_3).length c0_3] 25 (0, 0)) (by (with_reducible repeat (first | refine blk_drewN ?_ _ | refine blk_drew ?_ | refine blk_alloc ?_ _)); exact BK295.out) hb)
                                      have n3_ := Aside0.mk (below_step (by repeat (first | (with_reducible first | exact HB.out | apply below_alloc | apply pw_below_drewN | apply below_drew1 | refine below_set ?_ GE290.out | refine below_set ?_ GE295.out) | exact HB.out)) hb)
                                      clear BK290
                                      clear BK295
                                      clear HB
                                      have HO305 := n0_
                                      have BK290 := n1_
                                      have BK295 := n2_
                                      have HB := n3_
                                      clear n0_ n1_ n2_ n3_
                                      clear hb ho40
                                      refine hK.out _ _ ⟨(blk_cell BK290.out 0).trans rfl, (blk_cell BK290.out 1).trans rfl, (blk_cell BK290.out 2).trans rfl, (blk_cell BK290.out 3).trans rfl, ((HB.out.cell (World.block_lt_of_cell? w _ hw302_0)).trans hw302_0)⟩ (fun hHeld => ?_)
                                      clear hK K
                                      refine norm_ (a' := ?_) ?_ ?_
                                      rotate_left
                                      · show Act.put _ (some 50) _ = _
                                        simp only [Act.put, List.setIfInBounds_toArray, List.set_cons_zero, List.set_cons_succ, i64_w, i32_w]
                                        rfl
                                      refine one_ (i := 4) (N := some 42) #[true, true, true, true, true, true, true, false, true, true, true, true, true, false, false, false] rfl rfl (one_of HT_.out (by kernel_rfl)) (by decide) (fun K hK => ?_)
                                      refine R_make0_step (Kd.int .u32) _ 35 (by rfl) (N := 42) rfl 23 _ _ rfl ji22 rfl rfl Try.underlying23 (.int .u32 0) 4 info35 rfl (by decide) (by omega) 0 (ok := fun _ => True) (okp := fun _ => True) rfl (fun _ hk => hk) trivial (of_decide_eq_true (by first | (with_reducible assumption) | assumption)) (Nat.le_trans (Nat.mul_le_mul_right _ (of_decide_eq_true (by first | (with_reducible assumption) | assumption) : ji22.toNat ≤ 70368744177664)) (by omega)) (Below.refl _ _) (Nat.le_refl _) ?_
                                      intro v297 w41 ho42 hb hg_ hnew_
                                      clear hg_ hnew_
                                      (first | rw [← Ny296.out] at ho42 | (simp only [Int.reduceToNat] at ho42; rw [← Ny296.out] at ho42))
                                      have n0_ := Aside0.mk (Kd.R_elder' (by (with_reducible repeat (first | apply Kd.R_alloc | apply Kd.R_drewN | apply Kd.R_drew)); exact HO305.out) (Kd.R_base ho42) hb)
                                      have n1_ := Aside0.mk (Kd.R_lower (Kd.R_new' ho42 (Kd.R_lt (by (with_reducible repeat (first | apply Kd.R_alloc | apply Kd.R_drewN | apply Kd.R_drew)); exact HO305.out))) (below_size (by repeat (first | (with_reducible first | exact HB.out | apply below_alloc | apply pw_below_drewN | apply below_drew1 | refine below_set ?_ GE290.out | refine below_set ?_ GE295.out) | exact HB.out))))
                                      have n2_ := Aside0.mk (blk_below (g := gb290) (o := .cells #[.int .u64 a0_0, .int .u64 a0_1, .slice A0_2 (tkQ13 ((ji3) : Int).toNat l0_2).length c0_2, .slice (some ad302) (tkQ13 ((ji6) : Int).toNat l0_3).length c0_3] 25 (0, 0)) (by (with_reducible repeat (first | refine blk_drewN ?_ _ | refine blk_drew ?_ | refine blk_alloc ?_ _)); exact BK290.out) hb)
                                      have n3_ := Aside0.mk (blk_below (g := gb295) (o := .cells #[.int .u64 a0_0, .int .u64 a0_1, .slice A0_2 (tkQ13 ((ji3) : Int).toNat l0_2).length c0_2, .slice (some ad302) (tkQ13 ((ji6) : Int).toNat l0_3).length c0_3] 25 (0, 0)) (by (with_reducible repeat (first | refine blk_drewN ?_ _ | refine blk_drew ?_ | refine blk_alloc ?_ _)); exact BK295.out) hb)
                                      have n4_ := Aside0.mk (below_step (by repeat (first | (with_reducible first | exact HB.out | apply below_alloc | apply pw_below_drewN | apply below_drew1 | refine below_set ?_ GE290.out | refine below_set ?_ GE295.out) | exact HB.out)) hb)
                                      clear HO305
                                      clear BK290
                                      clear BK295
                                      clear HB
                                      have HO305 := n0_
                                      have HO298 := n1_
                                      have BK290 := n2_
                                      have BK295 := n3_
                                      have HB := n4_
                                      clear n0_ n1_ n2_ n3_ n4_
                                      clear hb ho42
                                      refine hK.out _ _ ⟨(blk_cell BK290.out 0).trans rfl, (blk_cell BK290.out 1).trans rfl, (blk_cell BK290.out 2).trans rfl, (blk_cell BK290.out 3).trans rfl, ((HB.out.cell (World.block_lt_of_cell? w _ hw302_0)).trans hw302_0)⟩ (fun hHeld => ?_)
                                      clear hK K
                                      refine norm_ (a' := ?_) ?_ ?_
                                      rotate_left
                                      · show Act.put _ (some 42) _ = _
                                        simp only [Act.put, List.setIfInBounds_toArray, List.set_cons_zero, List.set_cons_succ, i64_w, i32_w]
                                        rfl
                                      refine one_ (i := 7) (N := some 45) #[true, true, true, true, true, true, true, true, true, true, true, true, true, false, false, false] rfl rfl (one_of HT_.out (by kernel_rfl)) (by decide) (fun K hK => ?_)
                                      refine Kd.R_append_rows_step (Kd.int .u32) (w0 := w) w.heap.size (by rfl) (.tmp 42) (.tmp 44) 23 35 (.int .u32 0) 4 rfl Try.underlying23 info35 rfl (by decide) (by omega) v297 y296 (tkQ13 ((ji3) : Int).toNat l0_2) _ _ _ (fun k_ => some k_ ≠ (v304 : Value).ownBlock) (fun _ => False) rfl rfl ?aO ?aR (fun _ _ h => h) (fun _ h => h.elim) ?aF ?aB ?aS ?aL ?_
                                      (case aR => first | (repeat (first | exact (Kd.C_below HR292.out HB.out) | (with_reducible refine Kd.C_alloc ?_ _) | (with_reducible refine Kd.C_drewN ?_ _) | (with_reducible refine Kd.C_drew ?_))) | (repeat (first | exact (Kd.C_below HR292.out HB.out) | (with_reducible refine Kd.C_alloc ?_ _) | (with_reducible refine Kd.C_drewN ?_ _) | (with_reducible refine Kd.C_drew ?_))))
                                      (case aB => exact (by repeat (first | (with_reducible first | exact HB.out | apply below_alloc | apply pw_below_drewN | apply below_drew1 | refine below_set ?_ GE290.out | refine below_set ?_ GE295.out) | exact HB.out)))
                                      (case aF => exact (fun k_ hk => Kd.fresh' (Kd.R_lt (by (with_reducible repeat (first | apply Kd.R_alloc | apply Kd.R_drewN | apply Kd.R_drew)); exact HO305.out)) k_ hk))
                                      (case aO => exact (by (with_reducible repeat (first | apply Kd.R_alloc | apply Kd.R_drewN | apply Kd.R_drew)); exact Kd.R_mono HO298.out (fun _ hk => hk.2)))
                                      (case aS => exact (below_size (by repeat (first | (with_reducible first | exact HB.out | apply below_alloc | apply pw_below_drewN | apply below_drew1 | refine below_set ?_ GE290.out | refine below_set ?_ GE295.out) | exact HB.out))))
                                      (case aL => have := LMc25.out; have hlx_ := (show (tkQ13 ((ji3) : Int).toNat l0_2).length = (ji3).toNat from (by rw [tkQ13_len]; have h_ : ((ji3) : Int) ≤ (l0_2.length : Int) := (by first | (exact of_decide_eq_true (by with_reducible assumption)) | (rw [← hji3]; unfold mn; (repeat' split) <;> omega) | exact of_decide_eq_true (by assumption)); omega)); omega)
                                      intro v300 w43 ho hb hg hat
                                      rw [← Ny299.out] at ho
                                      have n0_ := Aside0.mk (blk_grown (g := gb290) (o := .cells #[.int .u64 a0_0, .int .u64 a0_1, .slice A0_2 (tkQ13 ((ji3) : Int).toNat l0_2).length c0_2, .slice (some ad302) (tkQ13 ((ji6) : Int).toNat l0_3).length c0_3] 25 (0, 0)) (by (with_reducible repeat (first | refine blk_drewN ?_ _ | refine blk_drew ?_ | refine blk_alloc ?_ _)); exact BK290.out) hg (Kd.R_ne HO298.out BK290.out (by decide)))
                                      have n1_ := Aside0.mk (blk_grown (g := gb295) (o := .cells #[.int .u64 a0_0, .int .u64 a0_1, .slice A0_2 (tkQ13 ((ji3) : Int).toNat l0_2).length c0_2, .slice (some ad302) (tkQ13 ((ji6) : Int).toNat l0_3).length c0_3] 25 (0, 0)) (by (with_reducible repeat (first | refine blk_drewN ?_ _ | refine blk_drew ?_ | refine blk_alloc ?_ _)); exact BK295.out) hg (Kd.R_ne HO298.out BK295.out (by decide)))
                                      have n2_ := Aside0.mk (Kd.R_after (ok := (fun _ => True)) (by (with_reducible repeat (first | apply Kd.R_alloc | apply Kd.R_drewN | apply Kd.R_drew)); exact HO305.out) hg hat)
                                      have n3_ := Aside0.mk (hb)
                                      have n4_ := Aside0.mk (ho)
                                      clear BK290
                                      clear BK295
                                      clear HO305
                                      clear HB
                                      clear HO298
                                      have BK290 := n0_
                                      have BK295 := n1_
                                      have HO305 := n2_
                                      have HB := n3_
                                      have HO301 := n4_
                                      clear n0_ n1_ n2_ n3_ n4_
                                      clear ho hb hg hat
                                      refine hK.out _ _ ⟨(blk_cell BK290.out 0).trans rfl, (blk_cell BK290.out 1).trans rfl, (blk_cell BK290.out 2).trans rfl, (blk_cell BK290.out 3).trans rfl, ((HB.out.cell (World.block_lt_of_cell? w _ hw302_0)).trans hw302_0)⟩ (fun hHeld => ?_)
                                      clear hK K
                                      refine norm_ (a' := ?_) ?_ ?_
                                      rotate_left
                                      · show Act.put _ (some 45) _ = _
                                        simp only [Act.put, List.setIfInBounds_toArray, List.set_cons_zero, List.set_cons_succ, i64_w, i32_w]
                                        rfl
                                      exact norm_ (by simp only [putAll, Act.put, List.setIfInBounds_toArray, List.set_cons_zero, List.set_cons_succ]) (hCont (v297, v300, v304) _ ⟨hHeld, (by (with_reducible repeat (first | apply Kd.R_alloc | apply Kd.R_drewN | apply Kd.R_drew)); exact HO301.out), (by (with_reducible repeat (first | apply Kd.R_alloc | apply Kd.R_drewN | apply Kd.R_drew)); exact Kd.R_mono HO305.out (fun _ hk => hk.2)), (by (with_reducible repeat (first | refine blk_drewN ?_ _ | refine blk_drew ?_ | refine blk_alloc ?_ _)); exact BK290.out), (by (with_reducible repeat (first | refine blk_drewN ?_ _ | refine blk_drew ?_ | refine blk_alloc ?_ _)); exact BK295.out), (by repeat (first | (with_reducible first | exact HB.out | apply below_alloc | apply pw_below_drewN | apply below_drew1 | refine below_set ?_ GE290.out | refine below_set ?_ GE295.out) | exact HB.out))⟩)
                                  rintro ⟨v297, v300, v304⟩ w44 ⟨hS_, h0_, h1_, h2_, h3_, h4_⟩
                                  have n0_ : Aside0 (Kd.R (Kd.int .u32) 35 w44 w.heap.size (fun k_ => some k_ ≠ (v304 : Value).ownBlock) v300 y299) := ⟨h0_⟩
                                  have n1_ : Aside0 (Kd.R (Kd.int .u32) 35 w44 w.heap.size (fun k_ => some k_ ≠ (v300 : Value).ownBlock) v304 y303) := ⟨h1_⟩
                                  have n2_ : Aside0 (w44.heap[gb290]? = some (.cells #[.int .u64 a0_0, .int .u64 a0_1, .slice A0_2 (tkQ13 ((ji3) : Int).toNat l0_2).length c0_2, .slice (some ad302) (tkQ13 ((ji6) : Int).toNat l0_3).length c0_3] 25 (0, 0))) := ⟨h2_⟩
                                  have n3_ : Aside0 (w44.heap[gb295]? = some (.cells #[.int .u64 a0_0, .int .u64 a0_1, .slice A0_2 (tkQ13 ((ji3) : Int).toNat l0_2).length c0_2, .slice (some ad302) (tkQ13 ((ji6) : Int).toNat l0_3).length c0_3] 25 (0, 0))) := ⟨h3_⟩
                                  have n4_ : Aside0 (Below w.heap.size w w44) := ⟨h4_⟩
                                  clear BK290
                                  clear BK295
                                  clear HB
                                  clear h0_ h1_ h2_ h3_ h4_
                                  have HO301 := n0_
                                  have HO305 := n1_
                                  have BK290 := n2_
                                  have BK295 := n3_
                                  have HB := n4_
                                  clear n0_ n1_ n2_ n3_ n4_
                                  have hHeld : w44.cell? ⟨gb290, 0, none⟩ = some (.int .u64 a0_0) ∧ w44.cell? ⟨gb290, 1, none⟩ = some (.int .u64 a0_1) ∧ w44.cell? ⟨gb290, 2, none⟩ = some (.slice A0_2 (tkQ13 ((ji3) : Int).toNat l0_2).length c0_2) ∧ w44.cell? ⟨gb290, 3, none⟩ = some (.slice (some ad302) (tkQ13 ((ji6) : Int).toNat l0_3).length c0_3) ∧ w44.cell? ad302 = some (.int .u32 (rd (tkQ13 ((ji6) : Int).toNat l0_3) 0)) := hS_
                                  obtain ⟨Ao46, co46, eo46⟩ := Kd.R_slice HO305.out
                                  (first | subst eo46 | (injection eo46 with f1_ f2_ f3_; have f4_ := f1_.symm; have f5_ := f3_.symm; clear f1_ f2_ f3_; subst f4_; subst f5_))
                                  refine norm_ (a' := ?_) ?_ ?_
                                  rotate_left
                                  · simp only [putAll, Act.put, List.setIfInBounds_toArray, List.set_cons_zero, List.set_cons_succ]
                                    rfl
                                  refine one_ (i := 13) (N := some 51) #[true, true, true, true, true, true, true, true, true, true, true, true, true, true, false, false] rfl rfl (one_of HT_.out (by kernel_rfl)) (by decide) (fun K hK => ?_)
                                  refine Kd.R_append_rows_step (Kd.int .u32) (w0 := w) w.heap.size (by rfl) (.tmp 45) (.tmp 50) 23 35 (.int .u32 0) 4 rfl Try.underlying23 info35 rfl (by decide) (by omega) v300 y299 y303 _ _ _ (fun k_ => some k_ ≠ (.slice Ao46 y303.length co46 : Value).ownBlock) (fun _ => False) rfl rfl ?aO ?aR (fun _ _ h => h) (fun _ h => h.elim) ?aF ?aB ?aS ?aL ?_
                                  (case aR => repeat (first | exact (Kd.R_reads' HO305.out).2.2 | (with_reducible refine Kd.C_alloc ?_ _) | (with_reducible refine Kd.C_drewN ?_ _) | (with_reducible refine Kd.C_drew ?_)))
                                  (case aB => exact (by repeat (first | (with_reducible first | exact HB.out | apply below_alloc | apply pw_below_drewN | apply below_drew1 | refine below_set ?_ GE290.out | refine below_set ?_ GE295.out) | exact HB.out)))
                                  (case aF => exact (fun k_ hk => Kd.fresh' (Kd.R_lt (by (with_reducible repeat (first | apply Kd.R_alloc | apply Kd.R_drewN | apply Kd.R_drew)); exact HO305.out)) k_ hk))
                                  (case aO => exact (by (with_reducible repeat (first | apply Kd.R_alloc | apply Kd.R_drewN | apply Kd.R_drew)); exact HO301.out))
                                  (case aS => exact (below_size (by repeat (first | (with_reducible first | exact HB.out | apply below_alloc | apply pw_below_drewN | apply below_drew1 | refine below_set ?_ GE290.out | refine below_set ?_ GE295.out) | exact HB.out))))
                                  (case aL => have := LMc27.out; omega)
                                  intro v307 w45 ho hb hg hat
                                  rw [← Ny306.out] at ho
                                  have n0_ := Aside0.mk (blk_grown (g := gb290) (o := .cells #[.int .u64 a0_0, .int .u64 a0_1, .slice A0_2 (tkQ13 ((ji3) : Int).toNat l0_2).length c0_2, .slice (some ad302) (tkQ13 ((ji6) : Int).toNat l0_3).length c0_3] 25 (0, 0)) (by (with_reducible repeat (first | refine blk_drewN ?_ _ | refine blk_drew ?_ | refine blk_alloc ?_ _)); exact BK290.out) hg (Kd.R_ne HO301.out BK290.out (by decide)))
                                  have n1_ := Aside0.mk (blk_grown (g := gb295) (o := .cells #[.int .u64 a0_0, .int .u64 a0_1, .slice A0_2 (tkQ13 ((ji3) : Int).toNat l0_2).length c0_2, .slice (some ad302) (tkQ13 ((ji6) : Int).toNat l0_3).length c0_3] 25 (0, 0)) (by (with_reducible repeat (first | refine blk_drewN ?_ _ | refine blk_drew ?_ | refine blk_alloc ?_ _)); exact BK295.out) hg (Kd.R_ne HO301.out BK295.out (by decide)))
                                  have n2_ := Aside0.mk (Kd.R_after (ok := (fun _ => True)) (by (with_reducible repeat (first | apply Kd.R_alloc | apply Kd.R_drewN | apply Kd.R_drew)); exact Kd.R_mono HO305.out (fun _ hk => ⟨trivial, hk⟩)) hg hat)
                                  have n3_ := Aside0.mk (hb)
                                  have n4_ := Aside0.mk (ho)
                                  clear BK290
                                  clear BK295
                                  clear HO305
                                  clear HB
                                  clear HO301
                                  have BK290 := n0_
                                  have BK295 := n1_
                                  have HO305 := n2_
                                  have HB := n3_
                                  have HO308 := n4_
                                  clear n0_ n1_ n2_ n3_ n4_
                                  clear ho hb hg hat
                                  obtain ⟨Ao47, co47, eo47⟩ := Kd.R_slice HO308.out
                                  (first | subst eo47 | (injection eo47 with f1_ f2_ f3_; have f4_ := f1_.symm; have f5_ := f3_.symm; clear f1_ f2_ f3_; subst f4_; subst f5_))
                                  refine hK.out _ _ ⟨(blk_cell BK290.out 0).trans rfl, (blk_cell BK290.out 1).trans rfl, (blk_cell BK290.out 2).trans rfl, (blk_cell BK290.out 3).trans rfl, ((HB.out.cell (World.block_lt_of_cell? w _ hw302_0)).trans hw302_0)⟩ (fun hHeld => ?_)
                                  clear hK K
                                  refine norm_ (a' := ?_) ?_ ?_
                                  rotate_left
                                  · show Act.put _ (some 51) _ = _
                                    simp only [Act.put, List.setIfInBounds_toArray, List.set_cons_zero, List.set_cons_succ, i64_w, i32_w]
                                    rfl
                                  refine pure_ (i := 14) (N := some 52) (v := ?_) (a' := ?_) #[true, true, true, true, true, true, true, true, true, true, true, true, true, true, true, false] rfl rfl (any_of HT_.out (by kernel_rfl)) (fun _ _ _ h => h) (Or.inl ⟨by rfl, ?_⟩) ?_ ?_
                                  rotate_left
                                  · intro w'
                                    go_simp
                                    with_reducible rfl
                                  rotate_left
                                  · simp only [Act.put, List.setIfInBounds_toArray, List.set_cons_zero, List.set_cons_succ, i64_w, i32_w]
                                    rfl
                                  refine one_ (i := 15) (N := none) #[true, true, true, true, true, true, true, true, true, true, true, true, true, true, true, true] rfl rfl (one_of HT_.out (by kernel_rfl)) (by decide) (fun K hK => ?_)
                                  have hs48 : w45.cell? ⟨gb295, 2, none⟩ = some (.slice A0_2 (tkQ13 ((ji3) : Int).toNat l0_2).length c0_2) := (blk_cell BK295.out 2).trans rfl
                                  have hfs48 := blk_frozen BK295.out 2
                                  have hns48_0 := NB290_295.out
                                  have hms48_0 := NB295_290.out
                                  refine skip_ (w1 := ?_) (by rfl) rfl ?_ ?_
                                  rotate_left
                                  · go_simp
                                    rfl
                                  refine hK.out _ _ ⟨((cell_far (p := ⟨gb295, _, none⟩) NB290_295.out _).trans (hHeld.1)), ((cell_far (p := ⟨gb295, _, none⟩) NB290_295.out _).trans (hHeld.2.1)), ((cell_far (p := ⟨gb295, _, none⟩) NB290_295.out _).trans (hHeld.2.2.1)), ((cell_far (p := ⟨gb295, _, none⟩) NB290_295.out _).trans (hHeld.2.2.2.1)), ((cell_far (p := ⟨gb295, _, none⟩) (by first | exact Nat.ne_of_lt (Nat.lt_of_lt_of_le (by have := World.block_lt_of_cell? _ _ hw302_0; first | rwa [add_block] at this | exact this) GW295.out) | (rw [add_block]; exact Nat.ne_of_lt (Nat.lt_of_lt_of_le (by have := World.block_lt_of_cell? _ _ hw302_0; first | rwa [add_block] at this | exact this) GW295.out)) | (show (Addr.add _ _).block ≠ _; rw [add_block]; exact Nat.ne_of_lt (Nat.lt_of_lt_of_le (by have := World.block_lt_of_cell? _ _ hw302_0; first | rwa [add_block] at this | exact this) GW295.out)) | (dsimp only; exact Nat.ne_of_lt (Nat.lt_of_lt_of_le (by have := World.block_lt_of_cell? _ _ hw302_0; first | rwa [add_block] at this | exact this) GW295.out))) _).trans (hHeld.2.2.2.2))⟩ (fun hHeld => ?_)
                                  clear hK K
                                  refine done_ (done_of HT_.out (by kernel_rfl)) ?_
                                  have hcz49_0 : w45.cell? ⟨gb290, 0, none⟩ = some (.int .u64 a0_0) := (blk_cell BK290.out 0).trans rfl
                                  have hcz49_1 : w45.cell? ⟨gb290, 1, none⟩ = some (.int .u64 a0_1) := (blk_cell BK290.out 1).trans rfl
                                  have hcz49_2 : w45.cell? ⟨gb290, 2, none⟩ = some (.slice A0_2 (tkQ13 ((ji3) : Int).toNat l0_2).length c0_2) := (blk_cell BK290.out 2).trans rfl
                                  have hcz49_3 : w45.cell? ⟨gb290, 3, none⟩ = some (.slice (some ad302) (tkQ13 ((ji6) : Int).toNat l0_3).length c0_3) := (blk_cell BK290.out 3).trans rfl
                                  have hfz49_0 := blk_frozen BK290.out 0
                                  have hfz49_1 := blk_frozen BK290.out 1
                                  have hfz49_2 := blk_frozen BK290.out 2
                                  have hfz49_3 := blk_frozen BK290.out 3
                                  try go_wp2_with (first | ((with_reducible refine gate_dst (N := 5) rfl ?_); (try (refine gate_guard (by rfl) ?_; dsimp only)); refine box_event ?hg (N := 5) ?hd (cs := #[.int .u64 0, .int .u64 0, .slice none 0 0, .slice none 0 0]) (t := 25) ?hr ?_; (case hd => rfl); (case hg => rfl); (case hr => first | (go_simp; done) | (go_simp; rfl)); intro gb309 hg w50 hbox hb; have n0_ := Aside0.mk (Kd.R_below (by (with_reducible repeat (first | apply Kd.R_alloc | apply Kd.R_drewN | apply Kd.R_drew)); exact (Kd.R_mono (Kd.R_far (p := ⟨gb295, 2, none⟩) (Kd.R_types HO305.out BK295.out (by decide)) (fun _ hk => hk.2) (.slice Ao47 y306.length co47)) (fun _ h_ => h_.1))) hb); have n1_ := Aside0.mk (Kd.R_below (by (with_reducible repeat (first | apply Kd.R_alloc | apply Kd.R_drewN | apply Kd.R_drew)); exact (Kd.R_mono (Kd.R_far (p := ⟨gb295, 2, none⟩) (Kd.R_types HO308.out BK295.out (by decide)) (fun _ hk => hk.2) (.slice Ao47 y306.length co47)) (fun _ h_ => h_.1))) hb); have n2_ := Aside0.mk (blk_below (g := gb290) (o := .cells #[.int .u64 a0_0, .int .u64 a0_1, .slice A0_2 (tkQ13 ((ji3) : Int).toNat l0_2).length c0_2, .slice (some ad302) (tkQ13 ((ji6) : Int).toNat l0_3).length c0_3] 25 (0, 0)) (by (with_reducible repeat (first | refine blk_drewN ?_ _ | refine blk_drew ?_ | refine blk_alloc ?_ _)); refine blk_far ?_ NB290_295.out _; (with_reducible repeat (first | refine blk_drewN ?_ _ | refine blk_drew ?_ | refine blk_alloc ?_ _)); exact BK290.out) hb); have n3_ := Aside0.mk (blk_below (g := gb295) (o := .cells #[.int .u64 a0_0, .int .u64 a0_1, .slice Ao47 y306.length co47, .slice (some ad302) (tkQ13 ((ji6) : Int).toNat l0_3).length c0_3] 25 (0, 0)) (by (with_reducible repeat (first | refine blk_drewN ?_ _ | refine blk_drew ?_ | refine blk_alloc ?_ _)); refine blk_put (cs := #[.int .u64 a0_0, .int .u64 a0_1, .slice A0_2 (tkQ13 ((ji3) : Int).toNat l0_2).length c0_2, .slice (some ad302) (tkQ13 ((ji6) : Int).toNat l0_3).length c0_3]) ?_ 2 _ rfl; (with_reducible repeat (first | refine blk_drewN ?_ _ | refine blk_drew ?_ | refine blk_alloc ?_ _)); exact BK295.out) hb); have n4_ := Aside0.mk (below_step (by repeat (first | (with_reducible first | exact HB.out | apply below_alloc | apply pw_below_drewN | apply below_drew1 | refine below_set ?_ GE290.out | refine below_set ?_ GE295.out) | exact HB.out)) hb); have n5_ := Aside0.mk (hbox); have n6_ := Aside0.mk ((by rw [hg]; exact (below_size (by repeat (first | (with_reducible first | exact HB.out | apply below_alloc | apply pw_below_drewN | apply below_drew1 | refine below_set ?_ GE290.out | refine below_set ?_ GE295.out) | exact HB.out))) : w.heap.size ≤ gb309)); have n7_ := Aside0.mk ((by rw [hg]; exact (below_size (by repeat (first | (with_reducible first | exact HB.out | apply below_alloc | apply pw_below_drewN | apply below_drew1 | refine below_set ?_ GE290.out | refine below_set ?_ GE295.out) | exact HB.out))) : w.heap.size ≤ gb309)); have n8_ := Aside0.mk ((by rw [hg]; exact Nat.ne_of_lt (blk_lt (g := gb290) (o := .cells #[.int .u64 a0_0, .int .u64 a0_1, .slice A0_2 (tkQ13 ((ji3) : Int).toNat l0_2).length c0_2, .slice (some ad302) (tkQ13 ((ji6) : Int).toNat l0_3).length c0_3] 25 (0, 0)) (by (with_reducible repeat (first | refine blk_drewN ?_ _ | refine blk_drew ?_ | refine blk_alloc ?_ _)); refine blk_far ?_ NB290_295.out _; (with_reducible repeat (first | refine blk_drewN ?_ _ | refine blk_drew ?_ | refine blk_alloc ?_ _)); exact BK290.out)) : gb290 ≠ gb309)); have n9_ := Aside0.mk ((by rw [hg]; exact Nat.ne_of_gt (blk_lt (g := gb290) (o := .cells #[.int .u64 a0_0, .int .u64 a0_1, .slice A0_2 (tkQ13 ((ji3) : Int).toNat l0_2).length c0_2, .slice (some ad302) (tkQ13 ((ji6) : Int).toNat l0_3).length c0_3] 25 (0, 0)) (by (with_reducible repeat (first | refine blk_drewN ?_ _ | refine blk_drew ?_ | refine blk_alloc ?_ _)); refine blk_far ?_ NB290_295.out _; (with_reducible repeat (first | refine blk_drewN ?_ _ | refine blk_drew ?_ | refine blk_alloc ?_ _)); exact BK290.out)) : gb309 ≠ gb290)); have n10_ := Aside0.mk ((by rw [hg]; exact Nat.ne_of_lt (blk_lt (g := gb295) (o := .cells #[.int .u64 a0_0, .int .u64 a0_1, .slice Ao47 y306.length co47, .slice (some ad302) (tkQ13 ((ji6) : Int).toNat l0_3).length c0_3] 25 (0, 0)) (by (with_reducible repeat (first | refine blk_drewN ?_ _ | refine blk_drew ?_ | refine blk_alloc ?_ _)); refine blk_put (cs := #[.int .u64 a0_0, .int .u64 a0_1, .slice A0_2 (tkQ13 ((ji3) : Int).toNat l0_2).length c0_2, .slice (some ad302) (tkQ13 ((ji6) : Int).toNat l0_3).length c0_3]) ?_ 2 _ rfl; (with_reducible repeat (first | refine blk_drewN ?_ _ | refine blk_drew ?_ | refine blk_alloc ?_ _)); exact BK295.out)) : gb295 ≠ gb309)); have n11_ := Aside0.mk ((by rw [hg]; exact Nat.ne_of_gt (blk_lt (g := gb295) (o := .cells #[.int .u64 a0_0, .int .u64 a0_1, .slice Ao47 y306.length co47, .slice (some ad302) (tkQ13 ((ji6) : Int).toNat l0_3).length c0_3] 25 (0, 0)) (by (with_reducible repeat (first | refine blk_drewN ?_ _ | refine blk_drew ?_ | refine blk_alloc ?_ _)); refine blk_put (cs := #[.int .u64 a0_0, .int .u64 a0_1, .slice A0_2 (tkQ13 ((ji3) : Int).toNat l0_2).length c0_2, .slice (some ad302) (tkQ13 ((ji6) : Int).toNat l0_3).length c0_3]) ?_ 2 _ rfl; (with_reducible repeat (first | refine blk_drewN ?_ _ | refine blk_drew ?_ | refine blk_alloc ?_ _)); exact BK295.out)) : gb309 ≠ gb295)); clear HO305; clear HO308; clear BK290; clear BK295; clear HB; have HO305 := n0_; have HO308 := n1_; have BK290 := n2_; have BK295 := n3_; have HB := n4_; have BK309 := n5_; have GW309 := n6_; have GE309 := n7_; have NB290_309 := n8_; have NB309_290 := n9_; have NB295_309 := n10_; have NB309_295 := n11_; clear n0_ n1_ n2_ n3_ n4_ n5_ n6_ n7_ n8_ n9_ n10_ n11_; clear hb hbox hg; have hnb51 := NB309_290.out; have hnc51 := NB290_309.out; have hnb52 := NB309_295.out; have hnc52 := NB295_309.out; have hcz53_0 : w50.cell? ⟨gb309, 0, none⟩ = some (.int .u64 0) := (blk_cell BK309.out 0).trans rfl; have hcz53_1 : w50.cell? ⟨gb309, 1, none⟩ = some (.int .u64 0) := (blk_cell BK309.out 1).trans rfl; have hcz53_2 : w50.cell? ⟨gb309, 2, none⟩ = some (.slice none 0 0) := (blk_cell BK309.out 2).trans rfl; have hcz53_3 : w50.cell? ⟨gb309, 3, none⟩ = some (.slice none 0 0) := (blk_cell BK309.out 3).trans rfl; have hfz53_0 := blk_frozen BK309.out 0; have hfz53_1 := blk_frozen BK309.out 1; have hfz53_2 := blk_frozen BK309.out 2; have hfz53_3 := blk_frozen BK309.out 3; have hcz54_0 : w50.cell? ⟨gb290, 0, none⟩ = some (.int .u64 a0_0) := (blk_cell BK290.out 0).trans rfl; have hcz54_1 : w50.cell? ⟨gb290, 1, none⟩ = some (.int .u64 a0_1) := (blk_cell BK290.out 1).trans rfl; have hcz54_2 : w50.cell? ⟨gb290, 2, none⟩ = some (.slice A0_2 (tkQ13 ((ji3) : Int).toNat l0_2).length c0_2) := (blk_cell BK290.out 2).trans rfl; have hcz54_3 : w50.cell? ⟨gb290, 3, none⟩ = some (.slice (some ad302) (tkQ13 ((ji6) : Int).toNat l0_3).length c0_3) := (blk_cell BK290.out 3).trans rfl; have hfz54_0 := blk_frozen BK290.out 0; have hfz54_1 := blk_frozen BK290.out 1; have hfz54_2 := blk_frozen BK290.out 2; have hfz54_3 := blk_frozen BK290.out 3; obtain ⟨i055, hi055, _, hsz55, _⟩ := info_parts info35; obtain ⟨A55, hcut55, hA55, hC55⟩ := print_drop_of (P := Try.prog) (Value.int .u32) 0 23 35 .i64 Try.underlying23 hi055 hsz55 A0_2 c0_2 (tkQ13 ((ji3) : Int).toNat l0_2) 1 (by omega) (of_decide_eq_true (by first | (with_reducible assumption) | assumption)) HC292.out; (try simp only [dkQ13_def] at hcut55 hA55 hC55); have HR310 := Aside0.mk (Kd.C_of_reads (h1 := fun _ => rfl) (hA55 _ (Kd.reads_of_C HR292.out))); have HC310 := Aside0.mk hC55; clear hA55 hC55 hi055 hsz55; have hdd56_ := (show (((((w50.setCell ⟨gb309, 0, none⟩ (.int .u64 a0_0)).setCell ⟨gb309, 1, none⟩ (.int .u64 a0_1)).setCell ⟨gb309, 2, none⟩ (.slice A0_2 (tkQ13 ((ji3) : Int).toNat l0_2).length c0_2)).setCell ⟨gb309, 3, none⟩ (.slice (some ad302) (tkQ13 ((ji6) : Int).toNat l0_3).length c0_3)).setCell ⟨gb309, 2, none⟩ (.slice A55 (dkQ13 1 (tkQ13 ((ji3) : Int).toNat l0_2)).length (c0_2 - 1))).heap[gb309]? = some (.cells #[.int .u64 a0_0, .int .u64 a0_1, .slice A55 (dkQ13 1 (tkQ13 ((ji3) : Int).toNat l0_2)).length (c0_2 - 1), .slice (some ad302) (tkQ13 ((ji6) : Int).toNat l0_3).length c0_3] 25 (0, 0)) from (by refine blk_put (cs := #[.int .u64 a0_0, .int .u64 a0_1, .slice A0_2 (tkQ13 ((ji3) : Int).toNat l0_2).length c0_2, .slice (some ad302) (tkQ13 ((ji6) : Int).toNat l0_3).length c0_3]) ?_ 2 _ rfl; refine blk_put (cs := #[.int .u64 a0_0, .int .u64 a0_1, .slice A0_2 (tkQ13 ((ji3) : Int).toNat l0_2).length c0_2, .slice none 0 0]) ?_ 3 _ rfl; refine blk_put (cs := #[.int .u64 a0_0, .int .u64 a0_1, .slice none 0 0, .slice none 0 0]) ?_ 2 _ rfl; refine blk_put (cs := #[.int .u64 a0_0, .int .u64 0, .slice none 0 0, .slice none 0 0]) ?_ 1 _ rfl; refine blk_put (cs := #[.int .u64 0, .int .u64 0, .slice none 0 0, .slice none 0 0]) ?_ 0 _ rfl; exact BK309.out)); have hdd56_0 : (((((w50.setCell ⟨gb309, 0, none⟩ (.int .u64 a0_0)).setCell ⟨gb309, 1, none⟩ (.int .u64 a0_1)).setCell ⟨gb309, 2, none⟩ (.slice A0_2 (tkQ13 ((ji3) : Int).toNat l0_2).length c0_2)).setCell ⟨gb309, 3, none⟩ (.slice (some ad302) (tkQ13 ((ji6) : Int).toNat l0_3).length c0_3)).setCell ⟨gb309, 2, none⟩ (.slice A55 (dkQ13 1 (tkQ13 ((ji3) : Int).toNat l0_2)).length (c0_2 - 1))).cell? ⟨gb309, 0, none⟩ = some (.int .u64 a0_0) := (blk_cell hdd56_ 0).trans rfl; have hdd56_1 : (((((w50.setCell ⟨gb309, 0, none⟩ (.int .u64 a0_0)).setCell ⟨gb309, 1, none⟩ (.int .u64 a0_1)).setCell ⟨gb309, 2, none⟩ (.slice A0_2 (tkQ13 ((ji3) : Int).toNat l0_2).length c0_2)).setCell ⟨gb309, 3, none⟩ (.slice (some ad302) (tkQ13 ((ji6) : Int).toNat l0_3).length c0_3)).setCell ⟨gb309, 2, none⟩ (.slice A55 (dkQ13 1 (tkQ13 ((ji3) : Int).toNat l0_2)).length (c0_2 - 1))).cell? ⟨gb309, 1, none⟩ = some (.int .u64 a0_1) := (blk_cell hdd56_ 1).trans rfl; have hdd56_2 : (((((w50.setCell ⟨gb309, 0, none⟩ (.int .u64 a0_0)).setCell ⟨gb309, 1, none⟩ (.int .u64 a0_1)).setCell ⟨gb309, 2, none⟩ (.slice A0_2 (tkQ13 ((ji3) : Int).toNat l0_2).length c0_2)).setCell ⟨gb309, 3, none⟩ (.slice (some ad302) (tkQ13 ((ji6) : Int).toNat l0_3).length c0_3)).setCell ⟨gb309, 2, none⟩ (.slice A55 (dkQ13 1 (tkQ13 ((ji3) : Int).toNat l0_2)).length (c0_2 - 1))).cell? ⟨gb309, 2, none⟩ = some (.slice A55 (dkQ13 1 (tkQ13 ((ji3) : Int).toNat l0_2)).length (c0_2 - 1)) := (blk_cell hdd56_ 2).trans rfl; have hdd56_3 : (((((w50.setCell ⟨gb309, 0, none⟩ (.int .u64 a0_0)).setCell ⟨gb309, 1, none⟩ (.int .u64 a0_1)).setCell ⟨gb309, 2, none⟩ (.slice A0_2 (tkQ13 ((ji3) : Int).toNat l0_2).length c0_2)).setCell ⟨gb309, 3, none⟩ (.slice (some ad302) (tkQ13 ((ji6) : Int).toNat l0_3).length c0_3)).setCell ⟨gb309, 2, none⟩ (.slice A55 (dkQ13 1 (tkQ13 ((ji3) : Int).toNat l0_2)).length (c0_2 - 1))).cell? ⟨gb309, 3, none⟩ = some (.slice (some ad302) (tkQ13 ((ji6) : Int).toNat l0_3).length c0_3) := (blk_cell hdd56_ 3).trans rfl; (have hdd56n_ := fun (n_ : Nat) => (show ((((((w50.drewN n_).setCell ⟨gb309, 0, none⟩ (.int .u64 a0_0)).setCell ⟨gb309, 1, none⟩ (.int .u64 a0_1)).setCell ⟨gb309, 2, none⟩ (.slice A0_2 (tkQ13 ((ji3) : Int).toNat l0_2).length c0_2)).setCell ⟨gb309, 3, none⟩ (.slice (some ad302) (tkQ13 ((ji6) : Int).toNat l0_3).length c0_3)).setCell ⟨gb309, 2, none⟩ (.slice A55 (dkQ13 1 (tkQ13 ((ji3) : Int).toNat l0_2)).length (c0_2 - 1))).heap[gb309]? = some (.cells #[.int .u64 a0_0, .int .u64 a0_1, .slice A55 (dkQ13 1 (tkQ13 ((ji3) : Int).toNat l0_2)).length (c0_2 - 1), .slice (some ad302) (tkQ13 ((ji6) : Int).toNat l0_3).length c0_3] 25 (0, 0)) from (by refine blk_put (cs := #[.int .u64 a0_0, .int .u64 a0_1, .slice A0_2 (tkQ13 ((ji3) : Int).toNat l0_2).length c0_2, .slice (some ad302) (tkQ13 ((ji6) : Int).toNat l0_3).length c0_3]) ?_ 2 _ rfl; refine blk_put (cs := #[.int .u64 a0_0, .int .u64 a0_1, .slice A0_2 (tkQ13 ((ji3) : Int).toNat l0_2).length c0_2, .slice none 0 0]) ?_ 3 _ rfl; refine blk_put (cs := #[.int .u64 a0_0, .int .u64 a0_1, .slice none 0 0, .slice none 0 0]) ?_ 2 _ rfl; refine blk_put (cs := #[.int .u64 a0_0, .int .u64 0, .slice none 0 0, .slice none 0 0]) ?_ 1 _ rfl; refine blk_put (cs := #[.int .u64 0, .int .u64 0, .slice none 0 0, .slice none 0 0]) ?_ 0 _ rfl; exact blk_drewN BK309.out n_))); (have hdd56n_0 := fun (n_ : Nat) => (show ((((((w50.drewN n_).setCell ⟨gb309, 0, none⟩ (.int .u64 a0_0)).setCell ⟨gb309, 1, none⟩ (.int .u64 a0_1)).setCell ⟨gb309, 2, none⟩ (.slice A0_2 (tkQ13 ((ji3) : Int).toNat l0_2).length c0_2)).setCell ⟨gb309, 3, none⟩ (.slice (some ad302) (tkQ13 ((ji6) : Int).toNat l0_3).length c0_3)).setCell ⟨gb309, 2, none⟩ (.slice A55 (dkQ13 1 (tkQ13 ((ji3) : Int).toNat l0_2)).length (c0_2 - 1))).cell? ⟨gb309, 0, none⟩ = some (.int .u64 a0_0) from (blk_cell (hdd56n_ n_) 0).trans rfl)); (have hdd56n_1 := fun (n_ : Nat) => (show ((((((w50.drewN n_).setCell ⟨gb309, 0, none⟩ (.int .u64 a0_0)).setCell ⟨gb309, 1, none⟩ (.int .u64 a0_1)).setCell ⟨gb309, 2, none⟩ (.slice A0_2 (tkQ13 ((ji3) : Int).toNat l0_2).length c0_2)).setCell ⟨gb309, 3, none⟩ (.slice (some ad302) (tkQ13 ((ji6) : Int).toNat l0_3).length c0_3)).setCell ⟨gb309, 2, none⟩ (.slice A55 (dkQ13 1 (tkQ13 ((ji3) : Int).toNat l0_2)).length (c0_2 - 1))).cell? ⟨gb309, 1, none⟩ = some (.int .u64 a0_1) from (blk_cell (hdd56n_ n_) 1).trans rfl)); (have hdd56n_2 := fun (n_ : Nat) => (show ((((((w50.drewN n_).setCell ⟨gb309, 0, none⟩ (.int .u64 a0_0)).setCell ⟨gb309, 1, none⟩ (.int .u64 a0_1)).setCell ⟨gb309, 2, none⟩ (.slice A0_2 (tkQ13 ((ji3) : Int).toNat l0_2).length c0_2)).setCell ⟨gb309, 3, none⟩ (.slice (some ad302) (tkQ13 ((ji6) : Int).toNat l0_3).length c0_3)).setCell ⟨gb309, 2, none⟩ (.slice A55 (dkQ13 1 (tkQ13 ((ji3) : Int).toNat l0_2)).length (c0_2 - 1))).cell? ⟨gb309, 2, none⟩ = some (.slice A55 (dkQ13 1 (tkQ13 ((ji3) : Int).toNat l0_2)).length (c0_2 - 1)) from (blk_cell (hdd56n_ n_) 2).trans rfl)); (have hdd56n_3 := fun (n_ : Nat) => (show ((((((w50.drewN n_).setCell ⟨gb309, 0, none⟩ (.int .u64 a0_0)).setCell ⟨gb309, 1, none⟩ (.int .u64 a0_1)).setCell ⟨gb309, 2, none⟩ (.slice A0_2 (tkQ13 ((ji3) : Int).toNat l0_2).length c0_2)).setCell ⟨gb309, 3, none⟩ (.slice (some ad302) (tkQ13 ((ji6) : Int).toNat l0_3).length c0_3)).setCell ⟨gb309, 2, none⟩ (.slice A55 (dkQ13 1 (tkQ13 ((ji3) : Int).toNat l0_2)).length (c0_2 - 1))).cell? ⟨gb309, 3, none⟩ = some (.slice (some ad302) (tkQ13 ((ji6) : Int).toNat l0_3).length c0_3) from (blk_cell (hdd56n_ n_) 3).trans rfl)); clear hdd56_; clear hdd56n_))
                                  have n0_ : Aside0 (Kd.R (Kd.int .u32) 35 (((((w50.setCell ⟨gb309, 0, none⟩ (.int .u64 a0_0)).setCell ⟨gb309, 1, none⟩ (.int .u64 a0_1)).setCell ⟨gb309, 2, none⟩ (.slice A0_2 (tkQ13 ((ji3) : Int).toNat l0_2).length c0_2)).setCell ⟨gb309, 3, none⟩ (.slice (some ad302) (tkQ13 ((ji6) : Int).toNat l0_3).length c0_3)).setCell ⟨gb309, 2, none⟩ (.slice A55 (dkQ13 1 (tkQ13 ((ji3) : Int).toNat l0_2)).length (c0_2 - 1))) w.heap.size (fun k_ => some k_ ≠ (.slice Ao47 y306.length co47 : Value).ownBlock) (.slice Ao46 y303.length co46) y303) := ⟨by (with_reducible repeat (first | apply Kd.R_alloc | apply Kd.R_drewN | apply Kd.R_drew)); exact Kd.R_mono (Kd.R_far (p := ⟨gb309, 2, none⟩) (Kd.R_far (p := ⟨gb309, 3, none⟩) (Kd.R_far (p := ⟨gb309, 2, none⟩) (Kd.R_far (p := ⟨gb309, 1, none⟩) (Kd.R_far (p := ⟨gb309, 0, none⟩) (Kd.R_types HO305.out BK309.out (by decide)) (fun _ hk => hk.2) (.int .u64 a0_0)) (fun _ hk => hk.2) (.int .u64 a0_1)) (fun _ hk => hk.2) (.slice A0_2 (tkQ13 ((ji3) : Int).toNat l0_2).length c0_2)) (fun _ hk => hk.2) (.slice (some ad302) (tkQ13 ((ji6) : Int).toNat l0_3).length c0_3)) (fun _ hk => hk.2) (.slice A55 (dkQ13 1 (tkQ13 ((ji3) : Int).toNat l0_2)).length (c0_2 - 1))) (fun _ hk => hk.1.2)⟩
                                  have n1_ : Aside0 (Kd.R (Kd.int .u32) 35 (((((w50.setCell ⟨gb309, 0, none⟩ (.int .u64 a0_0)).setCell ⟨gb309, 1, none⟩ (.int .u64 a0_1)).setCell ⟨gb309, 2, none⟩ (.slice A0_2 (tkQ13 ((ji3) : Int).toNat l0_2).length c0_2)).setCell ⟨gb309, 3, none⟩ (.slice (some ad302) (tkQ13 ((ji6) : Int).toNat l0_3).length c0_3)).setCell ⟨gb309, 2, none⟩ (.slice A55 (dkQ13 1 (tkQ13 ((ji3) : Int).toNat l0_2)).length (c0_2 - 1))) w.heap.size (fun k_ => some k_ ≠ (.slice Ao46 y303.length co46 : Value).ownBlock) (.slice Ao47 y306.length co47) y306) := ⟨by (with_reducible repeat (first | apply Kd.R_alloc | apply Kd.R_drewN | apply Kd.R_drew)); exact Kd.R_mono (Kd.R_far (p := ⟨gb309, 2, none⟩) (Kd.R_far (p := ⟨gb309, 3, none⟩) (Kd.R_far (p := ⟨gb309, 2, none⟩) (Kd.R_far (p := ⟨gb309, 1, none⟩) (Kd.R_far (p := ⟨gb309, 0, none⟩) (Kd.R_types HO308.out BK309.out (by decide)) (fun _ hk => hk.2) (.int .u64 a0_0)) (fun _ hk => hk.2) (.int .u64 a0_1)) (fun _ hk => hk.2) (.slice A0_2 (tkQ13 ((ji3) : Int).toNat l0_2).length c0_2)) (fun _ hk => hk.2) (.slice (some ad302) (tkQ13 ((ji6) : Int).toNat l0_3).length c0_3)) (fun _ hk => hk.2) (.slice A55 (dkQ13 1 (tkQ13 ((ji3) : Int).toNat l0_2)).length (c0_2 - 1))) (fun _ hk => hk.1)⟩
                                  have n2_ : Aside0 ((((((w50.setCell ⟨gb309, 0, none⟩ (.int .u64 a0_0)).setCell ⟨gb309, 1, none⟩ (.int .u64 a0_1)).setCell ⟨gb309, 2, none⟩ (.slice A0_2 (tkQ13 ((ji3) : Int).toNat l0_2).length c0_2)).setCell ⟨gb309, 3, none⟩ (.slice (some ad302) (tkQ13 ((ji6) : Int).toNat l0_3).length c0_3)).setCell ⟨gb309, 2, none⟩ (.slice A55 (dkQ13 1 (tkQ13 ((ji3) : Int).toNat l0_2)).length (c0_2 - 1))).heap[gb290]? = some (.cells #[.int .u64 a0_0, .int .u64 a0_1, .slice A0_2 (tkQ13 ((ji3) : Int).toNat l0_2).length c0_2, .slice (some ad302) (tkQ13 ((ji6) : Int).toNat l0_3).length c0_3] 25 (0, 0))) := ⟨by (with_reducible repeat (first | refine blk_drewN ?_ _ | refine blk_drew ?_ | refine blk_alloc ?_ _)); refine blk_far ?_ NB290_309.out _; (with_reducible repeat (first | refine blk_drewN ?_ _ | refine blk_drew ?_ | refine blk_alloc ?_ _)); refine blk_far ?_ NB290_309.out _; (with_reducible repeat (first | refine blk_drewN ?_ _ | refine blk_drew ?_ | refine blk_alloc ?_ _)); refine blk_far ?_ NB290_309.out _; (with_reducible repeat (first | refine blk_drewN ?_ _ | refine blk_drew ?_ | refine blk_alloc ?_ _)); refine blk_far ?_ NB290_309.out _; (with_reducible repeat (first | refine blk_drewN ?_ _ | refine blk_drew ?_ | refine blk_alloc ?_ _)); refine blk_far ?_ NB290_309.out _; (with_reducible repeat (first | refine blk_drewN ?_ _ | refine blk_drew ?_ | refine blk_alloc ?_ _)); exact BK290.out⟩
                                  have n3_ : Aside0 ((((((w50.setCell ⟨gb309, 0, none⟩ (.int .u64 a0_0)).setCell ⟨gb309, 1, none⟩ (.int .u64 a0_1)).setCell ⟨gb309, 2, none⟩ (.slice A0_2 (tkQ13 ((ji3) : Int).toNat l0_2).length c0_2)).setCell ⟨gb309, 3, none⟩ (.slice (some ad302) (tkQ13 ((ji6) : Int).toNat l0_3).length c0_3)).setCell ⟨gb309, 2, none⟩ (.slice A55 (dkQ13 1 (tkQ13 ((ji3) : Int).toNat l0_2)).length (c0_2 - 1))).heap[gb295]? = some (.cells #[.int .u64 a0_0, .int .u64 a0_1, .slice Ao47 y306.length co47, .slice (some ad302) (tkQ13 ((ji6) : Int).toNat l0_3).length c0_3] 25 (0, 0))) := ⟨by (with_reducible repeat (first | refine blk_drewN ?_ _ | refine blk_drew ?_ | refine blk_alloc ?_ _)); refine blk_far ?_ NB295_309.out _; (with_reducible repeat (first | refine blk_drewN ?_ _ | refine blk_drew ?_ | refine blk_alloc ?_ _)); refine blk_far ?_ NB295_309.out _; (with_reducible repeat (first | refine blk_drewN ?_ _ | refine blk_drew ?_ | refine blk_alloc ?_ _)); refine blk_far ?_ NB295_309.out _; (with_reducible repeat (first | refine blk_drewN ?_ _ | refine blk_drew ?_ | refine blk_alloc ?_ _)); refine blk_far ?_ NB295_309.out _; (with_reducible repeat (first | refine blk_drewN ?_ _ | refine blk_drew ?_ | refine blk_alloc ?_ _)); refine blk_far ?_ NB295_309.out _; (with_reducible repeat (first | refine blk_drewN ?_ _ | refine blk_drew ?_ | refine blk_alloc ?_ _)); exact BK295.out⟩
                                  have n4_ : Aside0 ((((((w50.setCell ⟨gb309, 0, none⟩ (.int .u64 a0_0)).setCell ⟨gb309, 1, none⟩ (.int .u64 a0_1)).setCell ⟨gb309, 2, none⟩ (.slice A0_2 (tkQ13 ((ji3) : Int).toNat l0_2).length c0_2)).setCell ⟨gb309, 3, none⟩ (.slice (some ad302) (tkQ13 ((ji6) : Int).toNat l0_3).length c0_3)).setCell ⟨gb309, 2, none⟩ (.slice A55 (dkQ13 1 (tkQ13 ((ji3) : Int).toNat l0_2)).length (c0_2 - 1))).heap[gb309]? = some (.cells #[.int .u64 a0_0, .int .u64 a0_1, .slice A55 (dkQ13 1 (tkQ13 ((ji3) : Int).toNat l0_2)).length (c0_2 - 1), .slice (some ad302) (tkQ13 ((ji6) : Int).toNat l0_3).length c0_3] 25 (0, 0))) := ⟨by (with_reducible repeat (first | refine blk_drewN ?_ _ | refine blk_drew ?_ | refine blk_alloc ?_ _)); refine blk_put (cs := #[.int .u64 a0_0, .int .u64 a0_1, .slice A0_2 (tkQ13 ((ji3) : Int).toNat l0_2).length c0_2, .slice (some ad302) (tkQ13 ((ji6) : Int).toNat l0_3).length c0_3]) ?_ 2 _ rfl; (with_reducible repeat (first | refine blk_drewN ?_ _ | refine blk_drew ?_ | refine blk_alloc ?_ _)); refine blk_put (cs := #[.int .u64 a0_0, .int .u64 a0_1, .slice A0_2 (tkQ13 ((ji3) : Int).toNat l0_2).length c0_2, .slice none 0 0]) ?_ 3 _ rfl; (with_reducible repeat (first | refine blk_drewN ?_ _ | refine blk_drew ?_ | refine blk_alloc ?_ _)); refine blk_put (cs := #[.int .u64 a0_0, .int .u64 a0_1, .slice none 0 0, .slice none 0 0]) ?_ 2 _ rfl; (with_reducible repeat (first | refine blk_drewN ?_ _ | refine blk_drew ?_ | refine blk_alloc ?_ _)); refine blk_put (cs := #[.int .u64 a0_0, .int .u64 0, .slice none 0 0, .slice none 0 0]) ?_ 1 _ rfl; (with_reducible repeat (first | refine blk_drewN ?_ _ | refine blk_drew ?_ | refine blk_alloc ?_ _)); refine blk_put (cs := #[.int .u64 0, .int .u64 0, .slice none 0 0, .slice none 0 0]) ?_ 0 _ rfl; (with_reducible repeat (first | refine blk_drewN ?_ _ | refine blk_drew ?_ | refine blk_alloc ?_ _)); exact BK309.out⟩
                                  have n5_ : Aside0 (Below w.heap.size w (((((w50.setCell ⟨gb309, 0, none⟩ (.int .u64 a0_0)).setCell ⟨gb309, 1, none⟩ (.int .u64 a0_1)).setCell ⟨gb309, 2, none⟩ (.slice A0_2 (tkQ13 ((ji3) : Int).toNat l0_2).length c0_2)).setCell ⟨gb309, 3, none⟩ (.slice (some ad302) (tkQ13 ((ji6) : Int).toNat l0_3).length c0_3)).setCell ⟨gb309, 2, none⟩ (.slice A55 (dkQ13 1 (tkQ13 ((ji3) : Int).toNat l0_2)).length (c0_2 - 1)))) := ⟨by repeat (first | (with_reducible first | exact HB.out | apply below_alloc | apply pw_below_drewN | apply below_drew1 | refine below_set ?_ GE290.out | refine below_set ?_ GE295.out | refine below_set ?_ GE309.out) | exact HB.out)⟩
                                  (try clear HO305)
                                  (try clear HO308)
                                  (try clear BK290)
                                  (try clear BK295)
                                  (try clear BK309)
                                  (try clear HB)
                                  generalize (((((w50.setCell ⟨gb309, 0, none⟩ (.int .u64 a0_0)).setCell ⟨gb309, 1, none⟩ (.int .u64 a0_1)).setCell ⟨gb309, 2, none⟩ (.slice A0_2 (tkQ13 ((ji3) : Int).toNat l0_2).length c0_2)).setCell ⟨gb309, 3, none⟩ (.slice (some ad302) (tkQ13 ((ji6) : Int).toNat l0_3).length c0_3)).setCell ⟨gb309, 2, none⟩ (.slice A55 (dkQ13 1 (tkQ13 ((ji3) : Int).toNat l0_2)).length (c0_2 - 1))) = w57 at n0_ n1_ n2_ n3_ n4_ n5_ ⊢
                                  have HO305 := n0_
                                  have HO308 := n1_
                                  have BK290 := n2_
                                  have BK295 := n3_
                                  have BK309 := n4_
                                  have HB := n5_
                                  clear n0_ n1_ n2_ n3_ n4_ n5_
                                  have n0_ := Aside0.mk (Kd.R_drew HO305.out)
                                  have n1_ := Aside0.mk (Kd.R_drew HO308.out)
                                  have n2_ := Aside0.mk (blk_drew BK290.out)
                                  have n3_ := Aside0.mk (blk_drew BK295.out)
                                  have n4_ := Aside0.mk (blk_drew BK309.out)
                                  have n5_ := Aside0.mk (below_drew1 HB.out)
                                  clear HO305
                                  clear HO308
                                  clear BK290
                                  clear BK295
                                  clear BK309
                                  clear HB
                                  have HO305 := n0_
                                  have HO308 := n1_
                                  have BK290 := n2_
                                  have BK295 := n3_
                                  have BK309 := n4_
                                  have HB := n5_
                                  clear n0_ n1_ n2_ n3_ n4_ n5_
                                  refine start_ (n := 16) (S := fun w' => w'.cell? ⟨gb295, 0, none⟩ = some (.int .u64 a0_0) ∧ w'.cell? ⟨gb295, 1, none⟩ = some (.int .u64 a0_1) ∧ w'.cell? ⟨gb295, 2, none⟩ = some (.slice Ao47 y306.length co47) ∧ w'.cell? ⟨gb295, 3, none⟩ = some (.slice (some ad302) (tkQ13 ((ji6) : Int).toNat l0_3).length c0_3) ∧ w'.cell? ⟨gb309, 0, none⟩ = some (.int .u64 a0_0) ∧ w'.cell? ⟨gb309, 1, none⟩ = some (.int .u64 a0_1) ∧ w'.cell? ⟨gb309, 2, none⟩ = some (.slice A55 (dkQ13 1 (tkQ13 ((ji3) : Int).toNat l0_2)).length (c0_2 - 1)) ∧ w'.cell? ⟨gb309, 3, none⟩ = some (.slice (some ad302) (tkQ13 ((ji6) : Int).toNat l0_3).length c0_3) ∧ w'.cell? ⟨gb290, 0, none⟩ = some (.int .u64 a0_0) ∧ w'.cell? ⟨gb290, 1, none⟩ = some (.int .u64 a0_1) ∧ w'.cell? ⟨gb290, 2, none⟩ = some (.slice A0_2 (tkQ13 ((ji3) : Int).toNat l0_2).length c0_2) ∧ w'.cell? ⟨gb290, 3, none⟩ = some (.slice (some ad302) (tkQ13 ((ji6) : Int).toNat l0_3).length c0_3)) (ds := []) #[false, false, false, false, false, false, false, false, false, false, false, false, false, false, false, false] (by kernel_rfl) rfl rfl ⟨(blk_cell BK295.out 0).trans rfl, (blk_cell BK295.out 1).trans rfl, (blk_cell BK295.out 2).trans rfl, (blk_cell BK295.out 3).trans rfl, (blk_cell BK309.out 0).trans rfl, (blk_cell BK309.out 1).trans rfl, (blk_cell BK309.out 2).trans rfl, (blk_cell BK309.out 3).trans rfl, (blk_cell BK290.out 0).trans rfl, (blk_cell BK290.out 1).trans rfl, (blk_cell BK290.out 2).trans rfl, (blk_cell BK290.out 3).trans rfl⟩ (fun hHeld => ?_); refine with_tabW nautiluslaw16_RootDoubles.tab12 nautiluslaw16_RootDoubles.bits12 (fun HT_ HW_ => ?_)
                                  generalize w57.drew = w58 at HO305 HO308 BK290 BK295 BK309 HB hHeld ⊢
                                  refine pure_ (i := 0) (N := some 58) (v := ?_) (a' := ?_) #[true, false, false, false, false, false, false, false, false, false, false, false, false, false, false, false] rfl rfl (any_of HT_.out (by kernel_rfl)) (fun _ _ _ h => h) (Or.inl ⟨by rfl, ?_⟩) ?_ ?_
                                  rotate_left
                                  · intro w'
                                    go_simp
                                    with_reducible rfl
                                  rotate_left
                                  · simp only [Act.put, List.setIfInBounds_toArray, List.set_cons_zero, List.set_cons_succ, i64_w, i32_w]
                                    rfl
                                  refine pure_ (i := 1) (N := some 59) (v := ?_) (a' := ?_) #[true, true, false, false, false, false, false, false, false, false, false, false, false, false, false, false] rfl rfl (any_of HT_.out (by kernel_rfl)) (fun _ _ _ h => h) (Or.inl ⟨by rfl, ?_⟩) ?_ ?_
                                  rotate_left
                                  · intro w'
                                    go_simp
                                    with_reducible rfl
                                  rotate_left
                                  · simp only [Act.put, List.setIfInBounds_toArray, List.set_cons_zero, List.set_cons_succ, i64_w, i32_w]
                                    rfl
                                  refine take_ (i := 2) (N := some 60) (v := ?_) (a' := ?_) #[true, true, true, false, false, false, false, false, false, false, false, false, false, false, false, false] rfl rfl (take_ofW HT_.out HW_.out (by kernel_rfl)) (fun _ _ _ h => h) (Or.inl ⟨by rfl, ?_⟩) hHeld ?_ ?_
                                  rotate_left
                                  · rintro w' ⟨s0, s1, s2, s3, s4, s5, s6, s7, s8, s9, s10, s11⟩
                                    go_simp
                                    with_reducible rfl
                                  rotate_left
                                  · simp only [Act.put, List.setIfInBounds_toArray, List.set_cons_zero, List.set_cons_succ, i64_w, i32_w]
                                    rfl
                                  refine one_ (i := 3) (N := some 61) #[true, true, true, true, false, false, false, false, false, false, false, false, false, false, false, false] rfl rfl (one_of HT_.out (by kernel_rfl)) (by decide) (fun K hK => ?_)
                                  refine goes_ Try.func12 (by kernel_rfl) rfl #[.agg #[.int .u64 a0_0, .int .u64 a0_1, .slice Ao47 y306.length co47, .slice (some ad302) (tkQ13 ((ji6) : Int).toNat l0_3).length c0_3]] (by rfl) rfl rfl (by (try simp only [List.map_toArray, List.map_cons, List.map_nil]); first | done | (rw [show (tkQ13 ((ji6) : Int).toNat l0_3).length = (ji6).toNat from (by rw [tkQ13_len]; have h_ : ((ji6) : Int) ≤ (l0_3.length : Int) := (by first | (exact of_decide_eq_true (by with_reducible assumption)) | (rw [← hji6]; unfold mn; (repeat' split) <;> omega) | exact of_decide_eq_true (by assumption)); omega)] <;> rfl) | (simp only [hji6]; rfl) | rfl | (simp only [dkQ13_len, tkQ13_len]; rfl)) ?_
                                  with_reducible refine (root_Right.calls a0_0 a0_1 _ _ y306 _ _ (tkQ13 ((ji6) : Int).toNat l0_3) false _ ?side1 ?side2 ?side3 ?side4 A30.out).mono ?_
                                  (case side1 => repeat (first | exact (Kd.R_reads' HO308.out).2.2 | (with_reducible refine Kd.C_alloc ?_ _) | (with_reducible refine Kd.C_drewN ?_ _) | (with_reducible refine Kd.C_drew ?_)))
                                  (case side2 => exact (Kd.R_reads' HO308.out).2.1)
                                  (case side3 => repeat (first | exact (Kd.C_below HR293.out HB.out) | (with_reducible refine Kd.C_alloc ?_ _) | (with_reducible refine Kd.C_drewN ?_ _) | (with_reducible refine Kd.C_drew ?_)))
                                  (case side4 => exact HC293.out)
                                  rintro e w59 ⟨rfl, hb⟩
                                  refine ⟨_, rfl, ?_⟩
                                  have n0_ := Aside0.mk (Kd.R_below (by (with_reducible repeat (first | apply Kd.R_alloc | apply Kd.R_drewN | apply Kd.R_drew)); exact HO305.out) hb)
                                  have n1_ := Aside0.mk (Kd.R_below (by (with_reducible repeat (first | apply Kd.R_alloc | apply Kd.R_drewN | apply Kd.R_drew)); exact HO308.out) hb)
                                  have n2_ := Aside0.mk (blk_below (g := gb290) (o := .cells #[.int .u64 a0_0, .int .u64 a0_1, .slice A0_2 (tkQ13 ((ji3) : Int).toNat l0_2).length c0_2, .slice (some ad302) (tkQ13 ((ji6) : Int).toNat l0_3).length c0_3] 25 (0, 0)) (by (with_reducible repeat (first | refine blk_drewN ?_ _ | refine blk_drew ?_ | refine blk_alloc ?_ _)); exact BK290.out) hb)
                                  have n3_ := Aside0.mk (blk_below (g := gb295) (o := .cells #[.int .u64 a0_0, .int .u64 a0_1, .slice Ao47 y306.length co47, .slice (some ad302) (tkQ13 ((ji6) : Int).toNat l0_3).length c0_3] 25 (0, 0)) (by (with_reducible repeat (first | refine blk_drewN ?_ _ | refine blk_drew ?_ | refine blk_alloc ?_ _)); exact BK295.out) hb)
                                  have n4_ := Aside0.mk (blk_below (g := gb309) (o := .cells #[.int .u64 a0_0, .int .u64 a0_1, .slice A55 (dkQ13 1 (tkQ13 ((ji3) : Int).toNat l0_2)).length (c0_2 - 1), .slice (some ad302) (tkQ13 ((ji6) : Int).toNat l0_3).length c0_3] 25 (0, 0)) (by (with_reducible repeat (first | refine blk_drewN ?_ _ | refine blk_drew ?_ | refine blk_alloc ?_ _)); exact BK309.out) hb)
                                  have n5_ := Aside0.mk (below_step (by repeat (first | (with_reducible first | exact HB.out | apply below_alloc | apply pw_below_drewN | apply below_drew1 | refine below_set ?_ GE290.out | refine below_set ?_ GE295.out | refine below_set ?_ GE309.out) | exact HB.out)) hb)
                                  clear HO305
                                  clear HO308
                                  clear BK290
                                  clear BK295
                                  clear BK309
                                  clear HB
                                  have HO305 := n0_
                                  have HO308 := n1_
                                  have BK290 := n2_
                                  have BK295 := n3_
                                  have BK309 := n4_
                                  have HB := n5_
                                  clear n0_ n1_ n2_ n3_ n4_ n5_
                                  (try clear hb)
                                  (try clear hb2)
                                  (try clear hk)
                                  (try clear hi)
                                  refine hK.out _ _ ⟨(blk_cell BK295.out 0).trans rfl, (blk_cell BK295.out 1).trans rfl, (blk_cell BK295.out 2).trans rfl, (blk_cell BK295.out 3).trans rfl, (blk_cell BK309.out 0).trans rfl, (blk_cell BK309.out 1).trans rfl, (blk_cell BK309.out 2).trans rfl, (blk_cell BK309.out 3).trans rfl, (blk_cell BK290.out 0).trans rfl, (blk_cell BK290.out 1).trans rfl, (blk_cell BK290.out 2).trans rfl, (blk_cell BK290.out 3).trans rfl⟩ (fun hHeld => ?_)
                                  clear hK K
                                  refine norm_ (a' := ?_) ?_ ?_
                                  rotate_left
                                  · show Act.put _ (some 61) _ = _
                                    simp only [Act.put, List.setIfInBounds_toArray, List.set_cons_zero, List.set_cons_succ, i64_w, i32_w]
                                    rfl
                                  refine pure_ (i := 4) (N := some 62) (v := ?_) (a' := ?_) #[true, true, true, true, true, false, false, false, false, false, false, false, false, false, false, false] rfl rfl (any_of HT_.out (by kernel_rfl)) (fun _ _ _ h => h) (Or.inl ⟨by rfl, ?_⟩) ?_ ?_
                                  rotate_left
                                  · intro w'
                                    go_simp
                                    with_reducible rfl
                                  rotate_left
                                  · simp only [Act.put, List.setIfInBounds_toArray, List.set_cons_zero, List.set_cons_succ, i64_w, i32_w]
                                    rfl
                                  refine pure_ (i := 5) (N := some 63) (v := ?_) (a' := ?_) #[true, true, true, true, true, true, false, false, false, false, false, false, false, false, false, false] rfl rfl (any_of HT_.out (by kernel_rfl)) (fun _ _ _ h => h) (Or.inl ⟨by rfl, ?_⟩) ?_ ?_
                                  rotate_left
                                  · intro w'
                                    go_simp
                                    with_reducible rfl
                                  rotate_left
                                  · simp only [Act.put, List.setIfInBounds_toArray, List.set_cons_zero, List.set_cons_succ, i64_w, i32_w]
                                    rfl
                                  refine pure_ (i := 6) (N := some 64) (v := ?_) (a' := ?_) #[true, true, true, true, true, true, true, false, false, false, false, false, false, false, false, false] rfl rfl (any_of HT_.out (by kernel_rfl)) (fun _ _ _ h => h) (Or.inl ⟨by rfl, ?_⟩) ?_ ?_
                                  rotate_left
                                  · intro w'
                                    go_simp
                                    with_reducible rfl
                                  rotate_left
                                  · simp only [Act.put, List.setIfInBounds_toArray, List.set_cons_zero, List.set_cons_succ, i64_w, i32_w]
                                    rfl
                                  refine pure_ (i := 9) (N := some 67) (v := ?_) (a' := ?_) #[true, true, true, true, true, true, true, false, false, true, false, false, false, false, false, false] rfl rfl (any_of HT_.out (by kernel_rfl)) (fun _ _ _ h => h) (Or.inl ⟨by rfl, ?_⟩) ?_ ?_
                                  rotate_left
                                  · intro w'
                                    go_simp
                                    with_reducible rfl
                                  rotate_left
                                  · simp only [Act.put, List.setIfInBounds_toArray, List.set_cons_zero, List.set_cons_succ, i64_w, i32_w]
                                    rfl
                                  refine take_ (i := 7) (N := some 65) (v := ?_) (a' := ?_) #[true, true, true, true, true, true, true, true, false, true, false, false, false, false, false, false] rfl rfl (take_ofW HT_.out HW_.out (by kernel_rfl)) (fun _ _ _ h => h) (Or.inl ⟨by rfl, ?_⟩) hHeld ?_ ?_
                                  rotate_left
                                  · rintro w' ⟨s0, s1, s2, s3, s4, s5, s6, s7, s8, s9, s10, s11⟩
                                    go_simp
                                    with_reducible rfl
                                  rotate_left
                                  · simp only [Act.put, List.setIfInBounds_toArray, List.set_cons_zero, List.set_cons_succ, i64_w, i32_w]
                                    rfl
                                  refine take_ (i := 10) (N := some 68) (v := ?_) (a' := ?_) #[true, true, true, true, true, true, true, true, false, true, true, false, false, false, false, false] rfl rfl (take_ofW HT_.out HW_.out (by kernel_rfl)) (fun _ _ _ h => h) (Or.inl ⟨by rfl, ?_⟩) hHeld ?_ ?_
                                  rotate_left
                                  · rintro w' ⟨s0, s1, s2, s3, s4, s5, s6, s7, s8, s9, s10, s11⟩
                                    go_simp
                                    with_reducible rfl
                                  rotate_left
                                  · simp only [Act.put, List.setIfInBounds_toArray, List.set_cons_zero, List.set_cons_succ, i64_w, i32_w]
                                    rfl
                                  refine pure_ (i := 11) (N := some 69) (v := ?_) (a' := ?_) #[true, true, true, true, true, true, true, true, false, true, true, true, false, false, false, false] rfl rfl (any_of HT_.out (by kernel_rfl)) (fun _ _ _ h => h) (Or.inl ⟨by rfl, ?_⟩) ?_ ?_
                                  rotate_left
                                  · intro w'
                                    go_simp
                                    with_reducible rfl
                                  rotate_left
                                  · simp only [Act.put, List.setIfInBounds_toArray, List.set_cons_zero, List.set_cons_succ, i64_w, i32_w]
                                    rfl
                                  refine pure_ (i := 12) (N := some 70) (v := ?_) (a' := ?_) #[true, true, true, true, true, true, true, true, false, true, true, true, true, false, false, false] rfl rfl (any_of HT_.out (by kernel_rfl)) (fun _ _ _ h => h) (Or.inl ⟨by rfl, ?_⟩) ?_ ?_
                                  rotate_left
                                  · intro w'
                                    go_simp
                                    with_reducible rfl
                                  rotate_left
                                  · simp only [Act.put, List.setIfInBounds_toArray, List.set_cons_zero, List.set_cons_succ, i64_w, i32_w]
                                    rfl
                                  refine one_ (i := 8) (N := some 66) #[true, true, true, true, true, true, true, true, true, true, true, true, true, false, false, false] rfl rfl (one_of HT_.out (by kernel_rfl)) (by decide) (fun K hK => ?_)
                                  refine goes_ Try.func12 (by kernel_rfl) rfl #[.agg #[.int .u64 a0_0, .int .u64 a0_1, .slice A55 (dkQ13 1 (tkQ13 ((ji3) : Int).toNat l0_2)).length (c0_2 - 1), .slice (some ad302) (tkQ13 ((ji6) : Int).toNat l0_3).length c0_3]] (by rfl) rfl rfl (by (try simp only [List.map_toArray, List.map_cons, List.map_nil]); first | done | (rw [show (dkQ13 1 (tkQ13 ((ji3) : Int).toNat l0_2)).length = ((tkQ13 ((ji3) : Int).toNat l0_2).length - 1) from List.length_drop] <;> rfl) | (rw [show (tkQ13 ((ji6) : Int).toNat l0_3).length = (ji6).toNat from (by rw [tkQ13_len]; have h_ : ((ji6) : Int) ≤ (l0_3.length : Int) := (by first | (exact of_decide_eq_true (by with_reducible assumption)) | (rw [← hji6]; unfold mn; (repeat' split) <;> omega) | exact of_decide_eq_true (by assumption)); omega)] <;> rfl) | (simp only [hji3, hji6]; rfl) | rfl | (simp only [dkQ13_len, tkQ13_len]; rfl)) ?_
                                  with_reducible refine (root_Right.calls a0_0 a0_1 _ _ (dkQ13 1 (tkQ13 ((ji3) : Int).toNat l0_2)) _ _ (tkQ13 ((ji6) : Int).toNat l0_3) t312 _ ?side1 ?side2 ?side3 ?side4 A32.out).mono ?_
                                  (case side1 => repeat (first | exact (Kd.C_below HR310.out HB.out) | (with_reducible refine Kd.C_alloc ?_ _) | (with_reducible refine Kd.C_drewN ?_ _) | (with_reducible refine Kd.C_drew ?_)))
                                  (case side2 => exact HC310.out)
                                  (case side3 => repeat (first | exact (Kd.C_below HR293.out HB.out) | (with_reducible refine Kd.C_alloc ?_ _) | (with_reducible refine Kd.C_drewN ?_ _) | (with_reducible refine Kd.C_drew ?_)))
                                  (case side4 => exact HC293.out)
                                  rintro e w60 ⟨rfl, hb⟩
                                  refine ⟨_, rfl, ?_⟩
                                  have n0_ := Aside0.mk (Kd.R_below (by (with_reducible repeat (first | apply Kd.R_alloc | apply Kd.R_drewN | apply Kd.R_drew)); exact HO305.out) hb)
                                  have n1_ := Aside0.mk (Kd.R_below (by (with_reducible repeat (first | apply Kd.R_alloc | apply Kd.R_drewN | apply Kd.R_drew)); exact HO308.out) hb)
                                  have n2_ := Aside0.mk (blk_below (g := gb290) (o := .cells #[.int .u64 a0_0, .int .u64 a0_1, .slice A0_2 (tkQ13 ((ji3) : Int).toNat l0_2).length c0_2, .slice (some ad302) (tkQ13 ((ji6) : Int).toNat l0_3).length c0_3] 25 (0, 0)) (by (with_reducible repeat (first | refine blk_drewN ?_ _ | refine blk_drew ?_ | refine blk_alloc ?_ _)); exact BK290.out) hb)
                                  have n3_ := Aside0.mk (blk_below (g := gb295) (o := .cells #[.int .u64 a0_0, .int .u64 a0_1, .slice Ao47 y306.length co47, .slice (some ad302) (tkQ13 ((ji6) : Int).toNat l0_3).length c0_3] 25 (0, 0)) (by (with_reducible repeat (first | refine blk_drewN ?_ _ | refine blk_drew ?_ | refine blk_alloc ?_ _)); exact BK295.out) hb)
                                  have n4_ := Aside0.mk (blk_below (g := gb309) (o := .cells #[.int .u64 a0_0, .int .u64 a0_1, .slice A55 (dkQ13 1 (tkQ13 ((ji3) : Int).toNat l0_2)).length (c0_2 - 1), .slice (some ad302) (tkQ13 ((ji6) : Int).toNat l0_3).length c0_3] 25 (0, 0)) (by (with_reducible repeat (first | refine blk_drewN ?_ _ | refine blk_drew ?_ | refine blk_alloc ?_ _)); exact BK309.out) hb)
                                  have n5_ := Aside0.mk (below_step (by repeat (first | (with_reducible first | exact HB.out | apply below_alloc | apply pw_below_drewN | apply below_drew1 | refine below_set ?_ GE290.out | refine below_set ?_ GE295.out | refine below_set ?_ GE309.out) | exact HB.out)) hb)
                                  clear HO305
                                  clear HO308
                                  clear BK290
                                  clear BK295
                                  clear BK309
                                  clear HB
                                  have HO305 := n0_
                                  have HO308 := n1_
                                  have BK290 := n2_
                                  have BK295 := n3_
                                  have BK309 := n4_
                                  have HB := n5_
                                  clear n0_ n1_ n2_ n3_ n4_ n5_
                                  (try clear hb)
                                  (try clear hb2)
                                  (try clear hk)
                                  (try clear hi)
                                  refine hK.out _ _ ⟨(blk_cell BK295.out 0).trans rfl, (blk_cell BK295.out 1).trans rfl, (blk_cell BK295.out 2).trans rfl, (blk_cell BK295.out 3).trans rfl, (blk_cell BK309.out 0).trans rfl, (blk_cell BK309.out 1).trans rfl, (blk_cell BK309.out 2).trans rfl, (blk_cell BK309.out 3).trans rfl, (blk_cell BK290.out 0).trans rfl, (blk_cell BK290.out 1).trans rfl, (blk_cell BK290.out 2).trans rfl, (blk_cell BK290.out 3).trans rfl⟩ (fun hHeld => ?_)
                                  clear hK K
                                  refine norm_ (a' := ?_) ?_ ?_
                                  rotate_left
                                  · show Act.put _ (some 66) _ = _
                                    simp only [Act.put, List.setIfInBounds_toArray, List.set_cons_zero, List.set_cons_succ, i64_w, i32_w]
                                    rfl
                                  refine pure_ (i := 13) (N := some 71) (v := ?_) (a' := ?_) #[true, true, true, true, true, true, true, true, true, true, true, true, true, true, false, false] rfl rfl (any_of HT_.out (by kernel_rfl)) (fun _ _ _ h => h) (Or.inl ⟨by rfl, ?_⟩) ?_ ?_
                                  rotate_left
                                  · intro w'
                                    go_simp
                                    with_reducible rfl
                                  rotate_left
                                  · simp only [Act.put, List.setIfInBounds_toArray, List.set_cons_zero, List.set_cons_succ, i64_w, i32_w]
                                    rfl
                                  refine pure_ (i := 14) (N := some 72) (v := ?_) (a' := ?_) #[true, true, true, true, true, true, true, true, true, true, true, true, true, true, true, false] rfl rfl (any_of HT_.out (by kernel_rfl)) (fun _ _ _ h => h) (Or.inl ⟨by rfl, ?_⟩) ?_ ?_
                                  rotate_left
                                  · intro w'
                                    go_simp
                                    with_reducible rfl
                                  rotate_left
                                  · simp only [Act.put, List.setIfInBounds_toArray, List.set_cons_zero, List.set_cons_succ, i64_w, i32_w]
                                    rfl
                                  refine pure_ (i := 15) (N := some 2) (v := ?_) (a' := ?_) #[true, true, true, true, true, true, true, true, true, true, true, true, true, true, true, true] rfl rfl (any_of HT_.out (by kernel_rfl)) (fun _ _ _ h => h) (Or.inl ⟨by rfl, ?_⟩) ?_ ?_
                                  rotate_left
                                  · intro w'
                                    go_simp
                                    with_reducible rfl
                                  rotate_left
                                  · simp only [Act.put, List.setIfInBounds_toArray, List.set_cons_zero, List.set_cons_succ, i64_w, i32_w]
                                    rfl
                                  refine done_ (done_of HT_.out (by kernel_rfl)) ?_
                                  try go_wp2
                                  go_ret
                                  exact ⟨by first | rfl | (simp [errW_none, errW_some] <;> rfl) | (simp only [← hji3, ← hji6, ← hji22]; first | rfl | (simp [errW_none, errW_some] <;> rfl)) | (simp [*, errW_none, errW_some] <;> rfl) | (simp [show IntKind.u64.wrap 0 = 0 from rfl, Int.zero_tdiv]; done), by repeat (first | (with_reducible first | exact HB.out | apply below_alloc | apply pw_below_drewN | apply below_drew1 | refine below_set ?_ GE290.out | refine below_set ?_ GE295.out | refine below_set ?_ GE309.out) | exact HB.out)⟩
                              · replace c29 := Bool.eq_false_iff.mpr c29
                                subst c29
                                have H1 : (none) = some r := by rw [if_neg (show ¬ (false = true) by decide)] at H; exact H
                                clear H
                                have H := H1
                                clear H1
                                exact absurd H (by simp)
                            · rw [if_neg c28] at H
                              exact absurd H (by simp)
                          · rw [if_neg c27] at H
                            exact absurd H (by simp)
                        · rw [if_neg c26] at H
                          exact absurd H (by simp)
                      · rw [if_neg c25] at H
                        exact absurd H (by simp)
                    · rw [if_neg c24] at H
                      exact absurd H (by simp)
                  · rw [if_neg c23] at H
                    exact absurd H (by simp)
          · replace c10 := Bool.eq_false_iff.mpr c10
            subst c10
            have H1 : (some t291) = some r := by rw [if_neg (show ¬ (false = true) by decide)] at H; exact H
            clear H
            have H := H1
            clear H1
            obtain rfl := Option.some.inj H
            go_enter Try.func6, Try.ntmps6
            go_wp2_with (first | ((with_reducible refine gate_dst (N := 1) rfl ?_); (try (refine gate_guard (by rfl) ?_; dsimp only)); refine box_event ?hg (N := 1) ?hd (cs := #[.int .u64 a0_0, .int .u64 a0_1, .slice A0_2 l0_2.length c0_2, .slice A0_3 l0_3.length c0_3]) (t := 25) ?hr ?_; (case hd => rfl); (case hg => rfl); (case hr => first | (go_simp; done) | (go_simp; rfl)); intro gb290 hg w61 hbox hb; have n0_ := Aside0.mk (below_step (by repeat (first | (with_reducible first | exact HB.out | apply below_alloc | apply pw_below_drewN | apply below_drew1) | exact HB.out)) hb); have n1_ := Aside0.mk (hbox); have n2_ := Aside0.mk ((by rw [hg]; exact (below_size (by repeat (first | (with_reducible first | exact HB.out | apply below_alloc | apply pw_below_drewN | apply below_drew1) | exact HB.out))) : w.heap.size ≤ gb290)); have n3_ := Aside0.mk ((by rw [hg]; exact (below_size (by repeat (first | (with_reducible first | exact HB.out | apply below_alloc | apply pw_below_drewN | apply below_drew1) | exact HB.out))) : w.heap.size ≤ gb290)); clear HB; have HB := n0_; have BK290 := n1_; have GW290 := n2_; have GE290 := n3_; clear n0_ n1_ n2_ n3_; clear hb hbox hg) | ((with_reducible refine gate_callee (f := 7) rfl ?_); refine goesL_ (some 6) rfl rfl Try.func7 (by kernel_rfl) rfl #[] rfl (by (try simp only [List.map_toArray, List.map_cons, List.map_nil]); first | done | rfl | (simp only [dkQ13_len, tkQ13_len]; rfl)) ?_; (with_reducible refine (nautiluslaw16_shown.calls k  t291 _ A2.out).mono ?_); rintro e w62 ⟨rfl, hb⟩; refine ⟨_, rfl, ?_⟩; have n0_ := Aside0.mk (blk_below (g := gb290) (o := .cells #[.int .u64 a0_0, .int .u64 a0_1, .slice A0_2 l0_2.length c0_2, .slice A0_3 l0_3.length c0_3] 25 (0, 0)) (by (with_reducible repeat (first | refine blk_drewN ?_ _ | refine blk_drew ?_ | refine blk_alloc ?_ _)); exact BK290.out) hb); have n1_ := Aside0.mk (below_step (by repeat (first | (with_reducible first | exact HB.out | apply below_alloc | apply pw_below_drewN | apply below_drew1 | refine below_set ?_ GE290.out) | exact HB.out)) hb); clear BK290; clear HB; have BK290 := n0_; have HB := n1_; clear n0_ n1_; (try clear hb); (try clear hb2); (try clear hk); (try clear hi); have hcz63_0 : w62.cell? ⟨gb290, 0, none⟩ = some (.int .u64 a0_0) := (blk_cell BK290.out 0).trans rfl; have hcz63_1 : w62.cell? ⟨gb290, 1, none⟩ = some (.int .u64 a0_1) := (blk_cell BK290.out 1).trans rfl; have hcz63_2 : w62.cell? ⟨gb290, 2, none⟩ = some (.slice A0_2 l0_2.length c0_2) := (blk_cell BK290.out 2).trans rfl; have hcz63_3 : w62.cell? ⟨gb290, 3, none⟩ = some (.slice A0_3 l0_3.length c0_3) := (blk_cell BK290.out 3).trans rfl; have hfz63_0 := blk_frozen BK290.out 0; have hfz63_1 := blk_frozen BK290.out 1; have hfz63_2 := blk_frozen BK290.out 2; have hfz63_3 := blk_frozen BK290.out 3; obtain ⟨i064, hi064, _, hsz64, _⟩ := info_parts info35; obtain ⟨hcut64, hA64, hC64⟩ := print_take_of (P := Try.prog) (Value.int .u32) 0 23 35 .i64 Try.underlying23 hi064 hsz64 A0_2 c0_2 l0_2 (ji3) (of_decide_eq_true (by first | (with_reducible assumption) | assumption)) (of_decide_eq_true (by first | (with_reducible assumption) | assumption)) HC0_2.out; (try simp only [tkQ13_def] at hcut64 hA64 hC64); have HR292 := Aside0.mk (Kd.C_of_reads (h1 := fun _ => rfl) (hA64 _ (Kd.reads_of_C HR0_2.out))); have HC292 := Aside0.mk hC64; clear hA64 hC64 hi064 hsz64; obtain ⟨i065, hi065, _, hsz65, _⟩ := info_parts info35; obtain ⟨hcut65, hA65, hC65⟩ := print_take_of (P := Try.prog) (Value.int .u32) 0 23 35 .i64 Try.underlying23 hi065 hsz65 A0_3 c0_3 l0_3 (ji6) (of_decide_eq_true (by first | (with_reducible assumption) | assumption)) (of_decide_eq_true (by first | (with_reducible assumption) | assumption)) HC0_3.out; (try simp only [tkQ13_def] at hcut65 hA65 hC65); have HR293 := Aside0.mk (Kd.C_of_reads (h1 := fun _ => rfl) (hA65 _ (Kd.reads_of_C HR0_3.out))); have HC293 := Aside0.mk hC65; clear hA65 hC65 hi065 hsz65) | ((with_reducible refine gate_callee (f := 12) rfl ?_); refine goesL_ (some 24) rfl rfl Try.func12 (by kernel_rfl) rfl #[.agg #[.int .u64 a0_0, .int .u64 a0_1, .slice A0_2 (tkQ13 ((ji3) : Int).toNat l0_2).length c0_2, .slice A0_3 (tkQ13 ((ji6) : Int).toNat l0_3).length c0_3]] rfl (by (try simp only [List.map_toArray, List.map_cons, List.map_nil]); first | done | (rw [show (tkQ13 ((ji3) : Int).toNat l0_2).length = (ji3).toNat from (by rw [tkQ13_len]; have h_ : ((ji3) : Int) ≤ (l0_2.length : Int) := (by first | (exact of_decide_eq_true (by with_reducible assumption)) | (rw [← hji3]; unfold mn; (repeat' split) <;> omega) | exact of_decide_eq_true (by assumption)); omega)] <;> rfl) | (rw [show (tkQ13 ((ji6) : Int).toNat l0_3).length = (ji6).toNat from (by rw [tkQ13_len]; have h_ : ((ji6) : Int) ≤ (l0_3.length : Int) := (by first | (exact of_decide_eq_true (by with_reducible assumption)) | (rw [← hji6]; unfold mn; (repeat' split) <;> omega) | exact of_decide_eq_true (by assumption)); omega)] <;> rfl) | (simp only [hji3, hji6]; rfl) | rfl | (simp only [dkQ13_len, tkQ13_len]; rfl)) ?_; (with_reducible refine (root_Right.calls a0_0 a0_1 _ _ (tkQ13 ((ji3) : Int).toNat l0_2) _ _ (tkQ13 ((ji6) : Int).toNat l0_3) false _ ?side1 ?side2 ?side3 ?side4 A9.out).mono ?_); (case side1 => exact Kd.C_below HR292.out (by repeat (first | (with_reducible first | exact HB.out | apply below_alloc | apply pw_below_drewN | apply below_drew1 | refine below_set ?_ GE290.out) | exact HB.out))); (case side2 => exact HC292.out); (case side3 => exact Kd.C_below HR293.out (by repeat (first | (with_reducible first | exact HB.out | apply below_alloc | apply pw_below_drewN | apply below_drew1 | refine below_set ?_ GE290.out) | exact HB.out))); (case side4 => exact HC293.out); rintro e w66 ⟨rfl, hb⟩; refine ⟨_, rfl, ?_⟩; have n0_ := Aside0.mk (blk_below (g := gb290) (o := .cells #[.int .u64 a0_0, .int .u64 a0_1, .slice A0_2 (tkQ13 ((ji3) : Int).toNat l0_2).length c0_2, .slice A0_3 (tkQ13 ((ji6) : Int).toNat l0_3).length c0_3] 25 (0, 0)) (by (with_reducible repeat (first | refine blk_drewN ?_ _ | refine blk_drew ?_ | refine blk_alloc ?_ _)); refine blk_put (cs := #[.int .u64 a0_0, .int .u64 a0_1, .slice A0_2 (tkQ13 ((ji3) : Int).toNat l0_2).length c0_2, .slice A0_3 l0_3.length c0_3]) ?_ 3 _ rfl; (with_reducible repeat (first | refine blk_drewN ?_ _ | refine blk_drew ?_ | refine blk_alloc ?_ _)); refine blk_put (cs := #[.int .u64 a0_0, .int .u64 a0_1, .slice A0_2 l0_2.length c0_2, .slice A0_3 l0_3.length c0_3]) ?_ 2 _ rfl; (with_reducible repeat (first | refine blk_drewN ?_ _ | refine blk_drew ?_ | refine blk_alloc ?_ _)); exact BK290.out) hb); have n1_ := Aside0.mk (below_step (by repeat (first | (with_reducible first | exact HB.out | apply below_alloc | apply pw_below_drewN | apply below_drew1 | refine below_set ?_ GE290.out) | exact HB.out)) hb); clear BK290; clear HB; have BK290 := n0_; have HB := n1_; clear n0_ n1_; (try clear hb); (try clear hb2); (try clear hk); (try clear hi)))
            go_ret
            exact ⟨by first | rfl | (simp [errW_none, errW_some] <;> rfl) | (simp only [← hji3, ← hji6]; first | rfl | (simp [errW_none, errW_some] <;> rfl)) | (simp [*, errW_none, errW_some] <;> rfl) | (simp [show IntKind.u64.wrap 0 = 0 from rfl, Int.zero_tdiv]; done), by repeat (first | (with_reducible first | exact HB.out | apply below_alloc | apply pw_below_drewN | apply below_drew1 | refine below_set ?_ GE290.out) | exact HB.out)⟩
        · rw [if_neg c8] at H
          exact absurd H (by simp)
      · rw [if_neg c7] at H
        exact absurd H (by simp)
    · rw [if_neg c5] at H
      exact absurd H (by simp)
  · rw [if_neg c4] at H
    exact absurd H (by simp)

/-- THE ONE PURE STATEMENT of nautiluslaw16_RootDoubles: yours. -/
def nautiluslaw16_RootDoubles.Pure : Prop := ∀ (a0_0 : Int) (a0_1 : Int) (l0_2 : List Int) (l0_3 : List Int), (Lit.int .u64 a0_0).wf = true → (Lit.int .u64 a0_1).wf = true → l0_2.length ≤ maxLen → (∀ x ∈ l0_2, (Lit.int .u32 x).wf = true) → l0_3.length ≤ maxLen → (∀ x ∈ l0_3, (Lit.int .u32 x).wf = true) → ∃ k, nautiluslaw16_RootDoubles.f k a0_0 a0_1 l0_2 l0_3 = some true
theorem nautiluslaw16_RootDoubles.walk (P : nautiluslaw16_RootDoubles.Pure) (a0_0 : Int) (a0_1 : Int) (a0_2 : Option Addr) (len0_2 cap0_2 : Nat) (z0_2 : List Int) (a0_3 : Option Addr) (len0_3 cap0_3 : Nat) (z0_3 : List Int) (w : World) (w0_0 : (Lit.int .u64 a0_0).wf = true) (w0_1 : (Lit.int .u64 a0_1).wf = true) (w0_2 : z0_2.length = len0_2 ∧ len0_2 ≤ cap0_2 ∧ len0_2 ≤ maxLen ∧ Kd.C (Kd.int .u32) w a0_2 len0_2 z0_2 ∧ ∀ x ∈ z0_2, (Lit.int .u32 x).wf = true) (w0_3 : z0_3.length = len0_3 ∧ len0_3 ≤ cap0_3 ∧ len0_3 ≤ maxLen ∧ Kd.C (Kd.int .u32) w a0_3 len0_3 z0_3 ∧ ∀ x ∈ z0_3, (Lit.int .u32 x).wf = true) :
    Calls Try.prog 6 #[.agg #[.int .u64 a0_0, .int .u64 a0_1, .slice a0_2 len0_2 cap0_2, .slice a0_3 len0_3 cap0_3]] w fun e w' => e = .returned (.bool true) ∧ Below w.heap.size w w' := by
  obtain ⟨hl0_2, hc0_2, hm0_2, hC0_2, hw0_2⟩ := w0_2
  subst hl0_2
  obtain ⟨hl0_3, hc0_3, hm0_3, hC0_3, hw0_3⟩ := w0_3
  subst hl0_3
  obtain ⟨k, h⟩ := P a0_0 a0_1 z0_2 z0_3 w0_0 w0_1 hm0_2 hw0_2 hm0_3 hw0_3
  refine (nautiluslaw16_RootDoubles.calls k a0_0 a0_1 _ _ z0_2 _ _ z0_3 true w hC0_2 hc0_2 hC0_3 hc0_3 h).mono ?_
  rintro e w' ⟨rfl, hd⟩
  exact ⟨rfl, hd⟩

end Go.Proofs.Ytmpcpcfdomlehaa.Q
