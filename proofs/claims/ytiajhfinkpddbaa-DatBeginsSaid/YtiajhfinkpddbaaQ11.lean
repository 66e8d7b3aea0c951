/- Functions of the translation as plain Lean functions, and that the translation computes them: printed by this session's driver of the print. -/
import Derived.Test.YtiajhfinkpddbaaQ0
import Derived.Test.YtiajhfinkpddbaaQ9
import Derived.Test.YtiajhfinkpddbaaQ10
namespace Go.Proofs.Ytiajhfinkpddbaa.Q
open Go.Proofs.Ytiajhfinkpddbaa.H
open Go.RowKit Go.Proofs.YtiajhfinkpddbaaW.PrintWords Go.Proofs.YtiajhfinkpddbaaW.PrintLast Go.Proofs.YtiajhfinkpddbaaW.PrintMore
attribute [local go_sem] max2_int min2_int max_two min_two max_three min_three max_four min_four   -- for this text's walks alone
set_option linter.unusedVariables false
set_option linter.unusedSimpArgs false

/-! ### nautilusref08_Begin: function 14 -/
mutual
def nautilusref08_Begin.j1 : Nat → List (S31) → Int → Int → Int → Option ((List (S31)) × Int × Int)
  | 0, _, _, _, _ => none
  | k + 1, x0, x1, x2, x10 => if x10 ≥ 1860 then (some (([] : List (S31)), 0, 81)) else (if 0 ≤ (wrap64 ((x0.length : Int) + 1)) then (if (wrap64 ((x0.length : Int) + 1) : Int).toNat ≤ 11728124029610 then ((some (List.replicate 0 z31 : List (S31))).bind fun y231 => (if y231.length + x0.length < 5864062014805 then ((some (y231 ++ x0 : List (S31))).bind fun y234 => (if x10 = (x0.length : Int) then (if y234.length < 5864062014805 then (nautilusref08_Begin.j2 k x1 x2 x10 (y234 ++ [(⟨0, 0, 0⟩ : S31)])) else (none)) else (nautilusref08_Begin.j2 k x1 x2 x10 y234))) else (none))) else (none)) else (none))
def nautilusref08_Begin.j2 : Nat → Int → Int → Int → List (S31) → Option ((List (S31)) × Int × Int)
  | 0, _, _, _, _ => none
  | k + 1, x1, x2, x10, x11 => if x1 = 0 then (nautilusref08_Begin.j3 k x1 x2 x10 x11 true) else (nautilusref08_Begin.j3 k x1 x2 x10 x11 (x2 == 0))
def nautilusref08_Begin.j3 : Nat → Int → Int → Int → List (S31) → Bool → Option ((List (S31)) × Int × Int)
  | 0, _, _, _, _, _ => none
  | k + 1, x1, x2, x10, x11, x53 => if x53 = true then (some (([] : List (S31)), 0, 80)) else ((nautilusref08_with.f k x11 x10 x1 x2 0).bind fun bt240 => (if bt240.2 = 0 then (some (bt240.1, (x10) % 4294967296, 0)) else (some (([] : List (S31)), 0, bt240.2))))
def nautilusref08_Begin.l0 : Nat → List (S31) → Int → Int → Int → Option ((List (S31)) × Int × Int)
  | 0, _, _, _, _ => none
  | k + 1, x0, x1, x2, x10 => if x10 < (x0.length : Int) then (if 0 ≤ x10 then ((nautilusref08_free.f ((rd_T31 x0 x10).f0) ((rd_T31 x0 x10).f1) ((rd_T31 x0 x10).f2)).bind fun t230 => (if t230 = true then (nautilusref08_Begin.j1 k x0 x1 x2 x10) else (nautilusref08_Begin.l0 k x0 x1 x2 (wrap64 (x10 + 1))))) else (none)) else (nautilusref08_Begin.j1 k x0 x1 x2 x10)
end
def nautilusref08_Begin.f (k : Nat) (l0 : List (S31)) (a1 : Int) (a2 : Int) : Option ((List (S31)) × Int × Int) := (nautilusref08_Right.f k l0).bind fun t228 => (if t228 = true then (nautilusref08_Begin.l0 k l0 a1 a2 1) else (some (([] : List (S31)), 0, 80)))
theorem nautilusref08_Begin.mono_l : ∀ k, (∀ y0 y1 y2 y3, LeO (nautilusref08_Begin.j1 k y0 y1 y2 y3) (nautilusref08_Begin.j1 (k + 1) y0 y1 y2 y3)) ∧ (∀ y0 y1 y2 y3, LeO (nautilusref08_Begin.j2 k y0 y1 y2 y3) (nautilusref08_Begin.j2 (k + 1) y0 y1 y2 y3)) ∧ (∀ y0 y1 y2 y3 y4, LeO (nautilusref08_Begin.j3 k y0 y1 y2 y3 y4) (nautilusref08_Begin.j3 (k + 1) y0 y1 y2 y3 y4)) ∧ (∀ y0 y1 y2 y3, LeO (nautilusref08_Begin.l0 k y0 y1 y2 y3) (nautilusref08_Begin.l0 (k + 1) y0 y1 y2 y3))
  | 0 => ⟨fun _ _ _ _ r h => by simp [nautilusref08_Begin.j1] at h, fun _ _ _ _ r h => by simp [nautilusref08_Begin.j2] at h, fun _ _ _ _ _ r h => by simp [nautilusref08_Begin.j3] at h, fun _ _ _ _ r h => by simp [nautilusref08_Begin.l0] at h⟩
  | k + 1 => by
    obtain ⟨ih0, ih1, ih2, ih3⟩ := nautilusref08_Begin.mono_l k
    refine ⟨?_, ?_, ?_, ?_⟩
    · intro y0 y1 y2 y3
      unfold nautilusref08_Begin.j1
      repeat' first
      | (with_reducible exact ih0 _ _ _ _)
      | (with_reducible exact ih1 _ _ _ _)
      | (with_reducible exact ih2 _ _ _ _ _)
      | (with_reducible exact ih3 _ _ _ _)
      | (with_reducible exact nautilusref08_Right.mono _ _)
      | (with_reducible exact nautilusref08_with.mono _ _ _ _ _ _)
      | (with_reducible exact LeO.refl _)
      | (with_reducible exact LeO.none _)
      | (with_reducible refine LeO.ite ?_ ?_)
      | (with_reducible refine LeO.bind ?_ (fun _ => ?_))
      | exact ih0 _ _ _ _
      | exact ih1 _ _ _ _
      | exact ih2 _ _ _ _ _
      | exact ih3 _ _ _ _
      | exact nautilusref08_Right.mono _ _
      | exact nautilusref08_with.mono _ _ _ _ _ _
      | exact LeO.none _
      | refine LeO.ite ?_ ?_
      | refine LeO.bind ?_ (fun _ => ?_)
    · intro y0 y1 y2 y3
      unfold nautilusref08_Begin.j2
      repeat' first
      | (with_reducible exact ih0 _ _ _ _)
      | (with_reducible exact ih1 _ _ _ _)
      | (with_reducible exact ih2 _ _ _ _ _)
      | (with_reducible exact ih3 _ _ _ _)
      | (with_reducible exact nautilusref08_Right.mono _ _)
      | (with_reducible exact nautilusref08_with.mono _ _ _ _ _ _)
      | (with_reducible exact LeO.refl _)
      | (with_reducible exact LeO.none _)
      | (with_reducible refine LeO.ite ?_ ?_)
      | (with_reducible refine LeO.bind ?_ (fun _ => ?_))
      | exact ih0 _ _ _ _
      | exact ih1 _ _ _ _
      | exact ih2 _ _ _ _ _
      | exact ih3 _ _ _ _
      | exact nautilusref08_Right.mono _ _
      | exact nautilusref08_with.mono _ _ _ _ _ _
      | exact LeO.none _
      | refine LeO.ite ?_ ?_
      | refine LeO.bind ?_ (fun _ => ?_)
    · intro y0 y1 y2 y3 y4
      unfold nautilusref08_Begin.j3
      repeat' first
      | (with_reducible exact ih0 _ _ _ _)
      | (with_reducible exact ih1 _ _ _ _)
      | (with_reducible exact ih2 _ _ _ _ _)
      | (with_reducible exact ih3 _ _ _ _)
      | (with_reducible exact nautilusref08_Right.mono _ _)
      | (with_reducible exact nautilusref08_with.mono _ _ _ _ _ _)
      | (with_reducible exact LeO.refl _)
      | (with_reducible exact LeO.none _)
      | (with_reducible refine LeO.ite ?_ ?_)
      | (with_reducible refine LeO.bind ?_ (fun _ => ?_))
      | exact ih0 _ _ _ _
      | exact ih1 _ _ _ _
      | exact ih2 _ _ _ _ _
      | exact ih3 _ _ _ _
      | exact nautilusref08_Right.mono _ _
      | exact nautilusref08_with.mono _ _ _ _ _ _
      | exact LeO.none _
      | refine LeO.ite ?_ ?_
      | refine LeO.bind ?_ (fun _ => ?_)
    · intro y0 y1 y2 y3
      unfold nautilusref08_Begin.l0
      repeat' first
      | (with_reducible exact ih0 _ _ _ _)
      | (with_reducible exact ih1 _ _ _ _)
      | (with_reducible exact ih2 _ _ _ _ _)
      | (with_reducible exact ih3 _ _ _ _)
      | (with_reducible exact nautilusref08_Right.mono _ _)
      | (with_reducible exact nautilusref08_with.mono _ _ _ _ _ _)
      | (with_reducible exact LeO.refl _)
      | (with_reducible exact LeO.none _)
      | (with_reducible refine LeO.ite ?_ ?_)
      | (with_reducible refine LeO.bind ?_ (fun _ => ?_))
      | exact ih0 _ _ _ _
      | exact ih1 _ _ _ _
      | exact ih2 _ _ _ _ _
      | exact ih3 _ _ _ _
      | exact nautilusref08_Right.mono _ _
      | exact nautilusref08_with.mono _ _ _ _ _ _
      | exact LeO.none _
      | refine LeO.ite ?_ ?_
      | refine LeO.bind ?_ (fun _ => ?_)
theorem nautilusref08_Begin.mono : ∀ a0 a1 a2 k, LeO (nautilusref08_Begin.f k a0 a1 a2) (nautilusref08_Begin.f (k + 1) a0 a1 a2) := by
  intro a0 a1 a2 k
  obtain ⟨ih0, ih1, ih2, ih3⟩ := nautilusref08_Begin.mono_l k
  unfold nautilusref08_Begin.f
  repeat' first
      | (with_reducible exact ih0 _ _ _ _)
      | (with_reducible exact ih1 _ _ _ _)
      | (with_reducible exact ih2 _ _ _ _ _)
      | (with_reducible exact ih3 _ _ _ _)
      | (with_reducible exact nautilusref08_Right.mono _ _)
      | (with_reducible exact nautilusref08_with.mono _ _ _ _ _ _)
      | (with_reducible exact LeO.refl _)
      | (with_reducible exact LeO.none _)
      | (with_reducible refine LeO.ite ?_ ?_)
      | (with_reducible refine LeO.bind ?_ (fun _ => ?_))
      | exact ih0 _ _ _ _
      | exact ih1 _ _ _ _
      | exact ih2 _ _ _ _ _
      | exact ih3 _ _ _ _
      | exact nautilusref08_Right.mono _ _
      | exact nautilusref08_with.mono _ _ _ _ _ _
      | exact LeO.none _
      | refine LeO.ite ?_ ?_
      | refine LeO.bind ?_ (fun _ => ?_)
set_option maxHeartbeats 8000000 in
set_option maxRecDepth 100000 in
theorem nautilusref08_Begin.calls (k : Nat) (A0 : Option Addr) (c0 : Nat) (l0 : List (S31)) (a1 : Int) (a2 : Int) (r1 : List (S31)) (r2 : Int) (r3 : Int) (w : World) (hr0 : Kd.C k31 w A0 l0.length l0) (hc0 : l0.length ≤ c0) (h : nautilusref08_Begin.f k l0 a1 a2 = some (r1, r2, r3)) :
    Calls Try.prog 14 #[.slice A0 l0.length c0, .int .u32 a1, .int .u64 a2] w fun e w' => ∃ v0_ : Value, e = .returned (.tuple #[v0_, .int .u32 r2, .int .i64 r3]) ∧ Kd.R k31 31 w' w.heap.size (fun _ => True) v0_ r1 ∧ Below w.heap.size w w' := by
  have hu31 := Try.underlying31
  have HR0 := Aside0.mk hr0
  have HC0 := Aside0.mk hc0
  clear hr0 hc0
  have HB := Aside0.mk (Below.refl w.heap.size w)
  have H : ((nautilusref08_Right.f k l0).bind fun t228 => (if t228 = true then (nautilusref08_Begin.l0 k l0 a1 a2 1) else (some (([] : List (S31)), 0, 80)))) = some (r1, r2, r3) := h
  clear h
  replace H := Option.bind_eq_some_iff.mp H
  obtain ⟨t228, A40, H⟩ := H
  replace H : (if t228 = true then (nautilusref08_Begin.l0 k l0 a1 a2 1) else (some (([] : List (S31)), 0, 80))) = some (r1, r2, r3) := H
  have A4 := Aside0.mk A40
  clear A40
  by_cases c5 : t228 = true
  · subst c5
    have H1 : (nautilusref08_Begin.l0 k l0 a1 a2 1) = some (r1, r2, r3) := by rw [if_pos rfl] at H; exact H
    clear H
    have H := H1
    clear H1
    have HC6 := Aside0.mk H
    clear H
    go_enter Try.func14, Try.ntmps14
    go_upto_block 0 with (first | ((with_reducible refine gate_callee (f := 18) rfl ?_); refine goesL_ (some 15) rfl rfl Try.func18 (by kernel_rfl) rfl #[.slice A0 l0.length c0] rfl (by (try simp only [List.map_toArray, List.map_cons, List.map_nil]); first | done | rfl | (simp only [List.length_drop, List.length_take]; rfl)) ?_; (with_reducible refine (nautilusref08_Right.calls k _ _ l0 true _ ?side1 ?side2 A4.out).mono ?_); (case side1 => repeat (first | exact HR0.out | (with_reducible refine Kd.C_alloc ?_ _) | (with_reducible refine Kd.C_drewN ?_ _) | (with_reducible refine Kd.C_drew ?_))); (case side2 => exact HC0.out); rintro e w7 ⟨rfl, hb⟩; refine ⟨_, rfl, ?_⟩; have n0_ := Aside0.mk (below_step (by repeat (first | (with_reducible first | exact HB.out | apply below_alloc | apply pw_below_drewN | apply below_drew1) | exact HB.out)) hb); clear HB; have HB := n0_; clear n0_; (try clear hb); (try clear hb2); (try clear hk); (try clear hi)))
    (try simp only [Act.put, List.setIfInBounds_toArray, List.set_cons_zero, List.set_cons_succ])
    go_cut [10] (fun v10 wc => ∃ (kq : Nat) (x10_5 : Int), v10 = .int .i64 x10_5 ∧ Aside0 (nautilusref08_Begin.j1 kq l0 a1 a2 x10_5 = some (r1, r2, r3)) ∧ Aside0 (kq ≤ k) ∧ Aside0 (Below w.heap.size w wc))
    case first =>
      have H := HC6.out
      clear HC6
      have H' := Aside0.mk H
      clear H
      go_wp2
      go_loopg [10] k (fun kq v10 w' => ∃ (x10_1 : Int), v10 = .int .i64 x10_1 ∧ Aside0 (nautilusref08_Begin.l0 kq l0 a1 a2 x10_1 = some (r1, r2, r3)) ∧ Aside0 (kq ≤ k) ∧ Aside0 (Below w.heap.size w w'))
      case atStart => exact ⟨(1), (by first | rfl | (simp; done) | (simp [*]; done)), H', ⟨Nat.le_refl _⟩, ⟨by repeat (first | (with_reducible first | exact HB.out | apply below_alloc | apply pw_below_drewN | apply below_drew1) | exact HB.out)⟩⟩
      case round =>
        clear H'
        try clear c1
        try clear p2
        try clear c5
        obtain ⟨x10_1, rfl, HA, HK1, HB⟩ := hrel
        cases gk with
        | zero => exact absurd HA.out (by simp [nautilusref08_Begin.l0])
        | succ k1 =>
          have H := HA.out
          clear HA
          simp only [nautilusref08_Begin.l0] at H
          by_cases c8 : x10_1 < (l0.length : Int)
          · rw [if_pos c8] at H
            have c8b0 : decide (x10_1 < (l0.length : Int)) = true := decide_eq_true c8
            clear c8
            (first | rw [c8b0] | (simp only [i64_w, i32_w]; rw [c8b0]) | skip)
            by_cases c9 : 0 ≤ x10_1
            · rw [if_pos c9] at H
              have c9b0 : decide (0 ≤ x10_1) = true := decide_eq_true c9
              clear c9
              replace H := Option.bind_eq_some_iff.mp H
              obtain ⟨t230, A100, H⟩ := H
              replace H : (if t230 = true then (nautilusref08_Begin.j1 k1 l0 a1 a2 x10_1) else (nautilusref08_Begin.l0 k1 l0 a1 a2 (wrap64 (x10_1 + 1)))) = some (r1, r2, r3) := H
              have A10 := Aside0.mk A100
              clear A100
              by_cases c11 : t230 = true
              · subst c11
                have H1 : (nautilusref08_Begin.j1 k1 l0 a1 a2 x10_1) = some (r1, r2, r3) := by rw [if_pos rfl] at H; exact H
                clear H
                have H := H1
                clear H1
                have H' := Aside0.mk H
                clear H
                have p229 : 0 ≤ (x10_1 : Int) := of_decide_eq_true (by first | (with_reducible assumption) | assumption)
                have q229 : x10_1 < (l0.length : Int) := of_decide_eq_true (by first | (with_reducible assumption) | assumption)
                obtain ⟨ad229, e229, hx229_0, hx229_1, hx229_2⟩ := at_T31 HR0.out x10_1 p229 q229
                cases e229
                replace hx229_0 := (HB.out.cell (World.block_lt_of_cell? w _ hx229_0)).trans hx229_0
                replace hx229_1 := (HB.out.cell (World.block_lt_of_cell? w _ hx229_1)).trans hx229_1
                replace hx229_2 := (HB.out.cell (World.block_lt_of_cell? w _ hx229_2)).trans hx229_2
                replace p229 := eq_true p229
                replace q229 := eq_true q229
                go_wp2_with (first | (go_at_call 38; (with_reducible refine (nautilusref08_free.calls ((rd_T31 l0 x10_1).f0) ((rd_T31 l0 x10_1).f1) ((rd_T31 l0 x10_1).f2) true _ A10.out).mono ?_); rintro e w12 ⟨rfl, hb⟩; have n0_ := Aside0.mk (below_step (by repeat (first | (with_reducible first | exact HB.out | apply below_alloc | apply pw_below_drewN | apply below_drew1) | exact HB.out)) hb); clear HB; have HB := n0_; clear n0_; (try clear hb); (try clear hb2); (try clear hk); (try clear hi)))
                go_meet
                case rel => exact ⟨_, (x10_1), (by first | rfl | (simp; done) | (simp [*]; done)), H', ⟨by have := HK1.out; first | omega | exact Nat.le_refl _⟩, ⟨by repeat (first | (with_reducible first | exact HB.out | apply below_alloc | apply pw_below_drewN | apply below_drew1) | exact HB.out)⟩⟩
              · replace c11 := Bool.eq_false_iff.mpr c11
                subst c11
                have H1 : (nautilusref08_Begin.l0 k1 l0 a1 a2 (wrap64 (x10_1 + 1))) = some (r1, r2, r3) := by rw [if_neg (show ¬ (false = true) by decide)] at H; exact H
                clear H
                have H := H1
                clear H1
                have H' := Aside0.mk H
                clear H
                have p229 : 0 ≤ (x10_1 : Int) := of_decide_eq_true (by first | (with_reducible assumption) | assumption)
                have q229 : x10_1 < (l0.length : Int) := of_decide_eq_true (by first | (with_reducible assumption) | assumption)
                obtain ⟨ad229, e229, hx229_0, hx229_1, hx229_2⟩ := at_T31 HR0.out x10_1 p229 q229
                cases e229
                replace hx229_0 := (HB.out.cell (World.block_lt_of_cell? w _ hx229_0)).trans hx229_0
                replace hx229_1 := (HB.out.cell (World.block_lt_of_cell? w _ hx229_1)).trans hx229_1
                replace hx229_2 := (HB.out.cell (World.block_lt_of_cell? w _ hx229_2)).trans hx229_2
                replace p229 := eq_true p229
                replace q229 := eq_true q229
                go_wp2_with (first | (go_at_call 38; (with_reducible refine (nautilusref08_free.calls ((rd_T31 l0 x10_1).f0) ((rd_T31 l0 x10_1).f1) ((rd_T31 l0 x10_1).f2) false _ A10.out).mono ?_); rintro e w13 ⟨rfl, hb⟩; have n0_ := Aside0.mk (below_step (by repeat (first | (with_reducible first | exact HB.out | apply below_alloc | apply pw_below_drewN | apply below_drew1) | exact HB.out)) hb); clear HB; have HB := n0_; clear n0_; (try clear hb); (try clear hb2); (try clear hk); (try clear hi)))
                go_roundg k1
                case measure => have := HK1.out; omega
                case rel => exact ⟨(wrap64 (x10_1 + 1)), (by first | rfl | (simp; done) | (simp [*]; done)), H', ⟨by have := HK1.out; omega⟩, ⟨by repeat (first | (with_reducible first | exact HB.out | apply below_alloc | apply pw_below_drewN | apply below_drew1) | exact HB.out)⟩⟩
            · rw [if_neg c9] at H
              exact absurd H (by simp)
          · rw [if_neg c8] at H
            have c8b0 : decide (x10_1 < (l0.length : Int)) = false := decide_eq_false c8
            clear c8
            (first | rw [c8b0] | (simp only [i64_w, i32_w]; rw [c8b0]) | skip)
            have H' := Aside0.mk H
            clear H
            go_wp2
            go_meet
            case rel => exact ⟨_, (x10_1), (by first | rfl | (simp; done) | (simp [*]; done)), H', ⟨by have := HK1.out; first | omega | exact Nat.le_refl _⟩, ⟨by repeat (first | (with_reducible first | exact HB.out | apply below_alloc | apply pw_below_drewN | apply below_drew1) | exact HB.out)⟩⟩
    case rest =>
      clear HC6
      try clear c1
      try clear p2
      try clear q2
      try clear hx2
      try clear c5
      try clear p6
      try clear c8
      try clear c8b0
      try clear c9
      try clear c9b0
      try clear c11
      try clear hx229_0
      try clear hx229_1
      try clear hx229_2
      try clear p2
      try clear p229
      try clear q229
      obtain ⟨kq, x10_5, rfl, HA, HJ5, HB⟩ := hcut
      cases kq with
      | zero => exact absurd HA.out (by simp [nautilusref08_Begin.j1])
      | succ kj5 =>
        have H := HA.out
        clear HA
        simp only [nautilusref08_Begin.j1] at H
        by_cases c14 : x10_5 ≥ 1860
        · rw [if_pos c14] at H
          have c14b0 : decide (1860 ≤ x10_5) = true := decide_eq_true c14
          clear c14
          simp only [Option.some.injEq, Prod.mk.injEq] at H
          obtain ⟨rfl, rfl, rfl⟩ := H
          go_wp2
          go_ret3
          exact ⟨_, by first | rfl | (simp [errW_none, errW_some] <;> rfl) | (simp [*, errW_none, errW_some] <;> rfl), by first | exact Kd.R_nil _ _ _ _ _ | exact Kd.N_nil _ _ _ _ _ | exact Kd.V_nil _ _ _ _ _ | exact Kd.Q_nil _ _ _ _ _ | exact Kd.S_nil _ _ _ _ _, by repeat (first | (with_reducible first | exact HB.out | apply below_alloc | apply pw_below_drewN | apply below_drew1) | exact HB.out)⟩
        · rw [if_neg c14] at H
          have c14b0 : decide (1860 ≤ x10_5) = false := decide_eq_false c14
          clear c14
          obtain ⟨ji15, hji15⟩ : ∃ j_ : Int, (wrap64 ((l0.length : Int) + 1)) = j_ := ⟨_, rfl⟩
          replace H : (if 0 ≤ (ji15) then (if (ji15 : Int).toNat ≤ 11728124029610 then ((some (List.replicate 0 z31 : List (S31))).bind fun y231 => (if y231.length + l0.length < 5864062014805 then ((some (y231 ++ l0 : List (S31))).bind fun y234 => (if x10_5 = (l0.length : Int) then (if y234.length < 5864062014805 then (nautilusref08_Begin.j2 kj5 a1 a2 x10_5 (y234 ++ [(⟨0, 0, 0⟩ : S31)])) else (none)) else (nautilusref08_Begin.j2 kj5 a1 a2 x10_5 y234))) else (none))) else (none)) else (none)) = some (r1, r2, r3) := by first | (rw [hji15] at H; exact H) | (simp only [hji15] at H ⊢; exact H)
          have hji15w : (IntKind.i64.wrap ((l0.length : Int) + 1)) = ji15 := (i64_w _).trans hji15
          by_cases c16 : 0 ≤ (ji15)
          · rw [if_pos c16] at H
            have c16b0 := eq_true c16
            have c16b1 : decide (0 ≤ (ji15)) = true := decide_eq_true c16
            clear c16
            by_cases c17 : (ji15 : Int).toNat ≤ 11728124029610
            · rw [if_pos c17] at H
              have c17b0 := eq_true c17
              have c17b1 : decide ((ji15 : Int).toNat ≤ 11728124029610) = true := decide_eq_true c17
              clear c17
              obtain ⟨y231, hy231⟩ : ∃ y_ : List (S31), y_ = (List.replicate 0 z31) := ⟨_, rfl⟩
              replace H : (if y231.length + l0.length < 5864062014805 then ((some (y231 ++ l0 : List (S31))).bind fun y234 => (if x10_5 = (l0.length : Int) then (if y234.length < 5864062014805 then (nautilusref08_Begin.j2 kj5 a1 a2 x10_5 (y234 ++ [(⟨0, 0, 0⟩ : S31)])) else (none)) else (nautilusref08_Begin.j2 kj5 a1 a2 x10_5 y234))) else (none)) = some (r1, r2, r3) := by first | (rw [hy231]; with_reducible exact H) | (have H2_ := (Option.bind_some _ _).symm.trans H; rw [hy231]; with_reducible exact H2_) | (have H2_ := (Option.bind_some _ _).symm.trans H; with_reducible exact H2_) | with_reducible exact H | (rw [hy231]; exact H) | exact H
              have Ny231 := Aside0.mk hy231
              clear hy231
              by_cases c18 : y231.length + l0.length < 5864062014805
              · rw [if_pos c18] at H
                have LMc18 := Aside0.mk c18
                clear c18
                obtain ⟨y234, hy234⟩ : ∃ y_ : List (S31), y_ = (y231 ++ l0) := ⟨_, rfl⟩
                replace H : (if x10_5 = (l0.length : Int) then (if y234.length < 5864062014805 then (nautilusref08_Begin.j2 kj5 a1 a2 x10_5 (y234 ++ [(⟨0, 0, 0⟩ : S31)])) else (none)) else (nautilusref08_Begin.j2 kj5 a1 a2 x10_5 y234)) = some (r1, r2, r3) := by first | (rw [hy234]; with_reducible exact H) | (have H2_ := (Option.bind_some _ _).symm.trans H; rw [hy234]; with_reducible exact H2_) | (have H2_ := (Option.bind_some _ _).symm.trans H; with_reducible exact H2_) | with_reducible exact H | (rw [hy234]; exact H) | exact H
                have Ny234 := Aside0.mk hy234
                clear hy234
                have HC19 := Aside0.mk H
                clear H
                go_upto_if 43 with (first | ((with_reducible refine gate_dst (N := 37) rfl ?_); refine R_make0 k31 _ 31 rfl (N := 37) rfl 22 _ _ rfl ji15 rfl rfl Try.underlying22 (.agg #[(.int .u32 0), (.int .u64 0), (.int .u64 0)]) 24 info31 rfl (by decide) (by omega) z31 (ok := fun _ => True) (okp := fun _ => True) (k31_mkM _ _ _ z31 ) (fun _ hk => hk) trivial (of_decide_eq_true (by first | (with_reducible assumption) | assumption)) (Nat.le_trans (Nat.mul_le_mul_right _ (of_decide_eq_true (by first | (with_reducible assumption) | assumption) : ji15.toNat ≤ 11728124029610)) (by omega)) (Below.refl _ _) (Nat.le_refl _) ?_; intro v232 w20 ho21 hb hg_ hnew_; clear hg_ hnew_; (first | rw [← Ny231.out] at ho21 | (simp only [Int.reduceToNat] at ho21; rw [← Ny231.out] at ho21)); have n0_ := Aside0.mk (Kd.R_lower ho21 (below_size (by repeat (first | (with_reducible first | exact HB.out | apply below_alloc | apply pw_below_drewN | apply below_drew1) | exact HB.out)))); have n1_ := Aside0.mk (below_step (by repeat (first | (with_reducible first | exact HB.out | apply below_alloc | apply pw_below_drewN | apply below_drew1) | exact HB.out)) hb); clear HB; have HO233 := n0_; have HB := n1_; clear n0_ n1_; clear hb ho21) | ((with_reducible refine gate_builtin (b := .append) (xs := #[.tmp 37, .tmp 38]) rfl ?_); at_builtin; refine Kd.R_append_rows k31 (w0 := w) w.heap.size rfl (.tmp 37) (.tmp 38) 22 31 (.agg #[(.int .u32 0), (.int .u64 0), (.int .u64 0)]) 24 rfl Try.underlying22 info31 rfl (by decide) (by omega) v232 y231 l0 _ _ _ (fun _ => True) (fun _ => False) rfl rfl ?aO ?aR (fun _ _ h => h) (fun _ h => h.elim) ?aF ?aB ?aS ?aL ?_; (case aR => repeat (first | exact (Kd.C_below HR0.out HB.out) | (with_reducible refine Kd.C_alloc ?_ _) | (with_reducible refine Kd.C_drewN ?_ _) | (with_reducible refine Kd.C_drew ?_))); (case aB => exact (by repeat (first | (with_reducible first | exact HB.out | apply below_alloc | apply pw_below_drewN | apply below_drew1) | exact HB.out))); (case aF => exact (fun _ _ => trivial)); (case aO => exact (by (with_reducible repeat (first | apply Kd.R_alloc | apply Kd.R_drewN | apply Kd.R_drew)); exact HO233.out)); (case aS => exact (below_size (by repeat (first | (with_reducible first | exact HB.out | apply below_alloc | apply pw_below_drewN | apply below_drew1) | exact HB.out)))); (case aL => have := LMc18.out; omega); intro v235 w22 ho hb hg hat; rw [← Ny234.out] at ho; have n0_ := Aside0.mk (hb); have n1_ := Aside0.mk (ho); clear HB; clear HO233; have HB := n0_; have HO236 := n1_; clear n0_ n1_; clear ho hb hg hat))
                (try simp only [Act.put, List.setIfInBounds_toArray, List.set_cons_zero, List.set_cons_succ])
                go_cut [11] (fun v11 wc => ∃ (kq : Nat) (x11_18 : List (S31)), Aside0 (nautilusref08_Begin.j2 kq a1 a2 x10_5 x11_18 = some (r1, r2, r3)) ∧ Aside0 (kq ≤ kj5) ∧ Aside0 (Kd.R k31 31 wc w.heap.size (fun _ => True) v11 x11_18) ∧ Aside0 (Below w.heap.size w wc))
                case first =>
                  have H := HC19.out
                  clear HC19
                  by_cases c23 : x10_5 = (l0.length : Int)
                  · rw [if_pos c23] at H
                    have c23b0 : (x10_5 == (l0.length : Int)) = true := beq_iff_eq.mpr c23
                    have c23b1 : (x10_5 != (l0.length : Int)) = false := bne_eq_false_iff_eq.mpr c23
                    clear c23
                    (first | rw [c23b0] | (simp only [i64_w, i32_w]; rw [c23b0]) | skip)
                    by_cases c24 : y234.length < 5864062014805
                    · rw [if_pos c24] at H
                      have LMc24 := Aside0.mk c24
                      clear c24
                      obtain ⟨y237, hy237⟩ : ∃ y_ : List (S31), y_ = (y234 ++ [(⟨0, 0, 0⟩ : S31)]) := ⟨_, rfl⟩
                      replace H : (nautilusref08_Begin.j2 kj5 a1 a2 x10_5 y237) = some (r1, r2, r3) := by first | (rw [hy237]; with_reducible exact H) | (have H2_ := (Option.bind_some _ _).symm.trans H; rw [hy237]; with_reducible exact H2_) | (have H2_ := (Option.bind_some _ _).symm.trans H; with_reducible exact H2_) | with_reducible exact H | (rw [hy237]; exact H) | exact H
                      have Ny237 := Aside0.mk hy237
                      clear hy237
                      have H' := Aside0.mk H
                      clear H
                      go_wp2_with (first | ((with_reducible refine gate_builtin (b := .append) (xs := #[.tmp 44, .tmp 46]) rfl ?_); at_builtin; refine Kd.R_append k31 (w0 := w) w.heap.size rfl (.tmp 44) (.tmp 46) 22 31 (.agg #[(.int .u32 0), (.int .u64 0), (.int .u64 0)]) 24 rfl Try.underlying22 info31 rfl (by decide) (by omega) v235 y234 (⟨0, 0, 0⟩ : S31) [.int .u32 0, .int .u64 0, .int .u64 0] (fun _ => True) (fun _ => False) rfl rfl ?aP (fun _ hk => hk.elim) ?aF ?aO ?aB ?aS ?aL ?_; (case aP => exact k31_mkM _ _ _ (⟨0, 0, 0⟩ : S31)); (case aB => exact (by repeat (first | (with_reducible first | exact HB.out | apply below_alloc | apply pw_below_drewN | apply below_drew1) | exact HB.out))); (case aF => exact (fun _ _ => trivial)); (case aO => exact (by (with_reducible repeat (first | apply Kd.R_alloc | apply Kd.R_drewN | apply Kd.R_drew)); exact HO236.out)); (case aS => exact (below_size (by repeat (first | (with_reducible first | exact HB.out | apply below_alloc | apply pw_below_drewN | apply below_drew1) | exact HB.out)))); (case aL => have := LMc24.out; omega); intro v238 w25 ho hb hg hat; rw [← Ny237.out] at ho; have n0_ := Aside0.mk (hb); have n1_ := Aside0.mk (ho); clear HB; clear HO236; have HB := n0_; have HO239 := n1_; clear n0_ n1_; clear ho hb hg hat))
                      go_meet
                      case rel => exact ⟨_, (y237), H', ⟨by have := HJ5.out; first | omega | exact Nat.le_refl _⟩, ⟨by (with_reducible repeat (first | apply Kd.R_alloc | apply Kd.R_drewN | apply Kd.R_drew)); exact HO239.out⟩, ⟨by repeat (first | (with_reducible first | exact HB.out | apply below_alloc | apply pw_below_drewN | apply below_drew1) | exact HB.out)⟩⟩
                    · rw [if_neg c24] at H
                      exact absurd H (by simp)
                  · rw [if_neg c23] at H
                    have c23b0 : (x10_5 == (l0.length : Int)) = false := beq_eq_false_iff_ne.mpr c23
                    have c23b1 : (x10_5 != (l0.length : Int)) = true := bne_iff_ne.mpr c23
                    (first | rw [c23b0] | (simp only [i64_w, i32_w]; rw [c23b0]) | skip)
                    have H' := Aside0.mk H
                    clear H
                    go_wp2
                    go_meet
                    case rel => exact ⟨_, (y234), H', ⟨by have := HJ5.out; first | omega | exact Nat.le_refl _⟩, ⟨by (with_reducible repeat (first | apply Kd.R_alloc | apply Kd.R_drewN | apply Kd.R_drew)); exact HO236.out⟩, ⟨by repeat (first | (with_reducible first | exact HB.out | apply below_alloc | apply pw_below_drewN | apply below_drew1) | exact HB.out)⟩⟩
                case rest =>
                  clear HC19
                  try clear c1
                  try clear c2
                  try clear p2
                  try clear q2
                  try clear hx2
                  try clear c5
                  try clear p6
                  try clear c8
                  try clear c8b0
                  try clear c9
                  try clear c9b0
                  try clear c11
                  try clear c14
                  try clear c14b0
                  try clear c16
                  try clear c16b0
                  try clear c16b1
                  try clear c17
                  try clear c17b0
                  try clear c17b1
                  try clear c18
                  try clear p22
                  try clear q22
                  try clear hx22
                  try clear c23
                  try clear c23b0
                  try clear c23b1
                  try clear c24
                  try clear hx229_0
                  try clear hx229_1
                  try clear hx229_2
                  try clear p2
                  try clear p229
                  try clear p6
                  try clear q2
                  try clear q229
                  obtain ⟨kq, x11_18, HA, HJ18, HO_11, HB⟩ := hcut
                  cases kq with
                  | zero => exact absurd HA.out (by simp [nautilusref08_Begin.j2])
                  | succ kj18 =>
                    have H := HA.out
                    clear HA
                    simp only [nautilusref08_Begin.j2] at H
                    have HC26 := Aside0.mk H
                    clear H
                    go_upto_region 12 with (fail)
                    go_cut [53] (fun v53 wc => ∃ (kq : Nat) (x53_25 : Bool), v53 = .bool x53_25 ∧ Aside0 (nautilusref08_Begin.j3 kq a1 a2 x10_5 x11_18 x53_25 = some (r1, r2, r3)) ∧ Aside0 (kq ≤ kj18) ∧ Aside0 (Kd.R k31 31 wc w.heap.size (fun _ => True) u11 x11_18) ∧ Aside0 (Below w.heap.size w wc))
                    case first =>
                      have H := HC26.out
                      clear HC26
                      by_cases c27 : a1 = 0
                      · rw [if_pos c27] at H
                        have c27b0 : (a1 == 0) = true := beq_iff_eq.mpr c27
                        have c27b1 : (a1 != 0) = false := bne_eq_false_iff_eq.mpr c27
                        clear c27
                        (first | rw [c27b0] | (simp only [i64_w, i32_w]; rw [c27b0]) | skip)
                        have H' := Aside0.mk H
                        clear H
                        go_wp2
                        go_meet
                        case rel => exact ⟨_, (true), (by first | rfl | (simp; done) | (simp [*]; done)), H', ⟨by have := HJ5.out; have := HJ18.out; first | omega | exact Nat.le_refl _⟩, ⟨by (with_reducible repeat (first | apply Kd.R_alloc | apply Kd.R_drewN | apply Kd.R_drew)); exact HO_11.out⟩, ⟨by repeat (first | (with_reducible first | exact HB.out | apply below_alloc | apply pw_below_drewN | apply below_drew1) | exact HB.out)⟩⟩
                      · rw [if_neg c27] at H
                        have c27b0 : (a1 == 0) = false := beq_eq_false_iff_ne.mpr c27
                        have c27b1 : (a1 != 0) = true := bne_iff_ne.mpr c27
                        (first | rw [c27b0] | (simp only [i64_w, i32_w]; rw [c27b0]) | skip)
                        have H' := Aside0.mk H
                        clear H
                        go_wp2
                        go_meet
                        case rel => exact ⟨_, ((a2 == 0)), (by first | rfl | (simp; done) | (simp [*]; done)), H', ⟨by have := HJ5.out; have := HJ18.out; first | omega | exact Nat.le_refl _⟩, ⟨by (with_reducible repeat (first | apply Kd.R_alloc | apply Kd.R_drewN | apply Kd.R_drew)); exact HO_11.out⟩, ⟨by repeat (first | (with_reducible first | exact HB.out | apply below_alloc | apply pw_below_drewN | apply below_drew1) | exact HB.out)⟩⟩
                    case rest =>
                      clear HC26
                      try clear c1
                      try clear c2
                      try clear p2
                      try clear q2
                      try clear hx2
                      try clear c5
                      try clear p6
                      try clear c8
                      try clear c8b0
                      try clear c9
                      try clear c9b0
                      try clear c11
                      try clear c14
                      try clear c14b0
                      try clear c16
                      try clear c16b0
                      try clear c16b1
                      try clear c17
                      try clear c17b0
                      try clear c17b1
                      try clear c18
                      try clear p22
                      try clear q22
                      try clear hx22
                      try clear c23
                      try clear c23b0
                      try clear c23b1
                      try clear c24
                      try clear c27
                      try clear c27b0
                      try clear c27b1
                      try clear hx229_0
                      try clear hx229_1
                      try clear hx229_2
                      try clear p2
                      try clear p22
                      try clear p229
                      try clear p6
                      try clear q2
                      try clear q22
                      try clear q229
                      obtain ⟨kq, x53_25, rfl, HA, HJ25, HO_11, HB⟩ := hcut
                      cases kq with
                      | zero => exact absurd HA.out (by simp [nautilusref08_Begin.j3])
                      | succ kj25 =>
                        have H := HA.out
                        clear HA
                        simp only [nautilusref08_Begin.j3] at H
                        by_cases c28 : x53_25 = true
                        · subst c28
                          have H1 : (some (([] : List (S31)), 0, 80)) = some (r1, r2, r3) := by rw [if_pos rfl] at H; exact H
                          clear H
                          have H := H1
                          clear H1
                          simp only [Option.some.injEq, Prod.mk.injEq] at H
                          obtain ⟨rfl, rfl, rfl⟩ := H
                          go_wp2
                          go_ret3
                          exact ⟨_, by first | rfl | (simp [errW_none, errW_some] <;> rfl) | (simp only [← hji15]; first | rfl | (simp [errW_none, errW_some] <;> rfl)) | (simp [*, errW_none, errW_some] <;> rfl), by first | exact Kd.R_nil _ _ _ _ _ | exact Kd.N_nil _ _ _ _ _ | exact Kd.V_nil _ _ _ _ _ | exact Kd.Q_nil _ _ _ _ _ | exact Kd.S_nil _ _ _ _ _, by repeat (first | (with_reducible first | exact HB.out | apply below_alloc | apply pw_below_drewN | apply below_drew1) | exact HB.out)⟩
                        · replace c28 := Bool.eq_false_iff.mpr c28
                          subst c28
                          have H1 : ((nautilusref08_with.f kj25 x11_18 x10_5 a1 a2 0).bind fun bt240 => (if bt240.2 = 0 then (some (bt240.1, (x10_5) % 4294967296, 0)) else (some (([] : List (S31)), 0, bt240.2)))) = some (r1, r2, r3) := by rw [if_neg (show ¬ (false = true) by decide)] at H; exact H
                          clear H
                          have H := H1
                          clear H1
                          replace H := Option.bind_eq_some_iff.mp H
                          obtain ⟨⟨t240, t243⟩, A290, H⟩ := H
                          replace H : (if t243 = 0 then (some (t240, (x10_5) % 4294967296, 0)) else (some (([] : List (S31)), 0, t243))) = some (r1, r2, r3) := H
                          have A29 := Aside0.mk A290
                          clear A290
                          by_cases c30 : t243 = 0
                          · rw [if_pos c30] at H
                            have c30b0 : (t243 == 0) = true := beq_iff_eq.mpr c30
                            have c30b1 : (t243 != 0) = false := bne_eq_false_iff_eq.mpr c30
                            clear c30
                            simp only [Option.some.injEq, Prod.mk.injEq] at H
                            obtain ⟨rfl, rfl, rfl⟩ := H
                            obtain ⟨Ao31, co31, eo31⟩ := Kd.R_slice HO_11.out
                            subst eo31
                            go_wp2_with (first | ((with_reducible refine gate_callee (f := 39) rfl ?_); refine goesL_ (some 60) rfl rfl Try.func39 (by kernel_rfl) rfl #[.slice Ao31 x11_18.length co31, .int .i64 x10_5, .agg #[.int .u32 a1, .int .u64 a2, .int .u64 0]] rfl (by (try simp only [List.map_toArray, List.map_cons, List.map_nil]); first | done | rfl | (simp only [List.length_drop, List.length_take]; rfl)) ?_; (with_reducible refine (nautilusref08_with.calls kj25 _ _ x11_18 x10_5 a1 a2 0 t240 t243 _ ?side1 ?side2 A29.out).mono ?_); (case side1 => repeat (first | exact (Kd.R_reads' HO_11.out).2.2 | (with_reducible refine Kd.C_alloc ?_ _) | (with_reducible refine Kd.C_drewN ?_ _) | (with_reducible refine Kd.C_drew ?_))); (case side2 => exact (Kd.R_reads' HO_11.out).2.1); rintro e w32 ⟨v241, rfl, ho0, hb⟩; refine ⟨_, rfl, ?_⟩; have n0_ := Aside0.mk (Kd.R_elder' (by (with_reducible repeat (first | apply Kd.R_alloc | apply Kd.R_drewN | apply Kd.R_drew)); exact HO_11.out) (Kd.R_base ho0) hb); have n1_ := Aside0.mk (Kd.R_lower (Kd.R_new' ho0 (Kd.R_lt (by (with_reducible repeat (first | apply Kd.R_alloc | apply Kd.R_drewN | apply Kd.R_drew)); exact HO_11.out))) (below_size (by repeat (first | (with_reducible first | exact HB.out | apply below_alloc | apply pw_below_drewN | apply below_drew1) | exact HB.out)))); have n2_ := Aside0.mk (below_step (by repeat (first | (with_reducible first | exact HB.out | apply below_alloc | apply pw_below_drewN | apply below_drew1) | exact HB.out)) hb); clear HO_11; clear HB; have HO_11 := n0_; have HO242 := n1_; have HB := n2_; clear n0_ n1_ n2_; (try clear hb); (try clear hb2); (try clear hk); (try clear hi); (try clear ho0)))
                            go_ret3
                            exact ⟨_, by first | rfl | (simp [errW_none, errW_some] <;> rfl) | (simp only [← hji15]; first | rfl | (simp [errW_none, errW_some] <;> rfl)) | (simp [*, errW_none, errW_some] <;> rfl), by (with_reducible repeat (first | apply Kd.R_alloc | apply Kd.R_drewN | apply Kd.R_drew)); exact Kd.R_mono HO242.out (fun _ hk => trivial), by repeat (first | (with_reducible first | exact HB.out | apply below_alloc | apply pw_below_drewN | apply below_drew1) | exact HB.out)⟩
                          · rw [if_neg c30] at H
                            have c30b0 : (t243 == 0) = false := beq_eq_false_iff_ne.mpr c30
                            have c30b1 : (t243 != 0) = true := bne_iff_ne.mpr c30
                            simp only [Option.some.injEq, Prod.mk.injEq] at H
                            obtain ⟨rfl, rfl, rfl⟩ := H
                            obtain ⟨Ao33, co33, eo33⟩ := Kd.R_slice HO_11.out
                            subst eo33
                            go_wp2_with (first | ((with_reducible refine gate_callee (f := 39) rfl ?_); refine goesL_ (some 60) rfl rfl Try.func39 (by kernel_rfl) rfl #[.slice Ao33 x11_18.length co33, .int .i64 x10_5, .agg #[.int .u32 a1, .int .u64 a2, .int .u64 0]] rfl (by (try simp only [List.map_toArray, List.map_cons, List.map_nil]); first | done | rfl | (simp only [List.length_drop, List.length_take]; rfl)) ?_; (with_reducible refine (nautilusref08_with.calls kj25 _ _ x11_18 x10_5 a1 a2 0 t240 t243 _ ?side1 ?side2 A29.out).mono ?_); (case side1 => repeat (first | exact (Kd.R_reads' HO_11.out).2.2 | (with_reducible refine Kd.C_alloc ?_ _) | (with_reducible refine Kd.C_drewN ?_ _) | (with_reducible refine Kd.C_drew ?_))); (case side2 => exact (Kd.R_reads' HO_11.out).2.1); rintro e w34 ⟨v241, rfl, ho0, hb⟩; refine ⟨_, rfl, ?_⟩; have n0_ := Aside0.mk (Kd.R_elder' (by (with_reducible repeat (first | apply Kd.R_alloc | apply Kd.R_drewN | apply Kd.R_drew)); exact HO_11.out) (Kd.R_base ho0) hb); have n1_ := Aside0.mk (Kd.R_lower (Kd.R_new' ho0 (Kd.R_lt (by (with_reducible repeat (first | apply Kd.R_alloc | apply Kd.R_drewN | apply Kd.R_drew)); exact HO_11.out))) (below_size (by repeat (first | (with_reducible first | exact HB.out | apply below_alloc | apply pw_below_drewN | apply below_drew1) | exact HB.out)))); have n2_ := Aside0.mk (below_step (by repeat (first | (with_reducible first | exact HB.out | apply below_alloc | apply pw_below_drewN | apply below_drew1) | exact HB.out)) hb); clear HO_11; clear HB; have HO_11 := n0_; have HO242 := n1_; have HB := n2_; clear n0_ n1_ n2_; (try clear hb); (try clear hb2); (try clear hk); (try clear hi); (try clear ho0)))
                            go_ret3
                            exact ⟨_, by first | rfl | (simp [errW_none, errW_some] <;> rfl) | (simp only [← hji15]; first | rfl | (simp [errW_none, errW_some] <;> rfl)) | (simp [*, errW_none, errW_some] <;> rfl), by first | exact Kd.R_nil _ _ _ _ _ | exact Kd.N_nil _ _ _ _ _ | exact Kd.V_nil _ _ _ _ _ | exact Kd.Q_nil _ _ _ _ _ | exact Kd.S_nil _ _ _ _ _, by repeat (first | (with_reducible first | exact HB.out | apply below_alloc | apply pw_below_drewN | apply below_drew1) | exact HB.out)⟩
              · rw [if_neg c18] at H
                exact absurd H (by simp)
            · rw [if_neg c17] at H
              exact absurd H (by simp)
          · rw [if_neg c16] at H
            exact absurd H (by simp)
  · replace c5 := Bool.eq_false_iff.mpr c5
    subst c5
    have H1 : (some (([] : List (S31)), 0, 80)) = some (r1, r2, r3) := by rw [if_neg (show ¬ (false = true) by decide)] at H; exact H
    clear H
    have H := H1
    clear H1
    simp only [Option.some.injEq, Prod.mk.injEq] at H
    obtain ⟨rfl, rfl, rfl⟩ := H
    go_enter Try.func14, Try.ntmps14
    go_wp2_with (first | ((with_reducible refine gate_callee (f := 18) rfl ?_); refine goesL_ (some 15) rfl rfl Try.func18 (by kernel_rfl) rfl #[.slice A0 l0.length c0] rfl (by (try simp only [List.map_toArray, List.map_cons, List.map_nil]); first | done | rfl | (simp only [List.length_drop, List.length_take]; rfl)) ?_; (with_reducible refine (nautilusref08_Right.calls k _ _ l0 false _ ?side1 ?side2 A4.out).mono ?_); (case side1 => repeat (first | exact HR0.out | (with_reducible refine Kd.C_alloc ?_ _) | (with_reducible refine Kd.C_drewN ?_ _) | (with_reducible refine Kd.C_drew ?_))); (case side2 => exact HC0.out); rintro e w35 ⟨rfl, hb⟩; refine ⟨_, rfl, ?_⟩; have n0_ := Aside0.mk (below_step (by repeat (first | (with_reducible first | exact HB.out | apply below_alloc | apply pw_below_drewN | apply below_drew1) | exact HB.out)) hb); clear HB; have HB := n0_; clear n0_; (try clear hb); (try clear hb2); (try clear hk); (try clear hi)))
    go_ret3
    exact ⟨_, by first | rfl | (simp [errW_none, errW_some] <;> rfl) | (simp [*, errW_none, errW_some] <;> rfl), by first | exact Kd.R_nil _ _ _ _ _ | exact Kd.N_nil _ _ _ _ _ | exact Kd.V_nil _ _ _ _ _ | exact Kd.Q_nil _ _ _ _ _ | exact Kd.S_nil _ _ _ _ _, by repeat (first | (with_reducible first | exact HB.out | apply below_alloc | apply pw_below_drewN | apply below_drew1) | exact HB.out)⟩

end Go.Proofs.Ytiajhfinkpddbaa.Q
