/- Functions of the translation as plain Lean functions, and that the translation computes them: printed by this session's driver of the print. -/
import Derived.Test.YtklhmhliencgeaaQ0
import Derived.Test.YtklhmhliencgeaaQ1
import Derived.Test.YtklhmhliencgeaaQ10
namespace Go.Proofs.Ytklhmhliencgeaa.Q
open Go.Proofs.Ytklhmhliencgeaa.H
open Go.RowKit Go.Proofs.YtklhmhliencgeaaW.PrintWords Go.Proofs.YtklhmhliencgeaaW.PrintLast Go.Proofs.YtklhmhliencgeaaW.PrintMore
attribute [local go_sem] max2_int min2_int max_two min_two max_three min_three max_four min_four   -- for this text's walks alone
set_option linter.unusedVariables false
set_option linter.unusedSimpArgs false

attribute [local go_sem high] eqA30
/-! ### nautilusref06_Set: function 12 -/
def nautilusref06_Set.j0 : Nat → List (S30) → Int → Bool → Int → Int → Int → Option ((List (S30)) × Int)
  | 0, _, _, _, _, _, _ => none
  | k + 1, x0, x1, x18, x213000, x213001, x213002 => if x18 = true then (some (([] : List (S30)), 2)) else ((nautilusref06_Right.f k x0).bind fun t213 => (if 0 ≤ (x0.length : Int) then (if ((x0.length : Int) : Int).toNat ≤ 11728124029610 then ((some (List.replicate 0 z30 : List (S30))).bind fun y214 => (if y214.length + x0.length < 5864062014805 then ((some (y214 ++ x0 : List (S30))).bind fun y217 => (if 0 ≤ x1 then (if x1 < (y217.length : Int) then ((some (y217.set (x1 : Int).toNat (⟨x213000, x213001, x213002⟩ : S30) : List (S30))).bind fun y220 => ((nautilusref06_Right.f k y220).bind fun t221 => (if t213 = true then (if t221 = true then (some (y220, 0)) else (some (([] : List (S30)), 60))) else (some (([] : List (S30)), 60))))) else (none)) else (none))) else (none))) else (none)) else (none)))
def nautilusref06_Set.f (k : Nat) (l0 : List (S30)) (a1 : Int) (a2_0 : Int) (a2_1 : Int) (a2_2 : Int) : Option ((List (S30)) × Int) := if a1 < 0 then (nautilusref06_Set.j0 k l0 a1 true a2_0 a2_1 a2_2) else (nautilusref06_Set.j0 k l0 a1 (decide (a1 ≥ (l0.length : Int))) a2_0 a2_1 a2_2)
theorem nautilusref06_Set.mono_l : ∀ k, (∀ y0 y1 y2 y3 y4 y5, LeO (nautilusref06_Set.j0 k y0 y1 y2 y3 y4 y5) (nautilusref06_Set.j0 (k + 1) y0 y1 y2 y3 y4 y5))
  | 0 => fun _ _ _ _ _ _ r h => by simp [nautilusref06_Set.j0] at h
  | k + 1 => by
    have ih0 := nautilusref06_Set.mono_l k
    · intro y0 y1 y2 y3 y4 y5
      unfold nautilusref06_Set.j0
      repeat' first
      | (with_reducible exact ih0 _ _ _ _ _ _)
      | (with_reducible exact nautilusref06_Right.mono _ _)
      | (with_reducible exact LeO.refl _)
      | (with_reducible exact LeO.none _)
      | (with_reducible refine LeO.ite ?_ ?_)
      | (with_reducible refine LeO.bind ?_ (fun _ => ?_))
      | exact ih0 _ _ _ _ _ _
      | exact nautilusref06_Right.mono _ _
      | exact LeO.none _
      | refine LeO.ite ?_ ?_
      | refine LeO.bind ?_ (fun _ => ?_)
theorem nautilusref06_Set.mono : ∀ a0 a1 a2 a3 a4 k, LeO (nautilusref06_Set.f k a0 a1 a2 a3 a4) (nautilusref06_Set.f (k + 1) a0 a1 a2 a3 a4) := by
  intro a0 a1 a2 a3 a4 k
  have ih0 := nautilusref06_Set.mono_l k
  unfold nautilusref06_Set.f
  repeat' first
      | (with_reducible exact ih0 _ _ _ _ _ _)
      | (with_reducible exact nautilusref06_Right.mono _ _)
      | (with_reducible exact LeO.refl _)
      | (with_reducible exact LeO.none _)
      | (with_reducible refine LeO.ite ?_ ?_)
      | (with_reducible refine LeO.bind ?_ (fun _ => ?_))
      | exact ih0 _ _ _ _ _ _
      | exact nautilusref06_Right.mono _ _
      | exact LeO.none _
      | refine LeO.ite ?_ ?_
      | refine LeO.bind ?_ (fun _ => ?_)
set_option maxHeartbeats 8000000 in
set_option maxRecDepth 100000 in
theorem nautilusref06_Set.calls (k : Nat) (A0 : Option Addr) (c0 : Nat) (l0 : List (S30)) (a1 : Int) (a2_0 : Int) (a2_1 : Int) (a2_2 : Int) (r1 : List (S30)) (r2 : Int) (w : World) (hr0 : Kd.C k30 w A0 l0.length l0) (hc0 : l0.length ≤ c0) (h : nautilusref06_Set.f k l0 a1 a2_0 a2_1 a2_2 = some (r1, r2)) :
    Calls Try.prog 12 #[.slice A0 l0.length c0, .int .i64 a1, .agg #[.int .i64 a2_0, .int .u64 a2_1, .int .i64 a2_2]] w fun e w' => ∃ v0_ : Value, e = .returned (.tuple #[v0_, .int .i64 r2]) ∧ Kd.R k30 30 w' w.heap.size (fun _ => True) v0_ r1 ∧ Below w.heap.size w w' := by
  have hu30 := Try.underlying30
  have HR0 := Aside0.mk hr0
  have HC0 := Aside0.mk hc0
  clear hr0 hc0
  have HB := Aside0.mk (Below.refl w.heap.size w)
  have H : (if a1 < 0 then (nautilusref06_Set.j0 k l0 a1 true a2_0 a2_1 a2_2) else (nautilusref06_Set.j0 k l0 a1 (decide (a1 ≥ (l0.length : Int))) a2_0 a2_1 a2_2)) = some (r1, r2) := h
  clear h
  have HC4 := Aside0.mk H
  clear H
  go_enter Try.func12, Try.ntmps12
  go_upto_region 1 with (first | ((with_reducible refine gate_dst (N := 5) rfl ?_); (try (refine gate_guard (by rfl) ?_; dsimp only)); refine box_event ?hg (N := 5) ?hd (cs := #[.int .i64 a2_0, .int .u64 a2_1, .int .i64 a2_2]) (t := 30) ?hr ?_; (case hd => rfl); (case hg => rfl); (case hr => first | (go_simp; done) | (go_simp; rfl)); intro gb212 hg w5 hbox hb; have n0_ := Aside0.mk (below_step (by repeat (first | (with_reducible first | exact HB.out | apply below_alloc | apply pw_below_drewN | apply below_drew1) | exact HB.out)) hb); have n1_ := Aside0.mk (hbox); have n2_ := Aside0.mk ((by rw [hg]; exact (below_size (by repeat (first | (with_reducible first | exact HB.out | apply below_alloc | apply pw_below_drewN | apply below_drew1) | exact HB.out))) : w.heap.size ≤ gb212)); have n3_ := Aside0.mk ((by rw [hg]; exact (below_size (by repeat (first | (with_reducible first | exact HB.out | apply below_alloc | apply pw_below_drewN | apply below_drew1) | exact HB.out))) : w.heap.size ≤ gb212)); clear HB; have HB := n0_; have BK212 := n1_; have GW212 := n2_; have GE212 := n3_; clear n0_ n1_ n2_ n3_; clear hb hbox hg))
  (try simp only [Act.put, List.setIfInBounds_toArray, List.set_cons_zero, List.set_cons_succ])
  go_cut [18] (fun v18 wc => ∃ (kq : Nat) (x18_3 : Bool), v18 = .bool x18_3 ∧ Aside0 (nautilusref06_Set.j0 kq l0 a1 x18_3 a2_0 a2_1 a2_2 = some (r1, r2)) ∧ Aside0 (kq ≤ k) ∧ Aside0 (wc.heap[gb212]? = some (.cells #[.int .i64 a2_0, .int .u64 a2_1, .int .i64 a2_2] 30 (0, 0))) ∧ Aside0 (Below w.heap.size w wc))
  case first =>
    have H := HC4.out
    clear HC4
    by_cases c6 : a1 < 0
    · rw [if_pos c6] at H
      have c6b0 : decide (a1 < 0) = true := decide_eq_true c6
      clear c6
      (first | rw [c6b0] | (simp only [i64_w, i32_w]; rw [c6b0]) | skip)
      have H' := Aside0.mk H
      clear H
      go_wp2
      go_meet
      case rel => exact ⟨_, (true), (by first | rfl | (simp; done) | (simp [*]; done)), H', ⟨by first | omega | exact Nat.le_refl _⟩, ⟨by (with_reducible repeat (first | refine blk_drewN ?_ _ | refine blk_drew ?_ | refine blk_alloc ?_ _)); exact BK212.out⟩, ⟨by repeat (first | (with_reducible first | exact HB.out | apply below_alloc | apply pw_below_drewN | apply below_drew1 | refine below_set ?_ GE212.out) | exact HB.out)⟩⟩
    · rw [if_neg c6] at H
      have c6b0 : decide (a1 < 0) = false := decide_eq_false c6
      clear c6
      (first | rw [c6b0] | (simp only [i64_w, i32_w]; rw [c6b0]) | skip)
      have H' := Aside0.mk H
      clear H
      go_wp2
      go_meet
      case rel => exact ⟨_, (decide (a1 ≥ (l0.length : Int))), (by first | rfl | (simp; done) | (simp [*]; done)), H', ⟨by first | omega | exact Nat.le_refl _⟩, ⟨by (with_reducible repeat (first | refine blk_drewN ?_ _ | refine blk_drew ?_ | refine blk_alloc ?_ _)); exact BK212.out⟩, ⟨by repeat (first | (with_reducible first | exact HB.out | apply below_alloc | apply pw_below_drewN | apply below_drew1 | refine below_set ?_ GE212.out) | exact HB.out)⟩⟩
  case rest =>
    clear HC4
    try clear c1
    try clear p2
    try clear c6
    try clear c6b0
    obtain ⟨kq, x18_3, rfl, HA, HJ3, BK212, HB⟩ := hcut
    cases kq with
    | zero => exact absurd HA.out (by simp [nautilusref06_Set.j0])
    | succ kj3 =>
      have H := HA.out
      clear HA
      simp only [nautilusref06_Set.j0] at H
      by_cases c7 : x18_3 = true
      · subst c7
        have H1 : (some (([] : List (S30)), 2)) = some (r1, r2) := by rw [if_pos rfl] at H; exact H
        clear H
        have H := H1
        clear H1
        simp only [Option.some.injEq, Prod.mk.injEq] at H
        obtain ⟨rfl, rfl⟩ := H
        go_wp2
        go_ret2
        exact ⟨_, by first | rfl | (simp [errW_none, errW_some] <;> rfl) | (simp [*, errW_none, errW_some] <;> rfl), by first | exact Kd.R_nil _ _ _ _ _ | exact Kd.N_nil _ _ _ _ _ | exact Kd.V_nil _ _ _ _ _ | exact Kd.Q_nil _ _ _ _ _ | exact Kd.S_nil _ _ _ _ _, by repeat (first | (with_reducible first | exact HB.out | apply below_alloc | apply pw_below_drewN | apply below_drew1 | refine below_set ?_ GE212.out) | exact HB.out)⟩
      · replace c7 := Bool.eq_false_iff.mpr c7
        subst c7
        have H1 : ((nautilusref06_Right.f kj3 l0).bind fun t213 => (if 0 ≤ (l0.length : Int) then (if ((l0.length : Int) : Int).toNat ≤ 11728124029610 then ((some (List.replicate 0 z30 : List (S30))).bind fun y214 => (if y214.length + l0.length < 5864062014805 then ((some (y214 ++ l0 : List (S30))).bind fun y217 => (if 0 ≤ a1 then (if a1 < (y217.length : Int) then ((some (y217.set (a1 : Int).toNat (⟨a2_0, a2_1, a2_2⟩ : S30) : List (S30))).bind fun y220 => ((nautilusref06_Right.f kj3 y220).bind fun t221 => (if t213 = true then (if t221 = true then (some (y220, 0)) else (some (([] : List (S30)), 60))) else (some (([] : List (S30)), 60))))) else (none)) else (none))) else (none))) else (none)) else (none))) = some (r1, r2) := by rw [if_neg (show ¬ (false = true) by decide)] at H; exact H
        clear H
        have H := H1
        clear H1
        replace H := Option.bind_eq_some_iff.mp H
        obtain ⟨t213, A80, H⟩ := H
        replace H : (if 0 ≤ (l0.length : Int) then (if ((l0.length : Int) : Int).toNat ≤ 11728124029610 then ((some (List.replicate 0 z30 : List (S30))).bind fun y214 => (if y214.length + l0.length < 5864062014805 then ((some (y214 ++ l0 : List (S30))).bind fun y217 => (if 0 ≤ a1 then (if a1 < (y217.length : Int) then ((some (y217.set (a1 : Int).toNat (⟨a2_0, a2_1, a2_2⟩ : S30) : List (S30))).bind fun y220 => ((nautilusref06_Right.f kj3 y220).bind fun t221 => (if t213 = true then (if t221 = true then (some (y220, 0)) else (some (([] : List (S30)), 60))) else (some (([] : List (S30)), 60))))) else (none)) else (none))) else (none))) else (none)) else (none)) = some (r1, r2) := H
        have A8 := Aside0.mk A80
        clear A80
        by_cases c9 : 0 ≤ (l0.length : Int)
        · rw [if_pos c9] at H
          have c9b0 := eq_true c9
          have c9b1 : decide (0 ≤ (l0.length : Int)) = true := decide_eq_true c9
          clear c9
          by_cases c10 : ((l0.length : Int) : Int).toNat ≤ 11728124029610
          · rw [if_pos c10] at H
            have c10b0 := eq_true c10
            have c10b1 : decide (((l0.length : Int) : Int).toNat ≤ 11728124029610) = true := decide_eq_true c10
            clear c10
            obtain ⟨y214, hy214⟩ : ∃ y_ : List (S30), y_ = (List.replicate 0 z30) := ⟨_, rfl⟩
            replace H : (if y214.length + l0.length < 5864062014805 then ((some (y214 ++ l0 : List (S30))).bind fun y217 => (if 0 ≤ a1 then (if a1 < (y217.length : Int) then ((some (y217.set (a1 : Int).toNat (⟨a2_0, a2_1, a2_2⟩ : S30) : List (S30))).bind fun y220 => ((nautilusref06_Right.f kj3 y220).bind fun t221 => (if t213 = true then (if t221 = true then (some (y220, 0)) else (some (([] : List (S30)), 60))) else (some (([] : List (S30)), 60))))) else (none)) else (none))) else (none)) = some (r1, r2) := by first | (rw [hy214]; with_reducible exact H) | (have H2_ := (Option.bind_some _ _).symm.trans H; rw [hy214]; with_reducible exact H2_) | (have H2_ := (Option.bind_some _ _).symm.trans H; with_reducible exact H2_) | with_reducible exact H | (rw [hy214]; exact H) | exact H
            have Ny214 := Aside0.mk hy214
            clear hy214
            by_cases c11 : y214.length + l0.length < 5864062014805
            · rw [if_pos c11] at H
              have LMc11 := Aside0.mk c11
              clear c11
              obtain ⟨y217, hy217⟩ : ∃ y_ : List (S30), y_ = (y214 ++ l0) := ⟨_, rfl⟩
              replace H : (if 0 ≤ a1 then (if a1 < (y217.length : Int) then ((some (y217.set (a1 : Int).toNat (⟨a2_0, a2_1, a2_2⟩ : S30) : List (S30))).bind fun y220 => ((nautilusref06_Right.f kj3 y220).bind fun t221 => (if t213 = true then (if t221 = true then (some (y220, 0)) else (some (([] : List (S30)), 60))) else (some (([] : List (S30)), 60))))) else (none)) else (none)) = some (r1, r2) := by first | (rw [hy217]; with_reducible exact H) | (have H2_ := (Option.bind_some _ _).symm.trans H; rw [hy217]; with_reducible exact H2_) | (have H2_ := (Option.bind_some _ _).symm.trans H; with_reducible exact H2_) | with_reducible exact H | (rw [hy217]; exact H) | exact H
              have Ny217 := Aside0.mk hy217
              clear hy217
              by_cases c12 : 0 ≤ a1
              · rw [if_pos c12] at H
                have c12b0 : decide (0 ≤ a1) = true := decide_eq_true c12
                clear c12
                by_cases c13 : a1 < (y217.length : Int)
                · rw [if_pos c13] at H
                  have c13b0 : decide (a1 < (y217.length : Int)) = true := decide_eq_true c13
                  clear c13
                  obtain ⟨y220, hy220⟩ : ∃ y_ : List (S30), y_ = (y217.set (a1 : Int).toNat (⟨a2_0, a2_1, a2_2⟩ : S30)) := ⟨_, rfl⟩
                  replace H : ((nautilusref06_Right.f kj3 y220).bind fun t221 => (if t213 = true then (if t221 = true then (some (y220, 0)) else (some (([] : List (S30)), 60))) else (some (([] : List (S30)), 60)))) = some (r1, r2) := by first | (rw [hy220]; with_reducible exact H) | (have H2_ := (Option.bind_some _ _).symm.trans H; rw [hy220]; with_reducible exact H2_) | (have H2_ := (Option.bind_some _ _).symm.trans H; with_reducible exact H2_) | with_reducible exact H | (rw [hy220]; exact H) | exact H
                  have Ny220 := Aside0.mk hy220
                  clear hy220
                  replace H := Option.bind_eq_some_iff.mp H
                  obtain ⟨t221, A150, H⟩ := H
                  replace H : (if t213 = true then (if t221 = true then (some (y220, 0)) else (some (([] : List (S30)), 60))) else (some (([] : List (S30)), 60))) = some (r1, r2) := H
                  have A15 := Aside0.mk A150
                  clear A150
                  by_cases c16 : t213 = true
                  · subst c16
                    have H1 : (if t221 = true then (some (y220, 0)) else (some (([] : List (S30)), 60))) = some (r1, r2) := by rw [if_pos rfl] at H; exact H
                    clear H
                    have H := H1
                    clear H1
                    by_cases c17 : t221 = true
                    · subst c17
                      have H1 : (some (y220, 0)) = some (r1, r2) := by rw [if_pos rfl] at H; exact H
                      clear H
                      have H := H1
                      clear H1
                      simp only [Option.some.injEq, Prod.mk.injEq] at H
                      obtain ⟨rfl, rfl⟩ := H
                      go_wp2_with (first | ((with_reducible refine gate_callee (f := 23) rfl ?_); refine goesL_ (some 20) rfl rfl Try.func23 (by kernel_rfl) rfl #[.slice A0 l0.length c0] rfl (by (try simp only [List.map_toArray, List.map_cons, List.map_nil]); first | done | rfl | (simp only [List.length_drop, List.length_take]; rfl)) ?_; (with_reducible refine (nautilusref06_Right.calls kj3 _ _ l0 true _ ?side1 ?side2 A8.out).mono ?_); (case side1 => repeat (first | exact (Kd.C_below HR0.out HB.out) | (with_reducible refine Kd.C_alloc ?_ _) | (with_reducible refine Kd.C_drewN ?_ _) | (with_reducible refine Kd.C_drew ?_))); (case side2 => exact HC0.out); rintro e w18 ⟨rfl, hb⟩; refine ⟨_, rfl, ?_⟩; have n0_ := Aside0.mk (blk_below (g := gb212) (o := .cells #[.int .i64 a2_0, .int .u64 a2_1, .int .i64 a2_2] 30 (0, 0)) (by (with_reducible repeat (first | refine blk_drewN ?_ _ | refine blk_drew ?_ | refine blk_alloc ?_ _)); exact BK212.out) hb); have n1_ := Aside0.mk (below_step (by repeat (first | (with_reducible first | exact HB.out | apply below_alloc | apply pw_below_drewN | apply below_drew1 | refine below_set ?_ GE212.out) | exact HB.out)) hb); clear BK212; clear HB; have BK212 := n0_; have HB := n1_; clear n0_ n1_; (try clear hb); (try clear hb2); (try clear hk); (try clear hi)) | ((with_reducible refine gate_dst (N := 23) rfl ?_); (try (refine gate_guard (by rfl) ?_; dsimp only)); refine R_make0 k30 _ 30 rfl (N := 23) rfl 22 _ _ rfl (l0.length : Int) rfl rfl Try.underlying22 (.agg #[(.int .i64 0), (.int .u64 0), (.int .i64 0)]) 24 info30 rfl (by decide) (by omega) z30 (ok := fun _ => True) (okp := fun _ => True) (k30_mkM _ _ _ z30 ) (fun _ hk => hk) trivial (of_decide_eq_true (by first | (with_reducible assumption) | assumption)) (Nat.le_trans (Nat.mul_le_mul_right _ (of_decide_eq_true (by first | (with_reducible assumption) | assumption) : (l0.length : Int).toNat ≤ 11728124029610)) (by omega)) (Below.refl _ _) (Nat.le_refl _) ?_; intro v215 w19 ho20 hb hg_ hnew_; clear hg_ hnew_; (first | rw [← Ny214.out] at ho20 | (simp only [Int.reduceToNat] at ho20; rw [← Ny214.out] at ho20)); have n0_ := Aside0.mk (Kd.R_lower (Kd.R_newB ho20 (g := gb212) (o := .cells #[.int .i64 a2_0, .int .u64 a2_1, .int .i64 a2_2] 30 (0, 0)) (by (with_reducible repeat (first | refine blk_drewN ?_ _ | refine blk_drew ?_ | refine blk_alloc ?_ _)); exact BK212.out)) (below_size (by repeat (first | (with_reducible first | exact HB.out | apply below_alloc | apply pw_below_drewN | apply below_drew1 | refine below_set ?_ GE212.out) | exact HB.out)))); have n1_ := Aside0.mk (blk_below (g := gb212) (o := .cells #[.int .i64 a2_0, .int .u64 a2_1, .int .i64 a2_2] 30 (0, 0)) (by (with_reducible repeat (first | refine blk_drewN ?_ _ | refine blk_drew ?_ | refine blk_alloc ?_ _)); exact BK212.out) hb); have n2_ := Aside0.mk (below_step (by repeat (first | (with_reducible first | exact HB.out | apply below_alloc | apply pw_below_drewN | apply below_drew1 | refine below_set ?_ GE212.out) | exact HB.out)) hb); clear BK212; clear HB; have HO216 := n0_; have BK212 := n1_; have HB := n2_; clear n0_ n1_ n2_; clear hb ho20) | ((with_reducible refine gate_builtin (b := .append) (xs := #[.tmp 23, .tmp 24]) rfl ?_); (try (refine gate_guard (by rfl) ?_; dsimp only)); at_builtin; refine Kd.R_append_rows k30 (w0 := w) w.heap.size rfl (.tmp 23) (.tmp 24) 22 30 (.agg #[(.int .i64 0), (.int .u64 0), (.int .i64 0)]) 24 rfl Try.underlying22 info30 rfl (by decide) (by omega) v215 y214 l0 _ _ _ (fun k_ => k_ ≠ gb212) (fun _ => False) rfl rfl ?aO ?aR (fun _ _ h => h) (fun _ h => h.elim) ?aF ?aB ?aS ?aL ?_; (case aR => repeat (first | exact (Kd.C_below HR0.out HB.out) | (with_reducible refine Kd.C_alloc ?_ _) | (with_reducible refine Kd.C_drewN ?_ _) | (with_reducible refine Kd.C_drew ?_))); (case aB => exact (by repeat (first | (with_reducible first | exact HB.out | apply below_alloc | apply pw_below_drewN | apply below_drew1 | refine below_set ?_ GE212.out) | exact HB.out))); (case aF => exact (fun k_ hk => Kd.freshB (g := gb212) (o := .cells #[.int .i64 a2_0, .int .u64 a2_1, .int .i64 a2_2] 30 (0, 0)) (by (with_reducible repeat (first | refine blk_drewN ?_ _ | refine blk_drew ?_ | refine blk_alloc ?_ _)); exact BK212.out) k_ hk)); (case aO => exact (by (with_reducible repeat (first | apply Kd.R_alloc | apply Kd.R_drewN | apply Kd.R_drew)); exact Kd.R_mono HO216.out (fun _ hk => hk.2))); (case aS => exact (below_size (by repeat (first | (with_reducible first | exact HB.out | apply below_alloc | apply pw_below_drewN | apply below_drew1 | refine below_set ?_ GE212.out) | exact HB.out)))); (case aL => have := LMc11.out; omega); intro v218 w21 ho hb hg hat; rw [← Ny217.out] at ho; have n0_ := Aside0.mk (blk_grown (g := gb212) (o := .cells #[.int .i64 a2_0, .int .u64 a2_1, .int .i64 a2_2] 30 (0, 0)) (by (with_reducible repeat (first | refine blk_drewN ?_ _ | refine blk_drew ?_ | refine blk_alloc ?_ _)); exact BK212.out) hg (Kd.R_away HO216.out (fun _ hk => hk.2))); have n1_ := Aside0.mk (hb); have n2_ := Aside0.mk (ho); clear BK212; clear HB; clear HO216; have BK212 := n0_; have HB := n1_; have HO219 := n2_; clear n0_ n1_ n2_; clear ho hb hg hat; have hcz22_0 : w21.cell? ⟨gb212, 0, none⟩ = some (.int .i64 a2_0) := (blk_cell BK212.out 0).trans rfl; have hcz22_1 : w21.cell? ⟨gb212, 1, none⟩ = some (.int .u64 a2_1) := (blk_cell BK212.out 1).trans rfl; have hcz22_2 : w21.cell? ⟨gb212, 2, none⟩ = some (.int .i64 a2_2) := (blk_cell BK212.out 2).trans rfl; have hfz22_0 := blk_frozen BK212.out 0; have hfz22_1 := blk_frozen BK212.out 1; have hfz22_2 := blk_frozen BK212.out 2; have p14 : 0 ≤ (a1 : Int) := of_decide_eq_true (by first | (with_reducible assumption) | assumption); have q14 : (a1 : Int) < ((y217.length : Int) : Int) := of_decide_eq_true (by first | (with_reducible assumption) | assumption); obtain ⟨go14, co14, eo14, gb14, gl14, cl14, HG14⟩ := Kd.R_form HO219.out (by omega); (first | cases eo14 | (injection eo14 with ea_ en_ ec_; (first | subst ea_ | (injection ea_ with ea_; subst ea_)); subst ec_; clear en_)); have GB14 := Aside0.mk gb14; have GG14 := Aside0.mk HG14; clear gb14 gl14 HG14; obtain ⟨ce14, hcl14, hM14, hcc14, hfr14⟩ := Kd.R_elem HO219.out z30 (a1 : Int) p14 q14; obtain rfl := k30_openM hM14; have hx14_0 : w21.cell? ⟨go14, (a1 : Int).toNat * 3, none⟩ = some (.int .i64 ((rd_T30 y217 a1).f0)) := hcc14 0 _ rfl; have hx14_1 : w21.cell? ⟨go14, (a1 : Int).toNat * 3 + 1, none⟩ = some (.int .u64 ((rd_T30 y217 a1).f1)) := hcc14 1 _ rfl; have hx14_2 : w21.cell? ⟨go14, (a1 : Int).toNat * 3 + 2, none⟩ = some (.int .i64 ((rd_T30 y217 a1).f2)) := hcc14 2 _ rfl; have hf14_0 : w21.frozen? ⟨go14, (a1 : Int).toNat * 3, none⟩ = false := hfr14 0; have hf14_1 : w21.frozen? ⟨go14, (a1 : Int).toNat * 3 + 1, none⟩ = false := hfr14 1; have hf14_2 : w21.frozen? ⟨go14, (a1 : Int).toNat * 3 + 2, none⟩ = false := hfr14 2; clear hcl14 hcc14 hfr14 hM14; replace p14 := eq_true p14; replace q14 := eq_true q14; have HX23 := Aside0.mk (show Kd.R k30 30 w21 w.heap.size (fun k_ => k_ ≠ gb212) (.slice (some ⟨go14, 0, none⟩) y217.length co14) y217 from (by (with_reducible repeat (first | apply Kd.R_alloc | apply Kd.R_drewN | apply Kd.R_drew)); exact HO219.out)); obtain ⟨ce23, hcl23, hM23, hcc23, hfr23⟩ := Kd.R_elem HX23.out z30 (a1 : Int) (of_decide_eq_true (by first | (with_reducible assumption) | assumption)) (by have h_ : (a1 : Int) < ((y217.length : Int) : Int) := of_decide_eq_true (by first | (with_reducible assumption) | assumption); first | exact h_ | (have e_ := (Kd.R_reads' HO219.out).1; omega) | simpa using h_); obtain rfl := k30_openM hM23; have HP23 := Kd.R_seg HX23.out (a1 : Int) (of_decide_eq_true (by first | (with_reducible assumption) | assumption)) (by have h_ : (a1 : Int) < ((y217.length : Int) : Int) := of_decide_eq_true (by first | (with_reducible assumption) | assumption); first | exact h_ | (have e_ := (Kd.R_reads' HO219.out).1; omega) | simpa using h_) (seg := [.int .i64 a2_0, .int .u64 a2_1, .int .i64 a2_2]) (j := 0) hcl23 hcc23 (show 3 ≤ 3 from by decide) (x' := (⟨a2_0, a2_1, a2_2⟩ : S30)) (k30_mkM _ _ _ (⟨a2_0, a2_1, a2_2⟩ : S30) ) (fun _ hk => hk); have hx23_0 := hcc23 0 _ rfl; (try simp only [show (k30).sz = 3 from rfl, Nat.mul_one, Nat.add_zero] at hx23_0); have hf23_0 := hfr23 0; (try simp only [show (k30).sz = 3 from rfl, Nat.mul_one, Nat.add_zero] at hf23_0); have hx23_1 := hcc23 1 _ rfl; (try simp only [show (k30).sz = 3 from rfl, Nat.mul_one, Nat.add_zero] at hx23_1); have hf23_1 := hfr23 1; (try simp only [show (k30).sz = 3 from rfl, Nat.mul_one, Nat.add_zero] at hf23_1); have hx23_2 := hcc23 2 _ rfl; (try simp only [show (k30).sz = 3 from rfl, Nat.mul_one, Nat.add_zero] at hx23_2); have hf23_2 := hfr23 2; (try simp only [show (k30).sz = 3 from rfl, Nat.mul_one, Nat.add_zero] at hf23_2); clear hcl23 hcc23 hfr23 hM23) | ((with_reducible refine gate_store (t := 30) (p := 29) rfl ?_); refine store_event (t := 30) (p := 29) (v := ?vo_w24) (w1 := (((w21.setCell ⟨go14, (a1 : Int).toNat * 3, none⟩ (.int .i64 a2_0)).setCell ⟨go14, (a1 : Int).toNat * 3 + 1, none⟩ (.int .u64 a2_1)).setCell ⟨go14, (a1 : Int).toNat * 3 + 2, none⟩ (.int .i64 a2_2))) ?hg ?ho ?hn ?hr ?_; (case ho => rfl); (case hg => rfl); (case hn => rfl); (case hr => first | (go_simp; done) | (go_simp; rfl)); intro w24 hw; have hg : w21.grownBy w24 (some go14) := (by rw [hw]; exact HP23.2); have hp_ : Kd.R k30 30 w24 w.heap.size (fun k_ => k_ ≠ gb212) (.slice (some ⟨go14, 0, none⟩) y217.length co14) y220 := (by rw [hw, Ny220.out]; exact HP23.1); clear HP23; have n0_ := Aside0.mk (blk_grown (g := gb212) (o := .cells #[.int .i64 a2_0, .int .u64 a2_1, .int .i64 a2_2] 30 (0, 0)) (by (with_reducible repeat (first | refine blk_drewN ?_ _ | refine blk_drew ?_ | refine blk_alloc ?_ _)); exact BK212.out) hg (Kd.R_away HO219.out (fun _ hk => hk))); have n1_ := Aside0.mk (hp_); have n2_ := Aside0.mk ((by rw [hw]; exact below_set (below_set (below_set (HB.out) GB14.out) GB14.out) GB14.out : Below w.heap.size w w24)); clear BK212; clear HO219; clear HB; have BK212 := n0_; have HO219 := n1_; have HB := n2_; clear n0_ n1_ n2_; clear hg hw hp_) | ((with_reducible refine gate_callee (f := 23) rfl ?_); refine goesL_ (some 31) rfl rfl Try.func23 (by kernel_rfl) rfl #[.slice (some ⟨go14, 0, none⟩) y220.length co14] rfl (by (try simp only [List.map_toArray, List.map_cons, List.map_nil]); first | done | (rw [show y220.length = y217.length from (Kd.R_reads' HO219.out).1.symm] <;> rfl) | rfl | (simp only [List.length_drop, List.length_take]; rfl)) ?_; (with_reducible refine (nautilusref06_Right.calls kj3 _ _ y220 true _ ?side1 ?side2 A15.out).mono ?_); (case side1 => repeat (first | exact (Kd.R_reads' HO219.out).2.2 | (with_reducible refine Kd.C_alloc ?_ _) | (with_reducible refine Kd.C_drewN ?_ _) | (with_reducible refine Kd.C_drew ?_))); (case side2 => rw [show y220.length = y217.length from (Kd.R_reads' HO219.out).1.symm]; exact (Kd.R_reads' HO219.out).2.1); rintro e w25 ⟨rfl, hb⟩; refine ⟨_, rfl, ?_⟩; have n0_ := Aside0.mk (Kd.R_below (by (with_reducible repeat (first | apply Kd.R_alloc | apply Kd.R_drewN | apply Kd.R_drew)); exact HO219.out) hb); have n1_ := Aside0.mk (blk_below (g := gb212) (o := .cells #[.int .i64 a2_0, .int .u64 a2_1, .int .i64 a2_2] 30 (0, 0)) (by (with_reducible repeat (first | refine blk_drewN ?_ _ | refine blk_drew ?_ | refine blk_alloc ?_ _)); exact BK212.out) hb); have n2_ := Aside0.mk (below_step (by repeat (first | (with_reducible first | exact HB.out | apply below_alloc | apply pw_below_drewN | apply below_drew1 | refine below_set ?_ GE212.out) | exact HB.out)) hb); clear HO219; clear BK212; clear HB; have HO219 := n0_; have BK212 := n1_; have HB := n2_; clear n0_ n1_ n2_; (try clear hb); (try clear hb2); (try clear hk); (try clear hi)))
                      go_ret2
                      exact ⟨_, by first | rfl | (simp [errW_none, errW_some] <;> rfl) | (simp [*, errW_none, errW_some] <;> rfl), by (with_reducible repeat (first | apply Kd.R_alloc | apply Kd.R_drewN | apply Kd.R_drew)); exact Kd.R_mono HO219.out (fun _ hk => trivial), by repeat (first | (with_reducible first | exact HB.out | apply below_alloc | apply pw_below_drewN | apply below_drew1 | refine below_set ?_ GE212.out) | exact HB.out)⟩
                    · replace c17 := Bool.eq_false_iff.mpr c17
                      subst c17
                      have H1 : (some (([] : List (S30)), 60)) = some (r1, r2) := by rw [if_neg (show ¬ (false = true) by decide)] at H; exact H
                      clear H
                      have H := H1
                      clear H1
                      simp only [Option.some.injEq, Prod.mk.injEq] at H
                      obtain ⟨rfl, rfl⟩ := H
                      go_wp2_with (first | ((with_reducible refine gate_callee (f := 23) rfl ?_); refine goesL_ (some 20) rfl rfl Try.func23 (by kernel_rfl) rfl #[.slice A0 l0.length c0] rfl (by (try simp only [List.map_toArray, List.map_cons, List.map_nil]); first | done | rfl | (simp only [List.length_drop, List.length_take]; rfl)) ?_; (with_reducible refine (nautilusref06_Right.calls kj3 _ _ l0 true _ ?side1 ?side2 A8.out).mono ?_); (case side1 => repeat (first | exact (Kd.C_below HR0.out HB.out) | (with_reducible refine Kd.C_alloc ?_ _) | (with_reducible refine Kd.C_drewN ?_ _) | (with_reducible refine Kd.C_drew ?_))); (case side2 => exact HC0.out); rintro e w26 ⟨rfl, hb⟩; refine ⟨_, rfl, ?_⟩; have n0_ := Aside0.mk (blk_below (g := gb212) (o := .cells #[.int .i64 a2_0, .int .u64 a2_1, .int .i64 a2_2] 30 (0, 0)) (by (with_reducible repeat (first | refine blk_drewN ?_ _ | refine blk_drew ?_ | refine blk_alloc ?_ _)); exact BK212.out) hb); have n1_ := Aside0.mk (below_step (by repeat (first | (with_reducible first | exact HB.out | apply below_alloc | apply pw_below_drewN | apply below_drew1 | refine below_set ?_ GE212.out) | exact HB.out)) hb); clear BK212; clear HB; have BK212 := n0_; have HB := n1_; clear n0_ n1_; (try clear hb); (try clear hb2); (try clear hk); (try clear hi)) | ((with_reducible refine gate_dst (N := 23) rfl ?_); (try (refine gate_guard (by rfl) ?_; dsimp only)); refine R_make0 k30 _ 30 rfl (N := 23) rfl 22 _ _ rfl (l0.length : Int) rfl rfl Try.underlying22 (.agg #[(.int .i64 0), (.int .u64 0), (.int .i64 0)]) 24 info30 rfl (by decide) (by omega) z30 (ok := fun _ => True) (okp := fun _ => True) (k30_mkM _ _ _ z30 ) (fun _ hk => hk) trivial (of_decide_eq_true (by first | (with_reducible assumption) | assumption)) (Nat.le_trans (Nat.mul_le_mul_right _ (of_decide_eq_true (by first | (with_reducible assumption) | assumption) : (l0.length : Int).toNat ≤ 11728124029610)) (by omega)) (Below.refl _ _) (Nat.le_refl _) ?_; intro v215 w27 ho28 hb hg_ hnew_; clear hg_ hnew_; (first | rw [← Ny214.out] at ho28 | (simp only [Int.reduceToNat] at ho28; rw [← Ny214.out] at ho28)); have n0_ := Aside0.mk (Kd.R_lower (Kd.R_newB ho28 (g := gb212) (o := .cells #[.int .i64 a2_0, .int .u64 a2_1, .int .i64 a2_2] 30 (0, 0)) (by (with_reducible repeat (first | refine blk_drewN ?_ _ | refine blk_drew ?_ | refine blk_alloc ?_ _)); exact BK212.out)) (below_size (by repeat (first | (with_reducible first | exact HB.out | apply below_alloc | apply pw_below_drewN | apply below_drew1 | refine below_set ?_ GE212.out) | exact HB.out)))); have n1_ := Aside0.mk (blk_below (g := gb212) (o := .cells #[.int .i64 a2_0, .int .u64 a2_1, .int .i64 a2_2] 30 (0, 0)) (by (with_reducible repeat (first | refine blk_drewN ?_ _ | refine blk_drew ?_ | refine blk_alloc ?_ _)); exact BK212.out) hb); have n2_ := Aside0.mk (below_step (by repeat (first | (with_reducible first | exact HB.out | apply below_alloc | apply pw_below_drewN | apply below_drew1 | refine below_set ?_ GE212.out) | exact HB.out)) hb); clear BK212; clear HB; have HO216 := n0_; have BK212 := n1_; have HB := n2_; clear n0_ n1_ n2_; clear hb ho28) | ((with_reducible refine gate_builtin (b := .append) (xs := #[.tmp 23, .tmp 24]) rfl ?_); (try (refine gate_guard (by rfl) ?_; dsimp only)); at_builtin; refine Kd.R_append_rows k30 (w0 := w) w.heap.size rfl (.tmp 23) (.tmp 24) 22 30 (.agg #[(.int .i64 0), (.int .u64 0), (.int .i64 0)]) 24 rfl Try.underlying22 info30 rfl (by decide) (by omega) v215 y214 l0 _ _ _ (fun k_ => k_ ≠ gb212) (fun _ => False) rfl rfl ?aO ?aR (fun _ _ h => h) (fun _ h => h.elim) ?aF ?aB ?aS ?aL ?_; (case aR => repeat (first | exact (Kd.C_below HR0.out HB.out) | (with_reducible refine Kd.C_alloc ?_ _) | (with_reducible refine Kd.C_drewN ?_ _) | (with_reducible refine Kd.C_drew ?_))); (case aB => exact (by repeat (first | (with_reducible first | exact HB.out | apply below_alloc | apply pw_below_drewN | apply below_drew1 | refine below_set ?_ GE212.out) | exact HB.out))); (case aF => exact (fun k_ hk => Kd.freshB (g := gb212) (o := .cells #[.int .i64 a2_0, .int .u64 a2_1, .int .i64 a2_2] 30 (0, 0)) (by (with_reducible repeat (first | refine blk_drewN ?_ _ | refine blk_drew ?_ | refine blk_alloc ?_ _)); exact BK212.out) k_ hk)); (case aO => exact (by (with_reducible repeat (first | apply Kd.R_alloc | apply Kd.R_drewN | apply Kd.R_drew)); exact Kd.R_mono HO216.out (fun _ hk => hk.2))); (case aS => exact (below_size (by repeat (first | (with_reducible first | exact HB.out | apply below_alloc | apply pw_below_drewN | apply below_drew1 | refine below_set ?_ GE212.out) | exact HB.out)))); (case aL => have := LMc11.out; omega); intro v218 w29 ho hb hg hat; rw [← Ny217.out] at ho; have n0_ := Aside0.mk (blk_grown (g := gb212) (o := .cells #[.int .i64 a2_0, .int .u64 a2_1, .int .i64 a2_2] 30 (0, 0)) (by (with_reducible repeat (first | refine blk_drewN ?_ _ | refine blk_drew ?_ | refine blk_alloc ?_ _)); exact BK212.out) hg (Kd.R_away HO216.out (fun _ hk => hk.2))); have n1_ := Aside0.mk (hb); have n2_ := Aside0.mk (ho); clear BK212; clear HB; clear HO216; have BK212 := n0_; have HB := n1_; have HO219 := n2_; clear n0_ n1_ n2_; clear ho hb hg hat; have hcz30_0 : w29.cell? ⟨gb212, 0, none⟩ = some (.int .i64 a2_0) := (blk_cell BK212.out 0).trans rfl; have hcz30_1 : w29.cell? ⟨gb212, 1, none⟩ = some (.int .u64 a2_1) := (blk_cell BK212.out 1).trans rfl; have hcz30_2 : w29.cell? ⟨gb212, 2, none⟩ = some (.int .i64 a2_2) := (blk_cell BK212.out 2).trans rfl; have hfz30_0 := blk_frozen BK212.out 0; have hfz30_1 := blk_frozen BK212.out 1; have hfz30_2 := blk_frozen BK212.out 2; have p14 : 0 ≤ (a1 : Int) := of_decide_eq_true (by first | (with_reducible assumption) | assumption); have q14 : (a1 : Int) < ((y217.length : Int) : Int) := of_decide_eq_true (by first | (with_reducible assumption) | assumption); obtain ⟨go14, co14, eo14, gb14, gl14, cl14, HG14⟩ := Kd.R_form HO219.out (by omega); (first | cases eo14 | (injection eo14 with ea_ en_ ec_; (first | subst ea_ | (injection ea_ with ea_; subst ea_)); subst ec_; clear en_)); have GB14 := Aside0.mk gb14; have GG14 := Aside0.mk HG14; clear gb14 gl14 HG14; obtain ⟨ce14, hcl14, hM14, hcc14, hfr14⟩ := Kd.R_elem HO219.out z30 (a1 : Int) p14 q14; obtain rfl := k30_openM hM14; have hx14_0 : w29.cell? ⟨go14, (a1 : Int).toNat * 3, none⟩ = some (.int .i64 ((rd_T30 y217 a1).f0)) := hcc14 0 _ rfl; have hx14_1 : w29.cell? ⟨go14, (a1 : Int).toNat * 3 + 1, none⟩ = some (.int .u64 ((rd_T30 y217 a1).f1)) := hcc14 1 _ rfl; have hx14_2 : w29.cell? ⟨go14, (a1 : Int).toNat * 3 + 2, none⟩ = some (.int .i64 ((rd_T30 y217 a1).f2)) := hcc14 2 _ rfl; have hf14_0 : w29.frozen? ⟨go14, (a1 : Int).toNat * 3, none⟩ = false := hfr14 0; have hf14_1 : w29.frozen? ⟨go14, (a1 : Int).toNat * 3 + 1, none⟩ = false := hfr14 1; have hf14_2 : w29.frozen? ⟨go14, (a1 : Int).toNat * 3 + 2, none⟩ = false := hfr14 2; clear hcl14 hcc14 hfr14 hM14; replace p14 := eq_true p14; replace q14 := eq_true q14; have HX31 := Aside0.mk (show Kd.R k30 30 w29 w.heap.size (fun k_ => k_ ≠ gb212) (.slice (some ⟨go14, 0, none⟩) y217.length co14) y217 from (by (with_reducible repeat (first | apply Kd.R_alloc | apply Kd.R_drewN | apply Kd.R_drew)); exact HO219.out)); obtain ⟨ce31, hcl31, hM31, hcc31, hfr31⟩ := Kd.R_elem HX31.out z30 (a1 : Int) (of_decide_eq_true (by first | (with_reducible assumption) | assumption)) (by have h_ : (a1 : Int) < ((y217.length : Int) : Int) := of_decide_eq_true (by first | (with_reducible assumption) | assumption); first | exact h_ | (have e_ := (Kd.R_reads' HO219.out).1; omega) | simpa using h_); obtain rfl := k30_openM hM31; have HP31 := Kd.R_seg HX31.out (a1 : Int) (of_decide_eq_true (by first | (with_reducible assumption) | assumption)) (by have h_ : (a1 : Int) < ((y217.length : Int) : Int) := of_decide_eq_true (by first | (with_reducible assumption) | assumption); first | exact h_ | (have e_ := (Kd.R_reads' HO219.out).1; omega) | simpa using h_) (seg := [.int .i64 a2_0, .int .u64 a2_1, .int .i64 a2_2]) (j := 0) hcl31 hcc31 (show 3 ≤ 3 from by decide) (x' := (⟨a2_0, a2_1, a2_2⟩ : S30)) (k30_mkM _ _ _ (⟨a2_0, a2_1, a2_2⟩ : S30) ) (fun _ hk => hk); have hx31_0 := hcc31 0 _ rfl; (try simp only [show (k30).sz = 3 from rfl, Nat.mul_one, Nat.add_zero] at hx31_0); have hf31_0 := hfr31 0; (try simp only [show (k30).sz = 3 from rfl, Nat.mul_one, Nat.add_zero] at hf31_0); have hx31_1 := hcc31 1 _ rfl; (try simp only [show (k30).sz = 3 from rfl, Nat.mul_one, Nat.add_zero] at hx31_1); have hf31_1 := hfr31 1; (try simp only [show (k30).sz = 3 from rfl, Nat.mul_one, Nat.add_zero] at hf31_1); have hx31_2 := hcc31 2 _ rfl; (try simp only [show (k30).sz = 3 from rfl, Nat.mul_one, Nat.add_zero] at hx31_2); have hf31_2 := hfr31 2; (try simp only [show (k30).sz = 3 from rfl, Nat.mul_one, Nat.add_zero] at hf31_2); clear hcl31 hcc31 hfr31 hM31) | ((with_reducible refine gate_store (t := 30) (p := 29) rfl ?_); refine store_event (t := 30) (p := 29) (v := ?vo_w32) (w1 := (((w29.setCell ⟨go14, (a1 : Int).toNat * 3, none⟩ (.int .i64 a2_0)).setCell ⟨go14, (a1 : Int).toNat * 3 + 1, none⟩ (.int .u64 a2_1)).setCell ⟨go14, (a1 : Int).toNat * 3 + 2, none⟩ (.int .i64 a2_2))) ?hg ?ho ?hn ?hr ?_; (case ho => rfl); (case hg => rfl); (case hn => rfl); (case hr => first | (go_simp; done) | (go_simp; rfl)); intro w32 hw; have hg : w29.grownBy w32 (some go14) := (by rw [hw]; exact HP31.2); have hp_ : Kd.R k30 30 w32 w.heap.size (fun k_ => k_ ≠ gb212) (.slice (some ⟨go14, 0, none⟩) y217.length co14) y220 := (by rw [hw, Ny220.out]; exact HP31.1); clear HP31; have n0_ := Aside0.mk (blk_grown (g := gb212) (o := .cells #[.int .i64 a2_0, .int .u64 a2_1, .int .i64 a2_2] 30 (0, 0)) (by (with_reducible repeat (first | refine blk_drewN ?_ _ | refine blk_drew ?_ | refine blk_alloc ?_ _)); exact BK212.out) hg (Kd.R_away HO219.out (fun _ hk => hk))); have n1_ := Aside0.mk (hp_); have n2_ := Aside0.mk ((by rw [hw]; exact below_set (below_set (below_set (HB.out) GB14.out) GB14.out) GB14.out : Below w.heap.size w w32)); clear BK212; clear HO219; clear HB; have BK212 := n0_; have HO219 := n1_; have HB := n2_; clear n0_ n1_ n2_; clear hg hw hp_) | ((with_reducible refine gate_callee (f := 23) rfl ?_); refine goesL_ (some 31) rfl rfl Try.func23 (by kernel_rfl) rfl #[.slice (some ⟨go14, 0, none⟩) y220.length co14] rfl (by (try simp only [List.map_toArray, List.map_cons, List.map_nil]); first | done | (rw [show y220.length = y217.length from (Kd.R_reads' HO219.out).1.symm] <;> rfl) | rfl | (simp only [List.length_drop, List.length_take]; rfl)) ?_; (with_reducible refine (nautilusref06_Right.calls kj3 _ _ y220 false _ ?side1 ?side2 A15.out).mono ?_); (case side1 => repeat (first | exact (Kd.R_reads' HO219.out).2.2 | (with_reducible refine Kd.C_alloc ?_ _) | (with_reducible refine Kd.C_drewN ?_ _) | (with_reducible refine Kd.C_drew ?_))); (case side2 => rw [show y220.length = y217.length from (Kd.R_reads' HO219.out).1.symm]; exact (Kd.R_reads' HO219.out).2.1); rintro e w33 ⟨rfl, hb⟩; refine ⟨_, rfl, ?_⟩; have n0_ := Aside0.mk (Kd.R_below (by (with_reducible repeat (first | apply Kd.R_alloc | apply Kd.R_drewN | apply Kd.R_drew)); exact HO219.out) hb); have n1_ := Aside0.mk (blk_below (g := gb212) (o := .cells #[.int .i64 a2_0, .int .u64 a2_1, .int .i64 a2_2] 30 (0, 0)) (by (with_reducible repeat (first | refine blk_drewN ?_ _ | refine blk_drew ?_ | refine blk_alloc ?_ _)); exact BK212.out) hb); have n2_ := Aside0.mk (below_step (by repeat (first | (with_reducible first | exact HB.out | apply below_alloc | apply pw_below_drewN | apply below_drew1 | refine below_set ?_ GE212.out) | exact HB.out)) hb); clear HO219; clear BK212; clear HB; have HO219 := n0_; have BK212 := n1_; have HB := n2_; clear n0_ n1_ n2_; (try clear hb); (try clear hb2); (try clear hk); (try clear hi)))
                      go_ret2
                      exact ⟨_, by first | rfl | (simp [errW_none, errW_some] <;> rfl) | (simp [*, errW_none, errW_some] <;> rfl), by first | exact Kd.R_nil _ _ _ _ _ | exact Kd.N_nil _ _ _ _ _ | exact Kd.V_nil _ _ _ _ _ | exact Kd.Q_nil _ _ _ _ _ | exact Kd.S_nil _ _ _ _ _, by repeat (first | (with_reducible first | exact HB.out | apply below_alloc | apply pw_below_drewN | apply below_drew1 | refine below_set ?_ GE212.out) | exact HB.out)⟩
                  · replace c16 := Bool.eq_false_iff.mpr c16
                    subst c16
                    have H1 : (some (([] : List (S30)), 60)) = some (r1, r2) := by rw [if_neg (show ¬ (false = true) by decide)] at H; exact H
                    clear H
                    have H := H1
                    clear H1
                    simp only [Option.some.injEq, Prod.mk.injEq] at H
                    obtain ⟨rfl, rfl⟩ := H
                    go_wp2_with (first | ((with_reducible refine gate_callee (f := 23) rfl ?_); refine goesL_ (some 20) rfl rfl Try.func23 (by kernel_rfl) rfl #[.slice A0 l0.length c0] rfl (by (try simp only [List.map_toArray, List.map_cons, List.map_nil]); first | done | rfl | (simp only [List.length_drop, List.length_take]; rfl)) ?_; (with_reducible refine (nautilusref06_Right.calls kj3 _ _ l0 false _ ?side1 ?side2 A8.out).mono ?_); (case side1 => repeat (first | exact (Kd.C_below HR0.out HB.out) | (with_reducible refine Kd.C_alloc ?_ _) | (with_reducible refine Kd.C_drewN ?_ _) | (with_reducible refine Kd.C_drew ?_))); (case side2 => exact HC0.out); rintro e w34 ⟨rfl, hb⟩; refine ⟨_, rfl, ?_⟩; have n0_ := Aside0.mk (blk_below (g := gb212) (o := .cells #[.int .i64 a2_0, .int .u64 a2_1, .int .i64 a2_2] 30 (0, 0)) (by (with_reducible repeat (first | refine blk_drewN ?_ _ | refine blk_drew ?_ | refine blk_alloc ?_ _)); exact BK212.out) hb); have n1_ := Aside0.mk (below_step (by repeat (first | (with_reducible first | exact HB.out | apply below_alloc | apply pw_below_drewN | apply below_drew1 | refine below_set ?_ GE212.out) | exact HB.out)) hb); clear BK212; clear HB; have BK212 := n0_; have HB := n1_; clear n0_ n1_; (try clear hb); (try clear hb2); (try clear hk); (try clear hi)) | ((with_reducible refine gate_dst (N := 23) rfl ?_); (try (refine gate_guard (by rfl) ?_; dsimp only)); refine R_make0 k30 _ 30 rfl (N := 23) rfl 22 _ _ rfl (l0.length : Int) rfl rfl Try.underlying22 (.agg #[(.int .i64 0), (.int .u64 0), (.int .i64 0)]) 24 info30 rfl (by decide) (by omega) z30 (ok := fun _ => True) (okp := fun _ => True) (k30_mkM _ _ _ z30 ) (fun _ hk => hk) trivial (of_decide_eq_true (by first | (with_reducible assumption) | assumption)) (Nat.le_trans (Nat.mul_le_mul_right _ (of_decide_eq_true (by first | (with_reducible assumption) | assumption) : (l0.length : Int).toNat ≤ 11728124029610)) (by omega)) (Below.refl _ _) (Nat.le_refl _) ?_; intro v215 w35 ho36 hb hg_ hnew_; clear hg_ hnew_; (first | rw [← Ny214.out] at ho36 | (simp only [Int.reduceToNat] at ho36; rw [← Ny214.out] at ho36)); have n0_ := Aside0.mk (Kd.R_lower (Kd.R_newB ho36 (g := gb212) (o := .cells #[.int .i64 a2_0, .int .u64 a2_1, .int .i64 a2_2] 30 (0, 0)) (by (with_reducible repeat (first | refine blk_drewN ?_ _ | refine blk_drew ?_ | refine blk_alloc ?_ _)); exact BK212.out)) (below_size (by repeat (first | (with_reducible first | exact HB.out | apply below_alloc | apply pw_below_drewN | apply below_drew1 | refine below_set ?_ GE212.out) | exact HB.out)))); have n1_ := Aside0.mk (blk_below (g := gb212) (o := .cells #[.int .i64 a2_0, .int .u64 a2_1, .int .i64 a2_2] 30 (0, 0)) (by (with_reducible repeat (first | refine blk_drewN ?_ _ | refine blk_drew ?_ | refine blk_alloc ?_ _)); exact BK212.out) hb); have n2_ := Aside0.mk (below_step (by repeat (first | (with_reducible first | exact HB.out | apply below_alloc | apply pw_below_drewN | apply below_drew1 | refine below_set ?_ GE212.out) | exact HB.out)) hb); clear BK212; clear HB; have HO216 := n0_; have BK212 := n1_; have HB := n2_; clear n0_ n1_ n2_; clear hb ho36) | ((with_reducible refine gate_builtin (b := .append) (xs := #[.tmp 23, .tmp 24]) rfl ?_); (try (refine gate_guard (by rfl) ?_; dsimp only)); at_builtin; refine Kd.R_append_rows k30 (w0 := w) w.heap.size rfl (.tmp 23) (.tmp 24) 22 30 (.agg #[(.int .i64 0), (.int .u64 0), (.int .i64 0)]) 24 rfl Try.underlying22 info30 rfl (by decide) (by omega) v215 y214 l0 _ _ _ (fun k_ => k_ ≠ gb212) (fun _ => False) rfl rfl ?aO ?aR (fun _ _ h => h) (fun _ h => h.elim) ?aF ?aB ?aS ?aL ?_; (case aR => repeat (first | exact (Kd.C_below HR0.out HB.out) | (with_reducible refine Kd.C_alloc ?_ _) | (with_reducible refine Kd.C_drewN ?_ _) | (with_reducible refine Kd.C_drew ?_))); (case aB => exact (by repeat (first | (with_reducible first | exact HB.out | apply below_alloc | apply pw_below_drewN | apply below_drew1 | refine below_set ?_ GE212.out) | exact HB.out))); (case aF => exact (fun k_ hk => Kd.freshB (g := gb212) (o := .cells #[.int .i64 a2_0, .int .u64 a2_1, .int .i64 a2_2] 30 (0, 0)) (by (with_reducible repeat (first | refine blk_drewN ?_ _ | refine blk_drew ?_ | refine blk_alloc ?_ _)); exact BK212.out) k_ hk)); (case aO => exact (by (with_reducible repeat (first | apply Kd.R_alloc | apply Kd.R_drewN | apply Kd.R_drew)); exact Kd.R_mono HO216.out (fun _ hk => hk.2))); (case aS => exact (below_size (by repeat (first | (with_reducible first | exact HB.out | apply below_alloc | apply pw_below_drewN | apply below_drew1 | refine below_set ?_ GE212.out) | exact HB.out)))); (case aL => have := LMc11.out; omega); intro v218 w37 ho hb hg hat; rw [← Ny217.out] at ho; have n0_ := Aside0.mk (blk_grown (g := gb212) (o := .cells #[.int .i64 a2_0, .int .u64 a2_1, .int .i64 a2_2] 30 (0, 0)) (by (with_reducible repeat (first | refine blk_drewN ?_ _ | refine blk_drew ?_ | refine blk_alloc ?_ _)); exact BK212.out) hg (Kd.R_away HO216.out (fun _ hk => hk.2))); have n1_ := Aside0.mk (hb); have n2_ := Aside0.mk (ho); clear BK212; clear HB; clear HO216; have BK212 := n0_; have HB := n1_; have HO219 := n2_; clear n0_ n1_ n2_; clear ho hb hg hat; have hcz38_0 : w37.cell? ⟨gb212, 0, none⟩ = some (.int .i64 a2_0) := (blk_cell BK212.out 0).trans rfl; have hcz38_1 : w37.cell? ⟨gb212, 1, none⟩ = some (.int .u64 a2_1) := (blk_cell BK212.out 1).trans rfl; have hcz38_2 : w37.cell? ⟨gb212, 2, none⟩ = some (.int .i64 a2_2) := (blk_cell BK212.out 2).trans rfl; have hfz38_0 := blk_frozen BK212.out 0; have hfz38_1 := blk_frozen BK212.out 1; have hfz38_2 := blk_frozen BK212.out 2; have p14 : 0 ≤ (a1 : Int) := of_decide_eq_true (by first | (with_reducible assumption) | assumption); have q14 : (a1 : Int) < ((y217.length : Int) : Int) := of_decide_eq_true (by first | (with_reducible assumption) | assumption); obtain ⟨go14, co14, eo14, gb14, gl14, cl14, HG14⟩ := Kd.R_form HO219.out (by omega); (first | cases eo14 | (injection eo14 with ea_ en_ ec_; (first | subst ea_ | (injection ea_ with ea_; subst ea_)); subst ec_; clear en_)); have GB14 := Aside0.mk gb14; have GG14 := Aside0.mk HG14; clear gb14 gl14 HG14; obtain ⟨ce14, hcl14, hM14, hcc14, hfr14⟩ := Kd.R_elem HO219.out z30 (a1 : Int) p14 q14; obtain rfl := k30_openM hM14; have hx14_0 : w37.cell? ⟨go14, (a1 : Int).toNat * 3, none⟩ = some (.int .i64 ((rd_T30 y217 a1).f0)) := hcc14 0 _ rfl; have hx14_1 : w37.cell? ⟨go14, (a1 : Int).toNat * 3 + 1, none⟩ = some (.int .u64 ((rd_T30 y217 a1).f1)) := hcc14 1 _ rfl; have hx14_2 : w37.cell? ⟨go14, (a1 : Int).toNat * 3 + 2, none⟩ = some (.int .i64 ((rd_T30 y217 a1).f2)) := hcc14 2 _ rfl; have hf14_0 : w37.frozen? ⟨go14, (a1 : Int).toNat * 3, none⟩ = false := hfr14 0; have hf14_1 : w37.frozen? ⟨go14, (a1 : Int).toNat * 3 + 1, none⟩ = false := hfr14 1; have hf14_2 : w37.frozen? ⟨go14, (a1 : Int).toNat * 3 + 2, none⟩ = false := hfr14 2; clear hcl14 hcc14 hfr14 hM14; replace p14 := eq_true p14; replace q14 := eq_true q14; have HX39 := Aside0.mk (show Kd.R k30 30 w37 w.heap.size (fun k_ => k_ ≠ gb212) (.slice (some ⟨go14, 0, none⟩) y217.length co14) y217 from (by (with_reducible repeat (first | apply Kd.R_alloc | apply Kd.R_drewN | apply Kd.R_drew)); exact HO219.out)); obtain ⟨ce39, hcl39, hM39, hcc39, hfr39⟩ := Kd.R_elem HX39.out z30 (a1 : Int) (of_decide_eq_true (by first | (with_reducible assumption) | assumption)) (by have h_ : (a1 : Int) < ((y217.length : Int) : Int) := of_decide_eq_true (by first | (with_reducible assumption) | assumption); first | exact h_ | (have e_ := (Kd.R_reads' HO219.out).1; omega) | simpa using h_); obtain rfl := k30_openM hM39; have HP39 := Kd.R_seg HX39.out (a1 : Int) (of_decide_eq_true (by first | (with_reducible assumption) | assumption)) (by have h_ : (a1 : Int) < ((y217.length : Int) : Int) := of_decide_eq_true (by first | (with_reducible assumption) | assumption); first | exact h_ | (have e_ := (Kd.R_reads' HO219.out).1; omega) | simpa using h_) (seg := [.int .i64 a2_0, .int .u64 a2_1, .int .i64 a2_2]) (j := 0) hcl39 hcc39 (show 3 ≤ 3 from by decide) (x' := (⟨a2_0, a2_1, a2_2⟩ : S30)) (k30_mkM _ _ _ (⟨a2_0, a2_1, a2_2⟩ : S30) ) (fun _ hk => hk); have hx39_0 := hcc39 0 _ rfl; (try simp only [show (k30).sz = 3 from rfl, Nat.mul_one, Nat.add_zero] at hx39_0); have hf39_0 := hfr39 0; (try simp only [show (k30).sz = 3 from rfl, Nat.mul_one, Nat.add_zero] at hf39_0); have hx39_1 := hcc39 1 _ rfl; (try simp only [show (k30).sz = 3 from rfl, Nat.mul_one, Nat.add_zero] at hx39_1); have hf39_1 := hfr39 1; (try simp only [show (k30).sz = 3 from rfl, Nat.mul_one, Nat.add_zero] at hf39_1); have hx39_2 := hcc39 2 _ rfl; (try simp only [show (k30).sz = 3 from rfl, Nat.mul_one, Nat.add_zero] at hx39_2); have hf39_2 := hfr39 2; (try simp only [show (k30).sz = 3 from rfl, Nat.mul_one, Nat.add_zero] at hf39_2); clear hcl39 hcc39 hfr39 hM39) | ((with_reducible refine gate_store (t := 30) (p := 29) rfl ?_); refine store_event (t := 30) (p := 29) (v := ?vo_w40) (w1 := (((w37.setCell ⟨go14, (a1 : Int).toNat * 3, none⟩ (.int .i64 a2_0)).setCell ⟨go14, (a1 : Int).toNat * 3 + 1, none⟩ (.int .u64 a2_1)).setCell ⟨go14, (a1 : Int).toNat * 3 + 2, none⟩ (.int .i64 a2_2))) ?hg ?ho ?hn ?hr ?_; (case ho => rfl); (case hg => rfl); (case hn => rfl); (case hr => first | (go_simp; done) | (go_simp; rfl)); intro w40 hw; have hg : w37.grownBy w40 (some go14) := (by rw [hw]; exact HP39.2); have hp_ : Kd.R k30 30 w40 w.heap.size (fun k_ => k_ ≠ gb212) (.slice (some ⟨go14, 0, none⟩) y217.length co14) y220 := (by rw [hw, Ny220.out]; exact HP39.1); clear HP39; have n0_ := Aside0.mk (blk_grown (g := gb212) (o := .cells #[.int .i64 a2_0, .int .u64 a2_1, .int .i64 a2_2] 30 (0, 0)) (by (with_reducible repeat (first | refine blk_drewN ?_ _ | refine blk_drew ?_ | refine blk_alloc ?_ _)); exact BK212.out) hg (Kd.R_away HO219.out (fun _ hk => hk))); have n1_ := Aside0.mk (hp_); have n2_ := Aside0.mk ((by rw [hw]; exact below_set (below_set (below_set (HB.out) GB14.out) GB14.out) GB14.out : Below w.heap.size w w40)); clear BK212; clear HO219; clear HB; have BK212 := n0_; have HO219 := n1_; have HB := n2_; clear n0_ n1_ n2_; clear hg hw hp_) | ((with_reducible refine gate_callee (f := 23) rfl ?_); refine goesL_ (some 31) rfl rfl Try.func23 (by kernel_rfl) rfl #[.slice (some ⟨go14, 0, none⟩) y220.length co14] rfl (by (try simp only [List.map_toArray, List.map_cons, List.map_nil]); first | done | (rw [show y220.length = y217.length from (Kd.R_reads' HO219.out).1.symm] <;> rfl) | rfl | (simp only [List.length_drop, List.length_take]; rfl)) ?_; (with_reducible refine (nautilusref06_Right.calls kj3 _ _ y220 t221 _ ?side1 ?side2 A15.out).mono ?_); (case side1 => repeat (first | exact (Kd.R_reads' HO219.out).2.2 | (with_reducible refine Kd.C_alloc ?_ _) | (with_reducible refine Kd.C_drewN ?_ _) | (with_reducible refine Kd.C_drew ?_))); (case side2 => rw [show y220.length = y217.length from (Kd.R_reads' HO219.out).1.symm]; exact (Kd.R_reads' HO219.out).2.1); rintro e w41 ⟨rfl, hb⟩; refine ⟨_, rfl, ?_⟩; have n0_ := Aside0.mk (Kd.R_below (by (with_reducible repeat (first | apply Kd.R_alloc | apply Kd.R_drewN | apply Kd.R_drew)); exact HO219.out) hb); have n1_ := Aside0.mk (blk_below (g := gb212) (o := .cells #[.int .i64 a2_0, .int .u64 a2_1, .int .i64 a2_2] 30 (0, 0)) (by (with_reducible repeat (first | refine blk_drewN ?_ _ | refine blk_drew ?_ | refine blk_alloc ?_ _)); exact BK212.out) hb); have n2_ := Aside0.mk (below_step (by repeat (first | (with_reducible first | exact HB.out | apply below_alloc | apply pw_below_drewN | apply below_drew1 | refine below_set ?_ GE212.out) | exact HB.out)) hb); clear HO219; clear BK212; clear HB; have HO219 := n0_; have BK212 := n1_; have HB := n2_; clear n0_ n1_ n2_; (try clear hb); (try clear hb2); (try clear hk); (try clear hi)))
                    go_ret2
                    exact ⟨_, by first | rfl | (simp [errW_none, errW_some] <;> rfl) | (simp [*, errW_none, errW_some] <;> rfl), by first | exact Kd.R_nil _ _ _ _ _ | exact Kd.N_nil _ _ _ _ _ | exact Kd.V_nil _ _ _ _ _ | exact Kd.Q_nil _ _ _ _ _ | exact Kd.S_nil _ _ _ _ _, by repeat (first | (with_reducible first | exact HB.out | apply below_alloc | apply pw_below_drewN | apply below_drew1 | refine below_set ?_ GE212.out) | exact HB.out)⟩
                · rw [if_neg c13] at H
                  exact absurd H (by simp)
              · rw [if_neg c12] at H
                exact absurd H (by simp)
            · rw [if_neg c11] at H
              exact absurd H (by simp)
          · rw [if_neg c10] at H
            exact absurd H (by simp)
        · rw [if_neg c9] at H
          exact absurd H (by simp)

/-! ### nautilusref06_Same: function 13 -/
def nautilusref06_Same.l0 : Nat → List (S30) → List (S30) → Int → Option (Bool)
  | 0, _, _, _ => none
  | k + 1, x0, x1, x5 => if x5 < (x0.length : Int) then (if 0 ≤ x5 then (if x5 < (x1.length : Int) then (if (!(((rd_T30 x0 x5).f0) == ((rd_T30 x1 x5).f0)) || (!(((rd_T30 x0 x5).f1) == ((rd_T30 x1 x5).f1)) || (!(((rd_T30 x0 x5).f2) == ((rd_T30 x1 x5).f2))))) = true then (some false) else (nautilusref06_Same.l0 k x0 x1 (wrap64 (x5 + 1)))) else (none)) else (none)) else (some true)
def nautilusref06_Same.f (k : Nat) (l0 : List (S30)) (l1 : List (S30)) : Option (Bool) := if (l0.length : Int) = (l1.length : Int) then (nautilusref06_Same.l0 k l0 l1 0) else (some false)
theorem nautilusref06_Same.mono_l : ∀ k, (∀ y0 y1 y2, LeO (nautilusref06_Same.l0 k y0 y1 y2) (nautilusref06_Same.l0 (k + 1) y0 y1 y2))
  | 0 => fun _ _ _ r h => by simp [nautilusref06_Same.l0] at h
  | k + 1 => by
    have ih0 := nautilusref06_Same.mono_l k
    · intro y0 y1 y2
      unfold nautilusref06_Same.l0
      repeat' first
      | (with_reducible exact ih0 _ _ _)
      | (with_reducible exact LeO.refl _)
      | (with_reducible exact LeO.none _)
      | (with_reducible refine LeO.ite ?_ ?_)
      | (with_reducible refine LeO.bind ?_ (fun _ => ?_))
      | exact ih0 _ _ _
      | exact LeO.none _
      | refine LeO.ite ?_ ?_
      | refine LeO.bind ?_ (fun _ => ?_)
theorem nautilusref06_Same.mono : ∀ a0 a1 k, LeO (nautilusref06_Same.f k a0 a1) (nautilusref06_Same.f (k + 1) a0 a1) := by
  intro a0 a1 k
  have ih0 := nautilusref06_Same.mono_l k
  unfold nautilusref06_Same.f
  repeat' first
      | (with_reducible exact ih0 _ _ _)
      | (with_reducible exact LeO.refl _)
      | (with_reducible exact LeO.none _)
      | (with_reducible refine LeO.ite ?_ ?_)
      | (with_reducible refine LeO.bind ?_ (fun _ => ?_))
      | exact ih0 _ _ _
      | exact LeO.none _
      | refine LeO.ite ?_ ?_
      | refine LeO.bind ?_ (fun _ => ?_)
set_option maxHeartbeats 8000000 in
set_option maxRecDepth 100000 in
theorem nautilusref06_Same.calls (k : Nat) (A0 : Option Addr) (c0 : Nat) (l0 : List (S30)) (A1 : Option Addr) (c1 : Nat) (l1 : List (S30)) (r : Bool) (w : World) (hr0 : Kd.C k30 w A0 l0.length l0) (hc0 : l0.length ≤ c0) (hr1 : Kd.C k30 w A1 l1.length l1) (hc1 : l1.length ≤ c1) (h : nautilusref06_Same.f k l0 l1 = some r) :
    Calls Try.prog 13 #[.slice A0 l0.length c0, .slice A1 l1.length c1] w fun e w' => e = .returned (.bool r) ∧ Drawn0 w w' := by
  have hu30 := Try.underlying30
  have HR0 := Aside0.mk hr0
  have HC0 := Aside0.mk hc0
  clear hr0 hc0
  have HR1 := Aside0.mk hr1
  have HC1 := Aside0.mk hc1
  clear hr1 hc1
  have H : (if (l0.length : Int) = (l1.length : Int) then (nautilusref06_Same.l0 k l0 l1 0) else (some false)) = some r := h
  clear h
  by_cases c3 : (l0.length : Int) = (l1.length : Int)
  · rw [if_pos c3] at H
    have c3b0 : ((l0.length : Int) == (l1.length : Int)) = true := beq_iff_eq.mpr c3
    have c3b1 : ((l0.length : Int) != (l1.length : Int)) = false := bne_eq_false_iff_eq.mpr c3
    have c3b2 : (l0.length == l1.length) = true := by first | simpa using c3 | (simp at c3 ⊢; omega)
    clear c3
    have H' := Aside0.mk H
    clear H
    go_enter Try.func13, Try.ntmps13
    go_wp2
    repeat (go_quiet (fail); try go_wp2)
    go_loopg [5] k (fun kq v5 w' => ∃ (x5_1 : Int), v5 = .int .i64 x5_1 ∧ Aside0 (nautilusref06_Same.l0 kq l0 l1 x5_1 = some r) ∧ Aside0 (kq ≤ k) ∧ Drawn0 w w')
    case atStart => exact ⟨(0), (by first | rfl | (simp; done) | (simp [*]; done)), H', ⟨Nat.le_refl _⟩, by repeat (first | exact Drawn0.refl _ | apply Drawn0.step)⟩
    case round =>
      clear H'
      try clear c1
      try clear p2
      try clear c3
      try clear c3b0
      try clear c3b1
      try clear c3b2
      obtain ⟨x5_1, rfl, HA, HK1, ⟨m1, rfl⟩⟩ := hrel
      cases gk with
      | zero => exact absurd HA.out (by simp [nautilusref06_Same.l0])
      | succ k1 =>
        have H := HA.out
        clear HA
        simp only [nautilusref06_Same.l0] at H
        by_cases c4 : x5_1 < (l0.length : Int)
        · rw [if_pos c4] at H
          have c4b0 : decide (x5_1 < (l0.length : Int)) = true := decide_eq_true c4
          clear c4
          by_cases c5 : 0 ≤ x5_1
          · rw [if_pos c5] at H
            have c5b0 : decide (0 ≤ x5_1) = true := decide_eq_true c5
            clear c5
            by_cases c6 : x5_1 < (l1.length : Int)
            · rw [if_pos c6] at H
              have c6b0 : decide (x5_1 < (l1.length : Int)) = true := decide_eq_true c6
              clear c6
              by_cases c7 : (!(((rd_T30 l0 x5_1).f0) == ((rd_T30 l1 x5_1).f0)) || (!(((rd_T30 l0 x5_1).f1) == ((rd_T30 l1 x5_1).f1)) || (!(((rd_T30 l0 x5_1).f2) == ((rd_T30 l1 x5_1).f2))))) = true
              · rw [if_pos c7] at H
                have c7b0 : (!(((rd_T30 l0 x5_1).f0) == ((rd_T30 l1 x5_1).f0)) || (!(((rd_T30 l0 x5_1).f1) == ((rd_T30 l1 x5_1).f1)) || (!(((rd_T30 l0 x5_1).f2) == ((rd_T30 l1 x5_1).f2))))) = true := c7
                clear c7
                obtain rfl := Option.some.inj H
                have p222 : 0 ≤ (x5_1 : Int) := of_decide_eq_true (by first | (with_reducible assumption) | assumption)
                have q222 : x5_1 < (l0.length : Int) := of_decide_eq_true (by first | (with_reducible assumption) | assumption)
                obtain ⟨ad222, e222, hx222_0, hx222_1, hx222_2⟩ := at_T30 HR0.out x5_1 p222 q222
                cases e222
                replace p222 := eq_true p222
                replace q222 := eq_true q222
                have p223 : 0 ≤ (x5_1 : Int) := of_decide_eq_true (by first | (with_reducible assumption) | assumption)
                have q223 : x5_1 < (l1.length : Int) := of_decide_eq_true (by first | (with_reducible assumption) | assumption)
                obtain ⟨ad223, e223, hx223_0, hx223_1, hx223_2⟩ := at_T30 HR1.out x5_1 p223 q223
                cases e223
                replace p223 := eq_true p223
                replace q223 := eq_true q223
                go_wp2
                repeat (go_quiet (fail); try go_wp2)
                go_ret
                exact ⟨by first | rfl | (simp; done) | (simp [*]; done), by repeat (first | exact Drawn0.refl _ | apply Drawn0.step)⟩
              · rw [if_neg c7] at H
                have c7b0 : (!(((rd_T30 l0 x5_1).f0) == ((rd_T30 l1 x5_1).f0)) || (!(((rd_T30 l0 x5_1).f1) == ((rd_T30 l1 x5_1).f1)) || (!(((rd_T30 l0 x5_1).f2) == ((rd_T30 l1 x5_1).f2))))) = false := by simpa using c7
                clear c7
                have H' := Aside0.mk H
                clear H
                have p222 : 0 ≤ (x5_1 : Int) := of_decide_eq_true (by first | (with_reducible assumption) | assumption)
                have q222 : x5_1 < (l0.length : Int) := of_decide_eq_true (by first | (with_reducible assumption) | assumption)
                obtain ⟨ad222, e222, hx222_0, hx222_1, hx222_2⟩ := at_T30 HR0.out x5_1 p222 q222
                cases e222
                replace p222 := eq_true p222
                replace q222 := eq_true q222
                have p223 : 0 ≤ (x5_1 : Int) := of_decide_eq_true (by first | (with_reducible assumption) | assumption)
                have q223 : x5_1 < (l1.length : Int) := of_decide_eq_true (by first | (with_reducible assumption) | assumption)
                obtain ⟨ad223, e223, hx223_0, hx223_1, hx223_2⟩ := at_T30 HR1.out x5_1 p223 q223
                cases e223
                replace p223 := eq_true p223
                replace q223 := eq_true q223
                go_wp2
                repeat (go_quiet (fail); try go_wp2)
                go_roundg k1
                case measure => have := HK1.out; omega
                case rel => exact ⟨(wrap64 (x5_1 + 1)), (by first | rfl | (simp; done) | (simp [*]; done)), H', ⟨by have := HK1.out; omega⟩, by repeat (first | exact Drawn0.refl _ | apply Drawn0.step)⟩
            · rw [if_neg c6] at H
              exact absurd H (by simp)
          · rw [if_neg c5] at H
            exact absurd H (by simp)
        · rw [if_neg c4] at H
          have c4b0 : decide (x5_1 < (l0.length : Int)) = false := decide_eq_false c4
          clear c4
          obtain rfl := Option.some.inj H
          go_wp2
          repeat (go_quiet (fail); try go_wp2)
          go_ret
          exact ⟨by first | rfl | (simp; done) | (simp [*]; done), by repeat (first | exact Drawn0.refl _ | apply Drawn0.step)⟩
  · rw [if_neg c3] at H
    have c3b0 : ((l0.length : Int) == (l1.length : Int)) = false := beq_eq_false_iff_ne.mpr c3
    have c3b1 : ((l0.length : Int) != (l1.length : Int)) = true := bne_iff_ne.mpr c3
    have c3b2 : (l0.length == l1.length) = false := by first | simpa using c3 | (simp at c3 ⊢; omega)
    obtain rfl := Option.some.inj H
    go_enter Try.func13, Try.ntmps13
    go_wp2
    repeat (go_quiet (fail); try go_wp2)
    go_ret
    exact ⟨by first | rfl | (simp; done) | (simp [*]; done), by repeat (first | exact Drawn0.refl _ | apply Drawn0.step)⟩

end Go.Proofs.Ytklhmhliencgeaa.Q
