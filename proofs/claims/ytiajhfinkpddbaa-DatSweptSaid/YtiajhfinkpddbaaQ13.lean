/- Functions of the translation as plain Lean functions, and that the translation computes them: printed by this session's driver of the print. -/
import Derived.Test.YtiajhfinkpddbaaQ0
import Derived.Test.YtiajhfinkpddbaaQ9
import Derived.Test.YtiajhfinkpddbaaQ10
import Derived.Test.YtiajhfinkpddbaaQ12
namespace Go.Proofs.Ytiajhfinkpddbaa.Q
open Go.Proofs.Ytiajhfinkpddbaa.H
open Go.RowKit Go.Proofs.YtiajhfinkpddbaaW.PrintWords Go.Proofs.YtiajhfinkpddbaaW.PrintLast Go.Proofs.YtiajhfinkpddbaaW.PrintMore
attribute [local go_sem] max2_int min2_int max_two min_two max_three min_three max_four min_four   -- for this text's walks alone
set_option linter.unusedVariables false
set_option linter.unusedSimpArgs false

/-! ### nautilusref08_End: function 20 -/
def nautilusref08_End.j0 : Nat → List (S31) → Int → Int → Bool → Option ((List (S31)) × Int)
  | 0, _, _, _, _ => none
  | k + 1, x0, x1, x2, x25 => if x25 = true then (some (([] : List (S31)), 82)) else (if 0 ≤ x1 then (if x1 < (x0.length : Int) then (if x2 = ((rd_T31 x0 x1).f1) then ((nautilusref08_with.f k x0 (wrap64 (x1)) 0 0 0).bind fun bt297 => (some (bt297.1, bt297.2))) else (if x2 = 0 then (some (([] : List (S31)), 80)) else ((nautilusref08_with.f k x0 (wrap64 (x1)) ((rd_T31 x0 x1).f0) ((rd_T31 x0 x1).f1) x2).bind fun bt301 => (some (bt301.1, bt301.2))))) else (none)) else (none))
def nautilusref08_End.f (k : Nat) (l0 : List (S31)) (a1 : Int) (a2 : Int) : Option ((List (S31)) × Int) := (nautilusref08_Right.f k l0).bind fun t292 => (if t292 = true then ((nautilusref08_used.f l0 a1).bind fun t293 => (if t293 = true then (if 0 ≤ a1 then (if a1 < (l0.length : Int) then (nautilusref08_End.j0 k l0 a1 a2 (((rd_T31 l0 a1).f2) != 0)) else (none)) else (none)) else (nautilusref08_End.j0 k l0 a1 a2 true))) else (some (([] : List (S31)), 80)))
theorem nautilusref08_End.mono_l : ∀ k, (∀ y0 y1 y2 y3, LeO (nautilusref08_End.j0 k y0 y1 y2 y3) (nautilusref08_End.j0 (k + 1) y0 y1 y2 y3))
  | 0 => fun _ _ _ _ r h => by simp [nautilusref08_End.j0] at h
  | k + 1 => by
    have ih0 := nautilusref08_End.mono_l k
    · intro y0 y1 y2 y3
      unfold nautilusref08_End.j0
      repeat' first
      | (with_reducible exact ih0 _ _ _ _)
      | (with_reducible exact nautilusref08_Right.mono _ _)
      | (with_reducible exact nautilusref08_with.mono _ _ _ _ _ _)
      | (with_reducible exact LeO.refl _)
      | (with_reducible exact LeO.none _)
      | (with_reducible refine LeO.ite ?_ ?_)
      | (with_reducible refine LeO.bind ?_ (fun _ => ?_))
      | exact ih0 _ _ _ _
      | exact nautilusref08_Right.mono _ _
      | exact nautilusref08_with.mono _ _ _ _ _ _
      | exact LeO.none _
      | refine LeO.ite ?_ ?_
      | refine LeO.bind ?_ (fun _ => ?_)
theorem nautilusref08_End.mono : ∀ a0 a1 a2 k, LeO (nautilusref08_End.f k a0 a1 a2) (nautilusref08_End.f (k + 1) a0 a1 a2) := by
  intro a0 a1 a2 k
  have ih0 := nautilusref08_End.mono_l k
  unfold nautilusref08_End.f
  repeat' first
      | (with_reducible exact ih0 _ _ _ _)
      | (with_reducible exact nautilusref08_Right.mono _ _)
      | (with_reducible exact nautilusref08_with.mono _ _ _ _ _ _)
      | (with_reducible exact LeO.refl _)
      | (with_reducible exact LeO.none _)
      | (with_reducible refine LeO.ite ?_ ?_)
      | (with_reducible refine LeO.bind ?_ (fun _ => ?_))
      | exact ih0 _ _ _ _
      | exact nautilusref08_Right.mono _ _
      | exact nautilusref08_with.mono _ _ _ _ _ _
      | exact LeO.none _
      | refine LeO.ite ?_ ?_
      | refine LeO.bind ?_ (fun _ => ?_)
set_option maxHeartbeats 8000000 in
set_option maxRecDepth 100000 in
theorem nautilusref08_End.calls (k : Nat) (A0 : Option Addr) (c0 : Nat) (l0 : List (S31)) (a1 : Int) (a2 : Int) (r1 : List (S31)) (r2 : Int) (w : World) (hr0 : Kd.C k31 w A0 l0.length l0) (hc0 : l0.length ≤ c0) (h : nautilusref08_End.f k l0 a1 a2 = some (r1, r2)) :
    Calls Try.prog 20 #[.slice A0 l0.length c0, .int .u32 a1, .int .u64 a2] w fun e w' => ∃ v0_ : Value, e = .returned (.tuple #[v0_, .int .i64 r2]) ∧ Kd.R k31 31 w' w.heap.size (fun _ => True) v0_ r1 ∧ Below w.heap.size w w' := by
  have hu31 := Try.underlying31
  have HR0 := Aside0.mk hr0
  have HC0 := Aside0.mk hc0
  clear hr0 hc0
  have HB := Aside0.mk (Below.refl w.heap.size w)
  have H : ((nautilusref08_Right.f k l0).bind fun t292 => (if t292 = true then ((nautilusref08_used.f l0 a1).bind fun t293 => (if t293 = true then (if 0 ≤ a1 then (if a1 < (l0.length : Int) then (nautilusref08_End.j0 k l0 a1 a2 (((rd_T31 l0 a1).f2) != 0)) else (none)) else (none)) else (nautilusref08_End.j0 k l0 a1 a2 true))) else (some (([] : List (S31)), 80)))) = some (r1, r2) := h
  clear h
  replace H := Option.bind_eq_some_iff.mp H
  obtain ⟨t292, A40, H⟩ := H
  replace H : (if t292 = true then ((nautilusref08_used.f l0 a1).bind fun t293 => (if t293 = true then (if 0 ≤ a1 then (if a1 < (l0.length : Int) then (nautilusref08_End.j0 k l0 a1 a2 (((rd_T31 l0 a1).f2) != 0)) else (none)) else (none)) else (nautilusref08_End.j0 k l0 a1 a2 true))) else (some (([] : List (S31)), 80))) = some (r1, r2) := H
  have A4 := Aside0.mk A40
  clear A40
  by_cases c5 : t292 = true
  · subst c5
    have H1 : ((nautilusref08_used.f l0 a1).bind fun t293 => (if t293 = true then (if 0 ≤ a1 then (if a1 < (l0.length : Int) then (nautilusref08_End.j0 k l0 a1 a2 (((rd_T31 l0 a1).f2) != 0)) else (none)) else (none)) else (nautilusref08_End.j0 k l0 a1 a2 true))) = some (r1, r2) := by rw [if_pos rfl] at H; exact H
    clear H
    have H := H1
    clear H1
    have HC6 := Aside0.mk H
    clear H
    go_enter Try.func20, Try.ntmps20
    go_upto_region 4 with (first | ((with_reducible refine gate_callee (f := 18) rfl ?_); refine goesL_ (some 11) rfl rfl Try.func18 (by kernel_rfl) rfl #[.slice A0 l0.length c0] rfl (by (try simp only [List.map_toArray, List.map_cons, List.map_nil]); first | done | rfl | (simp only [List.length_drop, List.length_take]; rfl)) ?_; (with_reducible refine (nautilusref08_Right.calls k _ _ l0 true _ ?side1 ?side2 A4.out).mono ?_); (case side1 => repeat (first | exact HR0.out | (with_reducible refine Kd.C_alloc ?_ _) | (with_reducible refine Kd.C_drewN ?_ _) | (with_reducible refine Kd.C_drew ?_))); (case side2 => exact HC0.out); rintro e w7 ⟨rfl, hb⟩; refine ⟨_, rfl, ?_⟩; have n0_ := Aside0.mk (below_step (by repeat (first | (with_reducible first | exact HB.out | apply below_alloc | apply pw_below_drewN | apply below_drew1) | exact HB.out)) hb); clear HB; have HB := n0_; clear n0_; (try clear hb); (try clear hb2); (try clear hk); (try clear hi)))
    (try simp only [Act.put, List.setIfInBounds_toArray, List.set_cons_zero, List.set_cons_succ])
    go_cut [25] (fun v25 wc => ∃ (kq : Nat) (x25_5 : Bool), v25 = .bool x25_5 ∧ Aside0 (nautilusref08_End.j0 kq l0 a1 a2 x25_5 = some (r1, r2)) ∧ Aside0 (kq ≤ k) ∧ Aside0 (Below w.heap.size w wc))
    case first =>
      have H := HC6.out
      clear HC6
      replace H := Option.bind_eq_some_iff.mp H
      obtain ⟨t293, A80, H⟩ := H
      replace H : (if t293 = true then (if 0 ≤ a1 then (if a1 < (l0.length : Int) then (nautilusref08_End.j0 k l0 a1 a2 (((rd_T31 l0 a1).f2) != 0)) else (none)) else (none)) else (nautilusref08_End.j0 k l0 a1 a2 true)) = some (r1, r2) := H
      have A8 := Aside0.mk A80
      clear A80
      by_cases c9 : t293 = true
      · subst c9
        have H1 : (if 0 ≤ a1 then (if a1 < (l0.length : Int) then (nautilusref08_End.j0 k l0 a1 a2 (((rd_T31 l0 a1).f2) != 0)) else (none)) else (none)) = some (r1, r2) := by rw [if_pos rfl] at H; exact H
        clear H
        have H := H1
        clear H1
        by_cases c10 : 0 ≤ a1
        · rw [if_pos c10] at H
          have c10b0 : decide (0 ≤ a1) = true := decide_eq_true c10
          clear c10
          (first | rw [c10b0] | (simp only [i64_w, i32_w]; rw [c10b0]) | skip)
          by_cases c11 : a1 < (l0.length : Int)
          · rw [if_pos c11] at H
            have c11b0 : decide (a1 < (l0.length : Int)) = true := decide_eq_true c11
            clear c11
            have H' := Aside0.mk H
            clear H
            go_wp2_with (first | ((with_reducible refine gate_callee (f := 40) rfl ?_); refine goesL_ (some 16) rfl rfl Try.func40 (by kernel_rfl) rfl #[.slice A0 l0.length c0, .int .u32 a1] rfl (by (try simp only [List.map_toArray, List.map_cons, List.map_nil]); first | done | rfl | (simp only [List.length_drop, List.length_take]; rfl)) ?_; (with_reducible refine (nautilusref08_used.calls _ _ l0 a1 true _ ?side1 ?side2 A8.out).mono ?_); (case side1 => repeat (first | exact (Kd.C_below HR0.out HB.out) | (with_reducible refine Kd.C_alloc ?_ _) | (with_reducible refine Kd.C_drewN ?_ _) | (with_reducible refine Kd.C_drew ?_))); (case side2 => exact HC0.out); rintro e w12 ⟨rfl, hb⟩; refine ⟨_, rfl, ?_⟩; have n0_ := Aside0.mk (below_step (by repeat (first | (with_reducible first | exact HB.out | apply below_alloc | apply pw_below_drewN | apply below_drew1) | exact HB.out)) hb); clear HB; have HB := n0_; clear n0_; (try clear hb); (try clear hb2); (try clear hk); (try clear hi); have p294 : 0 ≤ (a1 : Int) := of_decide_eq_true (by first | (with_reducible assumption) | assumption); have q294 : a1 < (l0.length : Int) := of_decide_eq_true (by first | (with_reducible assumption) | assumption); obtain ⟨ad294, e294, hx294_0, hx294_1, hx294_2⟩ := at_T31 HR0.out a1 p294 q294; cases e294; replace hx294_0 := (HB.out.cell (World.block_lt_of_cell? w _ hx294_0)).trans hx294_0; replace hx294_1 := (HB.out.cell (World.block_lt_of_cell? w _ hx294_1)).trans hx294_1; replace hx294_2 := (HB.out.cell (World.block_lt_of_cell? w _ hx294_2)).trans hx294_2; replace p294 := eq_true p294; replace q294 := eq_true q294))
            go_meet
            case rel => exact ⟨_, ((((rd_T31 l0 a1).f2) != 0)), (by first | rfl | (simp; done) | (simp [*]; done)), H', ⟨by first | omega | exact Nat.le_refl _⟩, ⟨by repeat (first | (with_reducible first | exact HB.out | apply below_alloc | apply pw_below_drewN | apply below_drew1) | exact HB.out)⟩⟩
          · rw [if_neg c11] at H
            exact absurd H (by simp)
        · rw [if_neg c10] at H
          exact absurd H (by simp)
      · replace c9 := Bool.eq_false_iff.mpr c9
        subst c9
        have H1 : (nautilusref08_End.j0 k l0 a1 a2 true) = some (r1, r2) := by rw [if_neg (show ¬ (false = true) by decide)] at H; exact H
        clear H
        have H := H1
        clear H1
        have H' := Aside0.mk H
        clear H
        go_wp2_with (first | ((with_reducible refine gate_callee (f := 40) rfl ?_); refine goesL_ (some 16) rfl rfl Try.func40 (by kernel_rfl) rfl #[.slice A0 l0.length c0, .int .u32 a1] rfl (by (try simp only [List.map_toArray, List.map_cons, List.map_nil]); first | done | rfl | (simp only [List.length_drop, List.length_take]; rfl)) ?_; (with_reducible refine (nautilusref08_used.calls _ _ l0 a1 false _ ?side1 ?side2 A8.out).mono ?_); (case side1 => repeat (first | exact (Kd.C_below HR0.out HB.out) | (with_reducible refine Kd.C_alloc ?_ _) | (with_reducible refine Kd.C_drewN ?_ _) | (with_reducible refine Kd.C_drew ?_))); (case side2 => exact HC0.out); rintro e w13 ⟨rfl, hb⟩; refine ⟨_, rfl, ?_⟩; have n0_ := Aside0.mk (below_step (by repeat (first | (with_reducible first | exact HB.out | apply below_alloc | apply pw_below_drewN | apply below_drew1) | exact HB.out)) hb); clear HB; have HB := n0_; clear n0_; (try clear hb); (try clear hb2); (try clear hk); (try clear hi)))
        go_meet
        case rel => exact ⟨_, (true), (by first | rfl | (simp; done) | (simp [*]; done)), H', ⟨by first | omega | exact Nat.le_refl _⟩, ⟨by repeat (first | (with_reducible first | exact HB.out | apply below_alloc | apply pw_below_drewN | apply below_drew1) | exact HB.out)⟩⟩
    case rest =>
      clear HC6
      try clear c1
      try clear c2
      try clear p2
      try clear q2
      try clear hx2
      try clear c4
      try clear c5
      try clear c9
      try clear c10
      try clear c10b0
      try clear c11
      try clear c11b0
      try clear hx294_0
      try clear hx294_1
      try clear hx294_2
      try clear p294
      try clear q294
      obtain ⟨kq, x25_5, rfl, HA, HJ5, HB⟩ := hcut
      cases kq with
      | zero => exact absurd HA.out (by simp [nautilusref08_End.j0])
      | succ kj5 =>
        have H := HA.out
        clear HA
        simp only [nautilusref08_End.j0] at H
        by_cases c14 : x25_5 = true
        · subst c14
          have H1 : (some (([] : List (S31)), 82)) = some (r1, r2) := by rw [if_pos rfl] at H; exact H
          clear H
          have H := H1
          clear H1
          simp only [Option.some.injEq, Prod.mk.injEq] at H
          obtain ⟨rfl, rfl⟩ := H
          go_wp2
          go_ret2
          exact ⟨_, by first | rfl | (simp [errW_none, errW_some] <;> rfl) | (simp [*, errW_none, errW_some] <;> rfl), by first | exact Kd.R_nil _ _ _ _ _ | exact Kd.N_nil _ _ _ _ _ | exact Kd.V_nil _ _ _ _ _ | exact Kd.Q_nil _ _ _ _ _ | exact Kd.S_nil _ _ _ _ _, by repeat (first | (with_reducible first | exact HB.out | apply below_alloc | apply pw_below_drewN | apply below_drew1) | exact HB.out)⟩
        · replace c14 := Bool.eq_false_iff.mpr c14
          subst c14
          have H1 : (if 0 ≤ a1 then (if a1 < (l0.length : Int) then (if a2 = ((rd_T31 l0 a1).f1) then ((nautilusref08_with.f kj5 l0 (wrap64 (a1)) 0 0 0).bind fun bt297 => (some (bt297.1, bt297.2))) else (if a2 = 0 then (some (([] : List (S31)), 80)) else ((nautilusref08_with.f kj5 l0 (wrap64 (a1)) ((rd_T31 l0 a1).f0) ((rd_T31 l0 a1).f1) a2).bind fun bt301 => (some (bt301.1, bt301.2))))) else (none)) else (none)) = some (r1, r2) := by rw [if_neg (show ¬ (false = true) by decide)] at H; exact H
          clear H
          have H := H1
          clear H1
          by_cases c15 : 0 ≤ a1
          · rw [if_pos c15] at H
            have c15b0 : decide (0 ≤ a1) = true := decide_eq_true c15
            clear c15
            by_cases c16 : a1 < (l0.length : Int)
            · rw [if_pos c16] at H
              have c16b0 : decide (a1 < (l0.length : Int)) = true := decide_eq_true c16
              clear c16
              by_cases c17 : a2 = ((rd_T31 l0 a1).f1)
              · rw [if_pos c17] at H
                have c17b0 : (a2 == ((rd_T31 l0 a1).f1)) = true := beq_iff_eq.mpr c17
                have c17b1 : (a2 != ((rd_T31 l0 a1).f1)) = false := bne_eq_false_iff_eq.mpr c17
                clear c17
                replace H := Option.bind_eq_some_iff.mp H
                obtain ⟨⟨t297, t300⟩, A180, H⟩ := H
                replace H : (some (t297, t300)) = some (r1, r2) := H
                have A18 := Aside0.mk A180
                clear A180
                simp only [Option.some.injEq, Prod.mk.injEq] at H
                obtain ⟨rfl, rfl⟩ := H
                have p295 : 0 ≤ (a1 : Int) := of_decide_eq_true (by first | (with_reducible assumption) | assumption)
                have q295 : a1 < (l0.length : Int) := of_decide_eq_true (by first | (with_reducible assumption) | assumption)
                obtain ⟨ad295, e295, hx295_0, hx295_1, hx295_2⟩ := at_T31 HR0.out a1 p295 q295
                cases e295
                replace hx295_0 := (HB.out.cell (World.block_lt_of_cell? w _ hx295_0)).trans hx295_0
                replace hx295_1 := (HB.out.cell (World.block_lt_of_cell? w _ hx295_1)).trans hx295_1
                replace hx295_2 := (HB.out.cell (World.block_lt_of_cell? w _ hx295_2)).trans hx295_2
                replace p295 := eq_true p295
                replace q295 := eq_true q295
                go_wp2_with (first | ((with_reducible refine gate_dst (N := 9) rfl ?_); refine box_event ?hg (N := 9) ?hd (cs := #[.int .u32 0, .int .u64 0, .int .u64 0]) (t := 31) ?hr ?_; (case hd => rfl); (case hg => rfl); (case hr => first | (go_simp; done) | (go_simp; rfl)); intro gb296 hg w19 hbox hb; have n0_ := Aside0.mk (below_step (by repeat (first | (with_reducible first | exact HB.out | apply below_alloc | apply pw_below_drewN | apply below_drew1) | exact HB.out)) hb); have n1_ := Aside0.mk (hbox); have n2_ := Aside0.mk ((by rw [hg]; exact (below_size (by repeat (first | (with_reducible first | exact HB.out | apply below_alloc | apply pw_below_drewN | apply below_drew1) | exact HB.out))) : w.heap.size ≤ gb296)); have n3_ := Aside0.mk ((by rw [hg]; exact (below_size (by repeat (first | (with_reducible first | exact HB.out | apply below_alloc | apply pw_below_drewN | apply below_drew1) | exact HB.out))) : w.heap.size ≤ gb296)); clear HB; have HB := n0_; have BK296 := n1_; have GW296 := n2_; have GE296 := n3_; clear n0_ n1_ n2_ n3_; clear hb hbox hg; have hcz20_0 : w19.cell? ⟨gb296, 0, none⟩ = some (.int .u32 0) := (blk_cell BK296.out 0).trans rfl; have hcz20_1 : w19.cell? ⟨gb296, 1, none⟩ = some (.int .u64 0) := (blk_cell BK296.out 1).trans rfl; have hcz20_2 : w19.cell? ⟨gb296, 2, none⟩ = some (.int .u64 0) := (blk_cell BK296.out 2).trans rfl; have hfz20_0 := blk_frozen BK296.out 0; have hfz20_1 := blk_frozen BK296.out 1; have hfz20_2 := blk_frozen BK296.out 2) | ((with_reducible refine gate_callee (f := 39) rfl ?_); refine goesL_ (some 38) rfl rfl Try.func39 (by kernel_rfl) rfl #[.slice (some ad295) l0.length c0, .int .i64 (wrap64 (a1)), .agg #[.int .u32 0, .int .u64 0, .int .u64 0]] rfl (by (try simp only [List.map_toArray, List.map_cons, List.map_nil]); first | done | rfl | (simp only [List.length_drop, List.length_take]; rfl) | (simp [Act.eval, go_sem]; simp only [decide_eq_false_iff_not, decide_eq_true_eq] at *; (repeat' apply And.intro) <;> first | done | (symm; first | (apply IntWalk.u64_in; omega) | (apply IntWalk.u32_in; omega) | (apply IntWalk.i64_in; omega) | (apply IntWalk.wrap64_in; omega) | (apply IntWalk.u16_in; omega) | (apply IntWalk.u8_in; omega)))) ?_; (with_reducible refine (nautilusref08_with.calls kj5 _ _ l0 (wrap64 (a1)) 0 0 0 t297 t300 _ ?side1 ?side2 A18.out).mono ?_); (case side1 => exact Kd.C_below HR0.out (by repeat (first | (with_reducible first | exact HB.out | apply below_alloc | apply pw_below_drewN | apply below_drew1 | refine below_set ?_ GE296.out) | exact HB.out))); (case side2 => exact HC0.out); rintro e w21 ⟨v298, rfl, ho0, hb⟩; refine ⟨_, rfl, ?_⟩; have n0_ := Aside0.mk (Kd.R_lower (Kd.R_newB ho0 (g := gb296) (o := .cells #[.int .u32 ((rd_T31 l0 a1).f0), .int .u64 ((rd_T31 l0 a1).f1), .int .u64 ((rd_T31 l0 a1).f2)] 31 (0, 0)) (by (with_reducible repeat (first | refine blk_drewN ?_ _ | refine blk_drew ?_ | refine blk_alloc ?_ _)); refine blk_put (cs := #[.int .u32 ((rd_T31 l0 a1).f0), .int .u64 ((rd_T31 l0 a1).f1), .int .u64 0]) ?_ 2 _ rfl; (with_reducible repeat (first | refine blk_drewN ?_ _ | refine blk_drew ?_ | refine blk_alloc ?_ _)); refine blk_put (cs := #[.int .u32 ((rd_T31 l0 a1).f0), .int .u64 0, .int .u64 0]) ?_ 1 _ rfl; (with_reducible repeat (first | refine blk_drewN ?_ _ | refine blk_drew ?_ | refine blk_alloc ?_ _)); refine blk_put (cs := #[.int .u32 0, .int .u64 0, .int .u64 0]) ?_ 0 _ rfl; (with_reducible repeat (first | refine blk_drewN ?_ _ | refine blk_drew ?_ | refine blk_alloc ?_ _)); exact BK296.out)) (below_size (by repeat (first | (with_reducible first | exact HB.out | apply below_alloc | apply pw_below_drewN | apply below_drew1 | refine below_set ?_ GE296.out) | exact HB.out)))); have n1_ := Aside0.mk (blk_below (g := gb296) (o := .cells #[.int .u32 ((rd_T31 l0 a1).f0), .int .u64 ((rd_T31 l0 a1).f1), .int .u64 ((rd_T31 l0 a1).f2)] 31 (0, 0)) (by (with_reducible repeat (first | refine blk_drewN ?_ _ | refine blk_drew ?_ | refine blk_alloc ?_ _)); refine blk_put (cs := #[.int .u32 ((rd_T31 l0 a1).f0), .int .u64 ((rd_T31 l0 a1).f1), .int .u64 0]) ?_ 2 _ rfl; (with_reducible repeat (first | refine blk_drewN ?_ _ | refine blk_drew ?_ | refine blk_alloc ?_ _)); refine blk_put (cs := #[.int .u32 ((rd_T31 l0 a1).f0), .int .u64 0, .int .u64 0]) ?_ 1 _ rfl; (with_reducible repeat (first | refine blk_drewN ?_ _ | refine blk_drew ?_ | refine blk_alloc ?_ _)); refine blk_put (cs := #[.int .u32 0, .int .u64 0, .int .u64 0]) ?_ 0 _ rfl; (with_reducible repeat (first | refine blk_drewN ?_ _ | refine blk_drew ?_ | refine blk_alloc ?_ _)); exact BK296.out) hb); have n2_ := Aside0.mk (below_step (by repeat (first | (with_reducible first | exact HB.out | apply below_alloc | apply pw_below_drewN | apply below_drew1 | refine below_set ?_ GE296.out) | exact HB.out)) hb); clear BK296; clear HB; have HO299 := n0_; have BK296 := n1_; have HB := n2_; clear n0_ n1_ n2_; (try clear hb); (try clear hb2); (try clear hk); (try clear hi); (try clear ho0)))
                go_ret2
                exact ⟨_, by first | rfl | (simp [errW_none, errW_some] <;> rfl) | (simp [*, errW_none, errW_some] <;> rfl), by (with_reducible repeat (first | apply Kd.R_alloc | apply Kd.R_drewN | apply Kd.R_drew)); exact Kd.R_mono HO299.out (fun _ hk => trivial), by repeat (first | (with_reducible first | exact HB.out | apply below_alloc | apply pw_below_drewN | apply below_drew1 | refine below_set ?_ GE296.out) | exact HB.out)⟩
              · rw [if_neg c17] at H
                have c17b0 : (a2 == ((rd_T31 l0 a1).f1)) = false := beq_eq_false_iff_ne.mpr c17
                have c17b1 : (a2 != ((rd_T31 l0 a1).f1)) = true := bne_iff_ne.mpr c17
                by_cases c22 : a2 = 0
                · rw [if_pos c22] at H
                  have c22b0 : (a2 == 0) = true := beq_iff_eq.mpr c22
                  have c22b1 : (a2 != 0) = false := bne_eq_false_iff_eq.mpr c22
                  clear c22
                  simp only [Option.some.injEq, Prod.mk.injEq] at H
                  obtain ⟨rfl, rfl⟩ := H
                  have p295 : 0 ≤ (a1 : Int) := of_decide_eq_true (by first | (with_reducible assumption) | assumption)
                  have q295 : a1 < (l0.length : Int) := of_decide_eq_true (by first | (with_reducible assumption) | assumption)
                  obtain ⟨ad295, e295, hx295_0, hx295_1, hx295_2⟩ := at_T31 HR0.out a1 p295 q295
                  cases e295
                  replace hx295_0 := (HB.out.cell (World.block_lt_of_cell? w _ hx295_0)).trans hx295_0
                  replace hx295_1 := (HB.out.cell (World.block_lt_of_cell? w _ hx295_1)).trans hx295_1
                  replace hx295_2 := (HB.out.cell (World.block_lt_of_cell? w _ hx295_2)).trans hx295_2
                  replace p295 := eq_true p295
                  replace q295 := eq_true q295
                  go_wp2_with (first | ((with_reducible refine gate_dst (N := 9) rfl ?_); refine box_event ?hg (N := 9) ?hd (cs := #[.int .u32 0, .int .u64 0, .int .u64 0]) (t := 31) ?hr ?_; (case hd => rfl); (case hg => rfl); (case hr => first | (go_simp; done) | (go_simp; rfl)); intro gb296 hg w23 hbox hb; have n0_ := Aside0.mk (below_step (by repeat (first | (with_reducible first | exact HB.out | apply below_alloc | apply pw_below_drewN | apply below_drew1) | exact HB.out)) hb); have n1_ := Aside0.mk (hbox); have n2_ := Aside0.mk ((by rw [hg]; exact (below_size (by repeat (first | (with_reducible first | exact HB.out | apply below_alloc | apply pw_below_drewN | apply below_drew1) | exact HB.out))) : w.heap.size ≤ gb296)); have n3_ := Aside0.mk ((by rw [hg]; exact (below_size (by repeat (first | (with_reducible first | exact HB.out | apply below_alloc | apply pw_below_drewN | apply below_drew1) | exact HB.out))) : w.heap.size ≤ gb296)); clear HB; have HB := n0_; have BK296 := n1_; have GW296 := n2_; have GE296 := n3_; clear n0_ n1_ n2_ n3_; clear hb hbox hg; have hcz24_0 : w23.cell? ⟨gb296, 0, none⟩ = some (.int .u32 0) := (blk_cell BK296.out 0).trans rfl; have hcz24_1 : w23.cell? ⟨gb296, 1, none⟩ = some (.int .u64 0) := (blk_cell BK296.out 1).trans rfl; have hcz24_2 : w23.cell? ⟨gb296, 2, none⟩ = some (.int .u64 0) := (blk_cell BK296.out 2).trans rfl; have hfz24_0 := blk_frozen BK296.out 0; have hfz24_1 := blk_frozen BK296.out 1; have hfz24_2 := blk_frozen BK296.out 2))
                  go_ret2
                  exact ⟨_, by first | rfl | (simp [errW_none, errW_some] <;> rfl) | (simp [*, errW_none, errW_some] <;> rfl), by first | exact Kd.R_nil _ _ _ _ _ | exact Kd.N_nil _ _ _ _ _ | exact Kd.V_nil _ _ _ _ _ | exact Kd.Q_nil _ _ _ _ _ | exact Kd.S_nil _ _ _ _ _, by repeat (first | (with_reducible first | exact HB.out | apply below_alloc | apply pw_below_drewN | apply below_drew1 | refine below_set ?_ GE296.out) | exact HB.out)⟩
                · rw [if_neg c22] at H
                  have c22b0 : (a2 == 0) = false := beq_eq_false_iff_ne.mpr c22
                  have c22b1 : (a2 != 0) = true := bne_iff_ne.mpr c22
                  replace H := Option.bind_eq_some_iff.mp H
                  obtain ⟨⟨t301, t304⟩, A250, H⟩ := H
                  replace H : (some (t301, t304)) = some (r1, r2) := H
                  have A25 := Aside0.mk A250
                  clear A250
                  simp only [Option.some.injEq, Prod.mk.injEq] at H
                  obtain ⟨rfl, rfl⟩ := H
                  have p295 : 0 ≤ (a1 : Int) := of_decide_eq_true (by first | (with_reducible assumption) | assumption)
                  have q295 : a1 < (l0.length : Int) := of_decide_eq_true (by first | (with_reducible assumption) | assumption)
                  obtain ⟨ad295, e295, hx295_0, hx295_1, hx295_2⟩ := at_T31 HR0.out a1 p295 q295
                  cases e295
                  replace hx295_0 := (HB.out.cell (World.block_lt_of_cell? w _ hx295_0)).trans hx295_0
                  replace hx295_1 := (HB.out.cell (World.block_lt_of_cell? w _ hx295_1)).trans hx295_1
                  replace hx295_2 := (HB.out.cell (World.block_lt_of_cell? w _ hx295_2)).trans hx295_2
                  replace p295 := eq_true p295
                  replace q295 := eq_true q295
                  go_wp2_with (first | ((with_reducible refine gate_dst (N := 9) rfl ?_); refine box_event ?hg (N := 9) ?hd (cs := #[.int .u32 0, .int .u64 0, .int .u64 0]) (t := 31) ?hr ?_; (case hd => rfl); (case hg => rfl); (case hr => first | (go_simp; done) | (go_simp; rfl)); intro gb296 hg w26 hbox hb; have n0_ := Aside0.mk (below_step (by repeat (first | (with_reducible first | exact HB.out | apply below_alloc | apply pw_below_drewN | apply below_drew1) | exact HB.out)) hb); have n1_ := Aside0.mk (hbox); have n2_ := Aside0.mk ((by rw [hg]; exact (below_size (by repeat (first | (with_reducible first | exact HB.out | apply below_alloc | apply pw_below_drewN | apply below_drew1) | exact HB.out))) : w.heap.size ≤ gb296)); have n3_ := Aside0.mk ((by rw [hg]; exact (below_size (by repeat (first | (with_reducible first | exact HB.out | apply below_alloc | apply pw_below_drewN | apply below_drew1) | exact HB.out))) : w.heap.size ≤ gb296)); clear HB; have HB := n0_; have BK296 := n1_; have GW296 := n2_; have GE296 := n3_; clear n0_ n1_ n2_ n3_; clear hb hbox hg; have hcz27_0 : w26.cell? ⟨gb296, 0, none⟩ = some (.int .u32 0) := (blk_cell BK296.out 0).trans rfl; have hcz27_1 : w26.cell? ⟨gb296, 1, none⟩ = some (.int .u64 0) := (blk_cell BK296.out 1).trans rfl; have hcz27_2 : w26.cell? ⟨gb296, 2, none⟩ = some (.int .u64 0) := (blk_cell BK296.out 2).trans rfl; have hfz27_0 := blk_frozen BK296.out 0; have hfz27_1 := blk_frozen BK296.out 1; have hfz27_2 := blk_frozen BK296.out 2; have hdd28_ := (show ((((w26.setCell ⟨gb296, 0, none⟩ (.int .u32 ((rd_T31 l0 a1).f0))).setCell ⟨gb296, 1, none⟩ (.int .u64 ((rd_T31 l0 a1).f1))).setCell ⟨gb296, 2, none⟩ (.int .u64 ((rd_T31 l0 a1).f2))).setCell ⟨gb296, 2, none⟩ (.int .u64 a2)).heap[gb296]? = some (.cells #[.int .u32 ((rd_T31 l0 a1).f0), .int .u64 ((rd_T31 l0 a1).f1), .int .u64 a2] 31 (0, 0)) from (by refine blk_put (cs := #[.int .u32 ((rd_T31 l0 a1).f0), .int .u64 ((rd_T31 l0 a1).f1), .int .u64 ((rd_T31 l0 a1).f2)]) ?_ 2 _ rfl; refine blk_put (cs := #[.int .u32 ((rd_T31 l0 a1).f0), .int .u64 ((rd_T31 l0 a1).f1), .int .u64 0]) ?_ 2 _ rfl; refine blk_put (cs := #[.int .u32 ((rd_T31 l0 a1).f0), .int .u64 0, .int .u64 0]) ?_ 1 _ rfl; refine blk_put (cs := #[.int .u32 0, .int .u64 0, .int .u64 0]) ?_ 0 _ rfl; exact BK296.out)); have hdd28_0 : ((((w26.setCell ⟨gb296, 0, none⟩ (.int .u32 ((rd_T31 l0 a1).f0))).setCell ⟨gb296, 1, none⟩ (.int .u64 ((rd_T31 l0 a1).f1))).setCell ⟨gb296, 2, none⟩ (.int .u64 ((rd_T31 l0 a1).f2))).setCell ⟨gb296, 2, none⟩ (.int .u64 a2)).cell? ⟨gb296, 0, none⟩ = some (.int .u32 ((rd_T31 l0 a1).f0)) := (blk_cell hdd28_ 0).trans rfl; have hdd28_1 : ((((w26.setCell ⟨gb296, 0, none⟩ (.int .u32 ((rd_T31 l0 a1).f0))).setCell ⟨gb296, 1, none⟩ (.int .u64 ((rd_T31 l0 a1).f1))).setCell ⟨gb296, 2, none⟩ (.int .u64 ((rd_T31 l0 a1).f2))).setCell ⟨gb296, 2, none⟩ (.int .u64 a2)).cell? ⟨gb296, 1, none⟩ = some (.int .u64 ((rd_T31 l0 a1).f1)) := (blk_cell hdd28_ 1).trans rfl; have hdd28_2 : ((((w26.setCell ⟨gb296, 0, none⟩ (.int .u32 ((rd_T31 l0 a1).f0))).setCell ⟨gb296, 1, none⟩ (.int .u64 ((rd_T31 l0 a1).f1))).setCell ⟨gb296, 2, none⟩ (.int .u64 ((rd_T31 l0 a1).f2))).setCell ⟨gb296, 2, none⟩ (.int .u64 a2)).cell? ⟨gb296, 2, none⟩ = some (.int .u64 a2) := (blk_cell hdd28_ 2).trans rfl; (try have hdd28n_0 := fun (n_ : Nat) => (show (((((w26.drewN n_).setCell ⟨gb296, 0, none⟩ (.int .u32 ((rd_T31 l0 a1).f0))).setCell ⟨gb296, 1, none⟩ (.int .u64 ((rd_T31 l0 a1).f1))).setCell ⟨gb296, 2, none⟩ (.int .u64 ((rd_T31 l0 a1).f2))).setCell ⟨gb296, 2, none⟩ (.int .u64 a2)).cell? ⟨gb296, 0, none⟩ = some (.int .u32 ((rd_T31 l0 a1).f0)) from hdd28_0)); (try have hdd28n_1 := fun (n_ : Nat) => (show (((((w26.drewN n_).setCell ⟨gb296, 0, none⟩ (.int .u32 ((rd_T31 l0 a1).f0))).setCell ⟨gb296, 1, none⟩ (.int .u64 ((rd_T31 l0 a1).f1))).setCell ⟨gb296, 2, none⟩ (.int .u64 ((rd_T31 l0 a1).f2))).setCell ⟨gb296, 2, none⟩ (.int .u64 a2)).cell? ⟨gb296, 1, none⟩ = some (.int .u64 ((rd_T31 l0 a1).f1)) from hdd28_1)); (try have hdd28n_2 := fun (n_ : Nat) => (show (((((w26.drewN n_).setCell ⟨gb296, 0, none⟩ (.int .u32 ((rd_T31 l0 a1).f0))).setCell ⟨gb296, 1, none⟩ (.int .u64 ((rd_T31 l0 a1).f1))).setCell ⟨gb296, 2, none⟩ (.int .u64 ((rd_T31 l0 a1).f2))).setCell ⟨gb296, 2, none⟩ (.int .u64 a2)).cell? ⟨gb296, 2, none⟩ = some (.int .u64 a2) from hdd28_2)); clear hdd28_) | ((with_reducible refine gate_callee (f := 39) rfl ?_); refine goesL_ (some 49) rfl rfl Try.func39 (by kernel_rfl) rfl #[.slice (some ad295) l0.length c0, .int .i64 (wrap64 (a1)), .agg #[.int .u32 ((rd_T31 l0 a1).f0), .int .u64 ((rd_T31 l0 a1).f1), .int .u64 a2]] rfl (by (try simp only [List.map_toArray, List.map_cons, List.map_nil]); first | done | rfl | (simp only [List.length_drop, List.length_take]; rfl) | (simp [Act.eval, go_sem]; simp only [decide_eq_false_iff_not, decide_eq_true_eq] at *; (repeat' apply And.intro) <;> first | done | (symm; first | (apply IntWalk.u64_in; omega) | (apply IntWalk.u32_in; omega) | (apply IntWalk.i64_in; omega) | (apply IntWalk.wrap64_in; omega) | (apply IntWalk.u16_in; omega) | (apply IntWalk.u8_in; omega)))) ?_; (with_reducible refine (nautilusref08_with.calls kj5 _ _ l0 (wrap64 (a1)) ((rd_T31 l0 a1).f0) ((rd_T31 l0 a1).f1) a2 t301 t304 _ ?side1 ?side2 A25.out).mono ?_); (case side1 => exact Kd.C_below HR0.out (by repeat (first | (with_reducible first | exact HB.out | apply below_alloc | apply pw_below_drewN | apply below_drew1 | refine below_set ?_ GE296.out) | exact HB.out))); (case side2 => exact HC0.out); rintro e w29 ⟨v302, rfl, ho0, hb⟩; refine ⟨_, rfl, ?_⟩; have n0_ := Aside0.mk (Kd.R_lower (Kd.R_newB ho0 (g := gb296) (o := .cells #[.int .u32 ((rd_T31 l0 a1).f0), .int .u64 ((rd_T31 l0 a1).f1), .int .u64 a2] 31 (0, 0)) (by (with_reducible repeat (first | refine blk_drewN ?_ _ | refine blk_drew ?_ | refine blk_alloc ?_ _)); refine blk_put (cs := #[.int .u32 ((rd_T31 l0 a1).f0), .int .u64 ((rd_T31 l0 a1).f1), .int .u64 ((rd_T31 l0 a1).f2)]) ?_ 2 _ rfl; (with_reducible repeat (first | refine blk_drewN ?_ _ | refine blk_drew ?_ | refine blk_alloc ?_ _)); refine blk_put (cs := #[.int .u32 ((rd_T31 l0 a1).f0), .int .u64 ((rd_T31 l0 a1).f1), .int .u64 0]) ?_ 2 _ rfl; (with_reducible repeat (first | refine blk_drewN ?_ _ | refine blk_drew ?_ | refine blk_alloc ?_ _)); refine blk_put (cs := #[.int .u32 ((rd_T31 l0 a1).f0), .int .u64 0, .int .u64 0]) ?_ 1 _ rfl; (with_reducible repeat (first | refine blk_drewN ?_ _ | refine blk_drew ?_ | refine blk_alloc ?_ _)); refine blk_put (cs := #[.int .u32 0, .int .u64 0, .int .u64 0]) ?_ 0 _ rfl; (with_reducible repeat (first | refine blk_drewN ?_ _ | refine blk_drew ?_ | refine blk_alloc ?_ _)); exact BK296.out)) (below_size (by repeat (first | (with_reducible first | exact HB.out | apply below_alloc | apply pw_below_drewN | apply below_drew1 | refine below_set ?_ GE296.out) | exact HB.out)))); have n1_ := Aside0.mk (blk_below (g := gb296) (o := .cells #[.int .u32 ((rd_T31 l0 a1).f0), .int .u64 ((rd_T31 l0 a1).f1), .int .u64 a2] 31 (0, 0)) (by (with_reducible repeat (first | refine blk_drewN ?_ _ | refine blk_drew ?_ | refine blk_alloc ?_ _)); refine blk_put (cs := #[.int .u32 ((rd_T31 l0 a1).f0), .int .u64 ((rd_T31 l0 a1).f1), .int .u64 ((rd_T31 l0 a1).f2)]) ?_ 2 _ rfl; (with_reducible repeat (first | refine blk_drewN ?_ _ | refine blk_drew ?_ | refine blk_alloc ?_ _)); refine blk_put (cs := #[.int .u32 ((rd_T31 l0 a1).f0), .int .u64 ((rd_T31 l0 a1).f1), .int .u64 0]) ?_ 2 _ rfl; (with_reducible repeat (first | refine blk_drewN ?_ _ | refine blk_drew ?_ | refine blk_alloc ?_ _)); refine blk_put (cs := #[.int .u32 ((rd_T31 l0 a1).f0), .int .u64 0, .int .u64 0]) ?_ 1 _ rfl; (with_reducible repeat (first | refine blk_drewN ?_ _ | refine blk_drew ?_ | refine blk_alloc ?_ _)); refine blk_put (cs := #[.int .u32 0, .int .u64 0, .int .u64 0]) ?_ 0 _ rfl; (with_reducible repeat (first | refine blk_drewN ?_ _ | refine blk_drew ?_ | refine blk_alloc ?_ _)); exact BK296.out) hb); have n2_ := Aside0.mk (below_step (by repeat (first | (with_reducible first | exact HB.out | apply below_alloc | apply pw_below_drewN | apply below_drew1 | refine below_set ?_ GE296.out) | exact HB.out)) hb); clear BK296; clear HB; have HO303 := n0_; have BK296 := n1_; have HB := n2_; clear n0_ n1_ n2_; (try clear hb); (try clear hb2); (try clear hk); (try clear hi); (try clear ho0)))
                  go_ret2
                  exact ⟨_, by first | rfl | (simp [errW_none, errW_some] <;> rfl) | (simp [*, errW_none, errW_some] <;> rfl), by (with_reducible repeat (first | apply Kd.R_alloc | apply Kd.R_drewN | apply Kd.R_drew)); exact Kd.R_mono HO303.out (fun _ hk => trivial), by repeat (first | (with_reducible first | exact HB.out | apply below_alloc | apply pw_below_drewN | apply below_drew1 | refine below_set ?_ GE296.out) | exact HB.out)⟩
            · rw [if_neg c16] at H
              exact absurd H (by simp)
          · rw [if_neg c15] at H
            exact absurd H (by simp)
  · replace c5 := Bool.eq_false_iff.mpr c5
    subst c5
    have H1 : (some (([] : List (S31)), 80)) = some (r1, r2) := by rw [if_neg (show ¬ (false = true) by decide)] at H; exact H
    clear H
    have H := H1
    clear H1
    simp only [Option.some.injEq, Prod.mk.injEq] at H
    obtain ⟨rfl, rfl⟩ := H
    go_enter Try.func20, Try.ntmps20
    go_wp2_with (first | ((with_reducible refine gate_callee (f := 18) rfl ?_); refine goesL_ (some 11) rfl rfl Try.func18 (by kernel_rfl) rfl #[.slice A0 l0.length c0] rfl (by (try simp only [List.map_toArray, List.map_cons, List.map_nil]); first | done | rfl | (simp only [List.length_drop, List.length_take]; rfl)) ?_; (with_reducible refine (nautilusref08_Right.calls k _ _ l0 false _ ?side1 ?side2 A4.out).mono ?_); (case side1 => repeat (first | exact HR0.out | (with_reducible refine Kd.C_alloc ?_ _) | (with_reducible refine Kd.C_drewN ?_ _) | (with_reducible refine Kd.C_drew ?_))); (case side2 => exact HC0.out); rintro e w30 ⟨rfl, hb⟩; refine ⟨_, rfl, ?_⟩; have n0_ := Aside0.mk (below_step (by repeat (first | (with_reducible first | exact HB.out | apply below_alloc | apply pw_below_drewN | apply below_drew1) | exact HB.out)) hb); clear HB; have HB := n0_; clear n0_; (try clear hb); (try clear hb2); (try clear hk); (try clear hi)))
    go_ret2
    exact ⟨_, by first | rfl | (simp [errW_none, errW_some] <;> rfl) | (simp [*, errW_none, errW_some] <;> rfl), by first | exact Kd.R_nil _ _ _ _ _ | exact Kd.N_nil _ _ _ _ _ | exact Kd.V_nil _ _ _ _ _ | exact Kd.Q_nil _ _ _ _ _ | exact Kd.S_nil _ _ _ _ _, by repeat (first | (with_reducible first | exact HB.out | apply below_alloc | apply pw_below_drewN | apply below_drew1) | exact HB.out)⟩

/-! ### nautilusref08_Lives: function 23 -/
def nautilusref08_Lives.l0 : Nat → List Int → Int → Int → Int → Int → Option (Bool)
  | 0, _, _, _, _, _ => none
  | k + 1, x1, x5, x306000, x306001, x306002 => if x5 < (x1.length : Int) then (if 0 ≤ x5 then (if (rd x1 x5) ≥ x306001 then (if (rd x1 x5) < x306002 then (some true) else (nautilusref08_Lives.l0 k x1 (wrap64 (x5 + 1)) x306000 x306001 x306002)) else (nautilusref08_Lives.l0 k x1 (wrap64 (x5 + 1)) x306000 x306001 x306002)) else (none)) else (some false)
def nautilusref08_Lives.f (k : Nat) (a0_0 : Int) (a0_1 : Int) (a0_2 : Int) (l1 : List Int) : Option (Bool) := (nautilusref08_free.f a0_0 a0_1 a0_2).bind fun t306 => (if t306 = true then (some false) else (if a0_2 = 0 then (some true) else (nautilusref08_Lives.l0 k l1 0 a0_0 a0_1 a0_2)))
theorem nautilusref08_Lives.mono_l : ∀ k, (∀ y0 y1 y2 y3 y4, LeO (nautilusref08_Lives.l0 k y0 y1 y2 y3 y4) (nautilusref08_Lives.l0 (k + 1) y0 y1 y2 y3 y4))
  | 0 => fun _ _ _ _ _ r h => by simp [nautilusref08_Lives.l0] at h
  | k + 1 => by
    have ih0 := nautilusref08_Lives.mono_l k
    · intro y0 y1 y2 y3 y4
      unfold nautilusref08_Lives.l0
      repeat' first
      | (with_reducible exact ih0 _ _ _ _ _)
      | (with_reducible exact LeO.refl _)
      | (with_reducible exact LeO.none _)
      | (with_reducible refine LeO.ite ?_ ?_)
      | (with_reducible refine LeO.bind ?_ (fun _ => ?_))
      | exact ih0 _ _ _ _ _
      | exact LeO.none _
      | refine LeO.ite ?_ ?_
      | refine LeO.bind ?_ (fun _ => ?_)
theorem nautilusref08_Lives.mono : ∀ a0 a1 a2 a3 k, LeO (nautilusref08_Lives.f k a0 a1 a2 a3) (nautilusref08_Lives.f (k + 1) a0 a1 a2 a3) := by
  intro a0 a1 a2 a3 k
  have ih0 := nautilusref08_Lives.mono_l k
  unfold nautilusref08_Lives.f
  repeat' first
      | (with_reducible exact ih0 _ _ _ _ _)
      | (with_reducible exact LeO.refl _)
      | (with_reducible exact LeO.none _)
      | (with_reducible refine LeO.ite ?_ ?_)
      | (with_reducible refine LeO.bind ?_ (fun _ => ?_))
      | exact ih0 _ _ _ _ _
      | exact LeO.none _
      | refine LeO.ite ?_ ?_
      | refine LeO.bind ?_ (fun _ => ?_)
set_option maxHeartbeats 8000000 in
set_option maxRecDepth 100000 in
theorem nautilusref08_Lives.calls (k : Nat) (a0_0 : Int) (a0_1 : Int) (a0_2 : Int) (A1 : Option Addr) (c1 : Nat) (l1 : List Int) (r : Bool) (w : World) (hr1 : Kd.C (Kd.int .u64) w A1 l1.length l1) (hc1 : l1.length ≤ c1) (h : nautilusref08_Lives.f k a0_0 a0_1 a0_2 l1 = some r) :
    Calls Try.prog 23 #[.agg #[.int .u32 a0_0, .int .u64 a0_1, .int .u64 a0_2], .slice A1 l1.length c1] w fun e w' => e = .returned (.bool r) ∧ Below w.heap.size w w' := by
  have hu31 := Try.underlying31
  have HR1 := Aside0.mk hr1
  have HC1 := Aside0.mk hc1
  clear hr1 hc1
  have HB := Aside0.mk (Below.refl w.heap.size w)
  have H : ((nautilusref08_free.f a0_0 a0_1 a0_2).bind fun t306 => (if t306 = true then (some false) else (if a0_2 = 0 then (some true) else (nautilusref08_Lives.l0 k l1 0 a0_0 a0_1 a0_2)))) = some r := h
  clear h
  replace H := Option.bind_eq_some_iff.mp H
  obtain ⟨t306, A30, H⟩ := H
  replace H : (if t306 = true then (some false) else (if a0_2 = 0 then (some true) else (nautilusref08_Lives.l0 k l1 0 a0_0 a0_1 a0_2))) = some r := H
  have A3 := Aside0.mk A30
  clear A30
  by_cases c4 : t306 = true
  · subst c4
    have H1 : (some false) = some r := by rw [if_pos rfl] at H; exact H
    clear H
    have H := H1
    clear H1
    obtain rfl := Option.some.inj H
    go_enter Try.func23, Try.ntmps23
    iterate 3 ((try go_wp2_with (first | ((with_reducible refine gate_dst (N := 2) rfl ?_); refine box_event ?hg (N := 2) ?hd (cs := #[.int .u32 a0_0, .int .u64 a0_1, .int .u64 a0_2]) (t := 31) ?hr ?_; (case hd => rfl); (case hg => rfl); (case hr => first | (go_simp; done) | (go_simp; rfl)); intro gb305 hg w5 hbox hb; have n0_ := Aside0.mk (below_step (by repeat (first | (with_reducible first | exact HB.out | apply below_alloc | apply pw_below_drewN | apply below_drew1) | exact HB.out)) hb); have n1_ := Aside0.mk (hbox); have n2_ := Aside0.mk ((by rw [hg]; exact (below_size (by repeat (first | (with_reducible first | exact HB.out | apply below_alloc | apply pw_below_drewN | apply below_drew1) | exact HB.out))) : w.heap.size ≤ gb305)); have n3_ := Aside0.mk ((by rw [hg]; exact (below_size (by repeat (first | (with_reducible first | exact HB.out | apply below_alloc | apply pw_below_drewN | apply below_drew1) | exact HB.out))) : w.heap.size ≤ gb305)); clear HB; have HB := n0_; have BK305 := n1_; have GW305 := n2_; have GE305 := n3_; clear n0_ n1_ n2_ n3_; clear hb hbox hg; have hcz6_0 : w5.cell? ⟨gb305, 0, none⟩ = some (.int .u32 a0_0) := (blk_cell BK305.out 0).trans rfl; have hcz6_1 : w5.cell? ⟨gb305, 1, none⟩ = some (.int .u64 a0_1) := (blk_cell BK305.out 1).trans rfl; have hcz6_2 : w5.cell? ⟨gb305, 2, none⟩ = some (.int .u64 a0_2) := (blk_cell BK305.out 2).trans rfl; have hfz6_0 := blk_frozen BK305.out 0; have hfz6_1 := blk_frozen BK305.out 1; have hfz6_2 := blk_frozen BK305.out 2) | (go_at_call 38; (with_reducible refine (nautilusref08_free.calls a0_0 a0_1 a0_2 true _ A3.out).mono ?_); rintro e w7 ⟨rfl, hb⟩; have n0_ := Aside0.mk (blk_below (g := gb305) (o := .cells #[.int .u32 a0_0, .int .u64 a0_1, .int .u64 a0_2] 31 (0, 0)) (by (with_reducible repeat (first | refine blk_drewN ?_ _ | refine blk_drew ?_ | refine blk_alloc ?_ _)); exact BK305.out) hb); have n1_ := Aside0.mk (below_step (by repeat (first | (with_reducible first | exact HB.out | apply below_alloc | apply pw_below_drewN | apply below_drew1 | refine below_set ?_ GE305.out) | exact HB.out)) hb); clear BK305; clear HB; have BK305 := n0_; have HB := n1_; clear n0_ n1_; (try clear hb); (try clear hb2); (try clear hk); (try clear hi)))); (try go_quiet (fail)))
    go_ret
    exact ⟨by first | rfl | (simp [errW_none, errW_some] <;> rfl) | (simp [*, errW_none, errW_some] <;> rfl) | (simp [show IntKind.u64.wrap 0 = 0 from rfl, Int.zero_tdiv]; done), by repeat (first | (with_reducible first | exact HB.out | apply below_alloc | apply pw_below_drewN | apply below_drew1 | refine below_set ?_ GE305.out) | exact HB.out)⟩
  · replace c4 := Bool.eq_false_iff.mpr c4
    subst c4
    have H1 : (if a0_2 = 0 then (some true) else (nautilusref08_Lives.l0 k l1 0 a0_0 a0_1 a0_2)) = some r := by rw [if_neg (show ¬ (false = true) by decide)] at H; exact H
    clear H
    have H := H1
    clear H1
    by_cases c8 : a0_2 = 0
    · rw [if_pos c8] at H
      have c8b0 : (a0_2 == 0) = true := beq_iff_eq.mpr c8
      have c8b1 : (a0_2 != 0) = false := bne_eq_false_iff_eq.mpr c8
      clear c8
      obtain rfl := Option.some.inj H
      go_enter Try.func23, Try.ntmps23
      iterate 3 ((try go_wp2_with (first | ((with_reducible refine gate_dst (N := 2) rfl ?_); refine box_event ?hg (N := 2) ?hd (cs := #[.int .u32 a0_0, .int .u64 a0_1, .int .u64 a0_2]) (t := 31) ?hr ?_; (case hd => rfl); (case hg => rfl); (case hr => first | (go_simp; done) | (go_simp; rfl)); intro gb305 hg w9 hbox hb; have n0_ := Aside0.mk (below_step (by repeat (first | (with_reducible first | exact HB.out | apply below_alloc | apply pw_below_drewN | apply below_drew1) | exact HB.out)) hb); have n1_ := Aside0.mk (hbox); have n2_ := Aside0.mk ((by rw [hg]; exact (below_size (by repeat (first | (with_reducible first | exact HB.out | apply below_alloc | apply pw_below_drewN | apply below_drew1) | exact HB.out))) : w.heap.size ≤ gb305)); have n3_ := Aside0.mk ((by rw [hg]; exact (below_size (by repeat (first | (with_reducible first | exact HB.out | apply below_alloc | apply pw_below_drewN | apply below_drew1) | exact HB.out))) : w.heap.size ≤ gb305)); clear HB; have HB := n0_; have BK305 := n1_; have GW305 := n2_; have GE305 := n3_; clear n0_ n1_ n2_ n3_; clear hb hbox hg; have hcz10_0 : w9.cell? ⟨gb305, 0, none⟩ = some (.int .u32 a0_0) := (blk_cell BK305.out 0).trans rfl; have hcz10_1 : w9.cell? ⟨gb305, 1, none⟩ = some (.int .u64 a0_1) := (blk_cell BK305.out 1).trans rfl; have hcz10_2 : w9.cell? ⟨gb305, 2, none⟩ = some (.int .u64 a0_2) := (blk_cell BK305.out 2).trans rfl; have hfz10_0 := blk_frozen BK305.out 0; have hfz10_1 := blk_frozen BK305.out 1; have hfz10_2 := blk_frozen BK305.out 2) | (go_at_call 38; (with_reducible refine (nautilusref08_free.calls a0_0 a0_1 a0_2 false _ A3.out).mono ?_); rintro e w11 ⟨rfl, hb⟩; have n0_ := Aside0.mk (blk_below (g := gb305) (o := .cells #[.int .u32 a0_0, .int .u64 a0_1, .int .u64 a0_2] 31 (0, 0)) (by (with_reducible repeat (first | refine blk_drewN ?_ _ | refine blk_drew ?_ | refine blk_alloc ?_ _)); exact BK305.out) hb); have n1_ := Aside0.mk (below_step (by repeat (first | (with_reducible first | exact HB.out | apply below_alloc | apply pw_below_drewN | apply below_drew1 | refine below_set ?_ GE305.out) | exact HB.out)) hb); clear BK305; clear HB; have BK305 := n0_; have HB := n1_; clear n0_ n1_; (try clear hb); (try clear hb2); (try clear hk); (try clear hi); have hcz12_0 : w11.cell? ⟨gb305, 0, none⟩ = some (.int .u32 a0_0) := (blk_cell BK305.out 0).trans rfl; have hcz12_1 : w11.cell? ⟨gb305, 1, none⟩ = some (.int .u64 a0_1) := (blk_cell BK305.out 1).trans rfl; have hcz12_2 : w11.cell? ⟨gb305, 2, none⟩ = some (.int .u64 a0_2) := (blk_cell BK305.out 2).trans rfl; have hfz12_0 := blk_frozen BK305.out 0; have hfz12_1 := blk_frozen BK305.out 1; have hfz12_2 := blk_frozen BK305.out 2))); (try go_quiet (fail)))
      go_ret
      exact ⟨by first | rfl | (simp [errW_none, errW_some] <;> rfl) | (simp [*, errW_none, errW_some] <;> rfl) | (simp [show IntKind.u64.wrap 0 = 0 from rfl, Int.zero_tdiv]; done), by repeat (first | (with_reducible first | exact HB.out | apply below_alloc | apply pw_below_drewN | apply below_drew1 | refine below_set ?_ GE305.out) | exact HB.out)⟩
    · rw [if_neg c8] at H
      have c8b0 : (a0_2 == 0) = false := beq_eq_false_iff_ne.mpr c8
      have c8b1 : (a0_2 != 0) = true := bne_iff_ne.mpr c8
      have H' := Aside0.mk H
      clear H
      go_enter Try.func23, Try.ntmps23
      iterate 3 ((try go_wp2_with (first | ((with_reducible refine gate_dst (N := 2) rfl ?_); refine box_event ?hg (N := 2) ?hd (cs := #[.int .u32 a0_0, .int .u64 a0_1, .int .u64 a0_2]) (t := 31) ?hr ?_; (case hd => rfl); (case hg => rfl); (case hr => first | (go_simp; done) | (go_simp; rfl)); intro gb305 hg w13 hbox hb; have n0_ := Aside0.mk (below_step (by repeat (first | (with_reducible first | exact HB.out | apply below_alloc | apply pw_below_drewN | apply below_drew1) | exact HB.out)) hb); have n1_ := Aside0.mk (hbox); have n2_ := Aside0.mk ((by rw [hg]; exact (below_size (by repeat (first | (with_reducible first | exact HB.out | apply below_alloc | apply pw_below_drewN | apply below_drew1) | exact HB.out))) : w.heap.size ≤ gb305)); have n3_ := Aside0.mk ((by rw [hg]; exact (below_size (by repeat (first | (with_reducible first | exact HB.out | apply below_alloc | apply pw_below_drewN | apply below_drew1) | exact HB.out))) : w.heap.size ≤ gb305)); clear HB; have HB := n0_; have BK305 := n1_; have GW305 := n2_; have GE305 := n3_; clear n0_ n1_ n2_ n3_; clear hb hbox hg; have hcz14_0 : w13.cell? ⟨gb305, 0, none⟩ = some (.int .u32 a0_0) := (blk_cell BK305.out 0).trans rfl; have hcz14_1 : w13.cell? ⟨gb305, 1, none⟩ = some (.int .u64 a0_1) := (blk_cell BK305.out 1).trans rfl; have hcz14_2 : w13.cell? ⟨gb305, 2, none⟩ = some (.int .u64 a0_2) := (blk_cell BK305.out 2).trans rfl; have hfz14_0 := blk_frozen BK305.out 0; have hfz14_1 := blk_frozen BK305.out 1; have hfz14_2 := blk_frozen BK305.out 2) | (go_at_call 38; (with_reducible refine (nautilusref08_free.calls a0_0 a0_1 a0_2 false _ A3.out).mono ?_); rintro e w15 ⟨rfl, hb⟩; have n0_ := Aside0.mk (blk_below (g := gb305) (o := .cells #[.int .u32 a0_0, .int .u64 a0_1, .int .u64 a0_2] 31 (0, 0)) (by (with_reducible repeat (first | refine blk_drewN ?_ _ | refine blk_drew ?_ | refine blk_alloc ?_ _)); exact BK305.out) hb); have n1_ := Aside0.mk (below_step (by repeat (first | (with_reducible first | exact HB.out | apply below_alloc | apply pw_below_drewN | apply below_drew1 | refine below_set ?_ GE305.out) | exact HB.out)) hb); clear BK305; clear HB; have BK305 := n0_; have HB := n1_; clear n0_ n1_; (try clear hb); (try clear hb2); (try clear hk); (try clear hi); have hcz16_0 : w15.cell? ⟨gb305, 0, none⟩ = some (.int .u32 a0_0) := (blk_cell BK305.out 0).trans rfl; have hcz16_1 : w15.cell? ⟨gb305, 1, none⟩ = some (.int .u64 a0_1) := (blk_cell BK305.out 1).trans rfl; have hcz16_2 : w15.cell? ⟨gb305, 2, none⟩ = some (.int .u64 a0_2) := (blk_cell BK305.out 2).trans rfl; have hfz16_0 := blk_frozen BK305.out 0; have hfz16_1 := blk_frozen BK305.out 1; have hfz16_2 := blk_frozen BK305.out 2))); (try go_quiet (fail)))
      go_loopg [5] k (fun kq v5 w' => ∃ (x5_1 : Int), v5 = .int .i64 x5_1 ∧ Aside0 (nautilusref08_Lives.l0 kq l1 x5_1 a0_0 a0_1 a0_2 = some r) ∧ Aside0 (kq ≤ k) ∧ Aside0 (w'.heap[gb305]? = some (.cells #[.int .u32 a0_0, .int .u64 a0_1, .int .u64 a0_2] 31 (0, 0))) ∧ Aside0 (Below w.heap.size w w'))
      case atStart => exact ⟨(0), (by first | rfl | (simp; done) | (simp [*]; done)), H', ⟨Nat.le_refl _⟩, ⟨by (with_reducible repeat (first | refine blk_drewN ?_ _ | refine blk_drew ?_ | refine blk_alloc ?_ _)); exact BK305.out⟩, ⟨by repeat (first | (with_reducible first | exact HB.out | apply below_alloc | apply pw_below_drewN | apply below_drew1 | refine below_set ?_ GE305.out) | exact HB.out)⟩⟩
      case round =>
        clear H'
        try clear c1
        try clear c2
        try clear p2
        try clear c4
        try clear c8
        try clear c8b0
        try clear c8b1
        try clear hcz10_0
        try clear hcz10_1
        try clear hcz10_2
        try clear hcz12_0
        try clear hcz12_1
        try clear hcz12_2
        try clear hcz14_0
        try clear hcz14_1
        try clear hcz14_2
        try clear hcz16_0
        try clear hcz16_1
        try clear hcz16_2
        try clear hcz6_0
        try clear hcz6_1
        try clear hcz6_2
        try clear hfz10_0
        try clear hfz10_1
        try clear hfz10_2
        try clear hfz12_0
        try clear hfz12_1
        try clear hfz12_2
        try clear hfz14_0
        try clear hfz14_1
        try clear hfz14_2
        try clear hfz16_0
        try clear hfz16_1
        try clear hfz16_2
        try clear hfz6_0
        try clear hfz6_1
        try clear hfz6_2
        obtain ⟨x5_1, rfl, HA, HK1, BK305, HB⟩ := hrel
        cases gk with
        | zero => exact absurd HA.out (by simp [nautilusref08_Lives.l0])
        | succ k1 =>
          have H := HA.out
          clear HA
          simp only [nautilusref08_Lives.l0] at H
          by_cases c17 : x5_1 < (l1.length : Int)
          · rw [if_pos c17] at H
            have c17b0 : decide (x5_1 < (l1.length : Int)) = true := decide_eq_true c17
            clear c17
            by_cases c18 : 0 ≤ x5_1
            · rw [if_pos c18] at H
              have c18b0 : decide (0 ≤ x5_1) = true := decide_eq_true c18
              clear c18
              by_cases c19 : (rd l1 x5_1) ≥ a0_1
              · rw [if_pos c19] at H
                have c19b0 : decide (a0_1 ≤ (rd l1 x5_1)) = true := decide_eq_true c19
                clear c19
                by_cases c20 : (rd l1 x5_1) < a0_2
                · rw [if_pos c20] at H
                  have c20b0 : decide ((rd l1 x5_1) < a0_2) = true := decide_eq_true c20
                  clear c20
                  obtain rfl := Option.some.inj H
                  have p307 : 0 ≤ (x5_1 : Int) := of_decide_eq_true (by first | (with_reducible assumption) | assumption)
                  have q307 : x5_1 < (l1.length : Int) := of_decide_eq_true (by first | (with_reducible assumption) | assumption)
                  obtain ⟨ad307, e307, hx307_0⟩ := Kd.at_int HR1.out x5_1 p307 q307
                  cases e307
                  replace hx307_0 := (HB.out.cell (World.block_lt_of_cell? w _ hx307_0)).trans hx307_0
                  replace p307 := eq_true p307
                  replace q307 := eq_true q307
                  have hcz21_0 : wr.cell? ⟨gb305, 0, none⟩ = some (.int .u32 a0_0) := (blk_cell BK305.out 0).trans rfl
                  have hcz21_1 : wr.cell? ⟨gb305, 1, none⟩ = some (.int .u64 a0_1) := (blk_cell BK305.out 1).trans rfl
                  have hcz21_2 : wr.cell? ⟨gb305, 2, none⟩ = some (.int .u64 a0_2) := (blk_cell BK305.out 2).trans rfl
                  have hfz21_0 := blk_frozen BK305.out 0
                  have hfz21_1 := blk_frozen BK305.out 1
                  have hfz21_2 := blk_frozen BK305.out 2
                  have p308 : 0 ≤ (x5_1 : Int) := of_decide_eq_true (by first | (with_reducible assumption) | assumption)
                  have q308 : x5_1 < (l1.length : Int) := of_decide_eq_true (by first | (with_reducible assumption) | assumption)
                  obtain ⟨ad308, e308, hx308_0⟩ := Kd.at_int HR1.out x5_1 p308 q308
                  obtain rfl : ad307 = ad308 := (by injection e308)
                  replace hx308_0 := (HB.out.cell (World.block_lt_of_cell? w _ hx308_0)).trans hx308_0
                  replace p308 := eq_true p308
                  replace q308 := eq_true q308
                  go_wp2
                  repeat (go_quiet (fail); try go_wp2)
                  go_ret
                  exact ⟨by first | rfl | (simp [errW_none, errW_some] <;> rfl) | (simp [*, errW_none, errW_some] <;> rfl) | (simp [show IntKind.u64.wrap 0 = 0 from rfl, Int.zero_tdiv]; done), by repeat (first | (with_reducible first | exact HB.out | apply below_alloc | apply pw_below_drewN | apply below_drew1 | refine below_set ?_ GE305.out) | exact HB.out)⟩
                · rw [if_neg c20] at H
                  have c20b0 : decide ((rd l1 x5_1) < a0_2) = false := decide_eq_false c20
                  clear c20
                  have H' := Aside0.mk H
                  clear H
                  have p307 : 0 ≤ (x5_1 : Int) := of_decide_eq_true (by first | (with_reducible assumption) | assumption)
                  have q307 : x5_1 < (l1.length : Int) := of_decide_eq_true (by first | (with_reducible assumption) | assumption)
                  obtain ⟨ad307, e307, hx307_0⟩ := Kd.at_int HR1.out x5_1 p307 q307
                  cases e307
                  replace hx307_0 := (HB.out.cell (World.block_lt_of_cell? w _ hx307_0)).trans hx307_0
                  replace p307 := eq_true p307
                  replace q307 := eq_true q307
                  have hcz22_0 : wr.cell? ⟨gb305, 0, none⟩ = some (.int .u32 a0_0) := (blk_cell BK305.out 0).trans rfl
                  have hcz22_1 : wr.cell? ⟨gb305, 1, none⟩ = some (.int .u64 a0_1) := (blk_cell BK305.out 1).trans rfl
                  have hcz22_2 : wr.cell? ⟨gb305, 2, none⟩ = some (.int .u64 a0_2) := (blk_cell BK305.out 2).trans rfl
                  have hfz22_0 := blk_frozen BK305.out 0
                  have hfz22_1 := blk_frozen BK305.out 1
                  have hfz22_2 := blk_frozen BK305.out 2
                  have p308 : 0 ≤ (x5_1 : Int) := of_decide_eq_true (by first | (with_reducible assumption) | assumption)
                  have q308 : x5_1 < (l1.length : Int) := of_decide_eq_true (by first | (with_reducible assumption) | assumption)
                  obtain ⟨ad308, e308, hx308_0⟩ := Kd.at_int HR1.out x5_1 p308 q308
                  obtain rfl : ad307 = ad308 := (by injection e308)
                  replace hx308_0 := (HB.out.cell (World.block_lt_of_cell? w _ hx308_0)).trans hx308_0
                  replace p308 := eq_true p308
                  replace q308 := eq_true q308
                  go_wp2
                  repeat (go_quiet (fail); try go_wp2)
                  go_roundg k1
                  case measure => have := HK1.out; omega
                  case rel => exact ⟨(wrap64 (x5_1 + 1)), (by first | rfl | (simp; done) | (simp [*]; done)), H', ⟨by have := HK1.out; omega⟩, ⟨by (with_reducible repeat (first | refine blk_drewN ?_ _ | refine blk_drew ?_ | refine blk_alloc ?_ _)); exact BK305.out⟩, ⟨by repeat (first | (with_reducible first | exact HB.out | apply below_alloc | apply pw_below_drewN | apply below_drew1 | refine below_set ?_ GE305.out) | exact HB.out)⟩⟩
              · rw [if_neg c19] at H
                have c19b0 : decide (a0_1 ≤ (rd l1 x5_1)) = false := decide_eq_false c19
                clear c19
                have H' := Aside0.mk H
                clear H
                have p307 : 0 ≤ (x5_1 : Int) := of_decide_eq_true (by first | (with_reducible assumption) | assumption)
                have q307 : x5_1 < (l1.length : Int) := of_decide_eq_true (by first | (with_reducible assumption) | assumption)
                obtain ⟨ad307, e307, hx307_0⟩ := Kd.at_int HR1.out x5_1 p307 q307
                cases e307
                replace hx307_0 := (HB.out.cell (World.block_lt_of_cell? w _ hx307_0)).trans hx307_0
                replace p307 := eq_true p307
                replace q307 := eq_true q307
                have hcz23_0 : wr.cell? ⟨gb305, 0, none⟩ = some (.int .u32 a0_0) := (blk_cell BK305.out 0).trans rfl
                have hcz23_1 : wr.cell? ⟨gb305, 1, none⟩ = some (.int .u64 a0_1) := (blk_cell BK305.out 1).trans rfl
                have hcz23_2 : wr.cell? ⟨gb305, 2, none⟩ = some (.int .u64 a0_2) := (blk_cell BK305.out 2).trans rfl
                have hfz23_0 := blk_frozen BK305.out 0
                have hfz23_1 := blk_frozen BK305.out 1
                have hfz23_2 := blk_frozen BK305.out 2
                go_wp2
                repeat (go_quiet (fail); try go_wp2)
                go_roundg k1
                case measure => have := HK1.out; omega
                case rel => exact ⟨(wrap64 (x5_1 + 1)), (by first | rfl | (simp; done) | (simp [*]; done)), H', ⟨by have := HK1.out; omega⟩, ⟨by (with_reducible repeat (first | refine blk_drewN ?_ _ | refine blk_drew ?_ | refine blk_alloc ?_ _)); exact BK305.out⟩, ⟨by repeat (first | (with_reducible first | exact HB.out | apply below_alloc | apply pw_below_drewN | apply below_drew1 | refine below_set ?_ GE305.out) | exact HB.out)⟩⟩
            · rw [if_neg c18] at H
              exact absurd H (by simp)
          · rw [if_neg c17] at H
            have c17b0 : decide (x5_1 < (l1.length : Int)) = false := decide_eq_false c17
            clear c17
            obtain rfl := Option.some.inj H
            go_wp2
            repeat (go_quiet (fail); try go_wp2)
            go_ret
            exact ⟨by first | rfl | (simp [errW_none, errW_some] <;> rfl) | (simp [*, errW_none, errW_some] <;> rfl) | (simp [show IntKind.u64.wrap 0 = 0 from rfl, Int.zero_tdiv]; done), by repeat (first | (with_reducible first | exact HB.out | apply below_alloc | apply pw_below_drewN | apply below_drew1 | refine below_set ?_ GE305.out) | exact HB.out)⟩

end Go.Proofs.Ytiajhfinkpddbaa.Q
