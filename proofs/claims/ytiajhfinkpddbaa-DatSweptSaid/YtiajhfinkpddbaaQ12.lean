/- Functions of the translation as plain Lean functions, and that the translation computes them: printed by this session's driver of the print. -/
import Derived.Test.YtiajhfinkpddbaaQ0
import Derived.Test.YtiajhfinkpddbaaQ1
import Derived.Test.YtiajhfinkpddbaaQ7
import Derived.Test.YtiajhfinkpddbaaQ8
import Derived.Test.YtiajhfinkpddbaaQ9
import Derived.Test.YtiajhfinkpddbaaQ10
namespace Go.Proofs.Ytiajhfinkpddbaa.Q
open Go.Proofs.Ytiajhfinkpddbaa.H
open Go.RowKit Go.Proofs.YtiajhfinkpddbaaW.PrintWords Go.Proofs.YtiajhfinkpddbaaW.PrintLast Go.Proofs.YtiajhfinkpddbaaW.PrintMore
attribute [local go_sem] max2_int min2_int max_two min_two max_three min_three max_four min_four   -- for this text's walks alone
set_option linter.unusedVariables false
set_option linter.unusedSimpArgs false

attribute [local go_sem high] eqA31
/-! ### dat_Move: function 15 -/
def dat_Move.f (l0 : List (S31)) (a1 : Int) (a2 : Int) : Option ((List (S31)) × Int) := (dat_used.f l0 a1).bind fun bt244 => (if bt244.2.2.2 = 0 then ((dat_with.f l0 (wrap64 (a1)) a2 bt244.2.1 bt244.2.2.1).bind fun bt249 => (some (bt249.1, bt249.2))) else (some (([] : List (S31)), bt244.2.2.2)))
set_option maxHeartbeats 8000000 in
set_option maxRecDepth 100000 in
theorem dat_Move.calls (A0 : Option Addr) (c0 : Nat) (l0 : List (S31)) (a1 : Int) (a2 : Int) (r1 : List (S31)) (r2 : Int) (w : World) (hr0 : Kd.C k31 w A0 l0.length l0) (hc0 : l0.length ≤ c0) (h : dat_Move.f l0 a1 a2 = some (r1, r2)) :
    Calls Try.prog 15 #[.slice A0 l0.length c0, .int .u32 a1, .int .u32 a2] w fun e w' => ∃ v0_ : Value, e = .returned (.tuple #[v0_, .int .i64 r2]) ∧ Kd.R k31 31 w' w.heap.size (fun _ => True) v0_ r1 ∧ Below w.heap.size w w' := by
  have hu31 := Try.underlying31
  have HR0 := Aside0.mk hr0
  have HC0 := Aside0.mk hc0
  clear hr0 hc0
  have HB := Aside0.mk (Below.refl w.heap.size w)
  have H : ((dat_used.f l0 a1).bind fun bt244 => (if bt244.2.2.2 = 0 then ((dat_with.f l0 (wrap64 (a1)) a2 bt244.2.1 bt244.2.2.1).bind fun bt249 => (some (bt249.1, bt249.2))) else (some (([] : List (S31)), bt244.2.2.2)))) = some (r1, r2) := h
  clear h
  replace H := Option.bind_eq_some_iff.mp H
  obtain ⟨⟨t244, t245, t246, t247⟩, A40, H⟩ := H
  replace H : (if t247 = 0 then ((dat_with.f l0 (wrap64 (a1)) a2 t245 t246).bind fun bt249 => (some (bt249.1, bt249.2))) else (some (([] : List (S31)), t247))) = some (r1, r2) := H
  have A4 := Aside0.mk A40
  clear A40
  by_cases c5 : t247 = 0
  · rw [if_pos c5] at H
    have c5b0 : (t247 == 0) = true := beq_iff_eq.mpr c5
    have c5b1 : (t247 != 0) = false := bne_eq_false_iff_eq.mpr c5
    clear c5
    replace H := Option.bind_eq_some_iff.mp H
    obtain ⟨⟨t249, t252⟩, A60, H⟩ := H
    replace H : (some (t249, t252)) = some (r1, r2) := H
    have A6 := Aside0.mk A60
    clear A60
    simp only [Option.some.injEq, Prod.mk.injEq] at H
    obtain ⟨rfl, rfl⟩ := H
    go_enter Try.func15, Try.ntmps15
    go_wp2_with (first | ((with_reducible refine gate_callee (f := 36) rfl ?_); refine goesL_ (some 13) rfl rfl Try.func36 (by kernel_rfl) rfl #[.slice A0 l0.length c0, .int .u32 a1] rfl (by (try simp only [List.map_toArray, List.map_cons, List.map_nil]); first | done | rfl | (simp only [List.length_drop, List.length_take]; rfl)) ?_; (with_reducible refine (dat_used.calls _ _ l0 a1 t244 t245 t246 t247 _ ?side1 ?side2 A4.out).mono ?_); (case side1 => repeat (first | exact HR0.out | (with_reducible refine Kd.C_alloc ?_ _) | (with_reducible refine Kd.C_drewN ?_ _) | (with_reducible refine Kd.C_drew ?_))); (case side2 => exact HC0.out); rintro e w7 ⟨rfl, hb⟩; refine ⟨_, rfl, ?_⟩; have n0_ := Aside0.mk (below_step (by repeat (first | (with_reducible first | exact HB.out | apply below_alloc | apply pw_below_drewN | apply below_drew1) | exact HB.out)) hb); clear HB; have HB := n0_; clear n0_; (try clear hb); (try clear hb2); (try clear hk); (try clear hi)) | ((with_reducible refine gate_dst (N := 8) rfl ?_); refine box_event ?hg (N := 8) ?hd (cs := #[.int .u32 0, .int .u64 0, .int .u64 0]) (t := 31) ?hr ?_; (case hd => rfl); (case hg => rfl); (case hr => first | (go_simp; done) | (go_simp; rfl)); intro gb248 hg w8 hbox hb; have n0_ := Aside0.mk (below_step (by repeat (first | (with_reducible first | exact HB.out | apply below_alloc | apply pw_below_drewN | apply below_drew1) | exact HB.out)) hb); have n1_ := Aside0.mk (hbox); have n2_ := Aside0.mk ((by rw [hg]; exact (below_size (by repeat (first | (with_reducible first | exact HB.out | apply below_alloc | apply pw_below_drewN | apply below_drew1) | exact HB.out))) : w.heap.size ≤ gb248)); have n3_ := Aside0.mk ((by rw [hg]; exact (below_size (by repeat (first | (with_reducible first | exact HB.out | apply below_alloc | apply pw_below_drewN | apply below_drew1) | exact HB.out))) : w.heap.size ≤ gb248)); clear HB; have HB := n0_; have BK248 := n1_; have GW248 := n2_; have GE248 := n3_; clear n0_ n1_ n2_ n3_; clear hb hbox hg; have hcz9_0 : w8.cell? ⟨gb248, 0, none⟩ = some (.int .u32 0) := (blk_cell BK248.out 0).trans rfl; have hcz9_1 : w8.cell? ⟨gb248, 1, none⟩ = some (.int .u64 0) := (blk_cell BK248.out 1).trans rfl; have hcz9_2 : w8.cell? ⟨gb248, 2, none⟩ = some (.int .u64 0) := (blk_cell BK248.out 2).trans rfl; have hfz9_0 := blk_frozen BK248.out 0; have hfz9_1 := blk_frozen BK248.out 1; have hfz9_2 := blk_frozen BK248.out 2; have hdd10_ := (show ((((w8.setCell ⟨gb248, 0, none⟩ (.int .u32 t244)).setCell ⟨gb248, 1, none⟩ (.int .u64 t245)).setCell ⟨gb248, 2, none⟩ (.int .u64 t246)).setCell ⟨gb248, 0, none⟩ (.int .u32 a2)).heap[gb248]? = some (.cells #[.int .u32 a2, .int .u64 t245, .int .u64 t246] 31 (0, 0)) from (by refine blk_put (cs := #[.int .u32 t244, .int .u64 t245, .int .u64 t246]) ?_ 0 _ rfl; refine blk_put (cs := #[.int .u32 t244, .int .u64 t245, .int .u64 0]) ?_ 2 _ rfl; refine blk_put (cs := #[.int .u32 t244, .int .u64 0, .int .u64 0]) ?_ 1 _ rfl; refine blk_put (cs := #[.int .u32 0, .int .u64 0, .int .u64 0]) ?_ 0 _ rfl; exact BK248.out)); have hdd10_0 : ((((w8.setCell ⟨gb248, 0, none⟩ (.int .u32 t244)).setCell ⟨gb248, 1, none⟩ (.int .u64 t245)).setCell ⟨gb248, 2, none⟩ (.int .u64 t246)).setCell ⟨gb248, 0, none⟩ (.int .u32 a2)).cell? ⟨gb248, 0, none⟩ = some (.int .u32 a2) := (blk_cell hdd10_ 0).trans rfl; have hdd10_1 : ((((w8.setCell ⟨gb248, 0, none⟩ (.int .u32 t244)).setCell ⟨gb248, 1, none⟩ (.int .u64 t245)).setCell ⟨gb248, 2, none⟩ (.int .u64 t246)).setCell ⟨gb248, 0, none⟩ (.int .u32 a2)).cell? ⟨gb248, 1, none⟩ = some (.int .u64 t245) := (blk_cell hdd10_ 1).trans rfl; have hdd10_2 : ((((w8.setCell ⟨gb248, 0, none⟩ (.int .u32 t244)).setCell ⟨gb248, 1, none⟩ (.int .u64 t245)).setCell ⟨gb248, 2, none⟩ (.int .u64 t246)).setCell ⟨gb248, 0, none⟩ (.int .u32 a2)).cell? ⟨gb248, 2, none⟩ = some (.int .u64 t246) := (blk_cell hdd10_ 2).trans rfl; (try have hdd10n_0 := fun (n_ : Nat) => (show (((((w8.drewN n_).setCell ⟨gb248, 0, none⟩ (.int .u32 t244)).setCell ⟨gb248, 1, none⟩ (.int .u64 t245)).setCell ⟨gb248, 2, none⟩ (.int .u64 t246)).setCell ⟨gb248, 0, none⟩ (.int .u32 a2)).cell? ⟨gb248, 0, none⟩ = some (.int .u32 a2) from hdd10_0)); (try have hdd10n_1 := fun (n_ : Nat) => (show (((((w8.drewN n_).setCell ⟨gb248, 0, none⟩ (.int .u32 t244)).setCell ⟨gb248, 1, none⟩ (.int .u64 t245)).setCell ⟨gb248, 2, none⟩ (.int .u64 t246)).setCell ⟨gb248, 0, none⟩ (.int .u32 a2)).cell? ⟨gb248, 1, none⟩ = some (.int .u64 t245) from hdd10_1)); (try have hdd10n_2 := fun (n_ : Nat) => (show (((((w8.drewN n_).setCell ⟨gb248, 0, none⟩ (.int .u32 t244)).setCell ⟨gb248, 1, none⟩ (.int .u64 t245)).setCell ⟨gb248, 2, none⟩ (.int .u64 t246)).setCell ⟨gb248, 0, none⟩ (.int .u32 a2)).cell? ⟨gb248, 2, none⟩ = some (.int .u64 t246) from hdd10_2)); clear hdd10_) | ((with_reducible refine gate_callee (f := 37) rfl ?_); refine goesL_ (some 25) rfl rfl Try.func37 (by kernel_rfl) rfl #[.slice A0 l0.length c0, .int .i64 (wrap64 (a1)), .agg #[.int .u32 a2, .int .u64 t245, .int .u64 t246]] rfl (by (try simp only [List.map_toArray, List.map_cons, List.map_nil]); first | done | rfl | (simp only [List.length_drop, List.length_take]; rfl) | (simp [Act.eval, go_sem]; simp only [decide_eq_false_iff_not, decide_eq_true_eq] at *; (repeat' apply And.intro) <;> first | done | (symm; first | (apply IntWalk.u64_in; omega) | (apply IntWalk.u32_in; omega) | (apply IntWalk.i64_in; omega) | (apply IntWalk.wrap64_in; omega) | (apply IntWalk.u16_in; omega) | (apply IntWalk.u8_in; omega)))) ?_; (with_reducible refine (dat_with.calls _ _ l0 (wrap64 (a1)) a2 t245 t246 t249 t252 _ ?side1 ?side2 A6.out).mono ?_); (case side1 => exact Kd.C_below HR0.out (by repeat (first | (with_reducible first | exact HB.out | apply below_alloc | apply pw_below_drewN | apply below_drew1 | refine below_set ?_ GE248.out) | exact HB.out))); (case side2 => exact HC0.out); rintro e w11 ⟨v250, rfl, ho0, hb⟩; refine ⟨_, rfl, ?_⟩; have n0_ := Aside0.mk (Kd.R_lower (Kd.R_newB ho0 (g := gb248) (o := .cells #[.int .u32 a2, .int .u64 t245, .int .u64 t246] 31 (0, 0)) (by (with_reducible repeat (first | refine blk_drewN ?_ _ | refine blk_drew ?_ | refine blk_alloc ?_ _)); refine blk_put (cs := #[.int .u32 t244, .int .u64 t245, .int .u64 t246]) ?_ 0 _ rfl; (with_reducible repeat (first | refine blk_drewN ?_ _ | refine blk_drew ?_ | refine blk_alloc ?_ _)); refine blk_put (cs := #[.int .u32 t244, .int .u64 t245, .int .u64 0]) ?_ 2 _ rfl; (with_reducible repeat (first | refine blk_drewN ?_ _ | refine blk_drew ?_ | refine blk_alloc ?_ _)); refine blk_put (cs := #[.int .u32 t244, .int .u64 0, .int .u64 0]) ?_ 1 _ rfl; (with_reducible repeat (first | refine blk_drewN ?_ _ | refine blk_drew ?_ | refine blk_alloc ?_ _)); refine blk_put (cs := #[.int .u32 0, .int .u64 0, .int .u64 0]) ?_ 0 _ rfl; (with_reducible repeat (first | refine blk_drewN ?_ _ | refine blk_drew ?_ | refine blk_alloc ?_ _)); exact BK248.out)) (below_size (by repeat (first | (with_reducible first | exact HB.out | apply below_alloc | apply pw_below_drewN | apply below_drew1 | refine below_set ?_ GE248.out) | exact HB.out)))); have n1_ := Aside0.mk (blk_below (g := gb248) (o := .cells #[.int .u32 a2, .int .u64 t245, .int .u64 t246] 31 (0, 0)) (by (with_reducible repeat (first | refine blk_drewN ?_ _ | refine blk_drew ?_ | refine blk_alloc ?_ _)); refine blk_put (cs := #[.int .u32 t244, .int .u64 t245, .int .u64 t246]) ?_ 0 _ rfl; (with_reducible repeat (first | refine blk_drewN ?_ _ | refine blk_drew ?_ | refine blk_alloc ?_ _)); refine blk_put (cs := #[.int .u32 t244, .int .u64 t245, .int .u64 0]) ?_ 2 _ rfl; (with_reducible repeat (first | refine blk_drewN ?_ _ | refine blk_drew ?_ | refine blk_alloc ?_ _)); refine blk_put (cs := #[.int .u32 t244, .int .u64 0, .int .u64 0]) ?_ 1 _ rfl; (with_reducible repeat (first | refine blk_drewN ?_ _ | refine blk_drew ?_ | refine blk_alloc ?_ _)); refine blk_put (cs := #[.int .u32 0, .int .u64 0, .int .u64 0]) ?_ 0 _ rfl; (with_reducible repeat (first | refine blk_drewN ?_ _ | refine blk_drew ?_ | refine blk_alloc ?_ _)); exact BK248.out) hb); have n2_ := Aside0.mk (below_step (by repeat (first | (with_reducible first | exact HB.out | apply below_alloc | apply pw_below_drewN | apply below_drew1 | refine below_set ?_ GE248.out) | exact HB.out)) hb); clear BK248; clear HB; have HO251 := n0_; have BK248 := n1_; have HB := n2_; clear n0_ n1_ n2_; (try clear hb); (try clear hb2); (try clear hk); (try clear hi); (try clear ho0)))
    go_ret2
    exact ⟨_, by first | rfl | (simp [errW_none, errW_some] <;> rfl) | (simp [*, errW_none, errW_some] <;> rfl), by (with_reducible repeat (first | apply Kd.R_alloc | apply Kd.R_drewN | apply Kd.R_drew)); exact Kd.R_mono HO251.out (fun _ hk => trivial), by repeat (first | (with_reducible first | exact HB.out | apply below_alloc | apply pw_below_drewN | apply below_drew1 | refine below_set ?_ GE248.out) | exact HB.out)⟩
  · rw [if_neg c5] at H
    have c5b0 : (t247 == 0) = false := beq_eq_false_iff_ne.mpr c5
    have c5b1 : (t247 != 0) = true := bne_iff_ne.mpr c5
    simp only [Option.some.injEq, Prod.mk.injEq] at H
    obtain ⟨rfl, rfl⟩ := H
    go_enter Try.func15, Try.ntmps15
    go_wp2_with (first | ((with_reducible refine gate_callee (f := 36) rfl ?_); refine goesL_ (some 13) rfl rfl Try.func36 (by kernel_rfl) rfl #[.slice A0 l0.length c0, .int .u32 a1] rfl (by (try simp only [List.map_toArray, List.map_cons, List.map_nil]); first | done | rfl | (simp only [List.length_drop, List.length_take]; rfl)) ?_; (with_reducible refine (dat_used.calls _ _ l0 a1 t244 t245 t246 t247 _ ?side1 ?side2 A4.out).mono ?_); (case side1 => repeat (first | exact HR0.out | (with_reducible refine Kd.C_alloc ?_ _) | (with_reducible refine Kd.C_drewN ?_ _) | (with_reducible refine Kd.C_drew ?_))); (case side2 => exact HC0.out); rintro e w12 ⟨rfl, hb⟩; refine ⟨_, rfl, ?_⟩; have n0_ := Aside0.mk (below_step (by repeat (first | (with_reducible first | exact HB.out | apply below_alloc | apply pw_below_drewN | apply below_drew1) | exact HB.out)) hb); clear HB; have HB := n0_; clear n0_; (try clear hb); (try clear hb2); (try clear hk); (try clear hi)) | ((with_reducible refine gate_dst (N := 8) rfl ?_); refine box_event ?hg (N := 8) ?hd (cs := #[.int .u32 0, .int .u64 0, .int .u64 0]) (t := 31) ?hr ?_; (case hd => rfl); (case hg => rfl); (case hr => first | (go_simp; done) | (go_simp; rfl)); intro gb248 hg w13 hbox hb; have n0_ := Aside0.mk (below_step (by repeat (first | (with_reducible first | exact HB.out | apply below_alloc | apply pw_below_drewN | apply below_drew1) | exact HB.out)) hb); have n1_ := Aside0.mk (hbox); have n2_ := Aside0.mk ((by rw [hg]; exact (below_size (by repeat (first | (with_reducible first | exact HB.out | apply below_alloc | apply pw_below_drewN | apply below_drew1) | exact HB.out))) : w.heap.size ≤ gb248)); have n3_ := Aside0.mk ((by rw [hg]; exact (below_size (by repeat (first | (with_reducible first | exact HB.out | apply below_alloc | apply pw_below_drewN | apply below_drew1) | exact HB.out))) : w.heap.size ≤ gb248)); clear HB; have HB := n0_; have BK248 := n1_; have GW248 := n2_; have GE248 := n3_; clear n0_ n1_ n2_ n3_; clear hb hbox hg; have hcz14_0 : w13.cell? ⟨gb248, 0, none⟩ = some (.int .u32 0) := (blk_cell BK248.out 0).trans rfl; have hcz14_1 : w13.cell? ⟨gb248, 1, none⟩ = some (.int .u64 0) := (blk_cell BK248.out 1).trans rfl; have hcz14_2 : w13.cell? ⟨gb248, 2, none⟩ = some (.int .u64 0) := (blk_cell BK248.out 2).trans rfl; have hfz14_0 := blk_frozen BK248.out 0; have hfz14_1 := blk_frozen BK248.out 1; have hfz14_2 := blk_frozen BK248.out 2))
    go_ret2
    exact ⟨_, by first | rfl | (simp [errW_none, errW_some] <;> rfl) | (simp [*, errW_none, errW_some] <;> rfl), by first | exact Kd.R_nil _ _ _ _ _ | exact Kd.N_nil _ _ _ _ _ | exact Kd.V_nil _ _ _ _ _ | exact Kd.Q_nil _ _ _ _ _ | exact Kd.S_nil _ _ _ _ _, by repeat (first | (with_reducible first | exact HB.out | apply below_alloc | apply pw_below_drewN | apply below_drew1 | refine below_set ?_ GE248.out) | exact HB.out)⟩

/-! ### nautilusref08_used: function 40 -/
def nautilusref08_used.f (l0 : List (S31)) (a1 : Int) : Option (Bool) := if (IntKind.u64.wrap (a1)) < (IntKind.u64.wrap ((l0.length : Int))) then (if 0 ≤ a1 then (if a1 < (l0.length : Int) then ((nautilusref08_free.f ((rd_T31 l0 a1).f0) ((rd_T31 l0 a1).f1) ((rd_T31 l0 a1).f2)).bind fun t254 => (some (!t254))) else (none)) else (none)) else (some false)
set_option maxHeartbeats 8000000 in
set_option maxRecDepth 100000 in
theorem nautilusref08_used.calls (A0 : Option Addr) (c0 : Nat) (l0 : List (S31)) (a1 : Int) (r : Bool) (w : World) (hr0 : Kd.C k31 w A0 l0.length l0) (hc0 : l0.length ≤ c0) (h : nautilusref08_used.f l0 a1 = some r) :
    Calls Try.prog 40 #[.slice A0 l0.length c0, .int .u32 a1] w fun e w' => e = .returned (.bool r) ∧ Below w.heap.size w w' := by
  have hu31 := Try.underlying31
  have HR0 := Aside0.mk hr0
  have HC0 := Aside0.mk hc0
  clear hr0 hc0
  have HB := Aside0.mk (Below.refl w.heap.size w)
  have H : (if (IntKind.u64.wrap (a1)) < (IntKind.u64.wrap ((l0.length : Int))) then (if 0 ≤ a1 then (if a1 < (l0.length : Int) then ((nautilusref08_free.f ((rd_T31 l0 a1).f0) ((rd_T31 l0 a1).f1) ((rd_T31 l0 a1).f2)).bind fun t254 => (some (!t254))) else (none)) else (none)) else (some false)) = some r := h
  clear h
  by_cases c3 : (IntKind.u64.wrap (a1)) < (IntKind.u64.wrap ((l0.length : Int)))
  · rw [if_pos c3] at H
    have c3b0 : decide ((IntKind.u64.wrap (a1)) < (IntKind.u64.wrap ((l0.length : Int)))) = true := decide_eq_true c3
    clear c3
    by_cases c4 : 0 ≤ a1
    · rw [if_pos c4] at H
      have c4b0 : decide (0 ≤ a1) = true := decide_eq_true c4
      clear c4
      by_cases c5 : a1 < (l0.length : Int)
      · rw [if_pos c5] at H
        have c5b0 : decide (a1 < (l0.length : Int)) = true := decide_eq_true c5
        clear c5
        replace H := Option.bind_eq_some_iff.mp H
        obtain ⟨t254, A60, H⟩ := H
        replace H : (some (!t254)) = some r := H
        have A6 := Aside0.mk A60
        clear A60
        obtain rfl := Option.some.inj H
        have p253 : 0 ≤ (a1 : Int) := of_decide_eq_true (by first | (with_reducible assumption) | assumption)
        have q253 : a1 < (l0.length : Int) := of_decide_eq_true (by first | (with_reducible assumption) | assumption)
        obtain ⟨ad253, e253, hx253_0, hx253_1, hx253_2⟩ := at_T31 HR0.out a1 p253 q253
        cases e253
        replace p253 := eq_true p253
        replace q253 := eq_true q253
        go_enter Try.func40, Try.ntmps40
        go_wp2_with (first | (go_at_call 38; (with_reducible refine (nautilusref08_free.calls ((rd_T31 l0 a1).f0) ((rd_T31 l0 a1).f1) ((rd_T31 l0 a1).f2) t254 _ A6.out).mono ?_); rintro e w7 ⟨rfl, hb⟩; have n0_ := Aside0.mk (below_step (by repeat (first | (with_reducible first | exact HB.out | apply below_alloc | apply pw_below_drewN | apply below_drew1) | exact HB.out)) hb); clear HB; have HB := n0_; clear n0_; (try clear hb); (try clear hb2); (try clear hk); (try clear hi)))
        go_ret
        exact ⟨by first | rfl | (simp [errW_none, errW_some] <;> rfl) | (simp [*, errW_none, errW_some] <;> rfl) | (simp [show IntKind.u64.wrap 0 = 0 from rfl, Int.zero_tdiv]; done), by repeat (first | (with_reducible first | exact HB.out | apply below_alloc | apply pw_below_drewN | apply below_drew1) | exact HB.out)⟩
      · rw [if_neg c5] at H
        exact absurd H (by simp)
    · rw [if_neg c4] at H
      exact absurd H (by simp)
  · rw [if_neg c3] at H
    have c3b0 : decide ((IntKind.u64.wrap (a1)) < (IntKind.u64.wrap ((l0.length : Int)))) = false := decide_eq_false c3
    clear c3
    obtain rfl := Option.some.inj H
    go_enter Try.func40, Try.ntmps40
    go_wp2
    go_ret
    exact ⟨by first | rfl | (simp [errW_none, errW_some] <;> rfl) | (simp [*, errW_none, errW_some] <;> rfl) | (simp [show IntKind.u64.wrap 0 = 0 from rfl, Int.zero_tdiv]; done), by repeat (first | (with_reducible first | exact HB.out | apply below_alloc | apply pw_below_drewN | apply below_drew1) | exact HB.out)⟩

/-! ### nautilusref08_Move: function 16 -/
def nautilusref08_Move.f (k : Nat) (l0 : List (S31)) (a1 : Int) (a2 : Int) : Option ((List (S31)) × Int) := (nautilusref08_Right.f k l0).bind fun t255 => (if t255 = true then ((nautilusref08_used.f l0 a1).bind fun t256 => (if t256 = true then (if 0 ≤ a1 then (if a1 < (l0.length : Int) then ((nautilusref08_with.f k l0 (wrap64 (a1)) a2 ((rd_T31 l0 a1).f1) ((rd_T31 l0 a1).f2)).bind fun bt259 => (some (bt259.1, bt259.2))) else (none)) else (none)) else (some (([] : List (S31)), 82)))) else (some (([] : List (S31)), 80)))
theorem nautilusref08_Move.mono : ∀ a0 a1 a2 k, LeO (nautilusref08_Move.f k a0 a1 a2) (nautilusref08_Move.f (k + 1) a0 a1 a2) := by
  intro a0 a1 a2 k
  unfold nautilusref08_Move.f
  repeat' first
      | (with_reducible exact nautilusref08_Right.mono _ _)
      | (with_reducible exact nautilusref08_with.mono _ _ _ _ _ _)
      | (with_reducible exact LeO.refl _)
      | (with_reducible exact LeO.none _)
      | (with_reducible refine LeO.ite ?_ ?_)
      | (with_reducible refine LeO.bind ?_ (fun _ => ?_))
      | exact nautilusref08_Right.mono _ _
      | exact nautilusref08_with.mono _ _ _ _ _ _
      | exact LeO.none _
      | refine LeO.ite ?_ ?_
      | refine LeO.bind ?_ (fun _ => ?_)
set_option maxHeartbeats 8000000 in
set_option maxRecDepth 100000 in
theorem nautilusref08_Move.calls (k : Nat) (A0 : Option Addr) (c0 : Nat) (l0 : List (S31)) (a1 : Int) (a2 : Int) (r1 : List (S31)) (r2 : Int) (w : World) (hr0 : Kd.C k31 w A0 l0.length l0) (hc0 : l0.length ≤ c0) (h : nautilusref08_Move.f k l0 a1 a2 = some (r1, r2)) :
    Calls Try.prog 16 #[.slice A0 l0.length c0, .int .u32 a1, .int .u32 a2] w fun e w' => ∃ v0_ : Value, e = .returned (.tuple #[v0_, .int .i64 r2]) ∧ Kd.R k31 31 w' w.heap.size (fun _ => True) v0_ r1 ∧ Below w.heap.size w w' := by
  have hu31 := Try.underlying31
  have HR0 := Aside0.mk hr0
  have HC0 := Aside0.mk hc0
  clear hr0 hc0
  have HB := Aside0.mk (Below.refl w.heap.size w)
  have H : ((nautilusref08_Right.f k l0).bind fun t255 => (if t255 = true then ((nautilusref08_used.f l0 a1).bind fun t256 => (if t256 = true then (if 0 ≤ a1 then (if a1 < (l0.length : Int) then ((nautilusref08_with.f k l0 (wrap64 (a1)) a2 ((rd_T31 l0 a1).f1) ((rd_T31 l0 a1).f2)).bind fun bt259 => (some (bt259.1, bt259.2))) else (none)) else (none)) else (some (([] : List (S31)), 82)))) else (some (([] : List (S31)), 80)))) = some (r1, r2) := h
  clear h
  replace H := Option.bind_eq_some_iff.mp H
  obtain ⟨t255, A40, H⟩ := H
  replace H : (if t255 = true then ((nautilusref08_used.f l0 a1).bind fun t256 => (if t256 = true then (if 0 ≤ a1 then (if a1 < (l0.length : Int) then ((nautilusref08_with.f k l0 (wrap64 (a1)) a2 ((rd_T31 l0 a1).f1) ((rd_T31 l0 a1).f2)).bind fun bt259 => (some (bt259.1, bt259.2))) else (none)) else (none)) else (some (([] : List (S31)), 82)))) else (some (([] : List (S31)), 80))) = some (r1, r2) := H
  have A4 := Aside0.mk A40
  clear A40
  by_cases c5 : t255 = true
  · subst c5
    have H1 : ((nautilusref08_used.f l0 a1).bind fun t256 => (if t256 = true then (if 0 ≤ a1 then (if a1 < (l0.length : Int) then ((nautilusref08_with.f k l0 (wrap64 (a1)) a2 ((rd_T31 l0 a1).f1) ((rd_T31 l0 a1).f2)).bind fun bt259 => (some (bt259.1, bt259.2))) else (none)) else (none)) else (some (([] : List (S31)), 82)))) = some (r1, r2) := by rw [if_pos rfl] at H; exact H
    clear H
    have H := H1
    clear H1
    replace H := Option.bind_eq_some_iff.mp H
    obtain ⟨t256, A60, H⟩ := H
    replace H : (if t256 = true then (if 0 ≤ a1 then (if a1 < (l0.length : Int) then ((nautilusref08_with.f k l0 (wrap64 (a1)) a2 ((rd_T31 l0 a1).f1) ((rd_T31 l0 a1).f2)).bind fun bt259 => (some (bt259.1, bt259.2))) else (none)) else (none)) else (some (([] : List (S31)), 82))) = some (r1, r2) := H
    have A6 := Aside0.mk A60
    clear A60
    by_cases c7 : t256 = true
    · subst c7
      have H1 : (if 0 ≤ a1 then (if a1 < (l0.length : Int) then ((nautilusref08_with.f k l0 (wrap64 (a1)) a2 ((rd_T31 l0 a1).f1) ((rd_T31 l0 a1).f2)).bind fun bt259 => (some (bt259.1, bt259.2))) else (none)) else (none)) = some (r1, r2) := by rw [if_pos rfl] at H; exact H
      clear H
      have H := H1
      clear H1
      by_cases c8 : 0 ≤ a1
      · rw [if_pos c8] at H
        have c8b0 : decide (0 ≤ a1) = true := decide_eq_true c8
        clear c8
        by_cases c9 : a1 < (l0.length : Int)
        · rw [if_pos c9] at H
          have c9b0 : decide (a1 < (l0.length : Int)) = true := decide_eq_true c9
          clear c9
          replace H := Option.bind_eq_some_iff.mp H
          obtain ⟨⟨t259, t262⟩, A100, H⟩ := H
          replace H : (some (t259, t262)) = some (r1, r2) := H
          have A10 := Aside0.mk A100
          clear A100
          simp only [Option.some.injEq, Prod.mk.injEq] at H
          obtain ⟨rfl, rfl⟩ := H
          go_enter Try.func16, Try.ntmps16
          go_wp2_with (first | ((with_reducible refine gate_callee (f := 18) rfl ?_); refine goesL_ (some 11) rfl rfl Try.func18 (by kernel_rfl) rfl #[.slice A0 l0.length c0] rfl (by (try simp only [List.map_toArray, List.map_cons, List.map_nil]); first | done | rfl | (simp only [List.length_drop, List.length_take]; rfl)) ?_; (with_reducible refine (nautilusref08_Right.calls k _ _ l0 true _ ?side1 ?side2 A4.out).mono ?_); (case side1 => repeat (first | exact HR0.out | (with_reducible refine Kd.C_alloc ?_ _) | (with_reducible refine Kd.C_drewN ?_ _) | (with_reducible refine Kd.C_drew ?_))); (case side2 => exact HC0.out); rintro e w11 ⟨rfl, hb⟩; refine ⟨_, rfl, ?_⟩; have n0_ := Aside0.mk (below_step (by repeat (first | (with_reducible first | exact HB.out | apply below_alloc | apply pw_below_drewN | apply below_drew1) | exact HB.out)) hb); clear HB; have HB := n0_; clear n0_; (try clear hb); (try clear hb2); (try clear hk); (try clear hi)) | ((with_reducible refine gate_callee (f := 40) rfl ?_); refine goesL_ (some 16) rfl rfl Try.func40 (by kernel_rfl) rfl #[.slice A0 l0.length c0, .int .u32 a1] rfl (by (try simp only [List.map_toArray, List.map_cons, List.map_nil]); first | done | rfl | (simp only [List.length_drop, List.length_take]; rfl)) ?_; (with_reducible refine (nautilusref08_used.calls _ _ l0 a1 true _ ?side1 ?side2 A6.out).mono ?_); (case side1 => repeat (first | exact (Kd.C_below HR0.out HB.out) | (with_reducible refine Kd.C_alloc ?_ _) | (with_reducible refine Kd.C_drewN ?_ _) | (with_reducible refine Kd.C_drew ?_))); (case side2 => exact HC0.out); rintro e w12 ⟨rfl, hb⟩; refine ⟨_, rfl, ?_⟩; have n0_ := Aside0.mk (below_step (by repeat (first | (with_reducible first | exact HB.out | apply below_alloc | apply pw_below_drewN | apply below_drew1) | exact HB.out)) hb); clear HB; have HB := n0_; clear n0_; (try clear hb); (try clear hb2); (try clear hk); (try clear hi); have p257 : 0 ≤ (a1 : Int) := of_decide_eq_true (by first | (with_reducible assumption) | assumption); have q257 : a1 < (l0.length : Int) := of_decide_eq_true (by first | (with_reducible assumption) | assumption); obtain ⟨ad257, e257, hx257_0, hx257_1, hx257_2⟩ := at_T31 HR0.out a1 p257 q257; cases e257; replace hx257_0 := (HB.out.cell (World.block_lt_of_cell? w _ hx257_0)).trans hx257_0; replace hx257_1 := (HB.out.cell (World.block_lt_of_cell? w _ hx257_1)).trans hx257_1; replace hx257_2 := (HB.out.cell (World.block_lt_of_cell? w _ hx257_2)).trans hx257_2; replace p257 := eq_true p257; replace q257 := eq_true q257) | ((with_reducible refine gate_dst (N := 9) rfl ?_); refine box_event ?hg (N := 9) ?hd (cs := #[.int .u32 0, .int .u64 0, .int .u64 0]) (t := 31) ?hr ?_; (case hd => rfl); (case hg => rfl); (case hr => first | (go_simp; done) | (go_simp; rfl)); intro gb258 hg w13 hbox hb; have n0_ := Aside0.mk (below_step (by repeat (first | (with_reducible first | exact HB.out | apply below_alloc | apply pw_below_drewN | apply below_drew1) | exact HB.out)) hb); have n1_ := Aside0.mk (hbox); have n2_ := Aside0.mk ((by rw [hg]; exact (below_size (by repeat (first | (with_reducible first | exact HB.out | apply below_alloc | apply pw_below_drewN | apply below_drew1) | exact HB.out))) : w.heap.size ≤ gb258)); have n3_ := Aside0.mk ((by rw [hg]; exact (below_size (by repeat (first | (with_reducible first | exact HB.out | apply below_alloc | apply pw_below_drewN | apply below_drew1) | exact HB.out))) : w.heap.size ≤ gb258)); clear HB; have HB := n0_; have BK258 := n1_; have GW258 := n2_; have GE258 := n3_; clear n0_ n1_ n2_ n3_; clear hb hbox hg; have hcz14_0 : w13.cell? ⟨gb258, 0, none⟩ = some (.int .u32 0) := (blk_cell BK258.out 0).trans rfl; have hcz14_1 : w13.cell? ⟨gb258, 1, none⟩ = some (.int .u64 0) := (blk_cell BK258.out 1).trans rfl; have hcz14_2 : w13.cell? ⟨gb258, 2, none⟩ = some (.int .u64 0) := (blk_cell BK258.out 2).trans rfl; have hfz14_0 := blk_frozen BK258.out 0; have hfz14_1 := blk_frozen BK258.out 1; have hfz14_2 := blk_frozen BK258.out 2; have hdd15_ := (show ((((w13.setCell ⟨gb258, 0, none⟩ (.int .u32 ((rd_T31 l0 a1).f0))).setCell ⟨gb258, 1, none⟩ (.int .u64 ((rd_T31 l0 a1).f1))).setCell ⟨gb258, 2, none⟩ (.int .u64 ((rd_T31 l0 a1).f2))).setCell ⟨gb258, 0, none⟩ (.int .u32 a2)).heap[gb258]? = some (.cells #[.int .u32 a2, .int .u64 ((rd_T31 l0 a1).f1), .int .u64 ((rd_T31 l0 a1).f2)] 31 (0, 0)) from (by refine blk_put (cs := #[.int .u32 ((rd_T31 l0 a1).f0), .int .u64 ((rd_T31 l0 a1).f1), .int .u64 ((rd_T31 l0 a1).f2)]) ?_ 0 _ rfl; refine blk_put (cs := #[.int .u32 ((rd_T31 l0 a1).f0), .int .u64 ((rd_T31 l0 a1).f1), .int .u64 0]) ?_ 2 _ rfl; refine blk_put (cs := #[.int .u32 ((rd_T31 l0 a1).f0), .int .u64 0, .int .u64 0]) ?_ 1 _ rfl; refine blk_put (cs := #[.int .u32 0, .int .u64 0, .int .u64 0]) ?_ 0 _ rfl; exact BK258.out)); have hdd15_0 : ((((w13.setCell ⟨gb258, 0, none⟩ (.int .u32 ((rd_T31 l0 a1).f0))).setCell ⟨gb258, 1, none⟩ (.int .u64 ((rd_T31 l0 a1).f1))).setCell ⟨gb258, 2, none⟩ (.int .u64 ((rd_T31 l0 a1).f2))).setCell ⟨gb258, 0, none⟩ (.int .u32 a2)).cell? ⟨gb258, 0, none⟩ = some (.int .u32 a2) := (blk_cell hdd15_ 0).trans rfl; have hdd15_1 : ((((w13.setCell ⟨gb258, 0, none⟩ (.int .u32 ((rd_T31 l0 a1).f0))).setCell ⟨gb258, 1, none⟩ (.int .u64 ((rd_T31 l0 a1).f1))).setCell ⟨gb258, 2, none⟩ (.int .u64 ((rd_T31 l0 a1).f2))).setCell ⟨gb258, 0, none⟩ (.int .u32 a2)).cell? ⟨gb258, 1, none⟩ = some (.int .u64 ((rd_T31 l0 a1).f1)) := (blk_cell hdd15_ 1).trans rfl; have hdd15_2 : ((((w13.setCell ⟨gb258, 0, none⟩ (.int .u32 ((rd_T31 l0 a1).f0))).setCell ⟨gb258, 1, none⟩ (.int .u64 ((rd_T31 l0 a1).f1))).setCell ⟨gb258, 2, none⟩ (.int .u64 ((rd_T31 l0 a1).f2))).setCell ⟨gb258, 0, none⟩ (.int .u32 a2)).cell? ⟨gb258, 2, none⟩ = some (.int .u64 ((rd_T31 l0 a1).f2)) := (blk_cell hdd15_ 2).trans rfl; (try have hdd15n_0 := fun (n_ : Nat) => (show (((((w13.drewN n_).setCell ⟨gb258, 0, none⟩ (.int .u32 ((rd_T31 l0 a1).f0))).setCell ⟨gb258, 1, none⟩ (.int .u64 ((rd_T31 l0 a1).f1))).setCell ⟨gb258, 2, none⟩ (.int .u64 ((rd_T31 l0 a1).f2))).setCell ⟨gb258, 0, none⟩ (.int .u32 a2)).cell? ⟨gb258, 0, none⟩ = some (.int .u32 a2) from hdd15_0)); (try have hdd15n_1 := fun (n_ : Nat) => (show (((((w13.drewN n_).setCell ⟨gb258, 0, none⟩ (.int .u32 ((rd_T31 l0 a1).f0))).setCell ⟨gb258, 1, none⟩ (.int .u64 ((rd_T31 l0 a1).f1))).setCell ⟨gb258, 2, none⟩ (.int .u64 ((rd_T31 l0 a1).f2))).setCell ⟨gb258, 0, none⟩ (.int .u32 a2)).cell? ⟨gb258, 1, none⟩ = some (.int .u64 ((rd_T31 l0 a1).f1)) from hdd15_1)); (try have hdd15n_2 := fun (n_ : Nat) => (show (((((w13.drewN n_).setCell ⟨gb258, 0, none⟩ (.int .u32 ((rd_T31 l0 a1).f0))).setCell ⟨gb258, 1, none⟩ (.int .u64 ((rd_T31 l0 a1).f1))).setCell ⟨gb258, 2, none⟩ (.int .u64 ((rd_T31 l0 a1).f2))).setCell ⟨gb258, 0, none⟩ (.int .u32 a2)).cell? ⟨gb258, 2, none⟩ = some (.int .u64 ((rd_T31 l0 a1).f2)) from hdd15_2)); clear hdd15_) | ((with_reducible refine gate_callee (f := 39) rfl ?_); refine goesL_ (some 28) rfl rfl Try.func39 (by kernel_rfl) rfl #[.slice (some ad257) l0.length c0, .int .i64 (wrap64 (a1)), .agg #[.int .u32 a2, .int .u64 ((rd_T31 l0 a1).f1), .int .u64 ((rd_T31 l0 a1).f2)]] rfl (by (try simp only [List.map_toArray, List.map_cons, List.map_nil]); first | done | rfl | (simp only [List.length_drop, List.length_take]; rfl) | (simp [Act.eval, go_sem]; simp only [decide_eq_false_iff_not, decide_eq_true_eq] at *; (repeat' apply And.intro) <;> first | done | (symm; first | (apply IntWalk.u64_in; omega) | (apply IntWalk.u32_in; omega) | (apply IntWalk.i64_in; omega) | (apply IntWalk.wrap64_in; omega) | (apply IntWalk.u16_in; omega) | (apply IntWalk.u8_in; omega)))) ?_; (with_reducible refine (nautilusref08_with.calls k _ _ l0 (wrap64 (a1)) a2 ((rd_T31 l0 a1).f1) ((rd_T31 l0 a1).f2) t259 t262 _ ?side1 ?side2 A10.out).mono ?_); (case side1 => exact Kd.C_below HR0.out (by repeat (first | (with_reducible first | exact HB.out | apply below_alloc | apply pw_below_drewN | apply below_drew1 | refine below_set ?_ GE258.out) | exact HB.out))); (case side2 => exact HC0.out); rintro e w16 ⟨v260, rfl, ho0, hb⟩; refine ⟨_, rfl, ?_⟩; have n0_ := Aside0.mk (Kd.R_lower (Kd.R_newB ho0 (g := gb258) (o := .cells #[.int .u32 a2, .int .u64 ((rd_T31 l0 a1).f1), .int .u64 ((rd_T31 l0 a1).f2)] 31 (0, 0)) (by (with_reducible repeat (first | refine blk_drewN ?_ _ | refine blk_drew ?_ | refine blk_alloc ?_ _)); refine blk_put (cs := #[.int .u32 ((rd_T31 l0 a1).f0), .int .u64 ((rd_T31 l0 a1).f1), .int .u64 ((rd_T31 l0 a1).f2)]) ?_ 0 _ rfl; (with_reducible repeat (first | refine blk_drewN ?_ _ | refine blk_drew ?_ | refine blk_alloc ?_ _)); refine blk_put (cs := #[.int .u32 ((rd_T31 l0 a1).f0), .int .u64 ((rd_T31 l0 a1).f1), .int .u64 0]) ?_ 2 _ rfl; (with_reducible repeat (first | refine blk_drewN ?_ _ | refine blk_drew ?_ | refine blk_alloc ?_ _)); refine blk_put (cs := #[.int .u32 ((rd_T31 l0 a1).f0), .int .u64 0, .int .u64 0]) ?_ 1 _ rfl; (with_reducible repeat (first | refine blk_drewN ?_ _ | refine blk_drew ?_ | refine blk_alloc ?_ _)); refine blk_put (cs := #[.int .u32 0, .int .u64 0, .int .u64 0]) ?_ 0 _ rfl; (with_reducible repeat (first | refine blk_drewN ?_ _ | refine blk_drew ?_ | refine blk_alloc ?_ _)); exact BK258.out)) (below_size (by repeat (first | (with_reducible first | exact HB.out | apply below_alloc | apply pw_below_drewN | apply below_drew1 | refine below_set ?_ GE258.out) | exact HB.out)))); have n1_ := Aside0.mk (blk_below (g := gb258) (o := .cells #[.int .u32 a2, .int .u64 ((rd_T31 l0 a1).f1), .int .u64 ((rd_T31 l0 a1).f2)] 31 (0, 0)) (by (with_reducible repeat (first | refine blk_drewN ?_ _ | refine blk_drew ?_ | refine blk_alloc ?_ _)); refine blk_put (cs := #[.int .u32 ((rd_T31 l0 a1).f0), .int .u64 ((rd_T31 l0 a1).f1), .int .u64 ((rd_T31 l0 a1).f2)]) ?_ 0 _ rfl; (with_reducible repeat (first | refine blk_drewN ?_ _ | refine blk_drew ?_ | refine blk_alloc ?_ _)); refine blk_put (cs := #[.int .u32 ((rd_T31 l0 a1).f0), .int .u64 ((rd_T31 l0 a1).f1), .int .u64 0]) ?_ 2 _ rfl; (with_reducible repeat (first | refine blk_drewN ?_ _ | refine blk_drew ?_ | refine blk_alloc ?_ _)); refine blk_put (cs := #[.int .u32 ((rd_T31 l0 a1).f0), .int .u64 0, .int .u64 0]) ?_ 1 _ rfl; (with_reducible repeat (first | refine blk_drewN ?_ _ | refine blk_drew ?_ | refine blk_alloc ?_ _)); refine blk_put (cs := #[.int .u32 0, .int .u64 0, .int .u64 0]) ?_ 0 _ rfl; (with_reducible repeat (first | refine blk_drewN ?_ _ | refine blk_drew ?_ | refine blk_alloc ?_ _)); exact BK258.out) hb); have n2_ := Aside0.mk (below_step (by repeat (first | (with_reducible first | exact HB.out | apply below_alloc | apply pw_below_drewN | apply below_drew1 | refine below_set ?_ GE258.out) | exact HB.out)) hb); clear BK258; clear HB; have HO261 := n0_; have BK258 := n1_; have HB := n2_; clear n0_ n1_ n2_; (try clear hb); (try clear hb2); (try clear hk); (try clear hi); (try clear ho0)))
          go_ret2
          exact ⟨_, by first | rfl | (simp [errW_none, errW_some] <;> rfl) | (simp [*, errW_none, errW_some] <;> rfl), by (with_reducible repeat (first | apply Kd.R_alloc | apply Kd.R_drewN | apply Kd.R_drew)); exact Kd.R_mono HO261.out (fun _ hk => trivial), by repeat (first | (with_reducible first | exact HB.out | apply below_alloc | apply pw_below_drewN | apply below_drew1 | refine below_set ?_ GE258.out) | exact HB.out)⟩
        · rw [if_neg c9] at H
          exact absurd H (by simp)
      · rw [if_neg c8] at H
        exact absurd H (by simp)
    · replace c7 := Bool.eq_false_iff.mpr c7
      subst c7
      have H1 : (some (([] : List (S31)), 82)) = some (r1, r2) := by rw [if_neg (show ¬ (false = true) by decide)] at H; exact H
      clear H
      have H := H1
      clear H1
      simp only [Option.some.injEq, Prod.mk.injEq] at H
      obtain ⟨rfl, rfl⟩ := H
      go_enter Try.func16, Try.ntmps16
      go_wp2_with (first | ((with_reducible refine gate_callee (f := 18) rfl ?_); refine goesL_ (some 11) rfl rfl Try.func18 (by kernel_rfl) rfl #[.slice A0 l0.length c0] rfl (by (try simp only [List.map_toArray, List.map_cons, List.map_nil]); first | done | rfl | (simp only [List.length_drop, List.length_take]; rfl)) ?_; (with_reducible refine (nautilusref08_Right.calls k _ _ l0 true _ ?side1 ?side2 A4.out).mono ?_); (case side1 => repeat (first | exact HR0.out | (with_reducible refine Kd.C_alloc ?_ _) | (with_reducible refine Kd.C_drewN ?_ _) | (with_reducible refine Kd.C_drew ?_))); (case side2 => exact HC0.out); rintro e w17 ⟨rfl, hb⟩; refine ⟨_, rfl, ?_⟩; have n0_ := Aside0.mk (below_step (by repeat (first | (with_reducible first | exact HB.out | apply below_alloc | apply pw_below_drewN | apply below_drew1) | exact HB.out)) hb); clear HB; have HB := n0_; clear n0_; (try clear hb); (try clear hb2); (try clear hk); (try clear hi)) | ((with_reducible refine gate_callee (f := 40) rfl ?_); refine goesL_ (some 16) rfl rfl Try.func40 (by kernel_rfl) rfl #[.slice A0 l0.length c0, .int .u32 a1] rfl (by (try simp only [List.map_toArray, List.map_cons, List.map_nil]); first | done | rfl | (simp only [List.length_drop, List.length_take]; rfl)) ?_; (with_reducible refine (nautilusref08_used.calls _ _ l0 a1 false _ ?side1 ?side2 A6.out).mono ?_); (case side1 => repeat (first | exact (Kd.C_below HR0.out HB.out) | (with_reducible refine Kd.C_alloc ?_ _) | (with_reducible refine Kd.C_drewN ?_ _) | (with_reducible refine Kd.C_drew ?_))); (case side2 => exact HC0.out); rintro e w18 ⟨rfl, hb⟩; refine ⟨_, rfl, ?_⟩; have n0_ := Aside0.mk (below_step (by repeat (first | (with_reducible first | exact HB.out | apply below_alloc | apply pw_below_drewN | apply below_drew1) | exact HB.out)) hb); clear HB; have HB := n0_; clear n0_; (try clear hb); (try clear hb2); (try clear hk); (try clear hi)))
      go_ret2
      exact ⟨_, by first | rfl | (simp [errW_none, errW_some] <;> rfl) | (simp [*, errW_none, errW_some] <;> rfl), by first | exact Kd.R_nil _ _ _ _ _ | exact Kd.N_nil _ _ _ _ _ | exact Kd.V_nil _ _ _ _ _ | exact Kd.Q_nil _ _ _ _ _ | exact Kd.S_nil _ _ _ _ _, by repeat (first | (with_reducible first | exact HB.out | apply below_alloc | apply pw_below_drewN | apply below_drew1) | exact HB.out)⟩
  · replace c5 := Bool.eq_false_iff.mpr c5
    subst c5
    have H1 : (some (([] : List (S31)), 80)) = some (r1, r2) := by rw [if_neg (show ¬ (false = true) by decide)] at H; exact H
    clear H
    have H := H1
    clear H1
    simp only [Option.some.injEq, Prod.mk.injEq] at H
    obtain ⟨rfl, rfl⟩ := H
    go_enter Try.func16, Try.ntmps16
    go_wp2_with (first | ((with_reducible refine gate_callee (f := 18) rfl ?_); refine goesL_ (some 11) rfl rfl Try.func18 (by kernel_rfl) rfl #[.slice A0 l0.length c0] rfl (by (try simp only [List.map_toArray, List.map_cons, List.map_nil]); first | done | rfl | (simp only [List.length_drop, List.length_take]; rfl)) ?_; (with_reducible refine (nautilusref08_Right.calls k _ _ l0 false _ ?side1 ?side2 A4.out).mono ?_); (case side1 => repeat (first | exact HR0.out | (with_reducible refine Kd.C_alloc ?_ _) | (with_reducible refine Kd.C_drewN ?_ _) | (with_reducible refine Kd.C_drew ?_))); (case side2 => exact HC0.out); rintro e w19 ⟨rfl, hb⟩; refine ⟨_, rfl, ?_⟩; have n0_ := Aside0.mk (below_step (by repeat (first | (with_reducible first | exact HB.out | apply below_alloc | apply pw_below_drewN | apply below_drew1) | exact HB.out)) hb); clear HB; have HB := n0_; clear n0_; (try clear hb); (try clear hb2); (try clear hk); (try clear hi)))
    go_ret2
    exact ⟨_, by first | rfl | (simp [errW_none, errW_some] <;> rfl) | (simp [*, errW_none, errW_some] <;> rfl), by first | exact Kd.R_nil _ _ _ _ _ | exact Kd.N_nil _ _ _ _ _ | exact Kd.V_nil _ _ _ _ _ | exact Kd.Q_nil _ _ _ _ _ | exact Kd.S_nil _ _ _ _ _, by repeat (first | (with_reducible first | exact HB.out | apply below_alloc | apply pw_below_drewN | apply below_drew1) | exact HB.out)⟩

/-! ### nautilusref08_Same: function 19 -/
def nautilusref08_Same.l0 : Nat → List (S31) → List (S31) → Int → Option (Bool)
  | 0, _, _, _ => none
  | k + 1, x0, x1, x5 => if x5 < (x0.length : Int) then (if 0 ≤ x5 then (if x5 < (x1.length : Int) then (if (!(((rd_T31 x0 x5).f0) == ((rd_T31 x1 x5).f0)) || (!(((rd_T31 x0 x5).f1) == ((rd_T31 x1 x5).f1)) || (!(((rd_T31 x0 x5).f2) == ((rd_T31 x1 x5).f2))))) = true then (some false) else (nautilusref08_Same.l0 k x0 x1 (wrap64 (x5 + 1)))) else (none)) else (none)) else (some true)
def nautilusref08_Same.f (k : Nat) (l0 : List (S31)) (l1 : List (S31)) : Option (Bool) := if (l0.length : Int) = (l1.length : Int) then (nautilusref08_Same.l0 k l0 l1 0) else (some false)
theorem nautilusref08_Same.mono_l : ∀ k, (∀ y0 y1 y2, LeO (nautilusref08_Same.l0 k y0 y1 y2) (nautilusref08_Same.l0 (k + 1) y0 y1 y2))
  | 0 => fun _ _ _ r h => by simp [nautilusref08_Same.l0] at h
  | k + 1 => by
    have ih0 := nautilusref08_Same.mono_l k
    · intro y0 y1 y2
      unfold nautilusref08_Same.l0
      repeat' first
      | (with_reducible exact ih0 _ _ _)
      | (with_reducible exact LeO.refl _)
      | (with_reducible exact LeO.none _)
      | (with_reducible refine LeO.ite ?_ ?_)
      | (with_reducible refine LeO.bind ?_ (fun _ => ?_))
      | exact ih0 _ _ _
      | exact LeO.none _
      | refine LeO.ite ?_ ?_
      | refine LeO.bind ?_ (fun _ => ?_)
theorem nautilusref08_Same.mono : ∀ a0 a1 k, LeO (nautilusref08_Same.f k a0 a1) (nautilusref08_Same.f (k + 1) a0 a1) := by
  intro a0 a1 k
  have ih0 := nautilusref08_Same.mono_l k
  unfold nautilusref08_Same.f
  repeat' first
      | (with_reducible exact ih0 _ _ _)
      | (with_reducible exact LeO.refl _)
      | (with_reducible exact LeO.none _)
      | (with_reducible refine LeO.ite ?_ ?_)
      | (with_reducible refine LeO.bind ?_ (fun _ => ?_))
      | exact ih0 _ _ _
      | exact LeO.none _
      | refine LeO.ite ?_ ?_
      | refine LeO.bind ?_ (fun _ => ?_)
set_option maxHeartbeats 8000000 in
set_option maxRecDepth 100000 in
theorem nautilusref08_Same.calls (k : Nat) (A0 : Option Addr) (c0 : Nat) (l0 : List (S31)) (A1 : Option Addr) (c1 : Nat) (l1 : List (S31)) (r : Bool) (w : World) (hr0 : Kd.C k31 w A0 l0.length l0) (hc0 : l0.length ≤ c0) (hr1 : Kd.C k31 w A1 l1.length l1) (hc1 : l1.length ≤ c1) (h : nautilusref08_Same.f k l0 l1 = some r) :
    Calls Try.prog 19 #[.slice A0 l0.length c0, .slice A1 l1.length c1] w fun e w' => e = .returned (.bool r) ∧ Drawn0 w w' := by
  have hu31 := Try.underlying31
  have HR0 := Aside0.mk hr0
  have HC0 := Aside0.mk hc0
  clear hr0 hc0
  have HR1 := Aside0.mk hr1
  have HC1 := Aside0.mk hc1
  clear hr1 hc1
  have H : (if (l0.length : Int) = (l1.length : Int) then (nautilusref08_Same.l0 k l0 l1 0) else (some false)) = some r := h
  clear h
  by_cases c3 : (l0.length : Int) = (l1.length : Int)
  · rw [if_pos c3] at H
    have c3b0 : ((l0.length : Int) == (l1.length : Int)) = true := beq_iff_eq.mpr c3
    have c3b1 : ((l0.length : Int) != (l1.length : Int)) = false := bne_eq_false_iff_eq.mpr c3
    have c3b2 : (l0.length == l1.length) = true := by first | simpa using c3 | (simp at c3 ⊢; omega)
    clear c3
    have H' := Aside0.mk H
    clear H
    go_enter Try.func19, Try.ntmps19
    go_wp2
    repeat (go_quiet (fail); try go_wp2)
    go_loopg [5] k (fun kq v5 w' => ∃ (x5_1 : Int), v5 = .int .i64 x5_1 ∧ Aside0 (nautilusref08_Same.l0 kq l0 l1 x5_1 = some r) ∧ Aside0 (kq ≤ k) ∧ Drawn0 w w')
    case atStart => exact ⟨(0), (by first | rfl | (simp; done) | (simp [*]; done)), H', ⟨Nat.le_refl _⟩, by repeat (first | exact Drawn0.refl _ | apply Drawn0.step)⟩
    case round =>
      clear H'
      try clear c1
      try clear p2
      try clear c3
      try clear c3b0
      try clear c3b1
      try clear c3b2
      obtain ⟨x5_1, rfl, HA, HK1, ⟨m1, rfl⟩⟩ := hrel
      cases gk with
      | zero => exact absurd HA.out (by simp [nautilusref08_Same.l0])
      | succ k1 =>
        have H := HA.out
        clear HA
        simp only [nautilusref08_Same.l0] at H
        by_cases c4 : x5_1 < (l0.length : Int)
        · rw [if_pos c4] at H
          have c4b0 : decide (x5_1 < (l0.length : Int)) = true := decide_eq_true c4
          clear c4
          by_cases c5 : 0 ≤ x5_1
          · rw [if_pos c5] at H
            have c5b0 : decide (0 ≤ x5_1) = true := decide_eq_true c5
            clear c5
            by_cases c6 : x5_1 < (l1.length : Int)
            · rw [if_pos c6] at H
              have c6b0 : decide (x5_1 < (l1.length : Int)) = true := decide_eq_true c6
              clear c6
              by_cases c7 : (!(((rd_T31 l0 x5_1).f0) == ((rd_T31 l1 x5_1).f0)) || (!(((rd_T31 l0 x5_1).f1) == ((rd_T31 l1 x5_1).f1)) || (!(((rd_T31 l0 x5_1).f2) == ((rd_T31 l1 x5_1).f2))))) = true
              · rw [if_pos c7] at H
                have c7b0 : (!(((rd_T31 l0 x5_1).f0) == ((rd_T31 l1 x5_1).f0)) || (!(((rd_T31 l0 x5_1).f1) == ((rd_T31 l1 x5_1).f1)) || (!(((rd_T31 l0 x5_1).f2) == ((rd_T31 l1 x5_1).f2))))) = true := c7
                clear c7
                obtain rfl := Option.some.inj H
                have p263 : 0 ≤ (x5_1 : Int) := of_decide_eq_true (by first | (with_reducible assumption) | assumption)
                have q263 : x5_1 < (l0.length : Int) := of_decide_eq_true (by first | (with_reducible assumption) | assumption)
                obtain ⟨ad263, e263, hx263_0, hx263_1, hx263_2⟩ := at_T31 HR0.out x5_1 p263 q263
                cases e263
                replace p263 := eq_true p263
                replace q263 := eq_true q263
                have p264 : 0 ≤ (x5_1 : Int) := of_decide_eq_true (by first | (with_reducible assumption) | assumption)
                have q264 : x5_1 < (l1.length : Int) := of_decide_eq_true (by first | (with_reducible assumption) | assumption)
                obtain ⟨ad264, e264, hx264_0, hx264_1, hx264_2⟩ := at_T31 HR1.out x5_1 p264 q264
                cases e264
                replace p264 := eq_true p264
                replace q264 := eq_true q264
                go_wp2
                repeat (go_quiet (fail); try go_wp2)
                go_ret
                exact ⟨by first | rfl | (simp; done) | (simp [*]; done), by repeat (first | exact Drawn0.refl _ | apply Drawn0.step)⟩
              · rw [if_neg c7] at H
                have c7b0 : (!(((rd_T31 l0 x5_1).f0) == ((rd_T31 l1 x5_1).f0)) || (!(((rd_T31 l0 x5_1).f1) == ((rd_T31 l1 x5_1).f1)) || (!(((rd_T31 l0 x5_1).f2) == ((rd_T31 l1 x5_1).f2))))) = false := by simpa using c7
                clear c7
                have H' := Aside0.mk H
                clear H
                have p263 : 0 ≤ (x5_1 : Int) := of_decide_eq_true (by first | (with_reducible assumption) | assumption)
                have q263 : x5_1 < (l0.length : Int) := of_decide_eq_true (by first | (with_reducible assumption) | assumption)
                obtain ⟨ad263, e263, hx263_0, hx263_1, hx263_2⟩ := at_T31 HR0.out x5_1 p263 q263
                cases e263
                replace p263 := eq_true p263
                replace q263 := eq_true q263
                have p264 : 0 ≤ (x5_1 : Int) := of_decide_eq_true (by first | (with_reducible assumption) | assumption)
                have q264 : x5_1 < (l1.length : Int) := of_decide_eq_true (by first | (with_reducible assumption) | assumption)
                obtain ⟨ad264, e264, hx264_0, hx264_1, hx264_2⟩ := at_T31 HR1.out x5_1 p264 q264
                cases e264
                replace p264 := eq_true p264
                replace q264 := eq_true q264
                go_wp2
                repeat (go_quiet (fail); try go_wp2)
                go_roundg k1
                case measure => have := HK1.out; omega
                case rel => exact ⟨(wrap64 (x5_1 + 1)), (by first | rfl | (simp; done) | (simp [*]; done)), H', ⟨by have := HK1.out; omega⟩, by repeat (first | exact Drawn0.refl _ | apply Drawn0.step)⟩
            · rw [if_neg c6] at H
              exact absurd H (by simp)
          · rw [if_neg c5] at H
            exact absurd H (by simp)
        · rw [if_neg c4] at H
          have c4b0 : decide (x5_1 < (l0.length : Int)) = false := decide_eq_false c4
          clear c4
          obtain rfl := Option.some.inj H
          go_wp2
          repeat (go_quiet (fail); try go_wp2)
          go_ret
          exact ⟨by first | rfl | (simp; done) | (simp [*]; done), by repeat (first | exact Drawn0.refl _ | apply Drawn0.step)⟩
  · rw [if_neg c3] at H
    have c3b0 : ((l0.length : Int) == (l1.length : Int)) = false := beq_eq_false_iff_ne.mpr c3
    have c3b1 : ((l0.length : Int) != (l1.length : Int)) = true := bne_iff_ne.mpr c3
    have c3b2 : (l0.length == l1.length) = false := by first | simpa using c3 | (simp at c3 ⊢; omega)
    obtain rfl := Option.some.inj H
    go_enter Try.func19, Try.ntmps19
    go_wp2
    repeat (go_quiet (fail); try go_wp2)
    go_ret
    exact ⟨by first | rfl | (simp; done) | (simp [*]; done), by repeat (first | exact Drawn0.refl _ | apply Drawn0.step)⟩

end Go.Proofs.Ytiajhfinkpddbaa.Q
