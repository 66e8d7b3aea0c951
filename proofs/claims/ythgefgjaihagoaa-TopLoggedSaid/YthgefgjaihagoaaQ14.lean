/- Functions of the translation as plain Lean functions, and that the translation computes them: printed by this session's driver of the print. -/
import Derived.Test.YthgefgjaihagoaaQ0
import Derived.Test.YthgefgjaihagoaaQ1
namespace Go.Proofs.Ythgefgjaihagoaa.Q
open Go.Proofs.Ythgefgjaihagoaa.H
open Go.RowKit Go.Proofs.YthgefgjaihagoaaW.PrintWords Go.Proofs.YthgefgjaihagoaaW.PrintLast Go.Proofs.YthgefgjaihagoaaW.PrintMore
attribute [local go_sem] max2_int min2_int max_two min_two max_three min_three max_four min_four   -- for this text's walks alone
set_option linter.unusedVariables false
set_option linter.unusedSimpArgs false

attribute [local go_sem high] eqA43
/-! ### record_isEntry: function 100 -/
def record_isEntry.j0 : Nat → Int → Bool → Int → Int → Int → Int → Option (Bool)
  | 0, _, _, _, _, _, _ => none
  | k + 1, x4, x5, x144000, x144001, x144002, x144003 => if x5 = true then (if x144001 > 0 then (some (decide (x144003 > 0))) else (some false)) else (if x4 = 3 then (some (x144001 == 0 && (x144003 == 0))) else (if x4 = 4 then (some (x144001 == 0 && (x144003 == 0))) else (if x4 = 5 then (some (x144001 == 0 && (x144003 == 0))) else (some false))))
def record_isEntry.f (k : Nat) (a0_0 : Int) (a0_1 : Int) (a0_2 : Int) (a0_3 : Int) : Option (Bool) := if a0_0 = 1 then (record_isEntry.j0 k a0_0 (a0_0 == 1) a0_0 a0_1 a0_2 a0_3) else (record_isEntry.j0 k a0_0 (a0_0 == 2) a0_0 a0_1 a0_2 a0_3)
theorem record_isEntry.mono_l : ∀ k, (∀ y0 y1 y2 y3 y4 y5, LeO (record_isEntry.j0 k y0 y1 y2 y3 y4 y5) (record_isEntry.j0 (k + 1) y0 y1 y2 y3 y4 y5))
  | 0 => fun _ _ _ _ _ _ r h => by simp [record_isEntry.j0] at h
  | k + 1 => by
    have ih0 := record_isEntry.mono_l k
    · intro y0 y1 y2 y3 y4 y5
      unfold record_isEntry.j0
      repeat' first
      | (with_reducible exact ih0 _ _ _ _ _ _)
      | (with_reducible exact LeO.refl _)
      | (with_reducible exact LeO.none _)
      | (with_reducible refine LeO.ite ?_ ?_)
      | (with_reducible refine LeO.bind ?_ (fun _ => ?_))
      | exact ih0 _ _ _ _ _ _
      | exact LeO.none _
      | refine LeO.ite ?_ ?_
      | refine LeO.bind ?_ (fun _ => ?_)
theorem record_isEntry.mono : ∀ a0 a1 a2 a3 k, LeO (record_isEntry.f k a0 a1 a2 a3) (record_isEntry.f (k + 1) a0 a1 a2 a3) := by
  intro a0 a1 a2 a3 k
  have ih0 := record_isEntry.mono_l k
  unfold record_isEntry.f
  repeat' first
      | (with_reducible exact ih0 _ _ _ _ _ _)
      | (with_reducible exact LeO.refl _)
      | (with_reducible exact LeO.none _)
      | (with_reducible refine LeO.ite ?_ ?_)
      | (with_reducible refine LeO.bind ?_ (fun _ => ?_))
      | exact ih0 _ _ _ _ _ _
      | exact LeO.none _
      | refine LeO.ite ?_ ?_
      | refine LeO.bind ?_ (fun _ => ?_)
set_option maxHeartbeats 8000000 in
set_option maxRecDepth 100000 in
theorem record_isEntry.calls (k : Nat) (a0_0 : Int) (a0_1 : Int) (a0_2 : Int) (a0_3 : Int) (r : Bool) (w : World) (h : record_isEntry.f k a0_0 a0_1 a0_2 a0_3 = some r) :
    Calls Try.prog 100 #[.agg #[.int .i64 a0_0, .int .u32 a0_1, .int .u32 a0_2, .int .u32 a0_3]] w fun e w' => e = .returned (.bool r) ∧ Below w.heap.size w w' := by
  have hu43 := Try.underlying43
  have HB := Aside0.mk (Below.refl w.heap.size w)
  have H : (if a0_0 = 1 then (record_isEntry.j0 k a0_0 (a0_0 == 1) a0_0 a0_1 a0_2 a0_3) else (record_isEntry.j0 k a0_0 (a0_0 == 2) a0_0 a0_1 a0_2 a0_3)) = some r := h
  clear h
  have HC2 := Aside0.mk H
  clear H
  go_enter Try.func100, Try.ntmps100
  go_upto_if 5 with (first | ((with_reducible refine gate_dst (N := 1) rfl ?_); refine box_event ?hg (N := 1) ?hd (cs := #[.int .i64 a0_0, .int .u32 a0_1, .int .u32 a0_2, .int .u32 a0_3]) (t := 43) ?hr ?_; (case hd => rfl); (case hg => rfl); (case hr => first | (go_simp; done) | (go_simp; rfl)); intro gb143 hg w3 hbox hb; have n0_ := Aside0.mk (below_step (by repeat (first | (with_reducible first | exact HB.out | apply below_alloc | apply pw_below_drewN | apply below_drew1) | exact HB.out)) hb); have n1_ := Aside0.mk (hbox); have n2_ := Aside0.mk ((by rw [hg]; exact (below_size (by repeat (first | (with_reducible first | exact HB.out | apply below_alloc | apply pw_below_drewN | apply below_drew1) | exact HB.out))) : w.heap.size ≤ gb143)); have n3_ := Aside0.mk ((by rw [hg]; exact (below_size (by repeat (first | (with_reducible first | exact HB.out | apply below_alloc | apply pw_below_drewN | apply below_drew1) | exact HB.out))) : w.heap.size ≤ gb143)); clear HB; have HB := n0_; have BK143 := n1_; have GW143 := n2_; have GE143 := n3_; clear n0_ n1_ n2_ n3_; clear hb hbox hg; have hcz4_0 : w3.cell? ⟨gb143, 0, none⟩ = some (.int .i64 a0_0) := (blk_cell BK143.out 0).trans rfl; have hcz4_1 : w3.cell? ⟨gb143, 1, none⟩ = some (.int .u32 a0_1) := (blk_cell BK143.out 1).trans rfl; have hcz4_2 : w3.cell? ⟨gb143, 2, none⟩ = some (.int .u32 a0_2) := (blk_cell BK143.out 2).trans rfl; have hcz4_3 : w3.cell? ⟨gb143, 3, none⟩ = some (.int .u32 a0_3) := (blk_cell BK143.out 3).trans rfl; have hfz4_0 := blk_frozen BK143.out 0; have hfz4_1 := blk_frozen BK143.out 1; have hfz4_2 := blk_frozen BK143.out 2; have hfz4_3 := blk_frozen BK143.out 3))
  (try simp only [Act.put, List.setIfInBounds_toArray, List.set_cons_zero, List.set_cons_succ])
  go_cut [5] (fun v5 wc => ∃ (kq : Nat) (x5_1 : Bool), v5 = .bool x5_1 ∧ Aside0 (record_isEntry.j0 kq a0_0 x5_1 a0_0 a0_1 a0_2 a0_3 = some r) ∧ Aside0 (kq ≤ k) ∧ Aside0 (wc.heap[gb143]? = some (.cells #[.int .i64 a0_0, .int .u32 a0_1, .int .u32 a0_2, .int .u32 a0_3] 43 (0, 0))) ∧ Aside0 (Below w.heap.size w wc))
  case first =>
    have H := HC2.out
    clear HC2
    by_cases c5 : a0_0 = 1
    · rw [if_pos c5] at H
      have c5b0 : (a0_0 == 1) = true := beq_iff_eq.mpr c5
      have c5b1 : (a0_0 != 1) = false := bne_eq_false_iff_eq.mpr c5
      clear c5
      (first | rw [c5b0] | (simp only [i64_w, i32_w]; rw [c5b0]) | skip)
      have H' := Aside0.mk H
      clear H
      go_wp2
      go_meet
      case rel => exact ⟨_, ((a0_0 == 1)), (by first | rfl | (simp; done) | (simp [*]; done)), H', ⟨by first | omega | exact Nat.le_refl _⟩, ⟨by (with_reducible repeat (first | refine blk_drewN ?_ _ | refine blk_drew ?_ | refine blk_alloc ?_ _)); exact BK143.out⟩, ⟨by repeat (first | (with_reducible first | exact HB.out | apply below_alloc | apply pw_below_drewN | apply below_drew1 | refine below_set ?_ GE143.out) | exact HB.out)⟩⟩
    · rw [if_neg c5] at H
      have c5b0 : (a0_0 == 1) = false := beq_eq_false_iff_ne.mpr c5
      have c5b1 : (a0_0 != 1) = true := bne_iff_ne.mpr c5
      (first | rw [c5b0] | (simp only [i64_w, i32_w]; rw [c5b0]) | skip)
      have H' := Aside0.mk H
      clear H
      go_wp2
      go_meet
      case rel => exact ⟨_, ((a0_0 == 2)), (by first | rfl | (simp; done) | (simp [*]; done)), H', ⟨by first | omega | exact Nat.le_refl _⟩, ⟨by (with_reducible repeat (first | refine blk_drewN ?_ _ | refine blk_drew ?_ | refine blk_alloc ?_ _)); exact BK143.out⟩, ⟨by repeat (first | (with_reducible first | exact HB.out | apply below_alloc | apply pw_below_drewN | apply below_drew1 | refine below_set ?_ GE143.out) | exact HB.out)⟩⟩
  case rest =>
    clear HC2
    try clear c1
    try clear p2
    try clear c5
    try clear c5b0
    try clear c5b1
    try clear hcz4_0
    try clear hcz4_1
    try clear hcz4_2
    try clear hcz4_3
    try clear hfz4_0
    try clear hfz4_1
    try clear hfz4_2
    try clear hfz4_3
    obtain ⟨kq, x5_1, rfl, HA, HJ1, BK143, HB⟩ := hcut
    cases kq with
    | zero => exact absurd HA.out (by simp [record_isEntry.j0])
    | succ kj1 =>
      have H := HA.out
      clear HA
      simp only [record_isEntry.j0] at H
      by_cases c6 : x5_1 = true
      · subst c6
        have H1 : (if a0_1 > 0 then (some (decide (a0_3 > 0))) else (some false)) = some r := by rw [if_pos rfl] at H; exact H
        clear H
        have H := H1
        clear H1
        by_cases c7 : a0_1 > 0
        · rw [if_pos c7] at H
          have c7b0 : decide (0 < a0_1) = true := decide_eq_true c7
          clear c7
          obtain rfl := Option.some.inj H
          have hcz8_0 : wc.cell? ⟨gb143, 0, none⟩ = some (.int .i64 a0_0) := (blk_cell BK143.out 0).trans rfl
          have hcz8_1 : wc.cell? ⟨gb143, 1, none⟩ = some (.int .u32 a0_1) := (blk_cell BK143.out 1).trans rfl
          have hcz8_2 : wc.cell? ⟨gb143, 2, none⟩ = some (.int .u32 a0_2) := (blk_cell BK143.out 2).trans rfl
          have hcz8_3 : wc.cell? ⟨gb143, 3, none⟩ = some (.int .u32 a0_3) := (blk_cell BK143.out 3).trans rfl
          have hfz8_0 := blk_frozen BK143.out 0
          have hfz8_1 := blk_frozen BK143.out 1
          have hfz8_2 := blk_frozen BK143.out 2
          have hfz8_3 := blk_frozen BK143.out 3
          go_wp2
          go_ret
          exact ⟨by first | rfl | (simp [errW_none, errW_some] <;> rfl) | (simp [*, errW_none, errW_some] <;> rfl) | (simp [show IntKind.u64.wrap 0 = 0 from rfl, Int.zero_tdiv]; done), by repeat (first | (with_reducible first | exact HB.out | apply below_alloc | apply pw_below_drewN | apply below_drew1 | refine below_set ?_ GE143.out) | exact HB.out)⟩
        · rw [if_neg c7] at H
          have c7b0 : decide (0 < a0_1) = false := decide_eq_false c7
          clear c7
          obtain rfl := Option.some.inj H
          have hcz9_0 : wc.cell? ⟨gb143, 0, none⟩ = some (.int .i64 a0_0) := (blk_cell BK143.out 0).trans rfl
          have hcz9_1 : wc.cell? ⟨gb143, 1, none⟩ = some (.int .u32 a0_1) := (blk_cell BK143.out 1).trans rfl
          have hcz9_2 : wc.cell? ⟨gb143, 2, none⟩ = some (.int .u32 a0_2) := (blk_cell BK143.out 2).trans rfl
          have hcz9_3 : wc.cell? ⟨gb143, 3, none⟩ = some (.int .u32 a0_3) := (blk_cell BK143.out 3).trans rfl
          have hfz9_0 := blk_frozen BK143.out 0
          have hfz9_1 := blk_frozen BK143.out 1
          have hfz9_2 := blk_frozen BK143.out 2
          have hfz9_3 := blk_frozen BK143.out 3
          go_wp2
          go_ret
          exact ⟨by first | rfl | (simp [errW_none, errW_some] <;> rfl) | (simp [*, errW_none, errW_some] <;> rfl) | (simp [show IntKind.u64.wrap 0 = 0 from rfl, Int.zero_tdiv]; done), by repeat (first | (with_reducible first | exact HB.out | apply below_alloc | apply pw_below_drewN | apply below_drew1 | refine below_set ?_ GE143.out) | exact HB.out)⟩
      · replace c6 := Bool.eq_false_iff.mpr c6
        subst c6
        have H1 : (if a0_0 = 3 then (some (a0_1 == 0 && (a0_3 == 0))) else (if a0_0 = 4 then (some (a0_1 == 0 && (a0_3 == 0))) else (if a0_0 = 5 then (some (a0_1 == 0 && (a0_3 == 0))) else (some false)))) = some r := by rw [if_neg (show ¬ (false = true) by decide)] at H; exact H
        clear H
        have H := H1
        clear H1
        by_cases c10 : a0_0 = 3
        · rw [if_pos c10] at H
          have c10b0 : (a0_0 == 3) = true := beq_iff_eq.mpr c10
          have c10b1 : (a0_0 != 3) = false := bne_eq_false_iff_eq.mpr c10
          clear c10
          obtain rfl := Option.some.inj H
          have hcz11_0 : wc.cell? ⟨gb143, 0, none⟩ = some (.int .i64 a0_0) := (blk_cell BK143.out 0).trans rfl
          have hcz11_1 : wc.cell? ⟨gb143, 1, none⟩ = some (.int .u32 a0_1) := (blk_cell BK143.out 1).trans rfl
          have hcz11_2 : wc.cell? ⟨gb143, 2, none⟩ = some (.int .u32 a0_2) := (blk_cell BK143.out 2).trans rfl
          have hcz11_3 : wc.cell? ⟨gb143, 3, none⟩ = some (.int .u32 a0_3) := (blk_cell BK143.out 3).trans rfl
          have hfz11_0 := blk_frozen BK143.out 0
          have hfz11_1 := blk_frozen BK143.out 1
          have hfz11_2 := blk_frozen BK143.out 2
          have hfz11_3 := blk_frozen BK143.out 3
          go_wp2
          go_ret
          exact ⟨by first | rfl | (simp [errW_none, errW_some] <;> rfl) | (simp [*, errW_none, errW_some] <;> rfl) | (simp [show IntKind.u64.wrap 0 = 0 from rfl, Int.zero_tdiv]; done), by repeat (first | (with_reducible first | exact HB.out | apply below_alloc | apply pw_below_drewN | apply below_drew1 | refine below_set ?_ GE143.out) | exact HB.out)⟩
        · rw [if_neg c10] at H
          have c10b0 : (a0_0 == 3) = false := beq_eq_false_iff_ne.mpr c10
          have c10b1 : (a0_0 != 3) = true := bne_iff_ne.mpr c10
          by_cases c12 : a0_0 = 4
          · rw [if_pos c12] at H
            have c12b0 : (a0_0 == 4) = true := beq_iff_eq.mpr c12
            have c12b1 : (a0_0 != 4) = false := bne_eq_false_iff_eq.mpr c12
            clear c12
            obtain rfl := Option.some.inj H
            have hcz13_0 : wc.cell? ⟨gb143, 0, none⟩ = some (.int .i64 a0_0) := (blk_cell BK143.out 0).trans rfl
            have hcz13_1 : wc.cell? ⟨gb143, 1, none⟩ = some (.int .u32 a0_1) := (blk_cell BK143.out 1).trans rfl
            have hcz13_2 : wc.cell? ⟨gb143, 2, none⟩ = some (.int .u32 a0_2) := (blk_cell BK143.out 2).trans rfl
            have hcz13_3 : wc.cell? ⟨gb143, 3, none⟩ = some (.int .u32 a0_3) := (blk_cell BK143.out 3).trans rfl
            have hfz13_0 := blk_frozen BK143.out 0
            have hfz13_1 := blk_frozen BK143.out 1
            have hfz13_2 := blk_frozen BK143.out 2
            have hfz13_3 := blk_frozen BK143.out 3
            go_wp2
            go_ret
            exact ⟨by first | rfl | (simp [errW_none, errW_some] <;> rfl) | (simp [*, errW_none, errW_some] <;> rfl) | (simp [show IntKind.u64.wrap 0 = 0 from rfl, Int.zero_tdiv]; done), by repeat (first | (with_reducible first | exact HB.out | apply below_alloc | apply pw_below_drewN | apply below_drew1 | refine below_set ?_ GE143.out) | exact HB.out)⟩
          · rw [if_neg c12] at H
            have c12b0 : (a0_0 == 4) = false := beq_eq_false_iff_ne.mpr c12
            have c12b1 : (a0_0 != 4) = true := bne_iff_ne.mpr c12
            by_cases c14 : a0_0 = 5
            · rw [if_pos c14] at H
              have c14b0 : (a0_0 == 5) = true := beq_iff_eq.mpr c14
              have c14b1 : (a0_0 != 5) = false := bne_eq_false_iff_eq.mpr c14
              clear c14
              obtain rfl := Option.some.inj H
              have hcz15_0 : wc.cell? ⟨gb143, 0, none⟩ = some (.int .i64 a0_0) := (blk_cell BK143.out 0).trans rfl
              have hcz15_1 : wc.cell? ⟨gb143, 1, none⟩ = some (.int .u32 a0_1) := (blk_cell BK143.out 1).trans rfl
              have hcz15_2 : wc.cell? ⟨gb143, 2, none⟩ = some (.int .u32 a0_2) := (blk_cell BK143.out 2).trans rfl
              have hcz15_3 : wc.cell? ⟨gb143, 3, none⟩ = some (.int .u32 a0_3) := (blk_cell BK143.out 3).trans rfl
              have hfz15_0 := blk_frozen BK143.out 0
              have hfz15_1 := blk_frozen BK143.out 1
              have hfz15_2 := blk_frozen BK143.out 2
              have hfz15_3 := blk_frozen BK143.out 3
              go_wp2
              go_ret
              exact ⟨by first | rfl | (simp [errW_none, errW_some] <;> rfl) | (simp [*, errW_none, errW_some] <;> rfl) | (simp [show IntKind.u64.wrap 0 = 0 from rfl, Int.zero_tdiv]; done), by repeat (first | (with_reducible first | exact HB.out | apply below_alloc | apply pw_below_drewN | apply below_drew1 | refine below_set ?_ GE143.out) | exact HB.out)⟩
            · rw [if_neg c14] at H
              have c14b0 : (a0_0 == 5) = false := beq_eq_false_iff_ne.mpr c14
              have c14b1 : (a0_0 != 5) = true := bne_iff_ne.mpr c14
              obtain rfl := Option.some.inj H
              go_wp2
              go_ret
              exact ⟨by first | rfl | (simp [errW_none, errW_some] <;> rfl) | (simp [*, errW_none, errW_some] <;> rfl) | (simp [show IntKind.u64.wrap 0 = 0 from rfl, Int.zero_tdiv]; done), by repeat (first | (with_reducible first | exact HB.out | apply below_alloc | apply pw_below_drewN | apply below_drew1 | refine below_set ?_ GE143.out) | exact HB.out)⟩

end Go.Proofs.Ythgefgjaihagoaa.Q
