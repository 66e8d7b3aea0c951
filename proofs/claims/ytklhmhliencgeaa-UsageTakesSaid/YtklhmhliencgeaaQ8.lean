/- Functions of the translation as plain Lean functions, and that the translation computes them: printed by this session's driver of the print. -/
import Derived.Test.YtklhmhliencgeaaQ0
import Derived.Test.YtklhmhliencgeaaHFuncs
namespace Go.Proofs.Ytklhmhliencgeaa.Q
open Go.Proofs.Ytklhmhliencgeaa.H
open Go.RowKit Go.Proofs.YtklhmhliencgeaaW.PrintWords Go.Proofs.YtklhmhliencgeaaW.PrintLast Go.Proofs.YtklhmhliencgeaaW.PrintMore
attribute [local go_sem] max2_int min2_int max_two min_two max_three min_three max_four min_four   -- for this text's walks alone
set_option linter.unusedVariables false
set_option linter.unusedSimpArgs false

/-! ### usage_CleanOnes: function 15 -/
def usage_CleanOnes.l0 : Nat → Int → List (S30) → Int → Int → Option (Int)
  | 0, _, _, _, _ => none
  | k + 1, x3, x6, x7, x8 => if x8 < x7 then (if 0 ≤ x8 then (if x8 < (x6.length : Int) then (if ((rd_T30 x6 x8).f2) = 0 then (usage_CleanOnes.l0 k (wrap64 (x3 + 1)) x6 x7 (wrap64 (x8 + 1))) else (usage_CleanOnes.l0 k x3 x6 x7 (wrap64 (x8 + 1)))) else (none)) else (none)) else (some x3)
def usage_CleanOnes.f (k : Nat) (l0 : List (S30)) : Option (Int) := usage_CleanOnes.l0 k 0 l0 (l0.length : Int) 0
theorem usage_CleanOnes.mono_l : ∀ k, (∀ y0 y1 y2 y3, LeO (usage_CleanOnes.l0 k y0 y1 y2 y3) (usage_CleanOnes.l0 (k + 1) y0 y1 y2 y3))
  | 0 => fun _ _ _ _ r h => by simp [usage_CleanOnes.l0] at h
  | k + 1 => by
    have ih0 := usage_CleanOnes.mono_l k
    · intro y0 y1 y2 y3
      unfold usage_CleanOnes.l0
      repeat' first
      | (with_reducible exact ih0 _ _ _ _)
      | (with_reducible exact LeO.refl _)
      | (with_reducible exact LeO.none _)
      | (with_reducible refine LeO.ite ?_ ?_)
      | (with_reducible refine LeO.bind ?_ (fun _ => ?_))
      | exact ih0 _ _ _ _
      | exact LeO.none _
      | refine LeO.ite ?_ ?_
      | refine LeO.bind ?_ (fun _ => ?_)
theorem usage_CleanOnes.mono : ∀ a0 k, LeO (usage_CleanOnes.f k a0) (usage_CleanOnes.f (k + 1) a0) := by
  intro a0 k
  have ih0 := usage_CleanOnes.mono_l k
  unfold usage_CleanOnes.f
  repeat' first
      | (with_reducible exact ih0 _ _ _ _)
      | (with_reducible exact LeO.refl _)
      | (with_reducible exact LeO.none _)
      | (with_reducible refine LeO.ite ?_ ?_)
      | (with_reducible refine LeO.bind ?_ (fun _ => ?_))
      | exact ih0 _ _ _ _
      | exact LeO.none _
      | refine LeO.ite ?_ ?_
      | refine LeO.bind ?_ (fun _ => ?_)
set_option maxHeartbeats 8000000 in
set_option maxRecDepth 100000 in
theorem usage_CleanOnes.calls (k : Nat) (A0 : Option Addr) (c0 : Nat) (l0 : List (S30)) (r : Int) (w : World) (hr0 : Kd.C k30 w A0 l0.length l0) (hc0 : l0.length ≤ c0) (h : usage_CleanOnes.f k l0 = some r) :
    Calls Try.prog 15 #[.slice A0 l0.length c0] w fun e w' => e = .returned (.int .i64 r) ∧ Below w.heap.size w w' := by
  have hu30 := Try.underlying30
  have HR0 := Aside0.mk hr0
  have HC0 := Aside0.mk hc0
  clear hr0 hc0
  have HB := Aside0.mk (Below.refl w.heap.size w)
  have H : (usage_CleanOnes.l0 k 0 l0 (l0.length : Int) 0) = some r := h
  clear h
  have H' := Aside0.mk H
  clear H
  go_enter Try.func15, Try.ntmps15
  go_wp2
  go_loopg [3, 8] k (fun kq v3 v8 w' => ∃ (x3_1 : Int) (x8_1 : Int), v3 = .int .i64 x3_1 ∧ v8 = .int .i64 x8_1 ∧ Aside0 (usage_CleanOnes.l0 kq x3_1 l0 (l0.length : Int) x8_1 = some r) ∧ Aside0 (kq ≤ k) ∧ Aside0 (Below w.heap.size w w'))
  case atStart => exact ⟨(0), (0), (by first | rfl | (simp; done) | (simp [*]; done)), (by first | rfl | (simp; done) | (simp [*]; done)), H', ⟨Nat.le_refl _⟩, ⟨by repeat (first | (with_reducible first | exact HB.out | apply below_alloc | apply pw_below_drewN | apply below_drew1) | exact HB.out)⟩⟩
  case round =>
    clear H'
    try clear c1
    obtain ⟨x3_1, x8_1, rfl, rfl, HA, HK1, HB⟩ := hrel
    cases gk with
    | zero => exact absurd HA.out (by simp [usage_CleanOnes.l0])
    | succ k1 =>
      have H := HA.out
      clear HA
      simp only [usage_CleanOnes.l0] at H
      by_cases c2 : x8_1 < (l0.length : Int)
      · rw [if_pos c2] at H
        have c2b0 : decide (x8_1 < (l0.length : Int)) = true := decide_eq_true c2
        clear c2
        by_cases c3 : 0 ≤ x8_1
        · rw [if_pos c3] at H
          have c3b0 : decide (0 ≤ x8_1) = true := decide_eq_true c3
          clear c3
          by_cases c4 : x8_1 < (l0.length : Int)
          · rw [if_pos c4] at H
            have c4b0 : decide (x8_1 < (l0.length : Int)) = true := decide_eq_true c4
            clear c4
            by_cases c5 : ((rd_T30 l0 x8_1).f2) = 0
            · rw [if_pos c5] at H
              have c5b0 : (((rd_T30 l0 x8_1).f2) == 0) = true := beq_iff_eq.mpr c5
              have c5b1 : (((rd_T30 l0 x8_1).f2) != 0) = false := bne_eq_false_iff_eq.mpr c5
              clear c5
              have H' := Aside0.mk H
              clear H
              have p110 : 0 ≤ (x8_1 : Int) := of_decide_eq_true (by first | (with_reducible assumption) | assumption)
              have q110 : x8_1 < (l0.length : Int) := of_decide_eq_true (by first | (with_reducible assumption) | assumption)
              obtain ⟨ad110, e110, hx110_0, hx110_1, hx110_2⟩ := at_T30 HR0.out x8_1 p110 q110
              cases e110
              replace hx110_0 := (HB.out.cell (World.block_lt_of_cell? w _ hx110_0)).trans hx110_0
              replace hx110_1 := (HB.out.cell (World.block_lt_of_cell? w _ hx110_1)).trans hx110_1
              replace hx110_2 := (HB.out.cell (World.block_lt_of_cell? w _ hx110_2)).trans hx110_2
              replace p110 := eq_true p110
              replace q110 := eq_true q110
              go_wp2_with (first | ((with_reducible refine gate_dst (N := 5) rfl ?_); refine box_event ?hg (N := 5) ?hd (cs := #[.int .i64 0, .int .u64 0, .int .i64 0]) (t := 30) ?hr ?_; (case hd => rfl); (case hg => rfl); (case hr => first | (go_simp; done) | (go_simp; rfl)); intro gb111 hg w6 hbox hb; have n0_ := Aside0.mk (below_step (by repeat (first | (with_reducible first | exact HB.out | apply below_alloc | apply pw_below_drewN | apply below_drew1) | exact HB.out)) hb); have n1_ := Aside0.mk (hbox); have n2_ := Aside0.mk ((by rw [hg]; exact (below_size (by repeat (first | (with_reducible first | exact HB.out | apply below_alloc | apply pw_below_drewN | apply below_drew1) | exact HB.out))) : w.heap.size ≤ gb111)); have n3_ := Aside0.mk ((by rw [hg]; exact (below_size (by repeat (first | (with_reducible first | exact HB.out | apply below_alloc | apply pw_below_drewN | apply below_drew1) | exact HB.out))) : w.heap.size ≤ gb111)); clear HB; have HB := n0_; have BK111 := n1_; have GW111 := n2_; have GE111 := n3_; clear n0_ n1_ n2_ n3_; clear hb hbox hg; have hcz7_0 : w6.cell? ⟨gb111, 0, none⟩ = some (.int .i64 0) := (blk_cell BK111.out 0).trans rfl; have hcz7_1 : w6.cell? ⟨gb111, 1, none⟩ = some (.int .u64 0) := (blk_cell BK111.out 1).trans rfl; have hcz7_2 : w6.cell? ⟨gb111, 2, none⟩ = some (.int .i64 0) := (blk_cell BK111.out 2).trans rfl; have hfz7_0 := blk_frozen BK111.out 0; have hfz7_1 := blk_frozen BK111.out 1; have hfz7_2 := blk_frozen BK111.out 2))
              go_roundg k1
              case measure => have := HK1.out; omega
              case rel => exact ⟨(wrap64 (x3_1 + 1)), (wrap64 (x8_1 + 1)), (by first | rfl | (simp; done) | (simp [*]; done)), (by first | rfl | (simp; done) | (simp [*]; done)), H', ⟨by have := HK1.out; omega⟩, ⟨by repeat (first | (with_reducible first | exact HB.out | apply below_alloc | apply pw_below_drewN | apply below_drew1 | refine below_set ?_ GE111.out) | exact HB.out)⟩⟩
            · rw [if_neg c5] at H
              have c5b0 : (((rd_T30 l0 x8_1).f2) == 0) = false := beq_eq_false_iff_ne.mpr c5
              have c5b1 : (((rd_T30 l0 x8_1).f2) != 0) = true := bne_iff_ne.mpr c5
              have H' := Aside0.mk H
              clear H
              have p110 : 0 ≤ (x8_1 : Int) := of_decide_eq_true (by first | (with_reducible assumption) | assumption)
              have q110 : x8_1 < (l0.length : Int) := of_decide_eq_true (by first | (with_reducible assumption) | assumption)
              obtain ⟨ad110, e110, hx110_0, hx110_1, hx110_2⟩ := at_T30 HR0.out x8_1 p110 q110
              cases e110
              replace hx110_0 := (HB.out.cell (World.block_lt_of_cell? w _ hx110_0)).trans hx110_0
              replace hx110_1 := (HB.out.cell (World.block_lt_of_cell? w _ hx110_1)).trans hx110_1
              replace hx110_2 := (HB.out.cell (World.block_lt_of_cell? w _ hx110_2)).trans hx110_2
              replace p110 := eq_true p110
              replace q110 := eq_true q110
              go_wp2_with (first | ((with_reducible refine gate_dst (N := 5) rfl ?_); refine box_event ?hg (N := 5) ?hd (cs := #[.int .i64 0, .int .u64 0, .int .i64 0]) (t := 30) ?hr ?_; (case hd => rfl); (case hg => rfl); (case hr => first | (go_simp; done) | (go_simp; rfl)); intro gb111 hg w8 hbox hb; have n0_ := Aside0.mk (below_step (by repeat (first | (with_reducible first | exact HB.out | apply below_alloc | apply pw_below_drewN | apply below_drew1) | exact HB.out)) hb); have n1_ := Aside0.mk (hbox); have n2_ := Aside0.mk ((by rw [hg]; exact (below_size (by repeat (first | (with_reducible first | exact HB.out | apply below_alloc | apply pw_below_drewN | apply below_drew1) | exact HB.out))) : w.heap.size ≤ gb111)); have n3_ := Aside0.mk ((by rw [hg]; exact (below_size (by repeat (first | (with_reducible first | exact HB.out | apply below_alloc | apply pw_below_drewN | apply below_drew1) | exact HB.out))) : w.heap.size ≤ gb111)); clear HB; have HB := n0_; have BK111 := n1_; have GW111 := n2_; have GE111 := n3_; clear n0_ n1_ n2_ n3_; clear hb hbox hg; have hcz9_0 : w8.cell? ⟨gb111, 0, none⟩ = some (.int .i64 0) := (blk_cell BK111.out 0).trans rfl; have hcz9_1 : w8.cell? ⟨gb111, 1, none⟩ = some (.int .u64 0) := (blk_cell BK111.out 1).trans rfl; have hcz9_2 : w8.cell? ⟨gb111, 2, none⟩ = some (.int .i64 0) := (blk_cell BK111.out 2).trans rfl; have hfz9_0 := blk_frozen BK111.out 0; have hfz9_1 := blk_frozen BK111.out 1; have hfz9_2 := blk_frozen BK111.out 2))
              go_roundg k1
              case measure => have := HK1.out; omega
              case rel => exact ⟨(x3_1), (wrap64 (x8_1 + 1)), (by first | rfl | (simp; done) | (simp [*]; done)), (by first | rfl | (simp; done) | (simp [*]; done)), H', ⟨by have := HK1.out; omega⟩, ⟨by repeat (first | (with_reducible first | exact HB.out | apply below_alloc | apply pw_below_drewN | apply below_drew1 | refine below_set ?_ GE111.out) | exact HB.out)⟩⟩
          · rw [if_neg c4] at H
            exact absurd H (by simp)
        · rw [if_neg c3] at H
          exact absurd H (by simp)
      · rw [if_neg c2] at H
        have c2b0 : decide (x8_1 < (l0.length : Int)) = false := decide_eq_false c2
        clear c2
        obtain rfl := Option.some.inj H
        go_wp2
        go_ret
        exact ⟨by first | rfl | (simp [errW_none, errW_some] <;> rfl) | (simp [*, errW_none, errW_some] <;> rfl) | (simp [show IntKind.u64.wrap 0 = 0 from rfl, Int.zero_tdiv]; done), by repeat (first | (with_reducible first | exact HB.out | apply below_alloc | apply pw_below_drewN | apply below_drew1) | exact HB.out)⟩

/-! ### usage_Next: function 16 -/
def usage_Next.j0 : Nat → List (S30) → Int → Bool → Option (Int × Bool)
  | 0, _, _, _ => none
  | k + 1, x0, x1, x16 => if x16 = true then (some (0, false)) else (if 0 ≤ (wrap64 (x1 + 1)) then (if (wrap64 (x1 + 1)) ≤ (x0.length : Int) then ((api_Seg_29.f (x0.drop ((wrap64 (x1 + 1)) : Int).toNat) 28).bind fun t116 => (if t116 ≥ 0 then (some (wrap64 ((wrap64 (x1 + 1)) + t116), true)) else ((api_Seg_29.f (x0.take ((wrap64 (x1 + 1)) : Int).toNat) 28).bind fun t121 => (some (mx t121 0, decide (t121 ≥ 0)))))) else (none)) else (none))
def usage_Next.f (k : Nat) (l0 : List (S30)) (a1 : Int) : Option (Int × Bool) := if a1 < 0 then (usage_Next.j0 k l0 a1 true) else (usage_Next.j0 k l0 a1 (decide (a1 ≥ (l0.length : Int))))
theorem usage_Next.mono_l : ∀ k, (∀ y0 y1 y2, LeO (usage_Next.j0 k y0 y1 y2) (usage_Next.j0 (k + 1) y0 y1 y2))
  | 0 => fun _ _ _ r h => by simp [usage_Next.j0] at h
  | k + 1 => by
    have ih0 := usage_Next.mono_l k
    · intro y0 y1 y2
      unfold usage_Next.j0
      repeat' first
      | (with_reducible exact ih0 _ _ _)
      | (with_reducible exact LeO.refl _)
      | (with_reducible exact LeO.none _)
      | (with_reducible refine LeO.ite ?_ ?_)
      | (with_reducible refine LeO.bind ?_ (fun _ => ?_))
      | exact ih0 _ _ _
      | exact LeO.none _
      | refine LeO.ite ?_ ?_
      | refine LeO.bind ?_ (fun _ => ?_)
theorem usage_Next.mono : ∀ a0 a1 k, LeO (usage_Next.f k a0 a1) (usage_Next.f (k + 1) a0 a1) := by
  intro a0 a1 k
  have ih0 := usage_Next.mono_l k
  unfold usage_Next.f
  repeat' first
      | (with_reducible exact ih0 _ _ _)
      | (with_reducible exact LeO.refl _)
      | (with_reducible exact LeO.none _)
      | (with_reducible refine LeO.ite ?_ ?_)
      | (with_reducible refine LeO.bind ?_ (fun _ => ?_))
      | exact ih0 _ _ _
      | exact LeO.none _
      | refine LeO.ite ?_ ?_
      | refine LeO.bind ?_ (fun _ => ?_)
set_option maxHeartbeats 8000000 in
set_option maxRecDepth 100000 in
theorem usage_Next.calls (k : Nat) (A0 : Option Addr) (c0 : Nat) (l0 : List (S30)) (a1 : Int) (r1 : Int) (r2 : Bool) (w : World) (hr0 : Kd.C k30 w A0 l0.length l0) (hc0 : l0.length ≤ c0) (h : usage_Next.f k l0 a1 = some (r1, r2)) :
    Calls Try.prog 16 #[.slice A0 l0.length c0, .int .i64 a1] w fun e w' => e = .returned (.tuple #[.int .i64 r1, .bool r2]) ∧ Below w.heap.size w w' := by
  have HR0 := Aside0.mk hr0
  have HC0 := Aside0.mk hc0
  clear hr0 hc0
  have HB := Aside0.mk (Below.refl w.heap.size w)
  have H : (if a1 < 0 then (usage_Next.j0 k l0 a1 true) else (usage_Next.j0 k l0 a1 (decide (a1 ≥ (l0.length : Int))))) = some (r1, r2) := h
  clear h
  have HC3 := Aside0.mk H
  clear H
  go_enter Try.func16, Try.ntmps16
  go_upto_region 1 with (fail)
  go_cut [16] (fun v16 wc => ∃ (kq : Nat) (x16_2 : Bool), v16 = .bool x16_2 ∧ Aside0 (usage_Next.j0 kq l0 a1 x16_2 = some (r1, r2)) ∧ Aside0 (kq ≤ k) ∧ Aside0 (Below w.heap.size w wc))
  case first =>
    have H := HC3.out
    clear HC3
    by_cases c4 : a1 < 0
    · rw [if_pos c4] at H
      have c4b0 : decide (a1 < 0) = true := decide_eq_true c4
      clear c4
      (first | rw [c4b0] | (simp only [i64_w, i32_w]; rw [c4b0]) | skip)
      have H' := Aside0.mk H
      clear H
      go_wp2
      go_meet
      case rel => exact ⟨_, (true), (by first | rfl | (simp; done) | (simp [*]; done)), H', ⟨by first | omega | exact Nat.le_refl _⟩, ⟨by repeat (first | (with_reducible first | exact HB.out | apply below_alloc | apply pw_below_drewN | apply below_drew1) | exact HB.out)⟩⟩
    · rw [if_neg c4] at H
      have c4b0 : decide (a1 < 0) = false := decide_eq_false c4
      clear c4
      (first | rw [c4b0] | (simp only [i64_w, i32_w]; rw [c4b0]) | skip)
      have H' := Aside0.mk H
      clear H
      go_wp2
      go_meet
      case rel => exact ⟨_, (decide (a1 ≥ (l0.length : Int))), (by first | rfl | (simp; done) | (simp [*]; done)), H', ⟨by first | omega | exact Nat.le_refl _⟩, ⟨by repeat (first | (with_reducible first | exact HB.out | apply below_alloc | apply pw_below_drewN | apply below_drew1) | exact HB.out)⟩⟩
  case rest =>
    clear HC3
    try clear c1
    try clear p2
    try clear c4
    try clear c4b0
    obtain ⟨kq, x16_2, rfl, HA, HJ2, HB⟩ := hcut
    cases kq with
    | zero => exact absurd HA.out (by simp [usage_Next.j0])
    | succ kj2 =>
      have H := HA.out
      clear HA
      simp only [usage_Next.j0] at H
      by_cases c5 : x16_2 = true
      · subst c5
        have H1 : (some (0, false)) = some (r1, r2) := by rw [if_pos rfl] at H; exact H
        clear H
        have H := H1
        clear H1
        simp only [Option.some.injEq, Prod.mk.injEq] at H
        obtain ⟨rfl, rfl⟩ := H
        go_wp2
        go_ret2
        exact ⟨by first | rfl | (simp [errW_none, errW_some] <;> rfl) | (simp [*, errW_none, errW_some] <;> rfl) | (simp [show IntKind.u64.wrap 0 = 0 from rfl, Int.zero_tdiv]; done), by repeat (first | (with_reducible first | exact HB.out | apply below_alloc | apply pw_below_drewN | apply below_drew1) | exact HB.out)⟩
      · replace c5 := Bool.eq_false_iff.mpr c5
        subst c5
        have H1 : (if 0 ≤ (wrap64 (a1 + 1)) then (if (wrap64 (a1 + 1)) ≤ (l0.length : Int) then ((api_Seg_29.f (l0.drop ((wrap64 (a1 + 1)) : Int).toNat) 28).bind fun t116 => (if t116 ≥ 0 then (some (wrap64 ((wrap64 (a1 + 1)) + t116), true)) else ((api_Seg_29.f (l0.take ((wrap64 (a1 + 1)) : Int).toNat) 28).bind fun t121 => (some (mx t121 0, decide (t121 ≥ 0)))))) else (none)) else (none)) = some (r1, r2) := by rw [if_neg (show ¬ (false = true) by decide)] at H; exact H
        clear H
        have H := H1
        clear H1
        obtain ⟨ji6, hji6⟩ : ∃ j_ : Int, (wrap64 (a1 + 1)) = j_ := ⟨_, rfl⟩
        replace H : (if 0 ≤ (ji6) then (if (ji6) ≤ (l0.length : Int) then ((api_Seg_29.f (l0.drop ((ji6) : Int).toNat) 28).bind fun t116 => (if t116 ≥ 0 then (some (wrap64 ((ji6) + t116), true)) else ((api_Seg_29.f (l0.take ((ji6) : Int).toNat) 28).bind fun t121 => (some (mx t121 0, decide (t121 ≥ 0)))))) else (none)) else (none)) = some (r1, r2) := by first | (rw [hji6] at H; exact H) | (simp only [hji6] at H ⊢; exact H)
        have hji6w : (IntKind.i64.wrap (a1 + 1)) = ji6 := (i64_w _).trans hji6
        by_cases c7 : 0 ≤ (ji6)
        · rw [if_pos c7] at H
          have c7b0 := eq_true c7
          have c7b1 : decide (0 ≤ (ji6)) = true := decide_eq_true c7
          clear c7
          by_cases c8 : (ji6) ≤ (l0.length : Int)
          · rw [if_pos c8] at H
            have c8b0 := eq_true c8
            have c8b1 : decide ((ji6) ≤ (l0.length : Int)) = true := decide_eq_true c8
            clear c8
            obtain ⟨y112, hy112⟩ : ∃ y_ : List (S30), y_ = (l0.drop ((ji6) : Int).toNat) := ⟨_, rfl⟩
            replace H : ((api_Seg_29.f y112 28).bind fun t116 => (if t116 ≥ 0 then (some (wrap64 ((ji6) + t116), true)) else ((api_Seg_29.f (l0.take ((ji6) : Int).toNat) 28).bind fun t121 => (some (mx t121 0, decide (t121 ≥ 0)))))) = some (r1, r2) := by first | (rw [hy112]; with_reducible exact H) | (have H2_ := (Option.bind_some _ _).symm.trans H; rw [hy112]; with_reducible exact H2_) | (have H2_ := (Option.bind_some _ _).symm.trans H; with_reducible exact H2_) | with_reducible exact H | (rw [hy112]; exact H) | exact H
            have Ny112 := Aside0.mk hy112
            clear hy112
            replace H := Option.bind_eq_some_iff.mp H
            obtain ⟨t116, A90, H⟩ := H
            replace H : (if t116 ≥ 0 then (some (wrap64 ((ji6) + t116), true)) else ((api_Seg_29.f (l0.take ((ji6) : Int).toNat) 28).bind fun t121 => (some (mx t121 0, decide (t121 ≥ 0))))) = some (r1, r2) := H
            have A9 := Aside0.mk A90
            clear A90
            by_cases c10 : t116 ≥ 0
            · rw [if_pos c10] at H
              have c10b0 : decide (0 ≤ t116) = true := decide_eq_true c10
              clear c10
              simp only [Option.some.injEq, Prod.mk.injEq] at H
              obtain ⟨rfl, rfl⟩ := H
              have q11 : ((ji6) : Int) ≤ ((l0.length : Int) : Int) := of_decide_eq_true (by first | (with_reducible assumption) | assumption)
              obtain ⟨i011, hi011, _, hsz11, _⟩ := info_parts info30
              have hroom11 : l0.length ≤ c0 := HC0.out
              have hC11 : Kd.C k30 _ A0 l0.length l0 := HR0.out
              have q011 : (0 : Int) ≤ ((ji6) : Int) := of_decide_eq_true (by first | (with_reducible assumption) | assumption)
              have hcut11 := cut_from (P := Try.prog) 22 30 .i64 Try.underlying22 hi011 3 hsz11 A0 l0.length c0 (ji6) q011 q11
              have hr11 := Kd.C_drop (m := ((ji6) : Int).toNat) (c := c0) hC11 (by omega) hroom11
              obtain ⟨A11, hA11⟩ : ∃ A1, A1 = (if c0 = ((ji6) : Int).toNat then A0 else (A0 : Option Addr).map (·.add (((ji6) : Int).toNat * 3))) := ⟨_, rfl⟩
              obtain ⟨c11, hc11⟩ : ∃ c1, c1 = c0 - ((ji6) : Int).toNat := ⟨_, rfl⟩
              have hy11 : y112.length = l0.length - ((ji6) : Int).toNat := (by rw [Ny112.out, List.length_drop] <;> omega)
              rw [show (l0).drop ((ji6) : Int).toNat = y112 from Ny112.out.symm] at hr11
              replace hr11 : Kd.C k30 _ A11 y112.length y112 := (by rw [hA11]; exact hr11)
              rw [← hy11, ← hA11, ← hc11] at hcut11
              have HR115 := Aside0.mk hr11
              have HC115 := Aside0.mk (show y112.length ≤ c11 from by rw [hy11, hc11]; exact Nat.sub_le_sub_right hroom11 _)
              clear hr11 hC11 hroom11 hi011 hsz11 hc11
              have KY11 := Aside0.mk hy11
              have KA11 := Aside0.mk hA11
              clear hy11 hA11
              replace q11 := eq_true q11
              go_wp2_with (first | ((with_reducible refine gate_callee (f := 29) rfl ?_); refine goesL_ (some 22) rfl rfl Try.func29 (by kernel_rfl) rfl #[.slice A11 y112.length c11, .func (.func 28) #[] #[]] rfl (by (try simp only [List.map_toArray, List.map_cons, List.map_nil]); first | done | rfl | (simp only [List.length_drop, List.length_take]; rfl)) ?_; (with_reducible refine (api_Seg_29.calls _ _ y112 28 t116 _ ?side1 ?side2 A9.out).mono ?_); (case side1 => repeat (first | exact (Kd.C_below HR115.out HB.out) | (with_reducible refine Kd.C_alloc ?_ _) | (with_reducible refine Kd.C_drewN ?_ _) | (with_reducible refine Kd.C_drew ?_))); (case side2 => exact HC115.out); rintro e w12 ⟨rfl, hb⟩; refine ⟨_, rfl, ?_⟩; have n0_ := Aside0.mk (below_step (by repeat (first | (with_reducible first | exact HB.out | apply below_alloc | apply pw_below_drewN | apply below_drew1) | exact HB.out)) hb); clear HB; have HB := n0_; clear n0_; (try clear hb); (try clear hb2); (try clear hk); (try clear hi)))
              go_ret2
              exact ⟨by first | rfl | (simp [errW_none, errW_some] <;> rfl) | (simp only [← hji6]; first | rfl | (simp [errW_none, errW_some] <;> rfl)) | (simp [*, errW_none, errW_some] <;> rfl) | (simp [show IntKind.u64.wrap 0 = 0 from rfl, Int.zero_tdiv]; done), by repeat (first | (with_reducible first | exact HB.out | apply below_alloc | apply pw_below_drewN | apply below_drew1) | exact HB.out)⟩
            · rw [if_neg c10] at H
              have c10b0 : decide (0 ≤ t116) = false := decide_eq_false c10
              clear c10
              have c13b0 := eq_true (of_decide_eq_true (by first | (with_reducible assumption) | assumption) : 0 ≤ (ji6))
              have c14b0 := eq_true (of_decide_eq_true (by first | (with_reducible assumption) | assumption) : (ji6) ≤ (l0.length : Int))
              obtain ⟨y117, hy117⟩ : ∃ y_ : List (S30), y_ = (l0.take ((ji6) : Int).toNat) := ⟨_, rfl⟩
              replace H : ((api_Seg_29.f y117 28).bind fun t121 => (some (mx t121 0, decide (t121 ≥ 0)))) = some (r1, r2) := by first | (rw [hy117]; with_reducible exact H) | (have H2_ := (Option.bind_some _ _).symm.trans H; rw [hy117]; with_reducible exact H2_) | (have H2_ := (Option.bind_some _ _).symm.trans H; with_reducible exact H2_) | with_reducible exact H | (rw [hy117]; exact H) | exact H
              have Ny117 := Aside0.mk hy117
              clear hy117
              replace H := Option.bind_eq_some_iff.mp H
              obtain ⟨t121, A150, H⟩ := H
              replace H : (some (mx t121 0, decide (t121 ≥ 0))) = some (r1, r2) := H
              have A15 := Aside0.mk A150
              clear A150
              obtain ⟨ji16, hji16⟩ : ∃ j_ : Int, (mx t121 0) = j_ := ⟨_, rfl⟩
              replace H : (some (ji16, decide (t121 ≥ 0))) = some (r1, r2) := by first | (rw [hji16] at H; exact H) | (simp only [hji16] at H ⊢; exact H)
              (try rw [hji16] at A9)
              (try rw [hji16] at A15)
              (try (have hji16l : 0 ≤ ji16 := by (rw [← hji16]; unfold mx; (repeat' split) <;> omega)))
              (try (have hji16m : 0 ≤ ji16 := by omega))
              have hji16_ : (if t121 < 0 then 0 else t121) = ji16 := hji16
              simp only [Option.some.injEq, Prod.mk.injEq] at H
              obtain ⟨rfl, rfl⟩ := H
              have q17 : ((ji6) : Int) ≤ ((l0.length : Int) : Int) := of_decide_eq_true (by first | (with_reducible assumption) | assumption)
              obtain ⟨i017, hi017, _, hsz17, _⟩ := info_parts info30
              have hroom17 : l0.length ≤ c0 := HC0.out
              have hC17 : Kd.C k30 _ A0 l0.length l0 := HR0.out
              have q017 : (0 : Int) ≤ ((ji6) : Int) := of_decide_eq_true (by first | (with_reducible assumption) | assumption)
              have hcut17 := cut_from (P := Try.prog) 22 30 .i64 Try.underlying22 hi017 3 hsz17 A0 l0.length c0 (ji6) q017 q17
              have hr17 := Kd.C_drop (m := ((ji6) : Int).toNat) (c := c0) hC17 (by omega) hroom17
              obtain ⟨A17, hA17⟩ : ∃ A1, A1 = (if c0 = ((ji6) : Int).toNat then A0 else (A0 : Option Addr).map (·.add (((ji6) : Int).toNat * 3))) := ⟨_, rfl⟩
              obtain ⟨c17, hc17⟩ : ∃ c1, c1 = c0 - ((ji6) : Int).toNat := ⟨_, rfl⟩
              have hy17 : y112.length = l0.length - ((ji6) : Int).toNat := (by rw [Ny112.out, List.length_drop] <;> omega)
              rw [show (l0).drop ((ji6) : Int).toNat = y112 from Ny112.out.symm] at hr17
              replace hr17 : Kd.C k30 _ A17 y112.length y112 := (by rw [hA17]; exact hr17)
              rw [← hy17, ← hA17, ← hc17] at hcut17
              have HR115 := Aside0.mk hr17
              have HC115 := Aside0.mk (show y112.length ≤ c17 from by rw [hy17, hc17]; exact Nat.sub_le_sub_right hroom17 _)
              clear hr17 hC17 hroom17 hi017 hsz17 hc17
              have KY17 := Aside0.mk hy17
              have KA17 := Aside0.mk hA17
              clear hy17 hA17
              replace q17 := eq_true q17
              go_wp2_with (first | ((with_reducible refine gate_callee (f := 29) rfl ?_); refine goesL_ (some 22) rfl rfl Try.func29 (by kernel_rfl) rfl #[.slice A17 y112.length c17, .func (.func 28) #[] #[]] rfl (by (try simp only [List.map_toArray, List.map_cons, List.map_nil]); first | done | rfl | (simp only [List.length_drop, List.length_take]; rfl)) ?_; (with_reducible refine (api_Seg_29.calls _ _ y112 28 t116 _ ?side1 ?side2 A9.out).mono ?_); (case side1 => repeat (first | exact (Kd.C_below HR115.out HB.out) | (with_reducible refine Kd.C_alloc ?_ _) | (with_reducible refine Kd.C_drewN ?_ _) | (with_reducible refine Kd.C_drew ?_))); (case side2 => exact HC115.out); rintro e w18 ⟨rfl, hb⟩; refine ⟨_, rfl, ?_⟩; have n0_ := Aside0.mk (below_step (by repeat (first | (with_reducible first | exact HB.out | apply below_alloc | apply pw_below_drewN | apply below_drew1) | exact HB.out)) hb); clear HB; have HB := n0_; clear n0_; (try clear hb); (try clear hb2); (try clear hk); (try clear hi); have q19 : ((ji6) : Int) ≤ ((l0.length : Int) : Int) := of_decide_eq_true (by first | (with_reducible assumption) | assumption); obtain ⟨i019, hi019, _, hsz19, _⟩ := info_parts info30; have hroom19 : l0.length ≤ c0 := HC0.out; have hC19 : Kd.C k30 _ A0 l0.length l0 := HR0.out; have hcut19 := cut_to (P := Try.prog) 22 30 .i64 Try.underlying22 hi019 A0 l0.length c0 (ji6) (of_decide_eq_true (by first | (with_reducible assumption) | assumption)) q19 hroom19; have hr19 := Kd.C_take (m := ((ji6) : Int).toNat) hC19 (by omega); have hy19 : y117.length = ((ji6) : Int).toNat := (by rw [Ny117.out, List.length_take]; omega); rw [← Ny117.out] at hr19; rw [← hy19] at hcut19; have HR120 := Aside0.mk hr19; have HC120 := Aside0.mk (show y117.length ≤ c0 from by omega); clear hr19 hC19 hroom19 hi019 hsz19; have KY19 := Aside0.mk hy19; clear hy19; replace q19 := eq_true q19) | ((with_reducible refine gate_callee (f := 29) rfl ?_); refine goesL_ (some 34) rfl rfl Try.func29 (by kernel_rfl) rfl #[.slice A0 y117.length c0, .func (.func 28) #[] #[]] rfl (by (try simp only [List.map_toArray, List.map_cons, List.map_nil]); first | done | rfl | (simp only [List.length_drop, List.length_take]; rfl)) ?_; (with_reducible refine (api_Seg_29.calls _ _ y117 28 t121 _ ?side1 ?side2 A15.out).mono ?_); (case side1 => repeat (first | exact (Kd.C_below HR120.out HB.out) | (with_reducible refine Kd.C_alloc ?_ _) | (with_reducible refine Kd.C_drewN ?_ _) | (with_reducible refine Kd.C_drew ?_))); (case side2 => exact HC120.out); rintro e w20 ⟨rfl, hb⟩; refine ⟨_, rfl, ?_⟩; have n0_ := Aside0.mk (below_step (by repeat (first | (with_reducible first | exact HB.out | apply below_alloc | apply pw_below_drewN | apply below_drew1) | exact HB.out)) hb); clear HB; have HB := n0_; clear n0_; (try clear hb); (try clear hb2); (try clear hk); (try clear hi)))
              go_ret2
              exact ⟨by first | rfl | (simp [errW_none, errW_some] <;> rfl) | (simp only [← hji6, ← hji16]; first | rfl | (simp [errW_none, errW_some] <;> rfl)) | (simp [*, errW_none, errW_some] <;> rfl) | (simp [show IntKind.u64.wrap 0 = 0 from rfl, Int.zero_tdiv]; done), by repeat (first | (with_reducible first | exact HB.out | apply below_alloc | apply pw_below_drewN | apply below_drew1) | exact HB.out)⟩
          · rw [if_neg c8] at H
            exact absurd H (by simp)
        · rw [if_neg c7] at H
          exact absurd H (by simp)

/-! ### nautiluslaw06_few: function 17 -/
def nautiluslaw06_few.f  : Option ((List (S30))) := some (([(⟨0, 0, 1⟩ : S30), (⟨4, 5, 1⟩ : S30), (⟨2, 9, 1⟩ : S30), (⟨16, 1, 1⟩ : S30), (⟨0, 0, 0⟩ : S30), (⟨0, 0, 2⟩ : S30), (⟨0, 0, 0⟩ : S30), (⟨0, 0, 0⟩ : S30)] : List (S30)))
set_option maxHeartbeats 8000000 in
set_option maxRecDepth 100000 in
theorem nautiluslaw06_few.calls  (r : List (S30)) (w : World) (h : nautiluslaw06_few.f  = some r) :
    Calls Try.prog 17 #[] w fun e w' => ∃ v0_ : Value, e = .returned (v0_) ∧ Kd.R k30 30 w' w.heap.size (fun _ => True) v0_ r ∧ Below w.heap.size w w' := by
  have hu30 := Try.underlying30
  have HB := Aside0.mk (Below.refl w.heap.size w)
  have H : (some (([(⟨0, 0, 1⟩ : S30), (⟨4, 5, 1⟩ : S30), (⟨2, 9, 1⟩ : S30), (⟨16, 1, 1⟩ : S30), (⟨0, 0, 0⟩ : S30), (⟨0, 0, 2⟩ : S30), (⟨0, 0, 0⟩ : S30), (⟨0, 0, 0⟩ : S30)] : List (S30)))) = some r := h
  clear h
  obtain ⟨y122, hy122⟩ : ∃ y_ : List (S30), y_ = (([(⟨0, 0, 1⟩ : S30), (⟨4, 5, 1⟩ : S30), (⟨2, 9, 1⟩ : S30), (⟨16, 1, 1⟩ : S30), (⟨0, 0, 0⟩ : S30), (⟨0, 0, 2⟩ : S30), (⟨0, 0, 0⟩ : S30), (⟨0, 0, 0⟩ : S30)] : List (S30))) := ⟨_, rfl⟩
  replace H : (some y122) = some r := by first | (rw [hy122]; with_reducible exact H) | (have H2_ := (Option.bind_some _ _).symm.trans H; rw [hy122]; with_reducible exact H2_) | (have H2_ := (Option.bind_some _ _).symm.trans H; with_reducible exact H2_) | with_reducible exact H | (rw [hy122]; exact H) | exact H
  have Ny122 := Aside0.mk hy122
  clear hy122
  obtain rfl := Option.some.inj H
  go_enter Try.func17, Try.ntmps17
  go_wp2_with (first | ((with_reducible refine gate_dst (N := 9) rfl ?_); refine Kd.R_lit k30 _ 30 ?hg (N := 9) ?hd (xs := ([(⟨0, 0, 1⟩ : S30), (⟨4, 5, 1⟩ : S30), (⟨2, 9, 1⟩ : S30), (⟨16, 1, 1⟩ : S30), (⟨0, 0, 0⟩ : S30), (⟨0, 0, 2⟩ : S30), (⟨0, 0, 0⟩ : S30), (⟨0, 0, 0⟩ : S30)] : List (S30))) (inner := [.int .i64 0, .int .u64 0, .int .i64 1, .int .i64 4, .int .u64 5, .int .i64 1, .int .i64 2, .int .u64 9, .int .i64 1, .int .i64 16, .int .u64 1, .int .i64 1, .int .i64 0, .int .u64 0, .int .i64 0, .int .i64 0, .int .u64 0, .int .i64 2, .int .i64 0, .int .u64 0, .int .i64 0, .int .i64 0, .int .u64 0, .int .i64 0]) (ok := fun _ => True) (okp := fun _ => True) ?hr ?hp (fun _ hk => hk) trivial (Below.refl _ _) (Nat.le_refl _) (by simp) ?_; (case hd => rfl); (case hg => rfl); (case hr => first | (go_simp; done) | (go_simp; rfl)); (case hp => exact (Reps.c3 (show Kd.M k30 _ _ _ (⟨0, 0, 1⟩ : S30) [.int .i64 0, .int .u64 0, .int .i64 1] from (k30_mkM _ _ _ (⟨0, 0, 1⟩ : S30) )) (Reps.c3 (show Kd.M k30 _ _ _ (⟨4, 5, 1⟩ : S30) [.int .i64 4, .int .u64 5, .int .i64 1] from (k30_mkM _ _ _ (⟨4, 5, 1⟩ : S30) )) (Reps.c3 (show Kd.M k30 _ _ _ (⟨2, 9, 1⟩ : S30) [.int .i64 2, .int .u64 9, .int .i64 1] from (k30_mkM _ _ _ (⟨2, 9, 1⟩ : S30) )) (Reps.c3 (show Kd.M k30 _ _ _ (⟨16, 1, 1⟩ : S30) [.int .i64 16, .int .u64 1, .int .i64 1] from (k30_mkM _ _ _ (⟨16, 1, 1⟩ : S30) )) (Reps.c3 (show Kd.M k30 _ _ _ (⟨0, 0, 0⟩ : S30) [.int .i64 0, .int .u64 0, .int .i64 0] from (k30_mkM _ _ _ (⟨0, 0, 0⟩ : S30) )) (Reps.c3 (show Kd.M k30 _ _ _ (⟨0, 0, 2⟩ : S30) [.int .i64 0, .int .u64 0, .int .i64 2] from (k30_mkM _ _ _ (⟨0, 0, 2⟩ : S30) )) (Reps.c3 (show Kd.M k30 _ _ _ (⟨0, 0, 0⟩ : S30) [.int .i64 0, .int .u64 0, .int .i64 0] from (k30_mkM _ _ _ (⟨0, 0, 0⟩ : S30) )) (Reps.c3 (show Kd.M k30 _ _ _ (⟨0, 0, 0⟩ : S30) [.int .i64 0, .int .u64 0, .int .i64 0] from (k30_mkM _ _ _ (⟨0, 0, 0⟩ : S30) )) (Reps.none _ _)))))))))); intro v123 w1 ho2 hb hg_ hnew_; clear hg_ hnew_; (first | rw [← Ny122.out] at ho2 | (simp only [Int.reduceToNat] at ho2; rw [← Ny122.out] at ho2)); have n0_ := Aside0.mk (Kd.R_lower ho2 (below_size (by repeat (first | (with_reducible first | exact HB.out | apply below_alloc | apply pw_below_drewN | apply below_drew1) | exact HB.out)))); have n1_ := Aside0.mk (below_step (by repeat (first | (with_reducible first | exact HB.out | apply below_alloc | apply pw_below_drewN | apply below_drew1) | exact HB.out)) hb); clear HB; have HO124 := n0_; have HB := n1_; clear n0_ n1_; clear hb ho2))
  go_ret
  exact ⟨_, by first | rfl | (simp [errW_none, errW_some] <;> rfl) | (simp [*, errW_none, errW_some] <;> rfl), by (with_reducible repeat (first | apply Kd.R_alloc | apply Kd.R_drewN | apply Kd.R_drew)); exact HO124.out, by repeat (first | (with_reducible first | exact HB.out | apply below_alloc | apply pw_below_drewN | apply below_drew1) | exact HB.out)⟩

end Go.Proofs.Ytklhmhliencgeaa.Q
