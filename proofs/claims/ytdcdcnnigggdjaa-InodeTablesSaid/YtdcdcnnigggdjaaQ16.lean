/- Functions of the translation as plain Lean functions, and that the translation computes them: printed by this session's driver of the print. -/
import Derived.Test.YtdcdcnnigggdjaaQ0
import Derived.Test.YtdcdcnnigggdjaaHIEncR
namespace Go.Proofs.Ytdcdcnnigggdjaa.Q
open Go.Proofs.Ytdcdcnnigggdjaa.H
open Go.RowKit Go.Proofs.YtdcdcnnigggdjaaW.PrintWords Go.Proofs.YtdcdcnnigggdjaaW.PrintLast Go.Proofs.YtdcdcnnigggdjaaW.PrintMore
attribute [local go_sem] max2_int min2_int max_two min_two max_three min_three max_four min_four   -- for this text's walks alone
set_option linter.unusedVariables false
set_option linter.unusedSimpArgs false

/-! ### nautilusref10_Put: function 22 -/
def nautilusref10_Put.j0 : Nat → ByteArray → Int → Bool → Int → Int → Int → Int → Int → Int → Int → Int → Int → Int → Int → Int → Option (ByteArray × Int)
  | 0, _, _, _, _, _, _, _, _, _, _, _, _, _, _, _ => none
  | k + 1, x0, x1, x21, x213000, x213001, x213002, x213003, x213004, x213005, x213006, x213007, x213008, x213009, x213010, x213011 => if x21 = true then (some ((⟨#[]⟩ : ByteArray), 2)) else ((nautilusref10_Encode.f x213000 x213001 x213002 x213003 x213004 x213005 x213006 x213007 x213008 x213009 x213010 x213011).bind fun bt213 => (if bt213.2 = 0 then (if 0 ≤ (wrap64 (x1 * 42)) then (if (wrap64 (x1 * 42)) ≤ (x0.size : Int) then (if (x0.extract 0 ((wrap64 (x1 * 42)) : Int).toNat).size + bt213.1.size ≤ 9223372036854775807 then (if 0 ≤ (wrap64 ((wrap64 (x1 * 42)) + 42)) then (if (wrap64 ((wrap64 (x1 * 42)) + 42)) ≤ (x0.size : Int) then (if ((x0.extract 0 ((wrap64 (x1 * 42)) : Int).toNat) ++ bt213.1).size + (x0.extract ((wrap64 ((wrap64 (x1 * 42)) + 42)) : Int).toNat x0.size).size ≤ 9223372036854775807 then (some (((x0.extract 0 ((wrap64 (x1 * 42)) : Int).toNat) ++ bt213.1) ++ (x0.extract ((wrap64 ((wrap64 (x1 * 42)) + 42)) : Int).toNat x0.size), 0)) else (none)) else (none)) else (none)) else (none)) else (none)) else (none)) else (some ((⟨#[]⟩ : ByteArray), bt213.2))))
def nautilusref10_Put.f (k : Nat) (a0 : ByteArray) (a1 : Int) (a2_0 : Int) (a2_1 : Int) (a2_2 : Int) (a2_3 : Int) (a2_4 : Int) (a2_5 : Int) (a2_6 : Int) (a2_7 : Int) (a2_8 : Int) (a2_9 : Int) (a2_10 : Int) (a2_11 : Int) : Option (ByteArray × Int) := if (a0.size : Int) = 508 then (if a1 < 0 then (nautilusref10_Put.j0 k a0 a1 true a2_0 a2_1 a2_2 a2_3 a2_4 a2_5 a2_6 a2_7 a2_8 a2_9 a2_10 a2_11) else (nautilusref10_Put.j0 k a0 a1 (decide (a1 ≥ 12)) a2_0 a2_1 a2_2 a2_3 a2_4 a2_5 a2_6 a2_7 a2_8 a2_9 a2_10 a2_11)) else (nautilusref10_Put.j0 k a0 a1 true a2_0 a2_1 a2_2 a2_3 a2_4 a2_5 a2_6 a2_7 a2_8 a2_9 a2_10 a2_11)
theorem nautilusref10_Put.mono_l : ∀ k, (∀ y0 y1 y2 y3 y4 y5 y6 y7 y8 y9 y10 y11 y12 y13 y14, LeO (nautilusref10_Put.j0 k y0 y1 y2 y3 y4 y5 y6 y7 y8 y9 y10 y11 y12 y13 y14) (nautilusref10_Put.j0 (k + 1) y0 y1 y2 y3 y4 y5 y6 y7 y8 y9 y10 y11 y12 y13 y14))
  | 0 => fun _ _ _ _ _ _ _ _ _ _ _ _ _ _ _ r h => by simp [nautilusref10_Put.j0] at h
  | k + 1 => by
    have ih0 := nautilusref10_Put.mono_l k
    · intro y0 y1 y2 y3 y4 y5 y6 y7 y8 y9 y10 y11 y12 y13 y14
      unfold nautilusref10_Put.j0
      repeat' first
      | (with_reducible exact ih0 _ _ _ _ _ _ _ _ _ _ _ _ _ _ _)
      | (with_reducible exact LeO.refl _)
      | (with_reducible exact LeO.none _)
      | (with_reducible refine LeO.ite ?_ ?_)
      | (with_reducible refine LeO.bind ?_ (fun _ => ?_))
      | exact ih0 _ _ _ _ _ _ _ _ _ _ _ _ _ _ _
      | exact LeO.none _
      | refine LeO.ite ?_ ?_
      | refine LeO.bind ?_ (fun _ => ?_)
theorem nautilusref10_Put.mono : ∀ a0 a1 a2 a3 a4 a5 a6 a7 a8 a9 a10 a11 a12 a13 k, LeO (nautilusref10_Put.f k a0 a1 a2 a3 a4 a5 a6 a7 a8 a9 a10 a11 a12 a13) (nautilusref10_Put.f (k + 1) a0 a1 a2 a3 a4 a5 a6 a7 a8 a9 a10 a11 a12 a13) := by
  intro a0 a1 a2 a3 a4 a5 a6 a7 a8 a9 a10 a11 a12 a13 k
  have ih0 := nautilusref10_Put.mono_l k
  unfold nautilusref10_Put.f
  repeat' first
      | (with_reducible exact ih0 _ _ _ _ _ _ _ _ _ _ _ _ _ _ _)
      | (with_reducible exact LeO.refl _)
      | (with_reducible exact LeO.none _)
      | (with_reducible refine LeO.ite ?_ ?_)
      | (with_reducible refine LeO.bind ?_ (fun _ => ?_))
      | exact ih0 _ _ _ _ _ _ _ _ _ _ _ _ _ _ _
      | exact LeO.none _
      | refine LeO.ite ?_ ?_
      | refine LeO.bind ?_ (fun _ => ?_)
set_option maxHeartbeats 8000000 in
set_option maxRecDepth 100000 in
theorem nautilusref10_Put.calls (k : Nat) (a0 : ByteArray) (a1 : Int) (a2_0 : Int) (a2_1 : Int) (a2_2 : Int) (a2_3 : Int) (a2_4 : Int) (a2_5 : Int) (a2_6 : Int) (a2_7 : Int) (a2_8 : Int) (a2_9 : Int) (a2_10 : Int) (a2_11 : Int) (r1 : ByteArray) (r2 : Int) (w : World) (h : nautilusref10_Put.f k a0 a1 a2_0 a2_1 a2_2 a2_3 a2_4 a2_5 a2_6 a2_7 a2_8 a2_9 a2_10 a2_11 = some (r1, r2)) :
    Calls Try.prog 22 #[.string a0, .int .i64 a1, .agg #[.int .i64 a2_0, .int .u16 a2_1, .int .u16 a2_2, .int .u32 a2_3, .int .u64 a2_4, .int .i64 a2_5, .int .u32 a2_6, .int .u32 a2_7, .int .u32 a2_8, .int .u32 a2_9, .int .u32 a2_10, .int .u32 a2_11]] w fun e w' => e = .returned (.tuple #[.string r1, .int .i64 r2]) ∧ Below w.heap.size w w' := by
  have hu30 := Try.underlying30
  have HB := Aside0.mk (Below.refl w.heap.size w)
  have H : (if (a0.size : Int) = 508 then (if a1 < 0 then (nautilusref10_Put.j0 k a0 a1 true a2_0 a2_1 a2_2 a2_3 a2_4 a2_5 a2_6 a2_7 a2_8 a2_9 a2_10 a2_11) else (nautilusref10_Put.j0 k a0 a1 (decide (a1 ≥ 12)) a2_0 a2_1 a2_2 a2_3 a2_4 a2_5 a2_6 a2_7 a2_8 a2_9 a2_10 a2_11)) else (nautilusref10_Put.j0 k a0 a1 true a2_0 a2_1 a2_2 a2_3 a2_4 a2_5 a2_6 a2_7 a2_8 a2_9 a2_10 a2_11)) = some (r1, r2) := h
  clear h
  have HC4 := Aside0.mk H
  clear H
  go_enter Try.func22, Try.ntmps22
  go_upto_region 1 with (first | ((with_reducible refine gate_dst (N := 5) rfl ?_); refine box_event ?hg (N := 5) ?hd (cs := #[.int .i64 a2_0, .int .u16 a2_1, .int .u16 a2_2, .int .u32 a2_3, .int .u64 a2_4, .int .i64 a2_5, .int .u32 a2_6, .int .u32 a2_7, .int .u32 a2_8, .int .u32 a2_9, .int .u32 a2_10, .int .u32 a2_11]) (t := 30) ?hr ?_; (case hd => rfl); (case hg => rfl); (case hr => first | (go_simp; done) | (go_simp; rfl)); intro gb212 hg w5 hbox hb; have n0_ := Aside0.mk (below_step (by repeat (first | (with_reducible first | exact HB.out | apply below_alloc | apply pw_below_drewN | apply below_drew1) | exact HB.out)) hb); have n1_ := Aside0.mk (hbox); have n2_ := Aside0.mk ((by rw [hg]; exact (below_size (by repeat (first | (with_reducible first | exact HB.out | apply below_alloc | apply pw_below_drewN | apply below_drew1) | exact HB.out))) : w.heap.size ≤ gb212)); have n3_ := Aside0.mk ((by rw [hg]; exact (below_size (by repeat (first | (with_reducible first | exact HB.out | apply below_alloc | apply pw_below_drewN | apply below_drew1) | exact HB.out))) : w.heap.size ≤ gb212)); clear HB; have HB := n0_; have BK212 := n1_; have GW212 := n2_; have GE212 := n3_; clear n0_ n1_ n2_ n3_; clear hb hbox hg))
  repeat (go_quiet (first | ((with_reducible refine gate_dst (N := 5) rfl ?_); refine box_event ?hg (N := 5) ?hd (cs := #[.int .i64 a2_0, .int .u16 a2_1, .int .u16 a2_2, .int .u32 a2_3, .int .u64 a2_4, .int .i64 a2_5, .int .u32 a2_6, .int .u32 a2_7, .int .u32 a2_8, .int .u32 a2_9, .int .u32 a2_10, .int .u32 a2_11]) (t := 30) ?hr ?_; (case hd => rfl); (case hg => rfl); (case hr => first | (go_simp; done) | (go_simp; rfl)); intro gb212 hg w5 hbox hb; have n0_ := Aside0.mk (below_step (by repeat (first | (with_reducible first | exact HB.out | apply below_alloc | apply pw_below_drewN | apply below_drew1) | exact HB.out)) hb); have n1_ := Aside0.mk (hbox); have n2_ := Aside0.mk ((by rw [hg]; exact (below_size (by repeat (first | (with_reducible first | exact HB.out | apply below_alloc | apply pw_below_drewN | apply below_drew1) | exact HB.out))) : w.heap.size ≤ gb212)); have n3_ := Aside0.mk ((by rw [hg]; exact (below_size (by repeat (first | (with_reducible first | exact HB.out | apply below_alloc | apply pw_below_drewN | apply below_drew1) | exact HB.out))) : w.heap.size ≤ gb212)); clear HB; have HB := n0_; have BK212 := n1_; have GW212 := n2_; have GE212 := n3_; clear n0_ n1_ n2_ n3_; clear hb hbox hg)); go_upto_region 1 with (first | ((with_reducible refine gate_dst (N := 5) rfl ?_); refine box_event ?hg (N := 5) ?hd (cs := #[.int .i64 a2_0, .int .u16 a2_1, .int .u16 a2_2, .int .u32 a2_3, .int .u64 a2_4, .int .i64 a2_5, .int .u32 a2_6, .int .u32 a2_7, .int .u32 a2_8, .int .u32 a2_9, .int .u32 a2_10, .int .u32 a2_11]) (t := 30) ?hr ?_; (case hd => rfl); (case hg => rfl); (case hr => first | (go_simp; done) | (go_simp; rfl)); intro gb212 hg w5 hbox hb; have n0_ := Aside0.mk (below_step (by repeat (first | (with_reducible first | exact HB.out | apply below_alloc | apply pw_below_drewN | apply below_drew1) | exact HB.out)) hb); have n1_ := Aside0.mk (hbox); have n2_ := Aside0.mk ((by rw [hg]; exact (below_size (by repeat (first | (with_reducible first | exact HB.out | apply below_alloc | apply pw_below_drewN | apply below_drew1) | exact HB.out))) : w.heap.size ≤ gb212)); have n3_ := Aside0.mk ((by rw [hg]; exact (below_size (by repeat (first | (with_reducible first | exact HB.out | apply below_alloc | apply pw_below_drewN | apply below_drew1) | exact HB.out))) : w.heap.size ≤ gb212)); clear HB; have HB := n0_; have BK212 := n1_; have GW212 := n2_; have GE212 := n3_; clear n0_ n1_ n2_ n3_; clear hb hbox hg)))
  (try simp only [Act.put, List.setIfInBounds_toArray, List.set_cons_zero, List.set_cons_succ])
  go_cut [21] (fun v21 wc => ∃ (kq : Nat) (x21_3 : Bool), v21 = .bool x21_3 ∧ Aside0 (nautilusref10_Put.j0 kq a0 a1 x21_3 a2_0 a2_1 a2_2 a2_3 a2_4 a2_5 a2_6 a2_7 a2_8 a2_9 a2_10 a2_11 = some (r1, r2)) ∧ Aside0 (kq ≤ k) ∧ Aside0 (wc.heap[gb212]? = some (.cells #[.int .i64 a2_0, .int .u16 a2_1, .int .u16 a2_2, .int .u32 a2_3, .int .u64 a2_4, .int .i64 a2_5, .int .u32 a2_6, .int .u32 a2_7, .int .u32 a2_8, .int .u32 a2_9, .int .u32 a2_10, .int .u32 a2_11] 30 (0, 0))) ∧ Aside0 (Below w.heap.size w wc))
  case first =>
    have H := HC4.out
    clear HC4
    by_cases c6 : (a0.size : Int) = 508
    · rw [if_pos c6] at H
      have c6b0 : ((a0.size : Int) == 508) = true := beq_iff_eq.mpr c6
      have c6b1 : ((a0.size : Int) != 508) = false := bne_eq_false_iff_eq.mpr c6
      clear c6
      (first | rw [c6b0] | (simp only [i64_w, i32_w]; rw [c6b0]) | skip)
      by_cases c7 : a1 < 0
      · rw [if_pos c7] at H
        have c7b0 : decide (a1 < 0) = true := decide_eq_true c7
        clear c7
        have H' := Aside0.mk H
        clear H
        go_wp2
        repeat (go_quiet (fail); try go_wp2)
        go_meet
        case rel => exact ⟨_, (true), (by first | rfl | (simp; done) | (simp [*]; done)), H', ⟨by first | omega | exact Nat.le_refl _⟩, ⟨by (with_reducible repeat (first | refine blk_drewN ?_ _ | refine blk_drew ?_ | refine blk_alloc ?_ _)); exact BK212.out⟩, ⟨by repeat (first | (with_reducible first | exact HB.out | apply below_alloc | apply pw_below_drewN | apply below_drew1 | refine below_set ?_ GE212.out) | exact HB.out)⟩⟩
      · rw [if_neg c7] at H
        have c7b0 : decide (a1 < 0) = false := decide_eq_false c7
        clear c7
        have H' := Aside0.mk H
        clear H
        go_wp2
        repeat (go_quiet (fail); try go_wp2)
        go_meet
        case rel => exact ⟨_, (decide (a1 ≥ 12)), (by first | rfl | (simp; done) | (simp [*]; done)), H', ⟨by first | omega | exact Nat.le_refl _⟩, ⟨by (with_reducible repeat (first | refine blk_drewN ?_ _ | refine blk_drew ?_ | refine blk_alloc ?_ _)); exact BK212.out⟩, ⟨by repeat (first | (with_reducible first | exact HB.out | apply below_alloc | apply pw_below_drewN | apply below_drew1 | refine below_set ?_ GE212.out) | exact HB.out)⟩⟩
    · rw [if_neg c6] at H
      have c6b0 : ((a0.size : Int) == 508) = false := beq_eq_false_iff_ne.mpr c6
      have c6b1 : ((a0.size : Int) != 508) = true := bne_iff_ne.mpr c6
      (first | rw [c6b0] | (simp only [i64_w, i32_w]; rw [c6b0]) | skip)
      have H' := Aside0.mk H
      clear H
      go_wp2
      repeat (go_quiet (fail); try go_wp2)
      go_meet
      case rel => exact ⟨_, (true), (by first | rfl | (simp; done) | (simp [*]; done)), H', ⟨by first | omega | exact Nat.le_refl _⟩, ⟨by (with_reducible repeat (first | refine blk_drewN ?_ _ | refine blk_drew ?_ | refine blk_alloc ?_ _)); exact BK212.out⟩, ⟨by repeat (first | (with_reducible first | exact HB.out | apply below_alloc | apply pw_below_drewN | apply below_drew1 | refine below_set ?_ GE212.out) | exact HB.out)⟩⟩
  case rest =>
    clear HC4
    try clear c2
    try clear p2
    try clear c6
    try clear c6b0
    try clear c6b1
    try clear c7
    try clear c7b0
    obtain ⟨kq, x21_3, rfl, HA, HJ3, BK212, HB⟩ := hcut
    cases kq with
    | zero => exact absurd HA.out (by simp [nautilusref10_Put.j0])
    | succ kj3 =>
      have H := HA.out
      clear HA
      simp only [nautilusref10_Put.j0] at H
      by_cases c8 : x21_3 = true
      · subst c8
        have H1 : (some ((⟨#[]⟩ : ByteArray), 2)) = some (r1, r2) := by rw [if_pos rfl] at H; exact H
        clear H
        have H := H1
        clear H1
        simp only [Option.some.injEq, Prod.mk.injEq] at H
        obtain ⟨rfl, rfl⟩ := H
        go_wp2
        repeat (go_quiet (fail); try go_wp2)
        go_ret2
        exact ⟨by first | rfl | (simp [errW_none, errW_some] <;> rfl) | (simp [*, errW_none, errW_some] <;> rfl) | (simp [show IntKind.u64.wrap 0 = 0 from rfl, Int.zero_tdiv]; done), by repeat (first | (with_reducible first | exact HB.out | apply below_alloc | apply pw_below_drewN | apply below_drew1 | refine below_set ?_ GE212.out) | exact HB.out)⟩
      · replace c8 := Bool.eq_false_iff.mpr c8
        subst c8
        have H1 : ((nautilusref10_Encode.f a2_0 a2_1 a2_2 a2_3 a2_4 a2_5 a2_6 a2_7 a2_8 a2_9 a2_10 a2_11).bind fun bt213 => (if bt213.2 = 0 then (if 0 ≤ (wrap64 (a1 * 42)) then (if (wrap64 (a1 * 42)) ≤ (a0.size : Int) then (if (a0.extract 0 ((wrap64 (a1 * 42)) : Int).toNat).size + bt213.1.size ≤ 9223372036854775807 then (if 0 ≤ (wrap64 ((wrap64 (a1 * 42)) + 42)) then (if (wrap64 ((wrap64 (a1 * 42)) + 42)) ≤ (a0.size : Int) then (if ((a0.extract 0 ((wrap64 (a1 * 42)) : Int).toNat) ++ bt213.1).size + (a0.extract ((wrap64 ((wrap64 (a1 * 42)) + 42)) : Int).toNat a0.size).size ≤ 9223372036854775807 then (some (((a0.extract 0 ((wrap64 (a1 * 42)) : Int).toNat) ++ bt213.1) ++ (a0.extract ((wrap64 ((wrap64 (a1 * 42)) + 42)) : Int).toNat a0.size), 0)) else (none)) else (none)) else (none)) else (none)) else (none)) else (none)) else (some ((⟨#[]⟩ : ByteArray), bt213.2)))) = some (r1, r2) := by rw [if_neg (show ¬ (false = true) by decide)] at H; exact H
        clear H
        have H := H1
        clear H1
        replace H := Option.bind_eq_some_iff.mp H
        obtain ⟨⟨t213, t214⟩, A90, H⟩ := H
        replace H : (if t214 = 0 then (if 0 ≤ (wrap64 (a1 * 42)) then (if (wrap64 (a1 * 42)) ≤ (a0.size : Int) then (if (a0.extract 0 ((wrap64 (a1 * 42)) : Int).toNat).size + t213.size ≤ 9223372036854775807 then (if 0 ≤ (wrap64 ((wrap64 (a1 * 42)) + 42)) then (if (wrap64 ((wrap64 (a1 * 42)) + 42)) ≤ (a0.size : Int) then (if ((a0.extract 0 ((wrap64 (a1 * 42)) : Int).toNat) ++ t213).size + (a0.extract ((wrap64 ((wrap64 (a1 * 42)) + 42)) : Int).toNat a0.size).size ≤ 9223372036854775807 then (some (((a0.extract 0 ((wrap64 (a1 * 42)) : Int).toNat) ++ t213) ++ (a0.extract ((wrap64 ((wrap64 (a1 * 42)) + 42)) : Int).toNat a0.size), 0)) else (none)) else (none)) else (none)) else (none)) else (none)) else (none)) else (some ((⟨#[]⟩ : ByteArray), t214))) = some (r1, r2) := H
        have A9 := Aside0.mk A90
        clear A90
        by_cases c10 : t214 = 0
        · rw [if_pos c10] at H
          have c10b0 : (t214 == 0) = true := beq_iff_eq.mpr c10
          have c10b1 : (t214 != 0) = false := bne_eq_false_iff_eq.mpr c10
          clear c10
          obtain ⟨ji11, hji11⟩ : ∃ j_ : Int, (wrap64 (a1 * 42)) = j_ := ⟨_, rfl⟩
          replace H : (if 0 ≤ (ji11) then (if (ji11) ≤ (a0.size : Int) then (if (a0.extract 0 ((ji11) : Int).toNat).size + t213.size ≤ 9223372036854775807 then (if 0 ≤ (wrap64 ((ji11) + 42)) then (if (wrap64 ((ji11) + 42)) ≤ (a0.size : Int) then (if ((a0.extract 0 ((ji11) : Int).toNat) ++ t213).size + (a0.extract ((wrap64 ((ji11) + 42)) : Int).toNat a0.size).size ≤ 9223372036854775807 then (some (((a0.extract 0 ((ji11) : Int).toNat) ++ t213) ++ (a0.extract ((wrap64 ((ji11) + 42)) : Int).toNat a0.size), 0)) else (none)) else (none)) else (none)) else (none)) else (none)) else (none)) = some (r1, r2) := by first | (rw [hji11] at H; exact H) | (simp only [hji11] at H ⊢; exact H)
          (try rw [hji11] at A9)
          have hji11w : (IntKind.i64.wrap (a1 * 42)) = ji11 := (i64_w _).trans hji11
          by_cases c12 : 0 ≤ (ji11)
          · rw [if_pos c12] at H
            have c12b0 := eq_true c12
            have c12b1 : decide (0 ≤ (ji11)) = true := decide_eq_true c12
            clear c12
            by_cases c13 : (ji11) ≤ (a0.size : Int)
            · rw [if_pos c13] at H
              have c13b0 := eq_true c13
              have c13b1 : decide ((ji11) ≤ (a0.size : Int)) = true := decide_eq_true c13
              clear c13
              by_cases c14 : (a0.extract 0 ((ji11) : Int).toNat).size + t213.size ≤ 9223372036854775807
              · rw [if_pos c14] at H
                have c14b0 := eq_true c14
                have c14b1 : decide ((a0.extract 0 ((ji11) : Int).toNat).size + t213.size ≤ 9223372036854775807) = true := decide_eq_true c14
                try have c14b2 : (9223372036854775807 < (a0.extract 0 ((ji11) : Int).toNat).size + t213.size) = False := eq_false (Nat.not_lt.2 c14)
                obtain ⟨ji15, hji15⟩ : ∃ j_ : Int, (wrap64 ((ji11) + 42)) = j_ := ⟨_, rfl⟩
                replace H : (if 0 ≤ (ji15) then (if (ji15) ≤ (a0.size : Int) then (if ((a0.extract 0 ((ji11) : Int).toNat) ++ t213).size + (a0.extract ((ji15) : Int).toNat a0.size).size ≤ 9223372036854775807 then (some (((a0.extract 0 ((ji11) : Int).toNat) ++ t213) ++ (a0.extract ((ji15) : Int).toNat a0.size), 0)) else (none)) else (none)) else (none)) = some (r1, r2) := by first | (rw [hji15] at H; exact H) | (simp only [hji15] at H ⊢; exact H)
                (try rw [hji15] at A9)
                have hji15w : (IntKind.i64.wrap ((ji11) + 42)) = ji15 := (i64_w _).trans hji15
                by_cases c16 : 0 ≤ (ji15)
                · rw [if_pos c16] at H
                  have c16b0 := eq_true c16
                  have c16b1 : decide (0 ≤ (ji15)) = true := decide_eq_true c16
                  clear c16
                  by_cases c17 : (ji15) ≤ (a0.size : Int)
                  · rw [if_pos c17] at H
                    have c17b0 := eq_true c17
                    have c17b1 : decide ((ji15) ≤ (a0.size : Int)) = true := decide_eq_true c17
                    clear c17
                    by_cases c18 : ((a0.extract 0 ((ji11) : Int).toNat) ++ t213).size + (a0.extract ((ji15) : Int).toNat a0.size).size ≤ 9223372036854775807
                    · rw [if_pos c18] at H
                      have c18b0 := eq_true c18
                      have c18b1 : decide (((a0.extract 0 ((ji11) : Int).toNat) ++ t213).size + (a0.extract ((ji15) : Int).toNat a0.size).size ≤ 9223372036854775807) = true := decide_eq_true c18
                      try have c18b2 : (9223372036854775807 < ((a0.extract 0 ((ji11) : Int).toNat) ++ t213).size + (a0.extract ((ji15) : Int).toNat a0.size).size) = False := eq_false (Nat.not_lt.2 c18)
                      simp only [Option.some.injEq, Prod.mk.injEq] at H
                      obtain ⟨rfl, rfl⟩ := H
                      have hcz19_0 : wc.cell? ⟨gb212, 0, none⟩ = some (.int .i64 a2_0) := (blk_cell BK212.out 0).trans rfl
                      have hcz19_1 : wc.cell? ⟨gb212, 1, none⟩ = some (.int .u16 a2_1) := (blk_cell BK212.out 1).trans rfl
                      have hcz19_2 : wc.cell? ⟨gb212, 2, none⟩ = some (.int .u16 a2_2) := (blk_cell BK212.out 2).trans rfl
                      have hcz19_3 : wc.cell? ⟨gb212, 3, none⟩ = some (.int .u32 a2_3) := (blk_cell BK212.out 3).trans rfl
                      have hcz19_4 : wc.cell? ⟨gb212, 4, none⟩ = some (.int .u64 a2_4) := (blk_cell BK212.out 4).trans rfl
                      have hcz19_5 : wc.cell? ⟨gb212, 5, none⟩ = some (.int .i64 a2_5) := (blk_cell BK212.out 5).trans rfl
                      have hcz19_6 : wc.cell? ⟨gb212, 6, none⟩ = some (.int .u32 a2_6) := (blk_cell BK212.out 6).trans rfl
                      have hcz19_7 : wc.cell? ⟨gb212, 7, none⟩ = some (.int .u32 a2_7) := (blk_cell BK212.out 7).trans rfl
                      have hcz19_8 : wc.cell? ⟨gb212, 8, none⟩ = some (.int .u32 a2_8) := (blk_cell BK212.out 8).trans rfl
                      have hcz19_9 : wc.cell? ⟨gb212, 9, none⟩ = some (.int .u32 a2_9) := (blk_cell BK212.out 9).trans rfl
                      have hcz19_10 : wc.cell? ⟨gb212, 10, none⟩ = some (.int .u32 a2_10) := (blk_cell BK212.out 10).trans rfl
                      have hcz19_11 : wc.cell? ⟨gb212, 11, none⟩ = some (.int .u32 a2_11) := (blk_cell BK212.out 11).trans rfl
                      have hfz19_0 := blk_frozen BK212.out 0
                      have hfz19_1 := blk_frozen BK212.out 1
                      have hfz19_2 := blk_frozen BK212.out 2
                      have hfz19_3 := blk_frozen BK212.out 3
                      have hfz19_4 := blk_frozen BK212.out 4
                      have hfz19_5 := blk_frozen BK212.out 5
                      have hfz19_6 := blk_frozen BK212.out 6
                      have hfz19_7 := blk_frozen BK212.out 7
                      have hfz19_8 := blk_frozen BK212.out 8
                      have hfz19_9 := blk_frozen BK212.out 9
                      have hfz19_10 := blk_frozen BK212.out 10
                      have hfz19_11 := blk_frozen BK212.out 11
                      iterate 3 ((try go_wp2_with (first | (go_at_call 12; (with_reducible refine (nautilusref10_Encode.calls a2_0 a2_1 a2_2 a2_3 a2_4 a2_5 a2_6 a2_7 a2_8 a2_9 a2_10 a2_11 t213 t214 _ A9.out).mono ?_); rintro e w20 ⟨rfl, hb⟩; have n0_ := Aside0.mk (blk_below (g := gb212) (o := .cells #[.int .i64 a2_0, .int .u16 a2_1, .int .u16 a2_2, .int .u32 a2_3, .int .u64 a2_4, .int .i64 a2_5, .int .u32 a2_6, .int .u32 a2_7, .int .u32 a2_8, .int .u32 a2_9, .int .u32 a2_10, .int .u32 a2_11] 30 (0, 0)) (by (with_reducible repeat (first | refine blk_drewN ?_ _ | refine blk_drew ?_ | refine blk_alloc ?_ _)); exact BK212.out) hb); have n1_ := Aside0.mk (below_step (by repeat (first | (with_reducible first | exact HB.out | apply below_alloc | apply pw_below_drewN | apply below_drew1 | refine below_set ?_ GE212.out) | exact HB.out)) hb); clear BK212; clear HB; have BK212 := n0_; have HB := n1_; clear n0_ n1_; (try clear hb); (try clear hb2); (try clear hk); (try clear hi)))); (try go_quiet (fail)))
                      go_ret2
                      exact ⟨by first | rfl | (simp [errW_none, errW_some] <;> rfl) | (simp only [← hji11, ← hji15]; first | rfl | (simp [errW_none, errW_some] <;> rfl)) | (simp [*, errW_none, errW_some] <;> rfl) | (simp [show IntKind.u64.wrap 0 = 0 from rfl, Int.zero_tdiv]; done), by repeat (first | (with_reducible first | exact HB.out | apply below_alloc | apply pw_below_drewN | apply below_drew1 | refine below_set ?_ GE212.out) | exact HB.out)⟩
                    · rw [if_neg c18] at H
                      exact absurd H (by simp)
                  · rw [if_neg c17] at H
                    exact absurd H (by simp)
                · rw [if_neg c16] at H
                  exact absurd H (by simp)
              · rw [if_neg c14] at H
                exact absurd H (by simp)
            · rw [if_neg c13] at H
              exact absurd H (by simp)
          · rw [if_neg c12] at H
            exact absurd H (by simp)
        · rw [if_neg c10] at H
          have c10b0 : (t214 == 0) = false := beq_eq_false_iff_ne.mpr c10
          have c10b1 : (t214 != 0) = true := bne_iff_ne.mpr c10
          simp only [Option.some.injEq, Prod.mk.injEq] at H
          obtain ⟨rfl, rfl⟩ := H
          have hcz21_0 : wc.cell? ⟨gb212, 0, none⟩ = some (.int .i64 a2_0) := (blk_cell BK212.out 0).trans rfl
          have hcz21_1 : wc.cell? ⟨gb212, 1, none⟩ = some (.int .u16 a2_1) := (blk_cell BK212.out 1).trans rfl
          have hcz21_2 : wc.cell? ⟨gb212, 2, none⟩ = some (.int .u16 a2_2) := (blk_cell BK212.out 2).trans rfl
          have hcz21_3 : wc.cell? ⟨gb212, 3, none⟩ = some (.int .u32 a2_3) := (blk_cell BK212.out 3).trans rfl
          have hcz21_4 : wc.cell? ⟨gb212, 4, none⟩ = some (.int .u64 a2_4) := (blk_cell BK212.out 4).trans rfl
          have hcz21_5 : wc.cell? ⟨gb212, 5, none⟩ = some (.int .i64 a2_5) := (blk_cell BK212.out 5).trans rfl
          have hcz21_6 : wc.cell? ⟨gb212, 6, none⟩ = some (.int .u32 a2_6) := (blk_cell BK212.out 6).trans rfl
          have hcz21_7 : wc.cell? ⟨gb212, 7, none⟩ = some (.int .u32 a2_7) := (blk_cell BK212.out 7).trans rfl
          have hcz21_8 : wc.cell? ⟨gb212, 8, none⟩ = some (.int .u32 a2_8) := (blk_cell BK212.out 8).trans rfl
          have hcz21_9 : wc.cell? ⟨gb212, 9, none⟩ = some (.int .u32 a2_9) := (blk_cell BK212.out 9).trans rfl
          have hcz21_10 : wc.cell? ⟨gb212, 10, none⟩ = some (.int .u32 a2_10) := (blk_cell BK212.out 10).trans rfl
          have hcz21_11 : wc.cell? ⟨gb212, 11, none⟩ = some (.int .u32 a2_11) := (blk_cell BK212.out 11).trans rfl
          have hfz21_0 := blk_frozen BK212.out 0
          have hfz21_1 := blk_frozen BK212.out 1
          have hfz21_2 := blk_frozen BK212.out 2
          have hfz21_3 := blk_frozen BK212.out 3
          have hfz21_4 := blk_frozen BK212.out 4
          have hfz21_5 := blk_frozen BK212.out 5
          have hfz21_6 := blk_frozen BK212.out 6
          have hfz21_7 := blk_frozen BK212.out 7
          have hfz21_8 := blk_frozen BK212.out 8
          have hfz21_9 := blk_frozen BK212.out 9
          have hfz21_10 := blk_frozen BK212.out 10
          have hfz21_11 := blk_frozen BK212.out 11
          iterate 3 ((try go_wp2_with (first | (go_at_call 12; (with_reducible refine (nautilusref10_Encode.calls a2_0 a2_1 a2_2 a2_3 a2_4 a2_5 a2_6 a2_7 a2_8 a2_9 a2_10 a2_11 t213 t214 _ A9.out).mono ?_); rintro e w22 ⟨rfl, hb⟩; have n0_ := Aside0.mk (blk_below (g := gb212) (o := .cells #[.int .i64 a2_0, .int .u16 a2_1, .int .u16 a2_2, .int .u32 a2_3, .int .u64 a2_4, .int .i64 a2_5, .int .u32 a2_6, .int .u32 a2_7, .int .u32 a2_8, .int .u32 a2_9, .int .u32 a2_10, .int .u32 a2_11] 30 (0, 0)) (by (with_reducible repeat (first | refine blk_drewN ?_ _ | refine blk_drew ?_ | refine blk_alloc ?_ _)); exact BK212.out) hb); have n1_ := Aside0.mk (below_step (by repeat (first | (with_reducible first | exact HB.out | apply below_alloc | apply pw_below_drewN | apply below_drew1 | refine below_set ?_ GE212.out) | exact HB.out)) hb); clear BK212; clear HB; have BK212 := n0_; have HB := n1_; clear n0_ n1_; (try clear hb); (try clear hb2); (try clear hk); (try clear hi)))); (try go_quiet (fail)))
          go_ret2
          exact ⟨by first | rfl | (simp [errW_none, errW_some] <;> rfl) | (simp [*, errW_none, errW_some] <;> rfl) | (simp [show IntKind.u64.wrap 0 = 0 from rfl, Int.zero_tdiv]; done), by repeat (first | (with_reducible first | exact HB.out | apply below_alloc | apply pw_below_drewN | apply below_drew1 | refine below_set ?_ GE212.out) | exact HB.out)⟩

end Go.Proofs.Ytdcdcnnigggdjaa.Q
