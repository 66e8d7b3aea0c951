/- Functions of the translation as plain Lean functions, and that the translation computes them: printed by this session's driver of the print. -/
import Derived.Test.YtpcokafalmafgaaQ0
import Derived.Test.YtpcokafalmafgaaHIEncR
namespace Go.Proofs.Ytpcokafalmafgaa.Q
open Go.Proofs.Ytpcokafalmafgaa.H
open Go.RowKit Go.Proofs.YtpcokafalmafgaaW.PrintWords Go.Proofs.YtpcokafalmafgaaW.PrintLast Go.Proofs.YtpcokafalmafgaaW.PrintMore
attribute [local go_sem] max2_int min2_int max_two min_two max_three min_three max_four min_four   -- for this text's walks alone
set_option linter.unusedVariables false
set_option linter.unusedSimpArgs false

/-! ### nautilusref10_Put: function 46 -/
def nautilusref10_Put.j0 : Nat → ByteArray → Int → Bool → Int → Int → Int → Int → Int → Int → Int → Int → Int → Int → Int → Int → Option (ByteArray × Int)
 | 0, _, _, _, _, _, _, _, _, _, _, _, _, _, _, _ => none
 | k + 1, x0, x1, x21, x233000, x233001, x233002, x233003, x233004, x233005, x233006, x233007, x233008, x233009, x233010, x233011 => if x21 = true then (some ((⟨#[]⟩ : ByteArray), 2)) else ((nautilusref10_Encode.f x233000 x233001 x233002 x233003 x233004 x233005 x233006 x233007 x233008 x233009 x233010 x233011).bind fun bt233 => (if bt233.2 = 0 then (if 0 ≤ (wrap64 (x1 * 42)) then (if (wrap64 (x1 * 42)) ≤ (x0.size : Int) then (if (x0.extract 0 ((wrap64 (x1 * 42)) : Int).toNat).size + bt233.1.size ≤ 9223372036854775807 then (if 0 ≤ (wrap64 ((wrap64 (x1 * 42)) + 42)) then (if (wrap64 ((wrap64 (x1 * 42)) + 42)) ≤ (x0.size : Int) then (if ((x0.extract 0 ((wrap64 (x1 * 42)) : Int).toNat) ++ bt233.1).size + (x0.extract ((wrap64 ((wrap64 (x1 * 42)) + 42)) : Int).toNat x0.size).size ≤ 9223372036854775807 then (some (((x0.extract 0 ((wrap64 (x1 * 42)) : Int).toNat) ++ bt233.1) ++ (x0.extract ((wrap64 ((wrap64 (x1 * 42)) + 42)) : Int).toNat x0.size), 0)) else (none)) else (none)) else (none)) else (none)) else (none)) else (none)) else (some ((⟨#[]⟩ : ByteArray), bt233.2))))
def nautilusref10_Put.f (k : Nat) (a0 : ByteArray) (a1 : Int) (a2_0 : Int) (a2_1 : Int) (a2_2 : Int) (a2_3 : Int) (a2_4 : Int) (a2_5 : Int) (a2_6 : Int) (a2_7 : Int) (a2_8 : Int) (a2_9 : Int) (a2_10 : Int) (a2_11 : Int) : Option (ByteArray × Int) := if (a0.size : Int) = 508 then (if a1 < 0 then (nautilusref10_Put.j0 k a0 a1 true a2_0 a2_1 a2_2 a2_3 a2_4 a2_5 a2_6 a2_7 a2_8 a2_9 a2_10 a2_11) else (nautilusref10_Put.j0 k a0 a1 (decide (a1 ≥ 12)) a2_0 a2_1 a2_2 a2_3 a2_4 a2_5 a2_6 a2_7 a2_8 a2_9 a2_10 a2_11)) else (nautilusref10_Put.j0 k a0 a1 true a2_0 a2_1 a2_2 a2_3 a2_4 a2_5 a2_6 a2_7 a2_8 a2_9 a2_10 a2_11)
theorem nautilusref10_Put.mono_l : ∀ k, (∀ y0 y1 y2 y3 y4 y5 y6 y7 y8 y9 y10 y11 y12 y13 y14, LeO (nautilusref10_Put.j0 k y0 y1 y2 y3 y4 y5 y6 y7 y8 y9 y10 y11 y12 y13 y14) (nautilusref10_Put.j0 (k + 1) y0 y1 y2 y3 y4 y5 y6 y7 y8 y9 y10 y11 y12 y13 y14))
 | 0 => fun _ _ _ _ _ _ _ _ _ _ _ _ _ _ _ r h => by simp [nautilusref10_Put.j0] at h
 | k + 1 => by
  have ih0 := nautilusref10_Put.mono_l k
  ·intro y0 y1 y2 y3 y4 y5 y6 y7 y8 y9 y10 y11 y12 y13 y14
   unfold nautilusref10_Put.j0
   repeat' first
   | (with_reducible exact ih0 _ _ _ _ _ _ _ _ _ _ _ _ _ _ _)
   | (with_reducible exact LeO.refl _)
   | (with_reducible exact LeO.none _)
   | (with_reducible refine LeO.ite ?_ ?_)
   | (with_reducible refine LeO.bind ?_ (fun _ => ?_))
   | exact ih0 _ _ _ _ _ _ _ _ _ _ _ _ _ _ _
   | exact LeO.none _
   | refine LeO.ite ?_ ?_
   | refine LeO.bind ?_ (fun _ => ?_)
theorem nautilusref10_Put.mono : ∀ a0 a1 a2 a3 a4 a5 a6 a7 a8 a9 a10 a11 a12 a13 k, LeO (nautilusref10_Put.f k a0 a1 a2 a3 a4 a5 a6 a7 a8 a9 a10 a11 a12 a13) (nautilusref10_Put.f (k + 1) a0 a1 a2 a3 a4 a5 a6 a7 a8 a9 a10 a11 a12 a13) := by
 intro a0 a1 a2 a3 a4 a5 a6 a7 a8 a9 a10 a11 a12 a13 k
 have ih0 := nautilusref10_Put.mono_l k
 unfold nautilusref10_Put.f
 repeat' first
   | (with_reducible exact ih0 _ _ _ _ _ _ _ _ _ _ _ _ _ _ _)
   | (with_reducible exact LeO.refl _)
   | (with_reducible exact LeO.none _)
   | (with_reducible refine LeO.ite ?_ ?_)
   | (with_reducible refine LeO.bind ?_ (fun _ => ?_))
   | exact ih0 _ _ _ _ _ _ _ _ _ _ _ _ _ _ _
   | exact LeO.none _
   | refine LeO.ite ?_ ?_
   | refine LeO.bind ?_ (fun _ => ?_)
set_option maxHeartbeats 8000000 in
set_option maxRecDepth 100000 in
theorem nautilusref10_Put.calls (k : Nat) (a0 : ByteArray) (a1 : Int) (a2_0 : Int) (a2_1 : Int) (a2_2 : Int) (a2_3 : Int) (a2_4 : Int) (a2_5 : Int) (a2_6 : Int) (a2_7 : Int) (a2_8 : Int) (a2_9 : Int) (a2_10 : Int) (a2_11 : Int) (r1 : ByteArray) (r2 : Int) (w : World) (h : nautilusref10_Put.f k a0 a1 a2_0 a2_1 a2_2 a2_3 a2_4 a2_5 a2_6 a2_7 a2_8 a2_9 a2_10 a2_11 = some (r1, r2)) :
  Calls Try.prog 46 #[.string a0, .int .i64 a1, .agg #[.int .i64 a2_0, .int .u16 a2_1, .int .u16 a2_2, .int .u32 a2_3, .int .u64 a2_4, .int .i64 a2_5, .int .u32 a2_6, .int .u32 a2_7, .int .u32 a2_8, .int .u32 a2_9, .int .u32 a2_10, .int .u32 a2_11]] w fun e w' => e = .returned (.tuple #[.string r1, .int .i64 r2]) ∧ Below w.heap.size w w' := by
 have hu42 := Try.underlying42
 have HB := Aside0.mk (Below.refl w.heap.size w)
 have H : (if (a0.size : Int) = 508 then (if a1 < 0 then (nautilusref10_Put.j0 k a0 a1 true a2_0 a2_1 a2_2 a2_3 a2_4 a2_5 a2_6 a2_7 a2_8 a2_9 a2_10 a2_11) else (nautilusref10_Put.j0 k a0 a1 (decide (a1 ≥ 12)) a2_0 a2_1 a2_2 a2_3 a2_4 a2_5 a2_6 a2_7 a2_8 a2_9 a2_10 a2_11)) else (nautilusref10_Put.j0 k a0 a1 true a2_0 a2_1 a2_2 a2_3 a2_4 a2_5 a2_6 a2_7 a2_8 a2_9 a2_10 a2_11)) = some (r1, r2) := h
 clear h
 have HC4 := Aside0.mk H
 clear H
 go_enter Try.func46, Try.ntmps46
 go_upto_region 1 with (first | ((with_reducible refine gate_dst (N := 5) rfl ?_); refine box_event ?hg (N := 5) ?hd (cs := #[.int .i64 a2_0, .int .u16 a2_1, .int .u16 a2_2, .int .u32 a2_3, .int .u64 a2_4, .int .i64 a2_5, .int .u32 a2_6, .int .u32 a2_7, .int .u32 a2_8, .int .u32 a2_9, .int .u32 a2_10, .int .u32 a2_11]) (t := 42) ?hr ?_; (case hd => rfl); (case hg => rfl); (case hr => first | (go_simp; done) | (go_simp; rfl)); intro gb232 hg w5 hbox hb; have n0_ := Aside0.mk (below_step (by repeat (first | (with_reducible first | exact HB.out | apply below_alloc | apply pw_below_drewN | apply below_drew1) | exact HB.out)) hb); have n1_ := Aside0.mk (hbox); have n2_ := Aside0.mk ((by rw [hg]; exact (below_size (by repeat (first | (with_reducible first | exact HB.out | apply below_alloc | apply pw_below_drewN | apply below_drew1) | exact HB.out))) : w.heap.size ≤ gb232)); have n3_ := Aside0.mk ((by rw [hg]; exact (below_size (by repeat (first | (with_reducible first | exact HB.out | apply below_alloc | apply pw_below_drewN | apply below_drew1) | exact HB.out))) : w.heap.size ≤ gb232)); clear HB; have HB := n0_; have BK232 := n1_; have GW232 := n2_; have GE232 := n3_; clear n0_ n1_ n2_ n3_; clear hb hbox hg))
 repeat (go_quiet (first | ((with_reducible refine gate_dst (N := 5) rfl ?_); refine box_event ?hg (N := 5) ?hd (cs := #[.int .i64 a2_0, .int .u16 a2_1, .int .u16 a2_2, .int .u32 a2_3, .int .u64 a2_4, .int .i64 a2_5, .int .u32 a2_6, .int .u32 a2_7, .int .u32 a2_8, .int .u32 a2_9, .int .u32 a2_10, .int .u32 a2_11]) (t := 42) ?hr ?_; (case hd => rfl); (case hg => rfl); (case hr => first | (go_simp; done) | (go_simp; rfl)); intro gb232 hg w5 hbox hb; have n0_ := Aside0.mk (below_step (by repeat (first | (with_reducible first | exact HB.out | apply below_alloc | apply pw_below_drewN | apply below_drew1) | exact HB.out)) hb); have n1_ := Aside0.mk (hbox); have n2_ := Aside0.mk ((by rw [hg]; exact (below_size (by repeat (first | (with_reducible first | exact HB.out | apply below_alloc | apply pw_below_drewN | apply below_drew1) | exact HB.out))) : w.heap.size ≤ gb232)); have n3_ := Aside0.mk ((by rw [hg]; exact (below_size (by repeat (first | (with_reducible first | exact HB.out | apply below_alloc | apply pw_below_drewN | apply below_drew1) | exact HB.out))) : w.heap.size ≤ gb232)); clear HB; have HB := n0_; have BK232 := n1_; have GW232 := n2_; have GE232 := n3_; clear n0_ n1_ n2_ n3_; clear hb hbox hg)); go_upto_region 1 with (first | ((with_reducible refine gate_dst (N := 5) rfl ?_); refine box_event ?hg (N := 5) ?hd (cs := #[.int .i64 a2_0, .int .u16 a2_1, .int .u16 a2_2, .int .u32 a2_3, .int .u64 a2_4, .int .i64 a2_5, .int .u32 a2_6, .int .u32 a2_7, .int .u32 a2_8, .int .u32 a2_9, .int .u32 a2_10, .int .u32 a2_11]) (t := 42) ?hr ?_; (case hd => rfl); (case hg => rfl); (case hr => first | (go_simp; done) | (go_simp; rfl)); intro gb232 hg w5 hbox hb; have n0_ := Aside0.mk (below_step (by repeat (first | (with_reducible first | exact HB.out | apply below_alloc | apply pw_below_drewN | apply below_drew1) | exact HB.out)) hb); have n1_ := Aside0.mk (hbox); have n2_ := Aside0.mk ((by rw [hg]; exact (below_size (by repeat (first | (with_reducible first | exact HB.out | apply below_alloc | apply pw_below_drewN | apply below_drew1) | exact HB.out))) : w.heap.size ≤ gb232)); have n3_ := Aside0.mk ((by rw [hg]; exact (below_size (by repeat (first | (with_reducible first | exact HB.out | apply below_alloc | apply pw_below_drewN | apply below_drew1) | exact HB.out))) : w.heap.size ≤ gb232)); clear HB; have HB := n0_; have BK232 := n1_; have GW232 := n2_; have GE232 := n3_; clear n0_ n1_ n2_ n3_; clear hb hbox hg)))
 (try simp only [Act.put, List.setIfInBounds_toArray, List.set_cons_zero, List.set_cons_succ])
 go_cut [21] (fun v21 wc => ∃ (kq : Nat) (x21_3 : Bool), v21 = .bool x21_3 ∧ Aside0 (nautilusref10_Put.j0 kq a0 a1 x21_3 a2_0 a2_1 a2_2 a2_3 a2_4 a2_5 a2_6 a2_7 a2_8 a2_9 a2_10 a2_11 = some (r1, r2)) ∧ Aside0 (kq ≤ k) ∧ Aside0 (wc.heap[gb232]? = some (.cells #[.int .i64 a2_0, .int .u16 a2_1, .int .u16 a2_2, .int .u32 a2_3, .int .u64 a2_4, .int .i64 a2_5, .int .u32 a2_6, .int .u32 a2_7, .int .u32 a2_8, .int .u32 a2_9, .int .u32 a2_10, .int .u32 a2_11] 42 (0, 0))) ∧ Aside0 (Below w.heap.size w wc))
 case first =>
  have H := HC4.out
  clear HC4
  by_cases c6 : (a0.size : Int) = 508
  ·rw [if_pos c6] at H
   have c6b0 : ((a0.size : Int) == 508) = true := beq_iff_eq.mpr c6
   have c6b1 : ((a0.size : Int) != 508) = false := bne_eq_false_iff_eq.mpr c6
   clear c6
   (first | rw [c6b0] | (simp only [i64_w, i32_w]; rw [c6b0]) | skip)
   by_cases c7 : a1 < 0
   ·rw [if_pos c7] at H
    have c7b0 : decide (a1 < 0) = true := decide_eq_true c7
    clear c7
    have H' := Aside0.mk H
    clear H
    go_wp2
    repeat (go_quiet (fail); try go_wp2)
    go_meet
    case rel => exact ⟨_, (true), (by first | rfl | (simp; done) | (simp [*]; done)), H', ⟨by first | omega | exact Nat.le_refl _⟩, ⟨by (with_reducible repeat (first | refine blk_drewN ?_ _ | refine blk_drew ?_ | refine blk_alloc ?_ _)); exact BK232.out⟩, ⟨by repeat (first | (with_reducible first | exact HB.out | apply below_alloc | apply pw_below_drewN | apply below_drew1 | refine below_set ?_ GE232.out) | exact HB.out)⟩⟩
   ·rw [if_neg c7] at H
    have c7b0 : decide (a1 < 0) = false := decide_eq_false c7
    clear c7
    have H' := Aside0.mk H
    clear H
    go_wp2
    repeat (go_quiet (fail); try go_wp2)
    go_meet
    case rel => exact ⟨_, (decide (a1 ≥ 12)), (by first | rfl | (simp; done) | (simp [*]; done)), H', ⟨by first | omega | exact Nat.le_refl _⟩, ⟨by (with_reducible repeat (first | refine blk_drewN ?_ _ | refine blk_drew ?_ | refine blk_alloc ?_ _)); exact BK232.out⟩, ⟨by repeat (first | (with_reducible first | exact HB.out | apply below_alloc | apply pw_below_drewN | apply below_drew1 | refine below_set ?_ GE232.out) | exact HB.out)⟩⟩
  ·rw [if_neg c6] at H
   have c6b0 : ((a0.size : Int) == 508) = false := beq_eq_false_iff_ne.mpr c6
   have c6b1 : ((a0.size : Int) != 508) = true := bne_iff_ne.mpr c6
   (first | rw [c6b0] | (simp only [i64_w, i32_w]; rw [c6b0]) | skip)
   have H' := Aside0.mk H
   clear H
   go_wp2
   repeat (go_quiet (fail); try go_wp2)
   go_meet
   case rel => exact ⟨_, (true), (by first | rfl | (simp; done) | (simp [*]; done)), H', ⟨by first | omega | exact Nat.le_refl _⟩, ⟨by (with_reducible repeat (first | refine blk_drewN ?_ _ | refine blk_drew ?_ | refine blk_alloc ?_ _)); exact BK232.out⟩, ⟨by repeat (first | (with_reducible first | exact HB.out | apply below_alloc | apply pw_below_drewN | apply below_drew1 | refine below_set ?_ GE232.out) | exact HB.out)⟩⟩
 case rest =>
  clear HC4
  try clear p2
  try clear c4
  try clear c6
  try clear c6b0
  try clear c6b1
  try clear c7
  try clear c7b0
  obtain ⟨kq, x21_3, rfl, HA, HJ3, BK232, HB⟩ := hcut
  cases kq with
  | zero => exact absurd HA.out (by simp [nautilusref10_Put.j0])
  | succ kj3 =>
   have H := HA.out
   clear HA
   simp only [nautilusref10_Put.j0] at H
   by_cases c8 : x21_3 = true
   ·subst c8
    have H1 : (some ((⟨#[]⟩ : ByteArray), 2)) = some (r1, r2) := by rw [if_pos rfl] at H; exact H
    clear H
    have H := H1
    clear H1
    simp only [Option.some.injEq, Prod.mk.injEq] at H
    obtain ⟨rfl, rfl⟩ := H
    go_wp2
    repeat (go_quiet (fail); try go_wp2)
    go_ret2
    exact ⟨by first | rfl | (simp [errW_none, errW_some] <;> rfl) | (simp [*, errW_none, errW_some] <;> rfl) | (simp [show IntKind.u64.wrap 0 = 0 from rfl, Int.zero_tdiv]; done), by repeat (first | (with_reducible first | exact HB.out | apply below_alloc | apply pw_below_drewN | apply below_drew1 | refine below_set ?_ GE232.out) | exact HB.out)⟩
   ·replace c8 := Bool.eq_false_iff.mpr c8
    subst c8
    have H1 : ((nautilusref10_Encode.f a2_0 a2_1 a2_2 a2_3 a2_4 a2_5 a2_6 a2_7 a2_8 a2_9 a2_10 a2_11).bind fun bt233 => (if bt233.2 = 0 then (if 0 ≤ (wrap64 (a1 * 42)) then (if (wrap64 (a1 * 42)) ≤ (a0.size : Int) then (if (a0.extract 0 ((wrap64 (a1 * 42)) : Int).toNat).size + bt233.1.size ≤ 9223372036854775807 then (if 0 ≤ (wrap64 ((wrap64 (a1 * 42)) + 42)) then (if (wrap64 ((wrap64 (a1 * 42)) + 42)) ≤ (a0.size : Int) then (if ((a0.extract 0 ((wrap64 (a1 * 42)) : Int).toNat) ++ bt233.1).size + (a0.extract ((wrap64 ((wrap64 (a1 * 42)) + 42)) : Int).toNat a0.size).size ≤ 9223372036854775807 then (some (((a0.extract 0 ((wrap64 (a1 * 42)) : Int).toNat) ++ bt233.1) ++ (a0.extract ((wrap64 ((wrap64 (a1 * 42)) + 42)) : Int).toNat a0.size), 0)) else (none)) else (none)) else (none)) else (none)) else (none)) else (none)) else (some ((⟨#[]⟩ : ByteArray), bt233.2)))) = some (r1, r2) := by rw [if_neg (show ¬ (false = true) by decide)] at H; exact H
    clear H
    have H := H1
    clear H1
    replace H := Option.bind_eq_some_iff.mp H
    obtain ⟨⟨t233, t234⟩, A90, H⟩ := H
    replace H : (if t234 = 0 then (if 0 ≤ (wrap64 (a1 * 42)) then (if (wrap64 (a1 * 42)) ≤ (a0.size : Int) then (if (a0.extract 0 ((wrap64 (a1 * 42)) : Int).toNat).size + t233.size ≤ 9223372036854775807 then (if 0 ≤ (wrap64 ((wrap64 (a1 * 42)) + 42)) then (if (wrap64 ((wrap64 (a1 * 42)) + 42)) ≤ (a0.size : Int) then (if ((a0.extract 0 ((wrap64 (a1 * 42)) : Int).toNat) ++ t233).size + (a0.extract ((wrap64 ((wrap64 (a1 * 42)) + 42)) : Int).toNat a0.size).size ≤ 9223372036854775807 then (some (((a0.extract 0 ((wrap64 (a1 * 42)) : Int).toNat) ++ t233) ++ (a0.extract ((wrap64 ((wrap64 (a1 * 42)) + 42)) : Int).toNat a0.size), 0)) else (none)) else (none)) else (none)) else (none)) else (none)) else (none)) else (some ((⟨#[]⟩ : ByteArray), t234))) = some (r1, r2) := H
    have A9 := Aside0.mk A90
    clear A90
    by_cases c10 : t234 = 0
    ·rw [if_pos c10] at H
     have c10b0 : (t234 == 0) = true := beq_iff_eq.mpr c10
     have c10b1 : (t234 != 0) = false := bne_eq_false_iff_eq.mpr c10
     clear c10
     obtain ⟨ji11, hji11⟩ : ∃ j_ : Int, (wrap64 (a1 * 42)) = j_ := ⟨_, rfl⟩
     replace H : (if 0 ≤ (ji11) then (if (ji11) ≤ (a0.size : Int) then (if (a0.extract 0 ((ji11) : Int).toNat).size + t233.size ≤ 9223372036854775807 then (if 0 ≤ (wrap64 ((ji11) + 42)) then (if (wrap64 ((ji11) + 42)) ≤ (a0.size : Int) then (if ((a0.extract 0 ((ji11) : Int).toNat) ++ t233).size + (a0.extract ((wrap64 ((ji11) + 42)) : Int).toNat a0.size).size ≤ 9223372036854775807 then (some (((a0.extract 0 ((ji11) : Int).toNat) ++ t233) ++ (a0.extract ((wrap64 ((ji11) + 42)) : Int).toNat a0.size), 0)) else (none)) else (none)) else (none)) else (none)) else (none)) else (none)) = some (r1, r2) := by first | (rw [hji11] at H; exact H) | (simp only [hji11] at H ⊢; exact H)
     (try rw [hji11] at A9)
     have hji11w : (IntKind.i64.wrap (a1 * 42)) = ji11 := (i64_w _).trans hji11
     by_cases c12 : 0 ≤ (ji11)
     ·rw [if_pos c12] at H
      have c12b0 := eq_true c12
      have c12b1 : decide (0 ≤ (ji11)) = true := decide_eq_true c12
      clear c12
      by_cases c13 : (ji11) ≤ (a0.size : Int)
      ·rw [if_pos c13] at H
       have c13b0 := eq_true c13
       have c13b1 : decide ((ji11) ≤ (a0.size : Int)) = true := decide_eq_true c13
       clear c13
       by_cases c14 : (a0.extract 0 ((ji11) : Int).toNat).size + t233.size ≤ 9223372036854775807
       ·rw [if_pos c14] at H
        have c14b0 := eq_true c14
        have c14b1 : decide ((a0.extract 0 ((ji11) : Int).toNat).size + t233.size ≤ 9223372036854775807) = true := decide_eq_true c14
        try have c14b2 : (9223372036854775807 < (a0.extract 0 ((ji11) : Int).toNat).size + t233.size) = False := eq_false (Nat.not_lt.2 c14)
        obtain ⟨ji15, hji15⟩ : ∃ j_ : Int, (wrap64 ((ji11) + 42)) = j_ := ⟨_, rfl⟩
        replace H : (if 0 ≤ (ji15) then (if (ji15) ≤ (a0.size : Int) then (if ((a0.extract 0 ((ji11) : Int).toNat) ++ t233).size + (a0.extract ((ji15) : Int).toNat a0.size).size ≤ 9223372036854775807 then (some (((a0.extract 0 ((ji11) : Int).toNat) ++ t233) ++ (a0.extract ((ji15) : Int).toNat a0.size), 0)) else (none)) else (none)) else (none)) = some (r1, r2) := by first | (rw [hji15] at H; exact H) | (simp only [hji15] at H ⊢; exact H)
        (try rw [hji15] at A9)
        have hji15w : (IntKind.i64.wrap ((ji11) + 42)) = ji15 := (i64_w _).trans hji15
        by_cases c16 : 0 ≤ (ji15)
        ·rw [if_pos c16] at H
         have c16b0 := eq_true c16
         have c16b1 : decide (0 ≤ (ji15)) = true := decide_eq_true c16
         clear c16
         by_cases c17 : (ji15) ≤ (a0.size : Int)
         ·rw [if_pos c17] at H
          have c17b0 := eq_true c17
          have c17b1 : decide ((ji15) ≤ (a0.size : Int)) = true := decide_eq_true c17
          clear c17
          by_cases c18 : ((a0.extract 0 ((ji11) : Int).toNat) ++ t233).size + (a0.extract ((ji15) : Int).toNat a0.size).size ≤ 9223372036854775807
          ·rw [if_pos c18] at H
           have c18b0 := eq_true c18
           have c18b1 : decide (((a0.extract 0 ((ji11) : Int).toNat) ++ t233).size + (a0.extract ((ji15) : Int).toNat a0.size).size ≤ 9223372036854775807) = true := decide_eq_true c18
           try have c18b2 : (9223372036854775807 < ((a0.extract 0 ((ji11) : Int).toNat) ++ t233).size + (a0.extract ((ji15) : Int).toNat a0.size).size) = False := eq_false (Nat.not_lt.2 c18)
           simp only [Option.some.injEq, Prod.mk.injEq] at H
           obtain ⟨rfl, rfl⟩ := H
           have hcz19_0 : wc.cell? ⟨gb232, 0, none⟩ = some (.int .i64 a2_0) := (blk_cell BK232.out 0).trans rfl
           have hcz19_1 : wc.cell? ⟨gb232, 1, none⟩ = some (.int .u16 a2_1) := (blk_cell BK232.out 1).trans rfl
           have hcz19_2 : wc.cell? ⟨gb232, 2, none⟩ = some (.int .u16 a2_2) := (blk_cell BK232.out 2).trans rfl
           have hcz19_3 : wc.cell? ⟨gb232, 3, none⟩ = some (.int .u32 a2_3) := (blk_cell BK232.out 3).trans rfl
           have hcz19_4 : wc.cell? ⟨gb232, 4, none⟩ = some (.int .u64 a2_4) := (blk_cell BK232.out 4).trans rfl
           have hcz19_5 : wc.cell? ⟨gb232, 5, none⟩ = some (.int .i64 a2_5) := (blk_cell BK232.out 5).trans rfl
           have hcz19_6 : wc.cell? ⟨gb232, 6, none⟩ = some (.int .u32 a2_6) := (blk_cell BK232.out 6).trans rfl
           have hcz19_7 : wc.cell? ⟨gb232, 7, none⟩ = some (.int .u32 a2_7) := (blk_cell BK232.out 7).trans rfl
           have hcz19_8 : wc.cell? ⟨gb232, 8, none⟩ = some (.int .u32 a2_8) := (blk_cell BK232.out 8).trans rfl
           have hcz19_9 : wc.cell? ⟨gb232, 9, none⟩ = some (.int .u32 a2_9) := (blk_cell BK232.out 9).trans rfl
           have hcz19_10 : wc.cell? ⟨gb232, 10, none⟩ = some (.int .u32 a2_10) := (blk_cell BK232.out 10).trans rfl
           have hcz19_11 : wc.cell? ⟨gb232, 11, none⟩ = some (.int .u32 a2_11) := (blk_cell BK232.out 11).trans rfl
           have hfz19_0 := blk_frozen BK232.out 0
           have hfz19_1 := blk_frozen BK232.out 1
           have hfz19_2 := blk_frozen BK232.out 2
           have hfz19_3 := blk_frozen BK232.out 3
           have hfz19_4 := blk_frozen BK232.out 4
           have hfz19_5 := blk_frozen BK232.out 5
           have hfz19_6 := blk_frozen BK232.out 6
           have hfz19_7 := blk_frozen BK232.out 7
           have hfz19_8 := blk_frozen BK232.out 8
           have hfz19_9 := blk_frozen BK232.out 9
           have hfz19_10 := blk_frozen BK232.out 10
           have hfz19_11 := blk_frozen BK232.out 11
           iterate 3 ((try go_wp2_with (first | (go_at_call 60; (with_reducible refine (nautilusref10_Encode.calls a2_0 a2_1 a2_2 a2_3 a2_4 a2_5 a2_6 a2_7 a2_8 a2_9 a2_10 a2_11 t233 t234 _ A9.out).mono ?_); rintro e w20 ⟨rfl, hb⟩; have n0_ := Aside0.mk (blk_below (g := gb232) (o := .cells #[.int .i64 a2_0, .int .u16 a2_1, .int .u16 a2_2, .int .u32 a2_3, .int .u64 a2_4, .int .i64 a2_5, .int .u32 a2_6, .int .u32 a2_7, .int .u32 a2_8, .int .u32 a2_9, .int .u32 a2_10, .int .u32 a2_11] 42 (0, 0)) (by (with_reducible repeat (first | refine blk_drewN ?_ _ | refine blk_drew ?_ | refine blk_alloc ?_ _)); exact BK232.out) hb); have n1_ := Aside0.mk (below_step (by repeat (first | (with_reducible first | exact HB.out | apply below_alloc | apply pw_below_drewN | apply below_drew1 | refine below_set ?_ GE232.out) | exact HB.out)) hb); clear BK232; clear HB; have BK232 := n0_; have HB := n1_; clear n0_ n1_; (try clear hb); (try clear hb2); (try clear hk); (try clear hi)))); (try go_quiet (fail)))
           go_ret2
           exact ⟨by first | rfl | (simp [errW_none, errW_some] <;> rfl) | (simp only [← hji11, ← hji15]; first | rfl | (simp [errW_none, errW_some] <;> rfl)) | (simp [*, errW_none, errW_some] <;> rfl) | (simp [show IntKind.u64.wrap 0 = 0 from rfl, Int.zero_tdiv]; done), by repeat (first | (with_reducible first | exact HB.out | apply below_alloc | apply pw_below_drewN | apply below_drew1 | refine below_set ?_ GE232.out) | exact HB.out)⟩
          ·rw [if_neg c18] at H
           exact absurd H (by simp)
         ·rw [if_neg c17] at H
          exact absurd H (by simp)
        ·rw [if_neg c16] at H
         exact absurd H (by simp)
       ·rw [if_neg c14] at H
        exact absurd H (by simp)
      ·rw [if_neg c13] at H
       exact absurd H (by simp)
     ·rw [if_neg c12] at H
      exact absurd H (by simp)
    ·rw [if_neg c10] at H
     have c10b0 : (t234 == 0) = false := beq_eq_false_iff_ne.mpr c10
     have c10b1 : (t234 != 0) = true := bne_iff_ne.mpr c10
     simp only [Option.some.injEq, Prod.mk.injEq] at H
     obtain ⟨rfl, rfl⟩ := H
     have hcz21_0 : wc.cell? ⟨gb232, 0, none⟩ = some (.int .i64 a2_0) := (blk_cell BK232.out 0).trans rfl
     have hcz21_1 : wc.cell? ⟨gb232, 1, none⟩ = some (.int .u16 a2_1) := (blk_cell BK232.out 1).trans rfl
     have hcz21_2 : wc.cell? ⟨gb232, 2, none⟩ = some (.int .u16 a2_2) := (blk_cell BK232.out 2).trans rfl
     have hcz21_3 : wc.cell? ⟨gb232, 3, none⟩ = some (.int .u32 a2_3) := (blk_cell BK232.out 3).trans rfl
     have hcz21_4 : wc.cell? ⟨gb232, 4, none⟩ = some (.int .u64 a2_4) := (blk_cell BK232.out 4).trans rfl
     have hcz21_5 : wc.cell? ⟨gb232, 5, none⟩ = some (.int .i64 a2_5) := (blk_cell BK232.out 5).trans rfl
     have hcz21_6 : wc.cell? ⟨gb232, 6, none⟩ = some (.int .u32 a2_6) := (blk_cell BK232.out 6).trans rfl
     have hcz21_7 : wc.cell? ⟨gb232, 7, none⟩ = some (.int .u32 a2_7) := (blk_cell BK232.out 7).trans rfl
     have hcz21_8 : wc.cell? ⟨gb232, 8, none⟩ = some (.int .u32 a2_8) := (blk_cell BK232.out 8).trans rfl
     have hcz21_9 : wc.cell? ⟨gb232, 9, none⟩ = some (.int .u32 a2_9) := (blk_cell BK232.out 9).trans rfl
     have hcz21_10 : wc.cell? ⟨gb232, 10, none⟩ = some (.int .u32 a2_10) := (blk_cell BK232.out 10).trans rfl
     have hcz21_11 : wc.cell? ⟨gb232, 11, none⟩ = some (.int .u32 a2_11) := (blk_cell BK232.out 11).trans rfl
     have hfz21_0 := blk_frozen BK232.out 0
     have hfz21_1 := blk_frozen BK232.out 1
     have hfz21_2 := blk_frozen BK232.out 2
     have hfz21_3 := blk_frozen BK232.out 3
     have hfz21_4 := blk_frozen BK232.out 4
     have hfz21_5 := blk_frozen BK232.out 5
     have hfz21_6 := blk_frozen BK232.out 6
     have hfz21_7 := blk_frozen BK232.out 7
     have hfz21_8 := blk_frozen BK232.out 8
     have hfz21_9 := blk_frozen BK232.out 9
     have hfz21_10 := blk_frozen BK232.out 10
     have hfz21_11 := blk_frozen BK232.out 11
     iterate 3 ((try go_wp2_with (first | (go_at_call 60; (with_reducible refine (nautilusref10_Encode.calls a2_0 a2_1 a2_2 a2_3 a2_4 a2_5 a2_6 a2_7 a2_8 a2_9 a2_10 a2_11 t233 t234 _ A9.out).mono ?_); rintro e w22 ⟨rfl, hb⟩; have n0_ := Aside0.mk (blk_below (g := gb232) (o := .cells #[.int .i64 a2_0, .int .u16 a2_1, .int .u16 a2_2, .int .u32 a2_3, .int .u64 a2_4, .int .i64 a2_5, .int .u32 a2_6, .int .u32 a2_7, .int .u32 a2_8, .int .u32 a2_9, .int .u32 a2_10, .int .u32 a2_11] 42 (0, 0)) (by (with_reducible repeat (first | refine blk_drewN ?_ _ | refine blk_drew ?_ | refine blk_alloc ?_ _)); exact BK232.out) hb); have n1_ := Aside0.mk (below_step (by repeat (first | (with_reducible first | exact HB.out | apply below_alloc | apply pw_below_drewN | apply below_drew1 | refine below_set ?_ GE232.out) | exact HB.out)) hb); clear BK232; clear HB; have BK232 := n0_; have HB := n1_; clear n0_ n1_; (try clear hb); (try clear hb2); (try clear hk); (try clear hi)))); (try go_quiet (fail)))
     go_ret2
     exact ⟨by first | rfl | (simp [errW_none, errW_some] <;> rfl) | (simp [*, errW_none, errW_some] <;> rfl) | (simp [show IntKind.u64.wrap 0 = 0 from rfl, Int.zero_tdiv]; done), by repeat (first | (with_reducible first | exact HB.out | apply below_alloc | apply pw_below_drewN | apply below_drew1 | refine below_set ?_ GE232.out) | exact HB.out)⟩

end Go.Proofs.Ytpcokafalmafgaa.Q

namespace Go.Proofs.Ytpcokafalmafgaa.Q
open Go.Proofs.Ytpcokafalmafgaa.H
open Go.RowKit Go.Proofs.YtpcokafalmafgaaW.PrintWords Go.Proofs.YtpcokafalmafgaaW.PrintLast Go.Proofs.YtpcokafalmafgaaW.PrintMore
attribute [local go_sem] max2_int min2_int max_two min_two max_three min_three max_four min_four   -- for this text's walks alone
set_option linter.unusedVariables false
set_option linter.unusedSimpArgs false

/-! ### nautilusref17_Table: function 28 -/
def nautilusref17_Table.l0 : Nat → List (S42) → List ByteArray → Int → Option (List ByteArray × Int)
 | 0, _, _, _ => none
 | k + 1, x0, x4, x5 => if x5 < (x0.length : Int) then (if (Int.tmod x5 12) = 0 then (if 508 ≤ 281474976710656 then (if x4.length < 8796093022208 then ((some (x4 ++ [strOfNums (List.replicate 508 0)] : List ByteArray)).bind fun y238 => (if 0 ≤ (wrap64 ((y238.length : Int) - 1)) then (if (wrap64 ((y238.length : Int) - 1)) < (y238.length : Int) then (if 0 ≤ x5 then ((nautilusref10_Put.f k (rdOf ByteArray.empty y238 (wrap64 ((y238.length : Int) - 1))) (Int.tmod x5 12) ((rd_T42 x0 x5).f0) ((rd_T42 x0 x5).f1) ((rd_T42 x0 x5).f2) ((rd_T42 x0 x5).f3) ((rd_T42 x0 x5).f4) ((rd_T42 x0 x5).f5) ((rd_T42 x0 x5).f6.f0) ((rd_T42 x0 x5).f6.f1) ((rd_T42 x0 x5).f6.f2) ((rd_T42 x0 x5).f6.f3) ((rd_T42 x0 x5).f6.f4) ((rd_T42 x0 x5).f6.f5)).bind fun bt243 => (if bt243.2 = 0 then (nautilusref17_Table.l0 k x0 (y238.set ((wrap64 ((y238.length : Int) - 1)) : Int).toNat bt243.1) (wrap64 (x5 + 1))) else (some (([] : List ByteArray), 154)))) else (none)) else (none)) else (none))) else (none)) else (none)) else (if 0 ≤ (wrap64 ((x4.length : Int) - 1)) then (if (wrap64 ((x4.length : Int) - 1)) < (x4.length : Int) then (if 0 ≤ x5 then ((nautilusref10_Put.f k (rdOf ByteArray.empty x4 (wrap64 ((x4.length : Int) - 1))) (Int.tmod x5 12) ((rd_T42 x0 x5).f0) ((rd_T42 x0 x5).f1) ((rd_T42 x0 x5).f2) ((rd_T42 x0 x5).f3) ((rd_T42 x0 x5).f4) ((rd_T42 x0 x5).f5) ((rd_T42 x0 x5).f6.f0) ((rd_T42 x0 x5).f6.f1) ((rd_T42 x0 x5).f6.f2) ((rd_T42 x0 x5).f6.f3) ((rd_T42 x0 x5).f6.f4) ((rd_T42 x0 x5).f6.f5)).bind fun bt248 => (if bt248.2 = 0 then (nautilusref17_Table.l0 k x0 (x4.set ((wrap64 ((x4.length : Int) - 1)) : Int).toNat bt248.1) (wrap64 (x5 + 1))) else (some (([] : List ByteArray), 154)))) else (none)) else (none)) else (none))) else (some (x4, 0))
def nautilusref17_Table.f (k : Nat) (l0 : List (S42)) : Option (List ByteArray × Int) := if (l0.length : Int) > 240 then (some (([] : List ByteArray), 154)) else (nautilusref17_Table.l0 k l0 ([] : List ByteArray) 0)
theorem nautilusref17_Table.mono_l : ∀ k, (∀ y0 y1 y2, LeO (nautilusref17_Table.l0 k y0 y1 y2) (nautilusref17_Table.l0 (k + 1) y0 y1 y2))
 | 0 => fun _ _ _ r h => by simp [nautilusref17_Table.l0] at h
 | k + 1 => by
  have ih0 := nautilusref17_Table.mono_l k
  ·intro y0 y1 y2
   unfold nautilusref17_Table.l0
   repeat' first
   | (with_reducible exact ih0 _ _ _)
   | (with_reducible exact nautilusref10_Put.mono _ _ _ _ _ _ _ _ _ _ _ _ _ _ _)
   | (with_reducible exact LeO.refl _)
   | (with_reducible exact LeO.none _)
   | (with_reducible refine LeO.ite ?_ ?_)
   | (with_reducible refine LeO.bind ?_ (fun _ => ?_))
   | exact ih0 _ _ _
   | exact nautilusref10_Put.mono _ _ _ _ _ _ _ _ _ _ _ _ _ _ _
   | exact LeO.none _
   | refine LeO.ite ?_ ?_
   | refine LeO.bind ?_ (fun _ => ?_)
theorem nautilusref17_Table.mono : ∀ a0 k, LeO (nautilusref17_Table.f k a0) (nautilusref17_Table.f (k + 1) a0) := by
 intro a0 k
 have ih0 := nautilusref17_Table.mono_l k
 unfold nautilusref17_Table.f
 repeat' first
   | (with_reducible exact ih0 _ _ _)
   | (with_reducible exact nautilusref10_Put.mono _ _ _ _ _ _ _ _ _ _ _ _ _ _ _)
   | (with_reducible exact LeO.refl _)
   | (with_reducible exact LeO.none _)
   | (with_reducible refine LeO.ite ?_ ?_)
   | (with_reducible refine LeO.bind ?_ (fun _ => ?_))
   | exact ih0 _ _ _
   | exact nautilusref10_Put.mono _ _ _ _ _ _ _ _ _ _ _ _ _ _ _
   | exact LeO.none _
   | refine LeO.ite ?_ ?_
   | refine LeO.bind ?_ (fun _ => ?_)
def nautilusref17_Table.T9 : Bool × List (List Nat × List Nat) := (true, [([], []), ([], []), ([1], [1]), ([2], [2]), ([0, 3], [0, 3]), ([4], [4]), ([], []), ([6], [6]), ([], []), ([], []), ([8, 9], [8, 9]), ([10], [10]), ([5, 7, 11], [5, 7, 11]), ([12], [12]), ([13], [13]), ([13], [13]), ([14, 12, 0, 1, 2, 3, 4, 5, 6, 7, 8, 9, 10, 11, 12, 13, 14], [14]), ([15, 16, 0, 1, 2, 3, 4, 5, 6, 7, 8, 9, 10, 11, 12, 13, 14, 15, 16], [15])])
def nautilusref17_Table.B9 : List Nat := [0, 0, 2, 6, 15, 31, 0, 64, 0, 0, 768, 1792, 4095, 8191, 16383, 16383, 32767, 131071]
theorem nautilusref17_Table.tab9 : rtab .any (opsOf Try.f28 9) = nautilusref17_Table.T9 := by kernel_rfl
theorem nautilusref17_Table.bits9 : waitsOk nautilusref17_Table.T9.2 nautilusref17_Table.B9 = true := by kernel_rfl
set_option maxHeartbeats 8000000 in
set_option maxRecDepth 100000 in
theorem nautilusref17_Table.calls (k : Nat) (A0 : Option Addr) (c0 : Nat) (l0 : List (S42)) (r1 : List ByteArray) (r2 : Int) (w : World) (hr0 : Kd.C k42 w A0 l0.length l0) (hc0 : l0.length ≤ c0) (h : nautilusref17_Table.f k l0 = some (r1, r2)) :
  Calls Try.prog 28 #[.slice A0 l0.length c0] w fun e w' => ∃ v0_ : Value, e = .returned (.tuple #[v0_, .int .i64 r2]) ∧ Kd.R Kd.string 9 w' w.heap.size (fun _ => True) v0_ r1 ∧ Below w.heap.size w w' := by
 have hu42 := Try.underlying42
 have HR0 := Aside0.mk hr0
 have HC0 := Aside0.mk hc0
 clear hr0 hc0
 have HB := Aside0.mk (Below.refl w.heap.size w)
 have H : (if (l0.length : Int) > 240 then (some (([] : List ByteArray), 154)) else (nautilusref17_Table.l0 k l0 ([] : List ByteArray) 0)) = some (r1, r2) := h
 clear h
 by_cases c2 : (l0.length : Int) > 240
 ·rw [if_pos c2] at H
  have c2b0 : decide (240 < (l0.length : Int)) = true := decide_eq_true c2
  have c2b1 : decide (240 < l0.length) = true := decide_eq_true (by omega)
  clear c2
  simp only [Option.some.injEq, Prod.mk.injEq] at H
  obtain ⟨rfl, rfl⟩ := H
  go_enter Try.func28, Try.ntmps28
  go_wp2
  go_ret2
  exact ⟨_, by first | rfl | (simp [errW_none, errW_some] <;> rfl) | (simp [*, errW_none, errW_some] <;> rfl), by first | exact Kd.R_nil _ _ _ _ _ | exact Kd.N_nil _ _ _ _ _ | exact Kd.V_nil _ _ _ _ _ | exact Kd.Q_nil _ _ _ _ _ | exact Kd.S_nil _ _ _ _ _, by repeat (first | (with_reducible first | exact HB.out | apply below_alloc | apply pw_below_drewN | apply below_drew1) | exact HB.out)⟩
 ·rw [if_neg c2] at H
  have c2b0 : decide (240 < (l0.length : Int)) = false := decide_eq_false c2
  have c2b1 : decide (240 < l0.length) = false := decide_eq_false (by omega)
  clear c2
  have H' := Aside0.mk H
  clear H
  go_enter Try.func28, Try.ntmps28
  go_wp2
  go_loopg [4, 5] k (fun kq v4 v5 w' => ∃ (x4_1 : List ByteArray) (x5_1 : Int), v5 = .int .i64 x5_1 ∧ Aside0 (nautilusref17_Table.l0 kq l0 x4_1 x5_1 = some (r1, r2)) ∧ Aside0 (kq ≤ k) ∧ Aside0 (Kd.R Kd.string 9 w' w.heap.size (fun _ => True) v4 x4_1) ∧ Aside0 (Below w.heap.size w w'))
  case atStart => exact ⟨(([] : List ByteArray)), (0), (by first | rfl | (simp; done) | (simp [*]; done)), H', ⟨Nat.le_refl _⟩, ⟨by first | exact Kd.R_nil _ _ _ _ _ | exact Kd.N_nil _ _ _ _ _ | exact Kd.V_nil _ _ _ _ _ | exact Kd.Q_nil _ _ _ _ _ | exact Kd.S_nil _ _ _ _ _⟩, ⟨by repeat (first | (with_reducible first | exact HB.out | apply below_alloc | apply pw_below_drewN | apply below_drew1) | exact HB.out)⟩⟩
  case round =>
   clear H'
   try clear c2
   try clear c2b0
   try clear c2b1
   try clear p2
   obtain ⟨x4_1, x5_1, rfl, HA, HK1, HO_4, HB⟩ := hrel
   cases gk with
   | zero => exact absurd HA.out (by simp [nautilusref17_Table.l0])
   | succ k1 =>
    have H := HA.out
    clear HA
    simp only [nautilusref17_Table.l0] at H
    by_cases c3 : x5_1 < (l0.length : Int)
    ·rw [if_pos c3] at H
     have c3b0 : decide (x5_1 < (l0.length : Int)) = true := decide_eq_true c3
     clear c3
     by_cases c4 : (Int.tmod x5_1 12) = 0
     ·rw [if_pos c4] at H
      have c4b0 : ((Int.tmod x5_1 12) == 0) = true := beq_iff_eq.mpr c4
      have c4b1 : ((Int.tmod x5_1 12) != 0) = false := bne_eq_false_iff_eq.mpr c4
      clear c4
      by_cases c5 : 508 ≤ 281474976710656
      ·rw [if_pos c5] at H
       have c5b0 := eq_true c5
       have c5b1 : decide (508 ≤ 281474976710656) = true := decide_eq_true c5
       clear c5
       obtain ⟨y235, hy235⟩ : ∃ y_ : List Int, y_ = (List.replicate 508 0) := ⟨_, rfl⟩
       replace H : (if x4_1.length < 8796093022208 then ((some (x4_1 ++ [strOfNums y235] : List ByteArray)).bind fun y238 => (if 0 ≤ (wrap64 ((y238.length : Int) - 1)) then (if (wrap64 ((y238.length : Int) - 1)) < (y238.length : Int) then (if 0 ≤ x5_1 then ((nautilusref10_Put.f k1 (rdOf ByteArray.empty y238 (wrap64 ((y238.length : Int) - 1))) (Int.tmod x5_1 12) ((rd_T42 l0 x5_1).f0) ((rd_T42 l0 x5_1).f1) ((rd_T42 l0 x5_1).f2) ((rd_T42 l0 x5_1).f3) ((rd_T42 l0 x5_1).f4) ((rd_T42 l0 x5_1).f5) ((rd_T42 l0 x5_1).f6.f0) ((rd_T42 l0 x5_1).f6.f1) ((rd_T42 l0 x5_1).f6.f2) ((rd_T42 l0 x5_1).f6.f3) ((rd_T42 l0 x5_1).f6.f4) ((rd_T42 l0 x5_1).f6.f5)).bind fun bt243 => (if bt243.2 = 0 then (nautilusref17_Table.l0 k1 l0 (y238.set ((wrap64 ((y238.length : Int) - 1)) : Int).toNat bt243.1) (wrap64 (x5_1 + 1))) else (some (([] : List ByteArray), 154)))) else (none)) else (none)) else (none))) else (none)) = some (r1, r2) := by first | (rw [hy235]; with_reducible exact H) | (have H2_ := (Option.bind_some _ _).symm.trans H; rw [hy235]; with_reducible exact H2_) | (have H2_ := (Option.bind_some _ _).symm.trans H; with_reducible exact H2_) | with_reducible exact H | (rw [hy235]; exact H) | exact H
       have Ny235 := Aside0.mk hy235
       clear hy235
       by_cases c6 : x4_1.length < 8796093022208
       ·rw [if_pos c6] at H
        have LMc6 := Aside0.mk c6
        clear c6
        obtain ⟨y238, hy238⟩ : ∃ y_ : List ByteArray, y_ = (x4_1 ++ [strOfNums y235]) := ⟨_, rfl⟩
        replace H : (if 0 ≤ (wrap64 ((y238.length : Int) - 1)) then (if (wrap64 ((y238.length : Int) - 1)) < (y238.length : Int) then (if 0 ≤ x5_1 then ((nautilusref10_Put.f k1 (rdOf ByteArray.empty y238 (wrap64 ((y238.length : Int) - 1))) (Int.tmod x5_1 12) ((rd_T42 l0 x5_1).f0) ((rd_T42 l0 x5_1).f1) ((rd_T42 l0 x5_1).f2) ((rd_T42 l0 x5_1).f3) ((rd_T42 l0 x5_1).f4) ((rd_T42 l0 x5_1).f5) ((rd_T42 l0 x5_1).f6.f0) ((rd_T42 l0 x5_1).f6.f1) ((rd_T42 l0 x5_1).f6.f2) ((rd_T42 l0 x5_1).f6.f3) ((rd_T42 l0 x5_1).f6.f4) ((rd_T42 l0 x5_1).f6.f5)).bind fun bt243 => (if bt243.2 = 0 then (nautilusref17_Table.l0 k1 l0 (y238.set ((wrap64 ((y238.length : Int) - 1)) : Int).toNat bt243.1) (wrap64 (x5_1 + 1))) else (some (([] : List ByteArray), 154)))) else (none)) else (none)) else (none)) = some (r1, r2) := by first | (rw [hy238]; with_reducible exact H) | (have H2_ := (Option.bind_some _ _).symm.trans H; rw [hy238]; with_reducible exact H2_) | (have H2_ := (Option.bind_some _ _).symm.trans H; with_reducible exact H2_) | with_reducible exact H | (rw [hy238]; exact H) | exact H
        have Ny238 := Aside0.mk hy238
        clear hy238
        obtain ⟨ji7, hji7⟩ : ∃ j_ : Int, (wrap64 ((y238.length : Int) - 1)) = j_ := ⟨_, rfl⟩
        replace H : (if 0 ≤ (ji7) then (if (ji7) < (y238.length : Int) then (if 0 ≤ x5_1 then ((nautilusref10_Put.f k1 (rdOf ByteArray.empty y238 (ji7)) (Int.tmod x5_1 12) ((rd_T42 l0 x5_1).f0) ((rd_T42 l0 x5_1).f1) ((rd_T42 l0 x5_1).f2) ((rd_T42 l0 x5_1).f3) ((rd_T42 l0 x5_1).f4) ((rd_T42 l0 x5_1).f5) ((rd_T42 l0 x5_1).f6.f0) ((rd_T42 l0 x5_1).f6.f1) ((rd_T42 l0 x5_1).f6.f2) ((rd_T42 l0 x5_1).f6.f3) ((rd_T42 l0 x5_1).f6.f4) ((rd_T42 l0 x5_1).f6.f5)).bind fun bt243 => (if bt243.2 = 0 then (nautilusref17_Table.l0 k1 l0 (y238.set ((ji7) : Int).toNat bt243.1) (wrap64 (x5_1 + 1))) else (some (([] : List ByteArray), 154)))) else (none)) else (none)) else (none)) = some (r1, r2) := by first | (rw [hji7] at H; exact H) | (simp only [hji7] at H ⊢; exact H)
        have hji7w : (IntKind.i64.wrap ((y238.length : Int) - 1)) = ji7 := (i64_w _).trans hji7
        by_cases c8 : 0 ≤ (ji7)
        ·rw [if_pos c8] at H
         have c8b0 : decide (0 ≤ (ji7)) = true := decide_eq_true c8
         clear c8
         by_cases c9 : (ji7) < (y238.length : Int)
         ·rw [if_pos c9] at H
          have c9b0 : decide ((ji7) < (y238.length : Int)) = true := decide_eq_true c9
          clear c9
          by_cases c10 : 0 ≤ x5_1
          ·rw [if_pos c10] at H
           have c10b0 : decide (0 ≤ x5_1) = true := decide_eq_true c10
           clear c10
           replace H := Option.bind_eq_some_iff.mp H
           obtain ⟨⟨t243, t244⟩, A110, H⟩ := H
           replace H : (if t244 = 0 then (nautilusref17_Table.l0 k1 l0 (y238.set ((ji7) : Int).toNat t243) (wrap64 (x5_1 + 1))) else (some (([] : List ByteArray), 154))) = some (r1, r2) := H
           have A11 := Aside0.mk A110
           clear A110
           by_cases c12 : t244 = 0
           ·rw [if_pos c12] at H
            have c12b0 : (t244 == 0) = true := beq_iff_eq.mpr c12
            have c12b1 : (t244 != 0) = false := bne_eq_false_iff_eq.mpr c12
            clear c12
            obtain ⟨y245, hy245⟩ : ∃ y_ : List ByteArray, y_ = (y238.set ((ji7) : Int).toNat t243) := ⟨_, rfl⟩
            replace H : (nautilusref17_Table.l0 k1 l0 y245 (wrap64 (x5_1 + 1))) = some (r1, r2) := by first | (rw [hy245]; with_reducible exact H) | (have H2_ := (Option.bind_some _ _).symm.trans H; rw [hy245]; with_reducible exact H2_) | (have H2_ := (Option.bind_some _ _).symm.trans H; with_reducible exact H2_) | with_reducible exact H | (rw [hy245]; exact H) | exact H
            have Ny245 := Aside0.mk hy245
            clear hy245
            have H' := Aside0.mk H
            clear H
            try go_wp2_with (first | ((with_reducible refine gate_dst (N := 21) rfl ?_); refine Kd.R_make (Kd.int .u8) _ 5 rfl (N := 21) rfl 24 _ _ rfl 508 rfl rfl Try.underlying24 (.int .u8 0) 1 info5 rfl (by decide) (by omega) 0 (ok := fun _ => True) (okp := fun _ => True) rfl (fun _ hk => hk) trivial (by omega) (by omega) (Below.refl _ _) (Nat.le_refl _) ?_; intro v236 w14 ho15 hb hg_ hnew_; clear hg_ hnew_; (first | rw [← Ny235.out] at ho15 | (simp only [Int.reduceToNat] at ho15; rw [← Ny235.out] at ho15)); have n0_ := Aside0.mk (Kd.R_below (by (with_reducible repeat (first | apply Kd.R_alloc | apply Kd.R_drewN | apply Kd.R_drew)); exact HO_4.out) hb); have n1_ := Aside0.mk (Kd.R_lower ho15 (below_size (by repeat (first | (with_reducible first | exact HB.out | apply below_alloc | apply pw_below_drewN | apply below_drew1) | exact HB.out)))); have n2_ := Aside0.mk (below_step (by repeat (first | (with_reducible first | exact HB.out | apply below_alloc | apply pw_below_drewN | apply below_drew1) | exact HB.out)) hb); clear HO_4; clear HB; have HO_4 := n0_; have HO237 := n1_; have HB := n2_; clear n0_ n1_ n2_; clear hb ho15; have hcv16 := own_string (P := Try.prog) Try.underlying24 Try.underlying5 Try.underlying9 (Kd.own_of_R HO237.out)) | ((with_reducible refine gate_builtin (b := .append) (xs := #[.tmp 20, .tmp 23]) rfl ?_); at_builtin; refine Kd.R_append Kd.string (w0 := w) w.heap.size rfl (.tmp 20) (.tmp 23) 29 9 (.string ⟨#[]⟩) 16 rfl Try.underlying29 info9 rfl (by decide) (by omega) u4 x4_1 (strOfNums y235) [.string (strOfNums y235)] (fun _ => True) (fun _ => False) rfl rfl ?aP (fun _ hk => hk.elim) ?aF ?aO ?aB ?aS ?aL ?_; (case aP => exact rfl); (case aB => exact (by repeat (first | (with_reducible first | exact HB.out | apply below_alloc | apply pw_below_drewN | apply below_drew1) | exact HB.out))); (case aF => exact (fun _ _ => trivial)); (case aO => exact (by (with_reducible repeat (first | apply Kd.R_alloc | apply Kd.R_drewN | apply Kd.R_drew)); exact HO_4.out)); (case aS => exact (below_size (by repeat (first | (with_reducible first | exact HB.out | apply below_alloc | apply pw_below_drewN | apply below_drew1) | exact HB.out)))); (case aL => have := LMc6.out; omega); intro v239 w17 ho hb hg hat; rw [← Ny238.out] at ho; have n0_ := Aside0.mk (Kd.R_over' (by (with_reducible repeat (first | apply Kd.R_alloc | apply Kd.R_drewN | apply Kd.R_drew)); exact HO237.out) (Kd.R_typed (by (with_reducible repeat (first | apply Kd.R_alloc | apply Kd.R_drewN | apply Kd.R_drew)); exact HO_4.out)) (by decide) hg); have n1_ := Aside0.mk (hb); have n2_ := Aside0.mk (ho); clear HO237; clear HB; clear HO_4; have HO237 := n0_; have HB := n1_; have HO240 := n2_; clear n0_ n1_ n2_; clear ho hb hg hat))
            have n0_ := Aside0.mk (Kd.R_drew HO237.out)
            have n1_ := Aside0.mk (Kd.R_drew HO240.out)
            have n2_ := Aside0.mk (below_drew1 HB.out)
            clear HO237
            clear HO240
            clear HB
            have HO237 := n0_
            have HO240 := n1_
            have HB := n2_
            clear n0_ n1_ n2_
            obtain ⟨Ao19, co19, eo19⟩ := Kd.R_slice HO240.out
            (first | subst eo19 | (injection eo19 with f1_ f2_ f3_; have f4_ := f1_.symm; have f5_ := f3_.symm; clear f1_ f2_ f3_; subst f4_; subst f5_))
            have p241 : 0 ≤ ((ji7) : Int) := of_decide_eq_true (by first | (with_reducible assumption) | assumption)
            have q241 : (ji7) < (y238.length : Int) := of_decide_eq_true (by first | (with_reducible assumption) | assumption)
            obtain ⟨ad241, e241, hx241_0⟩ := Kd.at_string (Kd.R_reads' HO240.out).2.2 (ji7) p241 q241
            cases e241
            replace p241 := eq_true p241
            replace q241 := eq_true q241
            have p242 : 0 ≤ (x5_1 : Int) := of_decide_eq_true (by first | (with_reducible assumption) | assumption)
            have q242 : x5_1 < (l0.length : Int) := of_decide_eq_true (by first | (with_reducible assumption) | assumption)
            obtain ⟨ad242, e242, hx242_0, hx242_1, hx242_2, hx242_3, hx242_4, hx242_5, hx242_6, hx242_7, hx242_8, hx242_9, hx242_10, hx242_11⟩ := at_T42 HR0.out x5_1 p242 q242
            have hw242_11 := hx242_11
            have hw242_10 := hx242_10
            have hw242_9 := hx242_9
            have hw242_8 := hx242_8
            have hw242_7 := hx242_7
            have hw242_6 := hx242_6
            have hw242_5 := hx242_5
            have hw242_4 := hx242_4
            have hw242_3 := hx242_3
            have hw242_2 := hx242_2
            have hw242_1 := hx242_1
            have hw242_0 := hx242_0
            cases e242
            replace hx242_0 := (HB.out.cell (World.block_lt_of_cell? w _ hx242_0)).trans hx242_0
            replace hx242_1 := (HB.out.cell (World.block_lt_of_cell? w _ hx242_1)).trans hx242_1
            replace hx242_2 := (HB.out.cell (World.block_lt_of_cell? w _ hx242_2)).trans hx242_2
            replace hx242_3 := (HB.out.cell (World.block_lt_of_cell? w _ hx242_3)).trans hx242_3
            replace hx242_4 := (HB.out.cell (World.block_lt_of_cell? w _ hx242_4)).trans hx242_4
            replace hx242_5 := (HB.out.cell (World.block_lt_of_cell? w _ hx242_5)).trans hx242_5
            replace hx242_6 := (HB.out.cell (World.block_lt_of_cell? w _ hx242_6)).trans hx242_6
            replace hx242_7 := (HB.out.cell (World.block_lt_of_cell? w _ hx242_7)).trans hx242_7
            replace hx242_8 := (HB.out.cell (World.block_lt_of_cell? w _ hx242_8)).trans hx242_8
            replace hx242_9 := (HB.out.cell (World.block_lt_of_cell? w _ hx242_9)).trans hx242_9
            replace hx242_10 := (HB.out.cell (World.block_lt_of_cell? w _ hx242_10)).trans hx242_10
            replace hx242_11 := (HB.out.cell (World.block_lt_of_cell? w _ hx242_11)).trans hx242_11
            replace p242 := eq_true p242
            replace q242 := eq_true q242
            refine start_ (n := 18) (S := fun w' => w'.cell? (ad241.add ((ji7)).toNat) = some (.string (rdOf ByteArray.empty y238 (ji7))) ∧ w'.cell? (ad242.add ((x5_1).toNat * 12)) = some (.int .i64 ((rd_T42 l0 x5_1).f0)) ∧ w'.cell? ⟨(ad242.add ((x5_1).toNat * 12)).block, (ad242.add ((x5_1).toNat * 12)).off + 1, none⟩ = some (.int .u16 ((rd_T42 l0 x5_1).f1)) ∧ w'.cell? ⟨(ad242.add ((x5_1).toNat * 12)).block, (ad242.add ((x5_1).toNat * 12)).off + 2, none⟩ = some (.int .u16 ((rd_T42 l0 x5_1).f2)) ∧ w'.cell? ⟨(ad242.add ((x5_1).toNat * 12)).block, (ad242.add ((x5_1).toNat * 12)).off + 3, none⟩ = some (.int .u32 ((rd_T42 l0 x5_1).f3)) ∧ w'.cell? ⟨(ad242.add ((x5_1).toNat * 12)).block, (ad242.add ((x5_1).toNat * 12)).off + 4, none⟩ = some (.int .u64 ((rd_T42 l0 x5_1).f4)) ∧ w'.cell? ⟨(ad242.add ((x5_1).toNat * 12)).block, (ad242.add ((x5_1).toNat * 12)).off + 5, none⟩ = some (.int .i64 ((rd_T42 l0 x5_1).f5)) ∧ w'.cell? ⟨(ad242.add ((x5_1).toNat * 12)).block, (ad242.add ((x5_1).toNat * 12)).off + 6, none⟩ = some (.int .u32 ((rd_T42 l0 x5_1).f6.f0)) ∧ w'.cell? ⟨(ad242.add ((x5_1).toNat * 12)).block, (ad242.add ((x5_1).toNat * 12)).off + 7, none⟩ = some (.int .u32 ((rd_T42 l0 x5_1).f6.f1)) ∧ w'.cell? ⟨(ad242.add ((x5_1).toNat * 12)).block, (ad242.add ((x5_1).toNat * 12)).off + 8, none⟩ = some (.int .u32 ((rd_T42 l0 x5_1).f6.f2)) ∧ w'.cell? ⟨(ad242.add ((x5_1).toNat * 12)).block, (ad242.add ((x5_1).toNat * 12)).off + 9, none⟩ = some (.int .u32 ((rd_T42 l0 x5_1).f6.f3)) ∧ w'.cell? ⟨(ad242.add ((x5_1).toNat * 12)).block, (ad242.add ((x5_1).toNat * 12)).off + 10, none⟩ = some (.int .u32 ((rd_T42 l0 x5_1).f6.f4)) ∧ w'.cell? ⟨(ad242.add ((x5_1).toNat * 12)).block, (ad242.add ((x5_1).toNat * 12)).off + 11, none⟩ = some (.int .u32 ((rd_T42 l0 x5_1).f6.f5))) (ds := []) #[false, false, false, false, false, false, false, false, false, false, false, false, false, false, false, false, false, false] (by kernel_rfl) rfl rfl ⟨hx241_0, ((HB.out.cell (World.block_lt_of_cell? w _ hw242_0)).trans hw242_0), ((HB.out.cell (World.block_lt_of_cell? w _ hw242_1)).trans hw242_1), ((HB.out.cell (World.block_lt_of_cell? w _ hw242_2)).trans hw242_2), ((HB.out.cell (World.block_lt_of_cell? w _ hw242_3)).trans hw242_3), ((HB.out.cell (World.block_lt_of_cell? w _ hw242_4)).trans hw242_4), ((HB.out.cell (World.block_lt_of_cell? w _ hw242_5)).trans hw242_5), ((HB.out.cell (World.block_lt_of_cell? w _ hw242_6)).trans hw242_6), ((HB.out.cell (World.block_lt_of_cell? w _ hw242_7)).trans hw242_7), ((HB.out.cell (World.block_lt_of_cell? w _ hw242_8)).trans hw242_8), ((HB.out.cell (World.block_lt_of_cell? w _ hw242_9)).trans hw242_9), ((HB.out.cell (World.block_lt_of_cell? w _ hw242_10)).trans hw242_10), ((HB.out.cell (World.block_lt_of_cell? w _ hw242_11)).trans hw242_11)⟩ (fun hHeld => ?_); refine with_tabW nautilusref17_Table.tab9 nautilusref17_Table.bits9 (fun HT_ HW_ => ?_)
            generalize w17.drew = w18 at HO237 HO240 HB hx241_0 hx242_0 hx242_1 hx242_10 hx242_11 hx242_2 hx242_3 hx242_4 hx242_5 hx242_6 hx242_7 hx242_8 hx242_9 hHeld ⊢
            refine pure_ (i := 0) (N := some 26) (v := ?_) (a' := ?_) #[true, false, false, false, false, false, false, false, false, false, false, false, false, false, false, false, false, false] rfl rfl (any_of HT_.out (by kernel_rfl)) (fun _ _ _ h => h) (Or.inl ⟨by rfl, ?_⟩) ?_ ?_
            rotate_left
            ·intro w'
             go_simp
             with_reducible rfl
            rotate_left
            ·simp only [Act.put, List.setIfInBounds_toArray, List.set_cons_zero, List.set_cons_succ, i64_w, i32_w]
             rfl
            refine pure_ (i := 1) (N := some 27) (v := ?_) (a' := ?_) #[true, true, false, false, false, false, false, false, false, false, false, false, false, false, false, false, false, false] rfl rfl (any_of HT_.out (by kernel_rfl)) (fun _ _ _ h => h) (Or.inl ⟨by rfl, ?_⟩) ?_ ?_
            rotate_left
            ·intro w'
             go_simp
             with_reducible rfl
            rotate_left
            ·simp only [Act.put, List.setIfInBounds_toArray, List.set_cons_zero, List.set_cons_succ, i64_w, i32_w]
             rfl
            refine pure_ (i := 2) (N := some 28) (v := ?_) (a' := ?_) #[true, true, true, false, false, false, false, false, false, false, false, false, false, false, false, false, false, false] rfl rfl (any_of HT_.out (by kernel_rfl)) (fun _ _ _ h => h) (Or.inl ⟨by rfl, ?_⟩) ?_ ?_
            rotate_left
            ·intro w'
             go_simp
             with_reducible rfl
            rotate_left
            ·simp only [Act.put, List.setIfInBounds_toArray, List.set_cons_zero, List.set_cons_succ, i64_w, i32_w]
             rfl
            refine pure_ (i := 3) (N := some 29) (v := ?_) (a' := ?_) #[true, true, true, true, false, false, false, false, false, false, false, false, false, false, false, false, false, false] rfl rfl (any_of HT_.out (by kernel_rfl)) (fun _ _ _ h => h) (Or.inl ⟨by rfl, ?_⟩) ?_ ?_
            rotate_left
            ·intro w'
             go_simp
             with_reducible rfl
            rotate_left
            ·simp only [Act.put, List.setIfInBounds_toArray, List.set_cons_zero, List.set_cons_succ, i64_w, i32_w]
             rfl
            refine pure_ (i := 4) (N := some 30) (v := ?_) (a' := ?_) #[true, true, true, true, true, false, false, false, false, false, false, false, false, false, false, false, false, false] rfl rfl (any_of HT_.out (by kernel_rfl)) (fun _ _ _ h => h) (Or.inl ⟨by rfl, ?_⟩) ?_ ?_
            rotate_left
            ·intro w'
             go_simp
             with_reducible rfl
            rotate_left
            ·simp only [Act.put, List.setIfInBounds_toArray, List.set_cons_zero, List.set_cons_succ, i64_w, i32_w]
             rfl
            refine pure_ (i := 6) (N := some 32) (v := ?_) (a' := ?_) #[true, true, true, true, true, false, true, false, false, false, false, false, false, false, false, false, false, false] rfl rfl (any_of HT_.out (by kernel_rfl)) (fun _ _ _ h => h) (Or.inl ⟨by rfl, ?_⟩) ?_ ?_
            rotate_left
            ·intro w'
             go_simp
             with_reducible rfl
            rotate_left
            ·simp only [Act.put, List.setIfInBounds_toArray, List.set_cons_zero, List.set_cons_succ, i64_w, i32_w]
             rfl
            refine pure_ (i := 7) (N := some 33) (v := ?_) (a' := ?_) #[true, true, true, true, true, false, true, true, false, false, false, false, false, false, false, false, false, false] rfl rfl (any_of HT_.out (by kernel_rfl)) (fun _ _ _ h => h) (Or.inl ⟨by rfl, ?_⟩) ?_ ?_
            rotate_left
            ·intro w'
             go_simp
             with_reducible rfl
            rotate_left
            ·simp only [Act.put, List.setIfInBounds_toArray, List.set_cons_zero, List.set_cons_succ, i64_w, i32_w]
             rfl
            refine pure_ (i := 8) (N := some 34) (v := ?_) (a' := ?_) #[true, true, true, true, true, false, true, true, true, false, false, false, false, false, false, false, false, false] rfl rfl (any_of HT_.out (by kernel_rfl)) (fun _ _ _ h => h) (Or.inl ⟨by rfl, ?_⟩) ?_ ?_
            rotate_left
            ·intro w'
             go_simp
             with_reducible rfl
            rotate_left
            ·simp only [Act.put, List.setIfInBounds_toArray, List.set_cons_zero, List.set_cons_succ, i64_w, i32_w]
             rfl
            refine pure_ (i := 9) (N := some 35) (v := ?_) (a' := ?_) #[true, true, true, true, true, false, true, true, true, true, false, false, false, false, false, false, false, false] rfl rfl (any_of HT_.out (by kernel_rfl)) (fun _ _ _ h => h) (Or.inl ⟨by rfl, ?_⟩) ?_ ?_
            rotate_left
            ·intro w'
             go_simp
             with_reducible rfl
            rotate_left
            ·simp only [Act.put, List.setIfInBounds_toArray, List.set_cons_zero, List.set_cons_succ, i64_w, i32_w]
             rfl
            refine pure_ (i := 10) (N := some 36) (v := ?_) (a' := ?_) #[true, true, true, true, true, false, true, true, true, true, true, false, false, false, false, false, false, false] rfl rfl (any_of HT_.out (by kernel_rfl)) (fun _ _ _ h => h) (Or.inl ⟨by rfl, ?_⟩) ?_ ?_
            rotate_left
            ·intro w'
             go_simp
             with_reducible rfl
            rotate_left
            ·simp only [Act.put, List.setIfInBounds_toArray, List.set_cons_zero, List.set_cons_succ, i64_w, i32_w]
             rfl
            refine take_ (i := 5) (N := some 31) (v := ?_) (a' := ?_) #[true, true, true, true, true, true, true, true, true, true, true, false, false, false, false, false, false, false] rfl rfl (take_ofW HT_.out HW_.out (by kernel_rfl)) (fun _ _ _ h => h) (Or.inl ⟨by rfl, ?_⟩) hHeld ?_ ?_
            rotate_left
            ·rintro w' ⟨s0, s1, s2, s3, s4, s5, s6, s7, s8, s9, s10, s11, s12⟩
             go_simp
             with_reducible rfl
            rotate_left
            ·simp only [Act.put, List.setIfInBounds_toArray, List.set_cons_zero, List.set_cons_succ, i64_w, i32_w]
             rfl
            refine take_ (i := 11) (N := some 37) (v := ?_) (a' := ?_) #[true, true, true, true, true, true, true, true, true, true, true, true, false, false, false, false, false, false] rfl rfl (take_ofW HT_.out HW_.out (by kernel_rfl)) (fun _ _ _ h => h) (Or.inl ⟨by rfl, ?_⟩) hHeld ?_ ?_
            rotate_left
            ·rintro w' ⟨s0, s1, s2, s3, s4, s5, s6, s7, s8, s9, s10, s11, s12⟩
             go_simp
             with_reducible rfl
            rotate_left
            ·simp only [Act.put, List.setIfInBounds_toArray, List.set_cons_zero, List.set_cons_succ, i64_w, i32_w]
             rfl
            refine one_ (i := 12) (N := some 38) #[true, true, true, true, true, true, true, true, true, true, true, true, true, false, false, false, false, false] rfl rfl (one_of HT_.out (by kernel_rfl)) (by decide) (fun K hK => ?_)
            refine goes_ Try.func46 (by kernel_rfl) rfl #[.string (rdOf ByteArray.empty y238 (ji7)), .int .i64 (Int.tmod x5_1 12), .agg #[.int .i64 ((rd_T42 l0 x5_1).f0), .int .u16 ((rd_T42 l0 x5_1).f1), .int .u16 ((rd_T42 l0 x5_1).f2), .int .u32 ((rd_T42 l0 x5_1).f3), .int .u64 ((rd_T42 l0 x5_1).f4), .int .i64 ((rd_T42 l0 x5_1).f5), .int .u32 ((rd_T42 l0 x5_1).f6.f0), .int .u32 ((rd_T42 l0 x5_1).f6.f1), .int .u32 ((rd_T42 l0 x5_1).f6.f2), .int .u32 ((rd_T42 l0 x5_1).f6.f3), .int .u32 ((rd_T42 l0 x5_1).f6.f4), .int .u32 ((rd_T42 l0 x5_1).f6.f5)]] (by rfl) rfl rfl (by (try simp only [List.map_toArray, List.map_cons, List.map_nil]); first | done | (simp only [hji7]; rfl) | rfl | (simp only [List.length_drop, List.length_take]; rfl)) ?_
            with_reducible refine (nautilusref10_Put.calls k1 (rdOf ByteArray.empty y238 (ji7)) (Int.tmod x5_1 12) ((rd_T42 l0 x5_1).f0) ((rd_T42 l0 x5_1).f1) ((rd_T42 l0 x5_1).f2) ((rd_T42 l0 x5_1).f3) ((rd_T42 l0 x5_1).f4) ((rd_T42 l0 x5_1).f5) ((rd_T42 l0 x5_1).f6.f0) ((rd_T42 l0 x5_1).f6.f1) ((rd_T42 l0 x5_1).f6.f2) ((rd_T42 l0 x5_1).f6.f3) ((rd_T42 l0 x5_1).f6.f4) ((rd_T42 l0 x5_1).f6.f5) t243 t244 _ A11.out).mono ?_
            rintro e w20 ⟨rfl, hb⟩
            have HS0_ := (hb.cell (World.block_lt_of_cell? _ _ (hHeld.1))).trans (hHeld.1)
            refine ⟨_, rfl, ?_⟩
            have n0_ := Aside0.mk (Kd.R_below (by (with_reducible repeat (first | apply Kd.R_alloc | apply Kd.R_drewN | apply Kd.R_drew)); exact HO237.out) hb)
            have n1_ := Aside0.mk (Kd.R_below (by (with_reducible repeat (first | apply Kd.R_alloc | apply Kd.R_drewN | apply Kd.R_drew)); exact HO240.out) hb)
            have n2_ := Aside0.mk (below_step (by repeat (first | (with_reducible first | exact HB.out | apply below_alloc | apply pw_below_drewN | apply below_drew1) | exact HB.out)) hb)
            clear HO237
            clear HO240
            clear HB
            have HO237 := n0_
            have HO240 := n1_
            have HB := n2_
            clear n0_ n1_ n2_
            (try clear hb)
            (try clear hb2)
            (try clear hk)
            (try clear hi)
            refine hK.out _ _ ⟨HS0_, ((HB.out.cell (World.block_lt_of_cell? w _ hw242_0)).trans hw242_0), ((HB.out.cell (World.block_lt_of_cell? w _ hw242_1)).trans hw242_1), ((HB.out.cell (World.block_lt_of_cell? w _ hw242_2)).trans hw242_2), ((HB.out.cell (World.block_lt_of_cell? w _ hw242_3)).trans hw242_3), ((HB.out.cell (World.block_lt_of_cell? w _ hw242_4)).trans hw242_4), ((HB.out.cell (World.block_lt_of_cell? w _ hw242_5)).trans hw242_5), ((HB.out.cell (World.block_lt_of_cell? w _ hw242_6)).trans hw242_6), ((HB.out.cell (World.block_lt_of_cell? w _ hw242_7)).trans hw242_7), ((HB.out.cell (World.block_lt_of_cell? w _ hw242_8)).trans hw242_8), ((HB.out.cell (World.block_lt_of_cell? w _ hw242_9)).trans hw242_9), ((HB.out.cell (World.block_lt_of_cell? w _ hw242_10)).trans hw242_10), ((HB.out.cell (World.block_lt_of_cell? w _ hw242_11)).trans hw242_11)⟩ (fun hHeld => ?_)
            clear hK K
            refine norm_ (a' := ?_) ?_ ?_
            rotate_left
            ·show Act.put _ (some 38) _ = _
             simp only [Act.put, List.setIfInBounds_toArray, List.set_cons_zero, List.set_cons_succ, i64_w, i32_w]
             rfl
            refine pure_ (i := 13) (N := some 25) (v := ?_) (a' := ?_) #[true, true, true, true, true, true, true, true, true, true, true, true, true, true, false, false, false, false] rfl rfl (any_of HT_.out (by kernel_rfl)) (fun _ _ _ h => h) (Or.inl ⟨by rfl, ?_⟩) ?_ ?_
            rotate_left
            ·intro w'
             go_simp
             with_reducible rfl
            rotate_left
            ·simp only [Act.put, List.setIfInBounds_toArray, List.set_cons_zero, List.set_cons_succ, i64_w, i32_w]
             rfl
            refine pure_ (i := 14) (N := some 39) (v := ?_) (a' := ?_) #[true, true, true, true, true, true, true, true, true, true, true, true, true, true, true, false, false, false] rfl rfl (any_of HT_.out (by kernel_rfl)) (fun _ _ _ h => h) (Or.inl ⟨by rfl, ?_⟩) ?_ ?_
            rotate_left
            ·intro w'
             go_simp
             with_reducible rfl
            rotate_left
            ·simp only [Act.put, List.setIfInBounds_toArray, List.set_cons_zero, List.set_cons_succ, i64_w, i32_w]
             rfl
            refine pure_ (i := 15) (N := some 40) (v := ?_) (a' := ?_) #[true, true, true, true, true, true, true, true, true, true, true, true, true, true, true, true, false, false] rfl rfl (any_of HT_.out (by kernel_rfl)) (fun _ _ _ h => h) (Or.inl ⟨by rfl, ?_⟩) ?_ ?_
            rotate_left
            ·intro w'
             go_simp
             with_reducible rfl
            rotate_left
            ·simp only [Act.put, List.setIfInBounds_toArray, List.set_cons_zero, List.set_cons_succ, i64_w, i32_w]
             rfl
            refine pure_ (i := 16) (N := some 6) (v := ?_) (a' := ?_) #[true, true, true, true, true, true, true, true, true, true, true, true, true, true, true, true, true, false] rfl rfl (any_of HT_.out (by kernel_rfl)) (fun _ _ _ h => h) (Or.inl ⟨by rfl, ?_⟩) ?_ ?_
            rotate_left
            ·intro w'
             go_simp
             with_reducible rfl
            rotate_left
            ·simp only [Act.put, List.setIfInBounds_toArray, List.set_cons_zero, List.set_cons_succ, i64_w, i32_w]
             rfl
            refine pure_ (i := 17) (N := some 7) (v := ?_) (a' := ?_) #[true, true, true, true, true, true, true, true, true, true, true, true, true, true, true, true, true, true] rfl rfl (any_of HT_.out (by kernel_rfl)) (fun _ _ _ h => h) (Or.inl ⟨by rfl, ?_⟩) ?_ ?_
            rotate_left
            ·intro w'
             go_simp
             with_reducible rfl
            rotate_left
            ·simp only [Act.put, List.setIfInBounds_toArray, List.set_cons_zero, List.set_cons_succ, i64_w, i32_w]
             rfl
            refine done_ (done_of HT_.out (by kernel_rfl)) ?_
            have p13 : 0 ≤ ((ji7) : Int) := of_decide_eq_true (by first | (with_reducible assumption) | assumption)
            have q13 : ((ji7) : Int) < ((y238.length : Int) : Int) := of_decide_eq_true (by first | (with_reducible assumption) | assumption)
            obtain ⟨go13, co13, eo13, gb13, gl13, cl13, HG13⟩ := Kd.R_form HO240.out (by omega)
            (first | cases eo13 | (injection eo13 with ea_ en_ ec_; (first | subst ea_ | (injection ea_ with ea_; subst ea_)); subst ec_; clear en_))
            have GB13 := Aside0.mk gb13
            have GG13 := Aside0.mk HG13
            clear gb13 gl13 HG13
            (first | simp only [add_plain] at hx241_0 | skip)
            obtain ⟨hx13_0, hf13_0⟩ := Kd.R_celln (⟨#[]⟩ : ByteArray) HO240.out ((ji7) : Int) p13 q13
            replace p13 := eq_true p13
            replace q13 := eq_true q13
            obtain ⟨hy21_, hz21_⟩ := Kd.R_celln (⟨#[]⟩ : ByteArray) HO240.out ((ji7) : Int) (of_decide_eq_true (by first | (with_reducible assumption) | assumption)) (of_decide_eq_true (by first | (with_reducible assumption) | assumption))
            have HP21 := Kd.R_putg HO240.out ((ji7) : Int) t243
            try go_wp2_with (first | ((with_reducible refine gate_store (t := 9) (p := 48) rfl ?_); refine store_event (t := 9) (p := 48) (v := ?vo_w22) (w1 := (w20.setCell ⟨go13, ((ji7) : Int).toNat, none⟩ (.string t243))) ?hg ?ho ?hn ?hr ?_; (case ho => rfl); (case hg => rfl); (case hn => rfl); (case hr => first | (go_simp; done) | (go_simp; rfl)); intro w22 hw; have hg : w20.grownBy w22 (some go13) := (by rw [hw]; exact HP21.2); have hp_ : Kd.R Kd.string 9 w22 w.heap.size (fun _ => True) (.slice (some ⟨go13, 0, none⟩) y238.length co19) y245 := (by rw [hw, Ny245.out]; exact HP21.1); clear HP21; have n0_ := Aside0.mk (Kd.R_over' (v := (.slice (some ⟨go13, 0, none⟩) y238.length co19)) (by (with_reducible repeat (first | apply Kd.R_alloc | apply Kd.R_drewN | apply Kd.R_drew)); exact HO237.out) (Kd.R_typed HO240.out) (by decide) hg); have n1_ := Aside0.mk (hp_); have n2_ := Aside0.mk ((by rw [hw]; exact below_set (HB.out) GB13.out : Below w.heap.size w w22)); clear HO237; clear HO240; clear HB; have HO237 := n0_; have HO240 := n1_; have HB := n2_; clear n0_ n1_ n2_; clear hg hw hp_))
            go_roundg k1
            case measure => have := HK1.out; omega
            case rel => exact ⟨(y245), (wrap64 (x5_1 + 1)), (by first | rfl | (simp; done) | (simp [*]; done)), H', ⟨by have := HK1.out; omega⟩, ⟨by (with_reducible repeat (first | apply Kd.R_alloc | apply Kd.R_drewN | apply Kd.R_drew)); exact HO240.out⟩, ⟨by repeat (first | (with_reducible first | exact HB.out | apply below_alloc | apply pw_below_drewN | apply below_drew1) | exact HB.out)⟩⟩
           ·rw [if_neg c12] at H
            have c12b0 : (t244 == 0) = false := beq_eq_false_iff_ne.mpr c12
            have c12b1 : (t244 != 0) = true := bne_iff_ne.mpr c12
            simp only [Option.some.injEq, Prod.mk.injEq] at H
            obtain ⟨rfl, rfl⟩ := H
            try go_wp2_with (first | ((with_reducible refine gate_dst (N := 21) rfl ?_); refine Kd.R_make (Kd.int .u8) _ 5 rfl (N := 21) rfl 24 _ _ rfl 508 rfl rfl Try.underlying24 (.int .u8 0) 1 info5 rfl (by decide) (by omega) 0 (ok := fun _ => True) (okp := fun _ => True) rfl (fun _ hk => hk) trivial (by omega) (by omega) (Below.refl _ _) (Nat.le_refl _) ?_; intro v236 w23 ho24 hb hg_ hnew_; clear hg_ hnew_; (first | rw [← Ny235.out] at ho24 | (simp only [Int.reduceToNat] at ho24; rw [← Ny235.out] at ho24)); have n0_ := Aside0.mk (Kd.R_below (by (with_reducible repeat (first | apply Kd.R_alloc | apply Kd.R_drewN | apply Kd.R_drew)); exact HO_4.out) hb); have n1_ := Aside0.mk (Kd.R_lower ho24 (below_size (by repeat (first | (with_reducible first | exact HB.out | apply below_alloc | apply pw_below_drewN | apply below_drew1) | exact HB.out)))); have n2_ := Aside0.mk (below_step (by repeat (first | (with_reducible first | exact HB.out | apply below_alloc | apply pw_below_drewN | apply below_drew1) | exact HB.out)) hb); clear HO_4; clear HB; have HO_4 := n0_; have HO237 := n1_; have HB := n2_; clear n0_ n1_ n2_; clear hb ho24; have hcv25 := own_string (P := Try.prog) Try.underlying24 Try.underlying5 Try.underlying9 (Kd.own_of_R HO237.out)) | ((with_reducible refine gate_builtin (b := .append) (xs := #[.tmp 20, .tmp 23]) rfl ?_); at_builtin; refine Kd.R_append Kd.string (w0 := w) w.heap.size rfl (.tmp 20) (.tmp 23) 29 9 (.string ⟨#[]⟩) 16 rfl Try.underlying29 info9 rfl (by decide) (by omega) u4 x4_1 (strOfNums y235) [.string (strOfNums y235)] (fun _ => True) (fun _ => False) rfl rfl ?aP (fun _ hk => hk.elim) ?aF ?aO ?aB ?aS ?aL ?_; (case aP => exact rfl); (case aB => exact (by repeat (first | (with_reducible first | exact HB.out | apply below_alloc | apply pw_below_drewN | apply below_drew1) | exact HB.out))); (case aF => exact (fun _ _ => trivial)); (case aO => exact (by (with_reducible repeat (first | apply Kd.R_alloc | apply Kd.R_drewN | apply Kd.R_drew)); exact HO_4.out)); (case aS => exact (below_size (by repeat (first | (with_reducible first | exact HB.out | apply below_alloc | apply pw_below_drewN | apply below_drew1) | exact HB.out)))); (case aL => have := LMc6.out; omega); intro v239 w26 ho hb hg hat; rw [← Ny238.out] at ho; have n0_ := Aside0.mk (Kd.R_over' (by (with_reducible repeat (first | apply Kd.R_alloc | apply Kd.R_drewN | apply Kd.R_drew)); exact HO237.out) (Kd.R_typed (by (with_reducible repeat (first | apply Kd.R_alloc | apply Kd.R_drewN | apply Kd.R_drew)); exact HO_4.out)) (by decide) hg); have n1_ := Aside0.mk (hb); have n2_ := Aside0.mk (ho); clear HO237; clear HB; clear HO_4; have HO237 := n0_; have HB := n1_; have HO240 := n2_; clear n0_ n1_ n2_; clear ho hb hg hat))
            have n0_ := Aside0.mk (Kd.R_drew HO237.out)
            have n1_ := Aside0.mk (Kd.R_drew HO240.out)
            have n2_ := Aside0.mk (below_drew1 HB.out)
            clear HO237
            clear HO240
            clear HB
            have HO237 := n0_
            have HO240 := n1_
            have HB := n2_
            clear n0_ n1_ n2_
            obtain ⟨Ao28, co28, eo28⟩ := Kd.R_slice HO240.out
            (first | subst eo28 | (injection eo28 with f1_ f2_ f3_; have f4_ := f1_.symm; have f5_ := f3_.symm; clear f1_ f2_ f3_; subst f4_; subst f5_))
            have p241 : 0 ≤ ((ji7) : Int) := of_decide_eq_true (by first | (with_reducible assumption) | assumption)
            have q241 : (ji7) < (y238.length : Int) := of_decide_eq_true (by first | (with_reducible assumption) | assumption)
            obtain ⟨ad241, e241, hx241_0⟩ := Kd.at_string (Kd.R_reads' HO240.out).2.2 (ji7) p241 q241
            cases e241
            replace p241 := eq_true p241
            replace q241 := eq_true q241
            have p242 : 0 ≤ (x5_1 : Int) := of_decide_eq_true (by first | (with_reducible assumption) | assumption)
            have q242 : x5_1 < (l0.length : Int) := of_decide_eq_true (by first | (with_reducible assumption) | assumption)
            obtain ⟨ad242, e242, hx242_0, hx242_1, hx242_2, hx242_3, hx242_4, hx242_5, hx242_6, hx242_7, hx242_8, hx242_9, hx242_10, hx242_11⟩ := at_T42 HR0.out x5_1 p242 q242
            have hw242_11 := hx242_11
            have hw242_10 := hx242_10
            have hw242_9 := hx242_9
            have hw242_8 := hx242_8
            have hw242_7 := hx242_7
            have hw242_6 := hx242_6
            have hw242_5 := hx242_5
            have hw242_4 := hx242_4
            have hw242_3 := hx242_3
            have hw242_2 := hx242_2
            have hw242_1 := hx242_1
            have hw242_0 := hx242_0
            cases e242
            replace hx242_0 := (HB.out.cell (World.block_lt_of_cell? w _ hx242_0)).trans hx242_0
            replace hx242_1 := (HB.out.cell (World.block_lt_of_cell? w _ hx242_1)).trans hx242_1
            replace hx242_2 := (HB.out.cell (World.block_lt_of_cell? w _ hx242_2)).trans hx242_2
            replace hx242_3 := (HB.out.cell (World.block_lt_of_cell? w _ hx242_3)).trans hx242_3
            replace hx242_4 := (HB.out.cell (World.block_lt_of_cell? w _ hx242_4)).trans hx242_4
            replace hx242_5 := (HB.out.cell (World.block_lt_of_cell? w _ hx242_5)).trans hx242_5
            replace hx242_6 := (HB.out.cell (World.block_lt_of_cell? w _ hx242_6)).trans hx242_6
            replace hx242_7 := (HB.out.cell (World.block_lt_of_cell? w _ hx242_7)).trans hx242_7
            replace hx242_8 := (HB.out.cell (World.block_lt_of_cell? w _ hx242_8)).trans hx242_8
            replace hx242_9 := (HB.out.cell (World.block_lt_of_cell? w _ hx242_9)).trans hx242_9
            replace hx242_10 := (HB.out.cell (World.block_lt_of_cell? w _ hx242_10)).trans hx242_10
            replace hx242_11 := (HB.out.cell (World.block_lt_of_cell? w _ hx242_11)).trans hx242_11
            replace p242 := eq_true p242
            replace q242 := eq_true q242
            refine start_ (n := 18) (S := fun w' => w'.cell? (ad241.add ((ji7)).toNat) = some (.string (rdOf ByteArray.empty y238 (ji7))) ∧ w'.cell? (ad242.add ((x5_1).toNat * 12)) = some (.int .i64 ((rd_T42 l0 x5_1).f0)) ∧ w'.cell? ⟨(ad242.add ((x5_1).toNat * 12)).block, (ad242.add ((x5_1).toNat * 12)).off + 1, none⟩ = some (.int .u16 ((rd_T42 l0 x5_1).f1)) ∧ w'.cell? ⟨(ad242.add ((x5_1).toNat * 12)).block, (ad242.add ((x5_1).toNat * 12)).off + 2, none⟩ = some (.int .u16 ((rd_T42 l0 x5_1).f2)) ∧ w'.cell? ⟨(ad242.add ((x5_1).toNat * 12)).block, (ad242.add ((x5_1).toNat * 12)).off + 3, none⟩ = some (.int .u32 ((rd_T42 l0 x5_1).f3)) ∧ w'.cell? ⟨(ad242.add ((x5_1).toNat * 12)).block, (ad242.add ((x5_1).toNat * 12)).off + 4, none⟩ = some (.int .u64 ((rd_T42 l0 x5_1).f4)) ∧ w'.cell? ⟨(ad242.add ((x5_1).toNat * 12)).block, (ad242.add ((x5_1).toNat * 12)).off + 5, none⟩ = some (.int .i64 ((rd_T42 l0 x5_1).f5)) ∧ w'.cell? ⟨(ad242.add ((x5_1).toNat * 12)).block, (ad242.add ((x5_1).toNat * 12)).off + 6, none⟩ = some (.int .u32 ((rd_T42 l0 x5_1).f6.f0)) ∧ w'.cell? ⟨(ad242.add ((x5_1).toNat * 12)).block, (ad242.add ((x5_1).toNat * 12)).off + 7, none⟩ = some (.int .u32 ((rd_T42 l0 x5_1).f6.f1)) ∧ w'.cell? ⟨(ad242.add ((x5_1).toNat * 12)).block, (ad242.add ((x5_1).toNat * 12)).off + 8, none⟩ = some (.int .u32 ((rd_T42 l0 x5_1).f6.f2)) ∧ w'.cell? ⟨(ad242.add ((x5_1).toNat * 12)).block, (ad242.add ((x5_1).toNat * 12)).off + 9, none⟩ = some (.int .u32 ((rd_T42 l0 x5_1).f6.f3)) ∧ w'.cell? ⟨(ad242.add ((x5_1).toNat * 12)).block, (ad242.add ((x5_1).toNat * 12)).off + 10, none⟩ = some (.int .u32 ((rd_T42 l0 x5_1).f6.f4)) ∧ w'.cell? ⟨(ad242.add ((x5_1).toNat * 12)).block, (ad242.add ((x5_1).toNat * 12)).off + 11, none⟩ = some (.int .u32 ((rd_T42 l0 x5_1).f6.f5))) (ds := []) #[false, false, false, false, false, false, false, false, false, false, false, false, false, false, false, false, false, false] (by kernel_rfl) rfl rfl ⟨hx241_0, ((HB.out.cell (World.block_lt_of_cell? w _ hw242_0)).trans hw242_0), ((HB.out.cell (World.block_lt_of_cell? w _ hw242_1)).trans hw242_1), ((HB.out.cell (World.block_lt_of_cell? w _ hw242_2)).trans hw242_2), ((HB.out.cell (World.block_lt_of_cell? w _ hw242_3)).trans hw242_3), ((HB.out.cell (World.block_lt_of_cell? w _ hw242_4)).trans hw242_4), ((HB.out.cell (World.block_lt_of_cell? w _ hw242_5)).trans hw242_5), ((HB.out.cell (World.block_lt_of_cell? w _ hw242_6)).trans hw242_6), ((HB.out.cell (World.block_lt_of_cell? w _ hw242_7)).trans hw242_7), ((HB.out.cell (World.block_lt_of_cell? w _ hw242_8)).trans hw242_8), ((HB.out.cell (World.block_lt_of_cell? w _ hw242_9)).trans hw242_9), ((HB.out.cell (World.block_lt_of_cell? w _ hw242_10)).trans hw242_10), ((HB.out.cell (World.block_lt_of_cell? w _ hw242_11)).trans hw242_11)⟩ (fun hHeld => ?_); refine with_tabW nautilusref17_Table.tab9 nautilusref17_Table.bits9 (fun HT_ HW_ => ?_)
            generalize w26.drew = w27 at HO237 HO240 HB hx241_0 hx242_0 hx242_1 hx242_10 hx242_11 hx242_2 hx242_3 hx242_4 hx242_5 hx242_6 hx242_7 hx242_8 hx242_9 hHeld ⊢
            refine pure_ (i := 0) (N := some 26) (v := ?_) (a' := ?_) #[true, false, false, false, false, false, false, false, false, false, false, false, false, false, false, false, false, false] rfl rfl (any_of HT_.out (by kernel_rfl)) (fun _ _ _ h => h) (Or.inl ⟨by rfl, ?_⟩) ?_ ?_
            rotate_left
            ·intro w'
             go_simp
             with_reducible rfl
            rotate_left
            ·simp only [Act.put, List.setIfInBounds_toArray, List.set_cons_zero, List.set_cons_succ, i64_w, i32_w]
             rfl
            refine pure_ (i := 1) (N := some 27) (v := ?_) (a' := ?_) #[true, true, false, false, false, false, false, false, false, false, false, false, false, false, false, false, false, false] rfl rfl (any_of HT_.out (by kernel_rfl)) (fun _ _ _ h => h) (Or.inl ⟨by rfl, ?_⟩) ?_ ?_
            rotate_left
            ·intro w'
             go_simp
             with_reducible rfl
            rotate_left
            ·simp only [Act.put, List.setIfInBounds_toArray, List.set_cons_zero, List.set_cons_succ, i64_w, i32_w]
             rfl
            refine pure_ (i := 2) (N := some 28) (v := ?_) (a' := ?_) #[true, true, true, false, false, false, false, false, false, false, false, false, false, false, false, false, false, false] rfl rfl (any_of HT_.out (by kernel_rfl)) (fun _ _ _ h => h) (Or.inl ⟨by rfl, ?_⟩) ?_ ?_
            rotate_left
            ·intro w'
             go_simp
             with_reducible rfl
            rotate_left
            ·simp only [Act.put, List.setIfInBounds_toArray, List.set_cons_zero, List.set_cons_succ, i64_w, i32_w]
             rfl
            refine pure_ (i := 3) (N := some 29) (v := ?_) (a' := ?_) #[true, true, true, true, false, false, false, false, false, false, false, false, false, false, false, false, false, false] rfl rfl (any_of HT_.out (by kernel_rfl)) (fun _ _ _ h => h) (Or.inl ⟨by rfl, ?_⟩) ?_ ?_
            rotate_left
            ·intro w'
             go_simp
             with_reducible rfl
            rotate_left
            ·simp only [Act.put, List.setIfInBounds_toArray, List.set_cons_zero, List.set_cons_succ, i64_w, i32_w]
             rfl
            refine pure_ (i := 4) (N := some 30) (v := ?_) (a' := ?_) #[true, true, true, true, true, false, false, false, false, false, false, false, false, false, false, false, false, false] rfl rfl (any_of HT_.out (by kernel_rfl)) (fun _ _ _ h => h) (Or.inl ⟨by rfl, ?_⟩) ?_ ?_
            rotate_left
            ·intro w'
             go_simp
             with_reducible rfl
            rotate_left
            ·simp only [Act.put, List.setIfInBounds_toArray, List.set_cons_zero, List.set_cons_succ, i64_w, i32_w]
             rfl
            refine pure_ (i := 6) (N := some 32) (v := ?_) (a' := ?_) #[true, true, true, true, true, false, true, false, false, false, false, false, false, false, false, false, false, false] rfl rfl (any_of HT_.out (by kernel_rfl)) (fun _ _ _ h => h) (Or.inl ⟨by rfl, ?_⟩) ?_ ?_
            rotate_left
            ·intro w'
             go_simp
             with_reducible rfl
            rotate_left
            ·simp only [Act.put, List.setIfInBounds_toArray, List.set_cons_zero, List.set_cons_succ, i64_w, i32_w]
             rfl
            refine pure_ (i := 7) (N := some 33) (v := ?_) (a' := ?_) #[true, true, true, true, true, false, true, true, false, false, false, false, false, false, false, false, false, false] rfl rfl (any_of HT_.out (by kernel_rfl)) (fun _ _ _ h => h) (Or.inl ⟨by rfl, ?_⟩) ?_ ?_
            rotate_left
            ·intro w'
             go_simp
             with_reducible rfl
            rotate_left
            ·simp only [Act.put, List.setIfInBounds_toArray, List.set_cons_zero, List.set_cons_succ, i64_w, i32_w]
             rfl
            refine pure_ (i := 8) (N := some 34) (v := ?_) (a' := ?_) #[true, true, true, true, true, false, true, true, true, false, false, false, false, false, false, false, false, false] rfl rfl (any_of HT_.out (by kernel_rfl)) (fun _ _ _ h => h) (Or.inl ⟨by rfl, ?_⟩) ?_ ?_
            rotate_left
            ·intro w'
             go_simp
             with_reducible rfl
            rotate_left
            ·simp only [Act.put, List.setIfInBounds_toArray, List.set_cons_zero, List.set_cons_succ, i64_w, i32_w]
             rfl
            refine pure_ (i := 9) (N := some 35) (v := ?_) (a' := ?_) #[true, true, true, true, true, false, true, true, true, true, false, false, false, false, false, false, false, false] rfl rfl (any_of HT_.out (by kernel_rfl)) (fun _ _ _ h => h) (Or.inl ⟨by rfl, ?_⟩) ?_ ?_
            rotate_left
            ·intro w'
             go_simp
             with_reducible rfl
            rotate_left
            ·simp only [Act.put, List.setIfInBounds_toArray, List.set_cons_zero, List.set_cons_succ, i64_w, i32_w]
             rfl
            refine pure_ (i := 10) (N := some 36) (v := ?_) (a' := ?_) #[true, true, true, true, true, false, true, true, true, true, true, false, false, false, false, false, false, false] rfl rfl (any_of HT_.out (by kernel_rfl)) (fun _ _ _ h => h) (Or.inl ⟨by rfl, ?_⟩) ?_ ?_
            rotate_left
            ·intro w'
             go_simp
             with_reducible rfl
            rotate_left
            ·simp only [Act.put, List.setIfInBounds_toArray, List.set_cons_zero, List.set_cons_succ, i64_w, i32_w]
             rfl
            refine take_ (i := 5) (N := some 31) (v := ?_) (a' := ?_) #[true, true, true, true, true, true, true, true, true, true, true, false, false, false, false, false, false, false] rfl rfl (take_ofW HT_.out HW_.out (by kernel_rfl)) (fun _ _ _ h => h) (Or.inl ⟨by rfl, ?_⟩) hHeld ?_ ?_
            rotate_left
            ·rintro w' ⟨s0, s1, s2, s3, s4, s5, s6, s7, s8, s9, s10, s11, s12⟩
             go_simp
             with_reducible rfl
            rotate_left
            ·simp only [Act.put, List.setIfInBounds_toArray, List.set_cons_zero, List.set_cons_succ, i64_w, i32_w]
             rfl
            refine take_ (i := 11) (N := some 37) (v := ?_) (a' := ?_) #[true, true, true, true, true, true, true, true, true, true, true, true, false, false, false, false, false, false] rfl rfl (take_ofW HT_.out HW_.out (by kernel_rfl)) (fun _ _ _ h => h) (Or.inl ⟨by rfl, ?_⟩) hHeld ?_ ?_
            rotate_left
            ·rintro w' ⟨s0, s1, s2, s3, s4, s5, s6, s7, s8, s9, s10, s11, s12⟩
             go_simp
             with_reducible rfl
            rotate_left
            ·simp only [Act.put, List.setIfInBounds_toArray, List.set_cons_zero, List.set_cons_succ, i64_w, i32_w]
             rfl
            refine one_ (i := 12) (N := some 38) #[true, true, true, true, true, true, true, true, true, true, true, true, true, false, false, false, false, false] rfl rfl (one_of HT_.out (by kernel_rfl)) (by decide) (fun K hK => ?_)
            refine goes_ Try.func46 (by kernel_rfl) rfl #[.string (rdOf ByteArray.empty y238 (ji7)), .int .i64 (Int.tmod x5_1 12), .agg #[.int .i64 ((rd_T42 l0 x5_1).f0), .int .u16 ((rd_T42 l0 x5_1).f1), .int .u16 ((rd_T42 l0 x5_1).f2), .int .u32 ((rd_T42 l0 x5_1).f3), .int .u64 ((rd_T42 l0 x5_1).f4), .int .i64 ((rd_T42 l0 x5_1).f5), .int .u32 ((rd_T42 l0 x5_1).f6.f0), .int .u32 ((rd_T42 l0 x5_1).f6.f1), .int .u32 ((rd_T42 l0 x5_1).f6.f2), .int .u32 ((rd_T42 l0 x5_1).f6.f3), .int .u32 ((rd_T42 l0 x5_1).f6.f4), .int .u32 ((rd_T42 l0 x5_1).f6.f5)]] (by rfl) rfl rfl (by (try simp only [List.map_toArray, List.map_cons, List.map_nil]); first | done | (simp only [hji7]; rfl) | rfl | (simp only [List.length_drop, List.length_take]; rfl)) ?_
            with_reducible refine (nautilusref10_Put.calls k1 (rdOf ByteArray.empty y238 (ji7)) (Int.tmod x5_1 12) ((rd_T42 l0 x5_1).f0) ((rd_T42 l0 x5_1).f1) ((rd_T42 l0 x5_1).f2) ((rd_T42 l0 x5_1).f3) ((rd_T42 l0 x5_1).f4) ((rd_T42 l0 x5_1).f5) ((rd_T42 l0 x5_1).f6.f0) ((rd_T42 l0 x5_1).f6.f1) ((rd_T42 l0 x5_1).f6.f2) ((rd_T42 l0 x5_1).f6.f3) ((rd_T42 l0 x5_1).f6.f4) ((rd_T42 l0 x5_1).f6.f5) t243 t244 _ A11.out).mono ?_
            rintro e w29 ⟨rfl, hb⟩
            have HS0_ := (hb.cell (World.block_lt_of_cell? _ _ (hHeld.1))).trans (hHeld.1)
            refine ⟨_, rfl, ?_⟩
            have n0_ := Aside0.mk (Kd.R_below (by (with_reducible repeat (first | apply Kd.R_alloc | apply Kd.R_drewN | apply Kd.R_drew)); exact HO237.out) hb)
            have n1_ := Aside0.mk (Kd.R_below (by (with_reducible repeat (first | apply Kd.R_alloc | apply Kd.R_drewN | apply Kd.R_drew)); exact HO240.out) hb)
            have n2_ := Aside0.mk (below_step (by repeat (first | (with_reducible first | exact HB.out | apply below_alloc | apply pw_below_drewN | apply below_drew1) | exact HB.out)) hb)
            clear HO237
            clear HO240
            clear HB
            have HO237 := n0_
            have HO240 := n1_
            have HB := n2_
            clear n0_ n1_ n2_
            (try clear hb)
            (try clear hb2)
            (try clear hk)
            (try clear hi)
            refine hK.out _ _ ⟨HS0_, ((HB.out.cell (World.block_lt_of_cell? w _ hw242_0)).trans hw242_0), ((HB.out.cell (World.block_lt_of_cell? w _ hw242_1)).trans hw242_1), ((HB.out.cell (World.block_lt_of_cell? w _ hw242_2)).trans hw242_2), ((HB.out.cell (World.block_lt_of_cell? w _ hw242_3)).trans hw242_3), ((HB.out.cell (World.block_lt_of_cell? w _ hw242_4)).trans hw242_4), ((HB.out.cell (World.block_lt_of_cell? w _ hw242_5)).trans hw242_5), ((HB.out.cell (World.block_lt_of_cell? w _ hw242_6)).trans hw242_6), ((HB.out.cell (World.block_lt_of_cell? w _ hw242_7)).trans hw242_7), ((HB.out.cell (World.block_lt_of_cell? w _ hw242_8)).trans hw242_8), ((HB.out.cell (World.block_lt_of_cell? w _ hw242_9)).trans hw242_9), ((HB.out.cell (World.block_lt_of_cell? w _ hw242_10)).trans hw242_10), ((HB.out.cell (World.block_lt_of_cell? w _ hw242_11)).trans hw242_11)⟩ (fun hHeld => ?_)
            clear hK K
            refine norm_ (a' := ?_) ?_ ?_
            rotate_left
            ·show Act.put _ (some 38) _ = _
             simp only [Act.put, List.setIfInBounds_toArray, List.set_cons_zero, List.set_cons_succ, i64_w, i32_w]
             rfl
            refine pure_ (i := 13) (N := some 25) (v := ?_) (a' := ?_) #[true, true, true, true, true, true, true, true, true, true, true, true, true, true, false, false, false, false] rfl rfl (any_of HT_.out (by kernel_rfl)) (fun _ _ _ h => h) (Or.inl ⟨by rfl, ?_⟩) ?_ ?_
            rotate_left
            ·intro w'
             go_simp
             with_reducible rfl
            rotate_left
            ·simp only [Act.put, List.setIfInBounds_toArray, List.set_cons_zero, List.set_cons_succ, i64_w, i32_w]
             rfl
            refine pure_ (i := 14) (N := some 39) (v := ?_) (a' := ?_) #[true, true, true, true, true, true, true, true, true, true, true, true, true, true, true, false, false, false] rfl rfl (any_of HT_.out (by kernel_rfl)) (fun _ _ _ h => h) (Or.inl ⟨by rfl, ?_⟩) ?_ ?_
            rotate_left
            ·intro w'
             go_simp
             with_reducible rfl
            rotate_left
            ·simp only [Act.put, List.setIfInBounds_toArray, List.set_cons_zero, List.set_cons_succ, i64_w, i32_w]
             rfl
            refine pure_ (i := 15) (N := some 40) (v := ?_) (a' := ?_) #[true, true, true, true, true, true, true, true, true, true, true, true, true, true, true, true, false, false] rfl rfl (any_of HT_.out (by kernel_rfl)) (fun _ _ _ h => h) (Or.inl ⟨by rfl, ?_⟩) ?_ ?_
            rotate_left
            ·intro w'
             go_simp
             with_reducible rfl
            rotate_left
            ·simp only [Act.put, List.setIfInBounds_toArray, List.set_cons_zero, List.set_cons_succ, i64_w, i32_w]
             rfl
            refine pure_ (i := 16) (N := some 6) (v := ?_) (a' := ?_) #[true, true, true, true, true, true, true, true, true, true, true, true, true, true, true, true, true, false] rfl rfl (any_of HT_.out (by kernel_rfl)) (fun _ _ _ h => h) (Or.inl ⟨by rfl, ?_⟩) ?_ ?_
            rotate_left
            ·intro w'
             go_simp
             with_reducible rfl
            rotate_left
            ·simp only [Act.put, List.setIfInBounds_toArray, List.set_cons_zero, List.set_cons_succ, i64_w, i32_w]
             rfl
            refine pure_ (i := 17) (N := some 7) (v := ?_) (a' := ?_) #[true, true, true, true, true, true, true, true, true, true, true, true, true, true, true, true, true, true] rfl rfl (any_of HT_.out (by kernel_rfl)) (fun _ _ _ h => h) (Or.inl ⟨by rfl, ?_⟩) ?_ ?_
            rotate_left
            ·intro w'
             go_simp
             with_reducible rfl
            rotate_left
            ·simp only [Act.put, List.setIfInBounds_toArray, List.set_cons_zero, List.set_cons_succ, i64_w, i32_w]
             rfl
            refine done_ (done_of HT_.out (by kernel_rfl)) ?_
            try go_wp2
            go_ret2
            exact ⟨_, by first | rfl | (simp [errW_none, errW_some] <;> rfl) | (simp only [← hji7]; first | rfl | (simp [errW_none, errW_some] <;> rfl)) | (simp [*, errW_none, errW_some] <;> rfl), by first | exact Kd.R_nil _ _ _ _ _ | exact Kd.N_nil _ _ _ _ _ | exact Kd.V_nil _ _ _ _ _ | exact Kd.Q_nil _ _ _ _ _ | exact Kd.S_nil _ _ _ _ _, by repeat (first | (with_reducible first | exact HB.out | apply below_alloc | apply pw_below_drewN | apply below_drew1) | exact HB.out)⟩
          ·rw [if_neg c10] at H
           exact absurd H (by simp)
         ·rw [if_neg c9] at H
          exact absurd H (by simp)
        ·rw [if_neg c8] at H
         exact absurd H (by simp)
       ·rw [if_neg c6] at H
        exact absurd H (by simp)
      ·rw [if_neg c5] at H
       exact absurd H (by simp)
     ·rw [if_neg c4] at H
      have c4b0 : ((Int.tmod x5_1 12) == 0) = false := beq_eq_false_iff_ne.mpr c4
      have c4b1 : ((Int.tmod x5_1 12) != 0) = true := bne_iff_ne.mpr c4
      obtain ⟨ji30, hji30⟩ : ∃ j_ : Int, (wrap64 ((x4_1.length : Int) - 1)) = j_ := ⟨_, rfl⟩
      replace H : (if 0 ≤ (ji30) then (if (ji30) < (x4_1.length : Int) then (if 0 ≤ x5_1 then ((nautilusref10_Put.f k1 (rdOf ByteArray.empty x4_1 (ji30)) (Int.tmod x5_1 12) ((rd_T42 l0 x5_1).f0) ((rd_T42 l0 x5_1).f1) ((rd_T42 l0 x5_1).f2) ((rd_T42 l0 x5_1).f3) ((rd_T42 l0 x5_1).f4) ((rd_T42 l0 x5_1).f5) ((rd_T42 l0 x5_1).f6.f0) ((rd_T42 l0 x5_1).f6.f1) ((rd_T42 l0 x5_1).f6.f2) ((rd_T42 l0 x5_1).f6.f3) ((rd_T42 l0 x5_1).f6.f4) ((rd_T42 l0 x5_1).f6.f5)).bind fun bt248 => (if bt248.2 = 0 then (nautilusref17_Table.l0 k1 l0 (x4_1.set ((ji30) : Int).toNat bt248.1) (wrap64 (x5_1 + 1))) else (some (([] : List ByteArray), 154)))) else (none)) else (none)) else (none)) = some (r1, r2) := by first | (rw [hji30] at H; exact H) | (simp only [hji30] at H ⊢; exact H)
      have hji30w : (IntKind.i64.wrap ((x4_1.length : Int) - 1)) = ji30 := (i64_w _).trans hji30
      by_cases c31 : 0 ≤ (ji30)
      ·rw [if_pos c31] at H
       have c31b0 : decide (0 ≤ (ji30)) = true := decide_eq_true c31
       clear c31
       by_cases c32 : (ji30) < (x4_1.length : Int)
       ·rw [if_pos c32] at H
        have c32b0 : decide ((ji30) < (x4_1.length : Int)) = true := decide_eq_true c32
        clear c32
        by_cases c33 : 0 ≤ x5_1
        ·rw [if_pos c33] at H
         have c33b0 : decide (0 ≤ x5_1) = true := decide_eq_true c33
         clear c33
         replace H := Option.bind_eq_some_iff.mp H
         obtain ⟨⟨t248, t249⟩, A340, H⟩ := H
         replace H : (if t249 = 0 then (nautilusref17_Table.l0 k1 l0 (x4_1.set ((ji30) : Int).toNat t248) (wrap64 (x5_1 + 1))) else (some (([] : List ByteArray), 154))) = some (r1, r2) := H
         have A34 := Aside0.mk A340
         clear A340
         by_cases c35 : t249 = 0
         ·rw [if_pos c35] at H
          have c35b0 : (t249 == 0) = true := beq_iff_eq.mpr c35
          have c35b1 : (t249 != 0) = false := bne_eq_false_iff_eq.mpr c35
          clear c35
          obtain ⟨y250, hy250⟩ : ∃ y_ : List ByteArray, y_ = (x4_1.set ((ji30) : Int).toNat t248) := ⟨_, rfl⟩
          replace H : (nautilusref17_Table.l0 k1 l0 y250 (wrap64 (x5_1 + 1))) = some (r1, r2) := by first | (rw [hy250]; with_reducible exact H) | (have H2_ := (Option.bind_some _ _).symm.trans H; rw [hy250]; with_reducible exact H2_) | (have H2_ := (Option.bind_some _ _).symm.trans H; with_reducible exact H2_) | with_reducible exact H | (rw [hy250]; exact H) | exact H
          have Ny250 := Aside0.mk hy250
          clear hy250
          have H' := Aside0.mk H
          clear H
          try go_wp2
          have n0_ := Aside0.mk (Kd.R_drew HO_4.out)
          have n1_ := Aside0.mk (below_drew1 HB.out)
          clear HO_4
          clear HB
          have HO_4 := n0_
          have HB := n1_
          clear n0_ n1_
          obtain ⟨Ao38, co38, eo38⟩ := Kd.R_slice HO_4.out
          (first | subst eo38 | (injection eo38 with f1_ f2_ f3_; have f4_ := f1_.symm; have f5_ := f3_.symm; clear f1_ f2_ f3_; subst f4_; subst f5_))
          have p246 : 0 ≤ ((ji30) : Int) := of_decide_eq_true (by first | (with_reducible assumption) | assumption)
          have q246 : (ji30) < (x4_1.length : Int) := of_decide_eq_true (by first | (with_reducible assumption) | assumption)
          obtain ⟨ad246, e246, hx246_0⟩ := Kd.at_string (Kd.R_reads' HO_4.out).2.2 (ji30) p246 q246
          cases e246
          replace p246 := eq_true p246
          replace q246 := eq_true q246
          have p247 : 0 ≤ (x5_1 : Int) := of_decide_eq_true (by first | (with_reducible assumption) | assumption)
          have q247 : x5_1 < (l0.length : Int) := of_decide_eq_true (by first | (with_reducible assumption) | assumption)
          obtain ⟨ad247, e247, hx247_0, hx247_1, hx247_2, hx247_3, hx247_4, hx247_5, hx247_6, hx247_7, hx247_8, hx247_9, hx247_10, hx247_11⟩ := at_T42 HR0.out x5_1 p247 q247
          have hw247_11 := hx247_11
          have hw247_10 := hx247_10
          have hw247_9 := hx247_9
          have hw247_8 := hx247_8
          have hw247_7 := hx247_7
          have hw247_6 := hx247_6
          have hw247_5 := hx247_5
          have hw247_4 := hx247_4
          have hw247_3 := hx247_3
          have hw247_2 := hx247_2
          have hw247_1 := hx247_1
          have hw247_0 := hx247_0
          cases e247
          replace hx247_0 := (HB.out.cell (World.block_lt_of_cell? w _ hx247_0)).trans hx247_0
          replace hx247_1 := (HB.out.cell (World.block_lt_of_cell? w _ hx247_1)).trans hx247_1
          replace hx247_2 := (HB.out.cell (World.block_lt_of_cell? w _ hx247_2)).trans hx247_2
          replace hx247_3 := (HB.out.cell (World.block_lt_of_cell? w _ hx247_3)).trans hx247_3
          replace hx247_4 := (HB.out.cell (World.block_lt_of_cell? w _ hx247_4)).trans hx247_4
          replace hx247_5 := (HB.out.cell (World.block_lt_of_cell? w _ hx247_5)).trans hx247_5
          replace hx247_6 := (HB.out.cell (World.block_lt_of_cell? w _ hx247_6)).trans hx247_6
          replace hx247_7 := (HB.out.cell (World.block_lt_of_cell? w _ hx247_7)).trans hx247_7
          replace hx247_8 := (HB.out.cell (World.block_lt_of_cell? w _ hx247_8)).trans hx247_8
          replace hx247_9 := (HB.out.cell (World.block_lt_of_cell? w _ hx247_9)).trans hx247_9
          replace hx247_10 := (HB.out.cell (World.block_lt_of_cell? w _ hx247_10)).trans hx247_10
          replace hx247_11 := (HB.out.cell (World.block_lt_of_cell? w _ hx247_11)).trans hx247_11
          replace p247 := eq_true p247
          replace q247 := eq_true q247
          refine start_ (n := 18) (S := fun w' => w'.cell? (ad246.add ((ji30)).toNat) = some (.string (rdOf ByteArray.empty x4_1 (ji30))) ∧ w'.cell? (ad247.add ((x5_1).toNat * 12)) = some (.int .i64 ((rd_T42 l0 x5_1).f0)) ∧ w'.cell? ⟨(ad247.add ((x5_1).toNat * 12)).block, (ad247.add ((x5_1).toNat * 12)).off + 1, none⟩ = some (.int .u16 ((rd_T42 l0 x5_1).f1)) ∧ w'.cell? ⟨(ad247.add ((x5_1).toNat * 12)).block, (ad247.add ((x5_1).toNat * 12)).off + 2, none⟩ = some (.int .u16 ((rd_T42 l0 x5_1).f2)) ∧ w'.cell? ⟨(ad247.add ((x5_1).toNat * 12)).block, (ad247.add ((x5_1).toNat * 12)).off + 3, none⟩ = some (.int .u32 ((rd_T42 l0 x5_1).f3)) ∧ w'.cell? ⟨(ad247.add ((x5_1).toNat * 12)).block, (ad247.add ((x5_1).toNat * 12)).off + 4, none⟩ = some (.int .u64 ((rd_T42 l0 x5_1).f4)) ∧ w'.cell? ⟨(ad247.add ((x5_1).toNat * 12)).block, (ad247.add ((x5_1).toNat * 12)).off + 5, none⟩ = some (.int .i64 ((rd_T42 l0 x5_1).f5)) ∧ w'.cell? ⟨(ad247.add ((x5_1).toNat * 12)).block, (ad247.add ((x5_1).toNat * 12)).off + 6, none⟩ = some (.int .u32 ((rd_T42 l0 x5_1).f6.f0)) ∧ w'.cell? ⟨(ad247.add ((x5_1).toNat * 12)).block, (ad247.add ((x5_1).toNat * 12)).off + 7, none⟩ = some (.int .u32 ((rd_T42 l0 x5_1).f6.f1)) ∧ w'.cell? ⟨(ad247.add ((x5_1).toNat * 12)).block, (ad247.add ((x5_1).toNat * 12)).off + 8, none⟩ = some (.int .u32 ((rd_T42 l0 x5_1).f6.f2)) ∧ w'.cell? ⟨(ad247.add ((x5_1).toNat * 12)).block, (ad247.add ((x5_1).toNat * 12)).off + 9, none⟩ = some (.int .u32 ((rd_T42 l0 x5_1).f6.f3)) ∧ w'.cell? ⟨(ad247.add ((x5_1).toNat * 12)).block, (ad247.add ((x5_1).toNat * 12)).off + 10, none⟩ = some (.int .u32 ((rd_T42 l0 x5_1).f6.f4)) ∧ w'.cell? ⟨(ad247.add ((x5_1).toNat * 12)).block, (ad247.add ((x5_1).toNat * 12)).off + 11, none⟩ = some (.int .u32 ((rd_T42 l0 x5_1).f6.f5))) (ds := []) #[false, false, false, false, false, false, false, false, false, false, false, false, false, false, false, false, false, false] (by kernel_rfl) rfl rfl ⟨hx246_0, ((HB.out.cell (World.block_lt_of_cell? w _ hw247_0)).trans hw247_0), ((HB.out.cell (World.block_lt_of_cell? w _ hw247_1)).trans hw247_1), ((HB.out.cell (World.block_lt_of_cell? w _ hw247_2)).trans hw247_2), ((HB.out.cell (World.block_lt_of_cell? w _ hw247_3)).trans hw247_3), ((HB.out.cell (World.block_lt_of_cell? w _ hw247_4)).trans hw247_4), ((HB.out.cell (World.block_lt_of_cell? w _ hw247_5)).trans hw247_5), ((HB.out.cell (World.block_lt_of_cell? w _ hw247_6)).trans hw247_6), ((HB.out.cell (World.block_lt_of_cell? w _ hw247_7)).trans hw247_7), ((HB.out.cell (World.block_lt_of_cell? w _ hw247_8)).trans hw247_8), ((HB.out.cell (World.block_lt_of_cell? w _ hw247_9)).trans hw247_9), ((HB.out.cell (World.block_lt_of_cell? w _ hw247_10)).trans hw247_10), ((HB.out.cell (World.block_lt_of_cell? w _ hw247_11)).trans hw247_11)⟩ (fun hHeld => ?_); refine with_tabW nautilusref17_Table.tab9 nautilusref17_Table.bits9 (fun HT_ HW_ => ?_)
          generalize wr.drew = w37 at HO_4 HB hx246_0 hx247_0 hx247_1 hx247_10 hx247_11 hx247_2 hx247_3 hx247_4 hx247_5 hx247_6 hx247_7 hx247_8 hx247_9 hHeld ⊢
          refine pure_ (i := 0) (N := some 26) (v := ?_) (a' := ?_) #[true, false, false, false, false, false, false, false, false, false, false, false, false, false, false, false, false, false] rfl rfl (any_of HT_.out (by kernel_rfl)) (fun _ _ _ h => h) (Or.inl ⟨by rfl, ?_⟩) ?_ ?_
          rotate_left
          ·intro w'
           go_simp
           with_reducible rfl
          rotate_left
          ·simp only [Act.put, List.setIfInBounds_toArray, List.set_cons_zero, List.set_cons_succ, i64_w, i32_w]
           rfl
          refine pure_ (i := 1) (N := some 27) (v := ?_) (a' := ?_) #[true, true, false, false, false, false, false, false, false, false, false, false, false, false, false, false, false, false] rfl rfl (any_of HT_.out (by kernel_rfl)) (fun _ _ _ h => h) (Or.inl ⟨by rfl, ?_⟩) ?_ ?_
          rotate_left
          ·intro w'
           go_simp
           with_reducible rfl
          rotate_left
          ·simp only [Act.put, List.setIfInBounds_toArray, List.set_cons_zero, List.set_cons_succ, i64_w, i32_w]
           rfl
          refine pure_ (i := 2) (N := some 28) (v := ?_) (a' := ?_) #[true, true, true, false, false, false, false, false, false, false, false, false, false, false, false, false, false, false] rfl rfl (any_of HT_.out (by kernel_rfl)) (fun _ _ _ h => h) (Or.inl ⟨by rfl, ?_⟩) ?_ ?_
          rotate_left
          ·intro w'
           go_simp
           with_reducible rfl
          rotate_left
          ·simp only [Act.put, List.setIfInBounds_toArray, List.set_cons_zero, List.set_cons_succ, i64_w, i32_w]
           rfl
          refine pure_ (i := 3) (N := some 29) (v := ?_) (a' := ?_) #[true, true, true, true, false, false, false, false, false, false, false, false, false, false, false, false, false, false] rfl rfl (any_of HT_.out (by kernel_rfl)) (fun _ _ _ h => h) (Or.inl ⟨by rfl, ?_⟩) ?_ ?_
          rotate_left
          ·intro w'
           go_simp
           with_reducible rfl
          rotate_left
          ·simp only [Act.put, List.setIfInBounds_toArray, List.set_cons_zero, List.set_cons_succ, i64_w, i32_w]
           rfl
          refine pure_ (i := 4) (N := some 30) (v := ?_) (a' := ?_) #[true, true, true, true, true, false, false, false, false, false, false, false, false, false, false, false, false, false] rfl rfl (any_of HT_.out (by kernel_rfl)) (fun _ _ _ h => h) (Or.inl ⟨by rfl, ?_⟩) ?_ ?_
          rotate_left
          ·intro w'
           go_simp
           with_reducible rfl
          rotate_left
          ·simp only [Act.put, List.setIfInBounds_toArray, List.set_cons_zero, List.set_cons_succ, i64_w, i32_w]
           rfl
          refine pure_ (i := 6) (N := some 32) (v := ?_) (a' := ?_) #[true, true, true, true, true, false, true, false, false, false, false, false, false, false, false, false, false, false] rfl rfl (any_of HT_.out (by kernel_rfl)) (fun _ _ _ h => h) (Or.inl ⟨by rfl, ?_⟩) ?_ ?_
          rotate_left
          ·intro w'
           go_simp
           with_reducible rfl
          rotate_left
          ·simp only [Act.put, List.setIfInBounds_toArray, List.set_cons_zero, List.set_cons_succ, i64_w, i32_w]
           rfl
          refine pure_ (i := 7) (N := some 33) (v := ?_) (a' := ?_) #[true, true, true, true, true, false, true, true, false, false, false, false, false, false, false, false, false, false] rfl rfl (any_of HT_.out (by kernel_rfl)) (fun _ _ _ h => h) (Or.inl ⟨by rfl, ?_⟩) ?_ ?_
          rotate_left
          ·intro w'
           go_simp
           with_reducible rfl
          rotate_left
          ·simp only [Act.put, List.setIfInBounds_toArray, List.set_cons_zero, List.set_cons_succ, i64_w, i32_w]
           rfl
          refine pure_ (i := 8) (N := some 34) (v := ?_) (a' := ?_) #[true, true, true, true, true, false, true, true, true, false, false, false, false, false, false, false, false, false] rfl rfl (any_of HT_.out (by kernel_rfl)) (fun _ _ _ h => h) (Or.inl ⟨by rfl, ?_⟩) ?_ ?_
          rotate_left
          ·intro w'
           go_simp
           with_reducible rfl
          rotate_left
          ·simp only [Act.put, List.setIfInBounds_toArray, List.set_cons_zero, List.set_cons_succ, i64_w, i32_w]
           rfl
          refine pure_ (i := 9) (N := some 35) (v := ?_) (a' := ?_) #[true, true, true, true, true, false, true, true, true, true, false, false, false, false, false, false, false, false] rfl rfl (any_of HT_.out (by kernel_rfl)) (fun _ _ _ h => h) (Or.inl ⟨by rfl, ?_⟩) ?_ ?_
          rotate_left
          ·intro w'
           go_simp
           with_reducible rfl
          rotate_left
          ·simp only [Act.put, List.setIfInBounds_toArray, List.set_cons_zero, List.set_cons_succ, i64_w, i32_w]
           rfl
          refine pure_ (i := 10) (N := some 36) (v := ?_) (a' := ?_) #[true, true, true, true, true, false, true, true, true, true, true, false, false, false, false, false, false, false] rfl rfl (any_of HT_.out (by kernel_rfl)) (fun _ _ _ h => h) (Or.inl ⟨by rfl, ?_⟩) ?_ ?_
          rotate_left
          ·intro w'
           go_simp
           with_reducible rfl
          rotate_left
          ·simp only [Act.put, List.setIfInBounds_toArray, List.set_cons_zero, List.set_cons_succ, i64_w, i32_w]
           rfl
          refine take_ (i := 5) (N := some 31) (v := ?_) (a' := ?_) #[true, true, true, true, true, true, true, true, true, true, true, false, false, false, false, false, false, false] rfl rfl (take_ofW HT_.out HW_.out (by kernel_rfl)) (fun _ _ _ h => h) (Or.inl ⟨by rfl, ?_⟩) hHeld ?_ ?_
          rotate_left
          ·rintro w' ⟨s0, s1, s2, s3, s4, s5, s6, s7, s8, s9, s10, s11, s12⟩
           go_simp
           with_reducible rfl
          rotate_left
          ·simp only [Act.put, List.setIfInBounds_toArray, List.set_cons_zero, List.set_cons_succ, i64_w, i32_w]
           rfl
          refine take_ (i := 11) (N := some 37) (v := ?_) (a' := ?_) #[true, true, true, true, true, true, true, true, true, true, true, true, false, false, false, false, false, false] rfl rfl (take_ofW HT_.out HW_.out (by kernel_rfl)) (fun _ _ _ h => h) (Or.inl ⟨by rfl, ?_⟩) hHeld ?_ ?_
          rotate_left
          ·rintro w' ⟨s0, s1, s2, s3, s4, s5, s6, s7, s8, s9, s10, s11, s12⟩
           go_simp
           with_reducible rfl
          rotate_left
          ·simp only [Act.put, List.setIfInBounds_toArray, List.set_cons_zero, List.set_cons_succ, i64_w, i32_w]
           rfl
          refine one_ (i := 12) (N := some 38) #[true, true, true, true, true, true, true, true, true, true, true, true, true, false, false, false, false, false] rfl rfl (one_of HT_.out (by kernel_rfl)) (by decide) (fun K hK => ?_)
          refine goes_ Try.func46 (by kernel_rfl) rfl #[.string (rdOf ByteArray.empty x4_1 (ji30)), .int .i64 (Int.tmod x5_1 12), .agg #[.int .i64 ((rd_T42 l0 x5_1).f0), .int .u16 ((rd_T42 l0 x5_1).f1), .int .u16 ((rd_T42 l0 x5_1).f2), .int .u32 ((rd_T42 l0 x5_1).f3), .int .u64 ((rd_T42 l0 x5_1).f4), .int .i64 ((rd_T42 l0 x5_1).f5), .int .u32 ((rd_T42 l0 x5_1).f6.f0), .int .u32 ((rd_T42 l0 x5_1).f6.f1), .int .u32 ((rd_T42 l0 x5_1).f6.f2), .int .u32 ((rd_T42 l0 x5_1).f6.f3), .int .u32 ((rd_T42 l0 x5_1).f6.f4), .int .u32 ((rd_T42 l0 x5_1).f6.f5)]] (by rfl) rfl rfl (by (try simp only [List.map_toArray, List.map_cons, List.map_nil]); first | done | (simp only [hji30]; rfl) | rfl | (simp only [List.length_drop, List.length_take]; rfl)) ?_
          with_reducible refine (nautilusref10_Put.calls k1 (rdOf ByteArray.empty x4_1 (ji30)) (Int.tmod x5_1 12) ((rd_T42 l0 x5_1).f0) ((rd_T42 l0 x5_1).f1) ((rd_T42 l0 x5_1).f2) ((rd_T42 l0 x5_1).f3) ((rd_T42 l0 x5_1).f4) ((rd_T42 l0 x5_1).f5) ((rd_T42 l0 x5_1).f6.f0) ((rd_T42 l0 x5_1).f6.f1) ((rd_T42 l0 x5_1).f6.f2) ((rd_T42 l0 x5_1).f6.f3) ((rd_T42 l0 x5_1).f6.f4) ((rd_T42 l0 x5_1).f6.f5) t248 t249 _ A34.out).mono ?_
          rintro e w39 ⟨rfl, hb⟩
          have HS0_ := (hb.cell (World.block_lt_of_cell? _ _ (hHeld.1))).trans (hHeld.1)
          refine ⟨_, rfl, ?_⟩
          have n0_ := Aside0.mk (Kd.R_below (by (with_reducible repeat (first | apply Kd.R_alloc | apply Kd.R_drewN | apply Kd.R_drew)); exact HO_4.out) hb)
          have n1_ := Aside0.mk (below_step (by repeat (first | (with_reducible first | exact HB.out | apply below_alloc | apply pw_below_drewN | apply below_drew1) | exact HB.out)) hb)
          clear HO_4
          clear HB
          have HO_4 := n0_
          have HB := n1_
          clear n0_ n1_
          (try clear hb)
          (try clear hb2)
          (try clear hk)
          (try clear hi)
          refine hK.out _ _ ⟨HS0_, ((HB.out.cell (World.block_lt_of_cell? w _ hw247_0)).trans hw247_0), ((HB.out.cell (World.block_lt_of_cell? w _ hw247_1)).trans hw247_1), ((HB.out.cell (World.block_lt_of_cell? w _ hw247_2)).trans hw247_2), ((HB.out.cell (World.block_lt_of_cell? w _ hw247_3)).trans hw247_3), ((HB.out.cell (World.block_lt_of_cell? w _ hw247_4)).trans hw247_4), ((HB.out.cell (World.block_lt_of_cell? w _ hw247_5)).trans hw247_5), ((HB.out.cell (World.block_lt_of_cell? w _ hw247_6)).trans hw247_6), ((HB.out.cell (World.block_lt_of_cell? w _ hw247_7)).trans hw247_7), ((HB.out.cell (World.block_lt_of_cell? w _ hw247_8)).trans hw247_8), ((HB.out.cell (World.block_lt_of_cell? w _ hw247_9)).trans hw247_9), ((HB.out.cell (World.block_lt_of_cell? w _ hw247_10)).trans hw247_10), ((HB.out.cell (World.block_lt_of_cell? w _ hw247_11)).trans hw247_11)⟩ (fun hHeld => ?_)
          clear hK K
          refine norm_ (a' := ?_) ?_ ?_
          rotate_left
          ·show Act.put _ (some 38) _ = _
           simp only [Act.put, List.setIfInBounds_toArray, List.set_cons_zero, List.set_cons_succ, i64_w, i32_w]
           rfl
          refine pure_ (i := 13) (N := some 25) (v := ?_) (a' := ?_) #[true, true, true, true, true, true, true, true, true, true, true, true, true, true, false, false, false, false] rfl rfl (any_of HT_.out (by kernel_rfl)) (fun _ _ _ h => h) (Or.inl ⟨by rfl, ?_⟩) ?_ ?_
          rotate_left
          ·intro w'
           go_simp
           with_reducible rfl
          rotate_left
          ·simp only [Act.put, List.setIfInBounds_toArray, List.set_cons_zero, List.set_cons_succ, i64_w, i32_w]
           rfl
          refine pure_ (i := 14) (N := some 39) (v := ?_) (a' := ?_) #[true, true, true, true, true, true, true, true, true, true, true, true, true, true, true, false, false, false] rfl rfl (any_of HT_.out (by kernel_rfl)) (fun _ _ _ h => h) (Or.inl ⟨by rfl, ?_⟩) ?_ ?_
          rotate_left
          ·intro w'
           go_simp
           with_reducible rfl
          rotate_left
          ·simp only [Act.put, List.setIfInBounds_toArray, List.set_cons_zero, List.set_cons_succ, i64_w, i32_w]
           rfl
          refine pure_ (i := 15) (N := some 40) (v := ?_) (a' := ?_) #[true, true, true, true, true, true, true, true, true, true, true, true, true, true, true, true, false, false] rfl rfl (any_of HT_.out (by kernel_rfl)) (fun _ _ _ h => h) (Or.inl ⟨by rfl, ?_⟩) ?_ ?_
          rotate_left
          ·intro w'
           go_simp
           with_reducible rfl
          rotate_left
          ·simp only [Act.put, List.setIfInBounds_toArray, List.set_cons_zero, List.set_cons_succ, i64_w, i32_w]
           rfl
          refine pure_ (i := 16) (N := some 6) (v := ?_) (a' := ?_) #[true, true, true, true, true, true, true, true, true, true, true, true, true, true, true, true, true, false] rfl rfl (any_of HT_.out (by kernel_rfl)) (fun _ _ _ h => h) (Or.inl ⟨by rfl, ?_⟩) ?_ ?_
          rotate_left
          ·intro w'
           go_simp
           with_reducible rfl
          rotate_left
          ·simp only [Act.put, List.setIfInBounds_toArray, List.set_cons_zero, List.set_cons_succ, i64_w, i32_w]
           rfl
          refine pure_ (i := 17) (N := some 7) (v := ?_) (a' := ?_) #[true, true, true, true, true, true, true, true, true, true, true, true, true, true, true, true, true, true] rfl rfl (any_of HT_.out (by kernel_rfl)) (fun _ _ _ h => h) (Or.inl ⟨by rfl, ?_⟩) ?_ ?_
          rotate_left
          ·intro w'
           go_simp
           with_reducible rfl
          rotate_left
          ·simp only [Act.put, List.setIfInBounds_toArray, List.set_cons_zero, List.set_cons_succ, i64_w, i32_w]
           rfl
          refine done_ (done_of HT_.out (by kernel_rfl)) ?_
          have p36 : 0 ≤ ((ji30) : Int) := of_decide_eq_true (by first | (with_reducible assumption) | assumption)
          have q36 : ((ji30) : Int) < ((x4_1.length : Int) : Int) := of_decide_eq_true (by first | (with_reducible assumption) | assumption)
          obtain ⟨go36, co36, eo36, gb36, gl36, cl36, HG36⟩ := Kd.R_form HO_4.out (by omega)
          (first | cases eo36 | (injection eo36 with ea_ en_ ec_; (first | subst ea_ | (injection ea_ with ea_; subst ea_)); subst ec_; clear en_))
          have GB36 := Aside0.mk gb36
          have GG36 := Aside0.mk HG36
          clear gb36 gl36 HG36
          (first | simp only [add_plain] at hx246_0 | skip)
          obtain ⟨hx36_0, hf36_0⟩ := Kd.R_celln (⟨#[]⟩ : ByteArray) HO_4.out ((ji30) : Int) p36 q36
          replace p36 := eq_true p36
          replace q36 := eq_true q36
          obtain ⟨hy40_, hz40_⟩ := Kd.R_celln (⟨#[]⟩ : ByteArray) HO_4.out ((ji30) : Int) (of_decide_eq_true (by first | (with_reducible assumption) | assumption)) (of_decide_eq_true (by first | (with_reducible assumption) | assumption))
          have HP40 := Kd.R_putg HO_4.out ((ji30) : Int) t248
          try go_wp2_with (first | ((with_reducible refine gate_store (t := 9) (p := 48) rfl ?_); refine store_event (t := 9) (p := 48) (v := ?vo_w41) (w1 := (w39.setCell ⟨go36, ((ji30) : Int).toNat, none⟩ (.string t248))) ?hg ?ho ?hn ?hr ?_; (case ho => rfl); (case hg => rfl); (case hn => rfl); (case hr => first | (go_simp; done) | (go_simp; rfl)); intro w41 hw; have hg : w39.grownBy w41 (some go36) := (by rw [hw]; exact HP40.2); have hp_ : Kd.R Kd.string 9 w41 w.heap.size (fun _ => True) (.slice (some ⟨go36, 0, none⟩) x4_1.length co38) y250 := (by rw [hw, Ny250.out]; exact HP40.1); clear HP40; have n0_ := Aside0.mk (hp_); have n1_ := Aside0.mk ((by rw [hw]; exact below_set (HB.out) GB36.out : Below w.heap.size w w41)); clear HO_4; clear HB; have HO_4 := n0_; have HB := n1_; clear n0_ n1_; clear hg hw hp_))
          go_roundg k1
          case measure => have := HK1.out; omega
          case rel => exact ⟨(y250), (wrap64 (x5_1 + 1)), (by first | rfl | (simp; done) | (simp [*]; done)), H', ⟨by have := HK1.out; omega⟩, ⟨by (with_reducible repeat (first | apply Kd.R_alloc | apply Kd.R_drewN | apply Kd.R_drew)); exact HO_4.out⟩, ⟨by repeat (first | (with_reducible first | exact HB.out | apply below_alloc | apply pw_below_drewN | apply below_drew1) | exact HB.out)⟩⟩
         ·rw [if_neg c35] at H
          have c35b0 : (t249 == 0) = false := beq_eq_false_iff_ne.mpr c35
          have c35b1 : (t249 != 0) = true := bne_iff_ne.mpr c35
          simp only [Option.some.injEq, Prod.mk.injEq] at H
          obtain ⟨rfl, rfl⟩ := H
          try go_wp2
          have n0_ := Aside0.mk (Kd.R_drew HO_4.out)
          have n1_ := Aside0.mk (below_drew1 HB.out)
          clear HO_4
          clear HB
          have HO_4 := n0_
          have HB := n1_
          clear n0_ n1_
          obtain ⟨Ao43, co43, eo43⟩ := Kd.R_slice HO_4.out
          (first | subst eo43 | (injection eo43 with f1_ f2_ f3_; have f4_ := f1_.symm; have f5_ := f3_.symm; clear f1_ f2_ f3_; subst f4_; subst f5_))
          have p246 : 0 ≤ ((ji30) : Int) := of_decide_eq_true (by first | (with_reducible assumption) | assumption)
          have q246 : (ji30) < (x4_1.length : Int) := of_decide_eq_true (by first | (with_reducible assumption) | assumption)
          obtain ⟨ad246, e246, hx246_0⟩ := Kd.at_string (Kd.R_reads' HO_4.out).2.2 (ji30) p246 q246
          cases e246
          replace p246 := eq_true p246
          replace q246 := eq_true q246
          have p247 : 0 ≤ (x5_1 : Int) := of_decide_eq_true (by first | (with_reducible assumption) | assumption)
          have q247 : x5_1 < (l0.length : Int) := of_decide_eq_true (by first | (with_reducible assumption) | assumption)
          obtain ⟨ad247, e247, hx247_0, hx247_1, hx247_2, hx247_3, hx247_4, hx247_5, hx247_6, hx247_7, hx247_8, hx247_9, hx247_10, hx247_11⟩ := at_T42 HR0.out x5_1 p247 q247
          have hw247_11 := hx247_11
          have hw247_10 := hx247_10
          have hw247_9 := hx247_9
          have hw247_8 := hx247_8
          have hw247_7 := hx247_7
          have hw247_6 := hx247_6
          have hw247_5 := hx247_5
          have hw247_4 := hx247_4
          have hw247_3 := hx247_3
          have hw247_2 := hx247_2
          have hw247_1 := hx247_1
          have hw247_0 := hx247_0
          cases e247
          replace hx247_0 := (HB.out.cell (World.block_lt_of_cell? w _ hx247_0)).trans hx247_0
          replace hx247_1 := (HB.out.cell (World.block_lt_of_cell? w _ hx247_1)).trans hx247_1
          replace hx247_2 := (HB.out.cell (World.block_lt_of_cell? w _ hx247_2)).trans hx247_2
          replace hx247_3 := (HB.out.cell (World.block_lt_of_cell? w _ hx247_3)).trans hx247_3
          replace hx247_4 := (HB.out.cell (World.block_lt_of_cell? w _ hx247_4)).trans hx247_4
          replace hx247_5 := (HB.out.cell (World.block_lt_of_cell? w _ hx247_5)).trans hx247_5
          replace hx247_6 := (HB.out.cell (World.block_lt_of_cell? w _ hx247_6)).trans hx247_6
          replace hx247_7 := (HB.out.cell (World.block_lt_of_cell? w _ hx247_7)).trans hx247_7
          replace hx247_8 := (HB.out.cell (World.block_lt_of_cell? w _ hx247_8)).trans hx247_8
          replace hx247_9 := (HB.out.cell (World.block_lt_of_cell? w _ hx247_9)).trans hx247_9
          replace hx247_10 := (HB.out.cell (World.block_lt_of_cell? w _ hx247_10)).trans hx247_10
          replace hx247_11 := (HB.out.cell (World.block_lt_of_cell? w _ hx247_11)).trans hx247_11
          replace p247 := eq_true p247
          replace q247 := eq_true q247
          refine start_ (n := 18) (S := fun w' => w'.cell? (ad246.add ((ji30)).toNat) = some (.string (rdOf ByteArray.empty x4_1 (ji30))) ∧ w'.cell? (ad247.add ((x5_1).toNat * 12)) = some (.int .i64 ((rd_T42 l0 x5_1).f0)) ∧ w'.cell? ⟨(ad247.add ((x5_1).toNat * 12)).block, (ad247.add ((x5_1).toNat * 12)).off + 1, none⟩ = some (.int .u16 ((rd_T42 l0 x5_1).f1)) ∧ w'.cell? ⟨(ad247.add ((x5_1).toNat * 12)).block, (ad247.add ((x5_1).toNat * 12)).off + 2, none⟩ = some (.int .u16 ((rd_T42 l0 x5_1).f2)) ∧ w'.cell? ⟨(ad247.add ((x5_1).toNat * 12)).block, (ad247.add ((x5_1).toNat * 12)).off + 3, none⟩ = some (.int .u32 ((rd_T42 l0 x5_1).f3)) ∧ w'.cell? ⟨(ad247.add ((x5_1).toNat * 12)).block, (ad247.add ((x5_1).toNat * 12)).off + 4, none⟩ = some (.int .u64 ((rd_T42 l0 x5_1).f4)) ∧ w'.cell? ⟨(ad247.add ((x5_1).toNat * 12)).block, (ad247.add ((x5_1).toNat * 12)).off + 5, none⟩ = some (.int .i64 ((rd_T42 l0 x5_1).f5)) ∧ w'.cell? ⟨(ad247.add ((x5_1).toNat * 12)).block, (ad247.add ((x5_1).toNat * 12)).off + 6, none⟩ = some (.int .u32 ((rd_T42 l0 x5_1).f6.f0)) ∧ w'.cell? ⟨(ad247.add ((x5_1).toNat * 12)).block, (ad247.add ((x5_1).toNat * 12)).off + 7, none⟩ = some (.int .u32 ((rd_T42 l0 x5_1).f6.f1)) ∧ w'.cell? ⟨(ad247.add ((x5_1).toNat * 12)).block, (ad247.add ((x5_1).toNat * 12)).off + 8, none⟩ = some (.int .u32 ((rd_T42 l0 x5_1).f6.f2)) ∧ w'.cell? ⟨(ad247.add ((x5_1).toNat * 12)).block, (ad247.add ((x5_1).toNat * 12)).off + 9, none⟩ = some (.int .u32 ((rd_T42 l0 x5_1).f6.f3)) ∧ w'.cell? ⟨(ad247.add ((x5_1).toNat * 12)).block, (ad247.add ((x5_1).toNat * 12)).off + 10, none⟩ = some (.int .u32 ((rd_T42 l0 x5_1).f6.f4)) ∧ w'.cell? ⟨(ad247.add ((x5_1).toNat * 12)).block, (ad247.add ((x5_1).toNat * 12)).off + 11, none⟩ = some (.int .u32 ((rd_T42 l0 x5_1).f6.f5))) (ds := []) #[false, false, false, false, false, false, false, false, false, false, false, false, false, false, false, false, false, false] (by kernel_rfl) rfl rfl ⟨hx246_0, ((HB.out.cell (World.block_lt_of_cell? w _ hw247_0)).trans hw247_0), ((HB.out.cell (World.block_lt_of_cell? w _ hw247_1)).trans hw247_1), ((HB.out.cell (World.block_lt_of_cell? w _ hw247_2)).trans hw247_2), ((HB.out.cell (World.block_lt_of_cell? w _ hw247_3)).trans hw247_3), ((HB.out.cell (World.block_lt_of_cell? w _ hw247_4)).trans hw247_4), ((HB.out.cell (World.block_lt_of_cell? w _ hw247_5)).trans hw247_5), ((HB.out.cell (World.block_lt_of_cell? w _ hw247_6)).trans hw247_6), ((HB.out.cell (World.block_lt_of_cell? w _ hw247_7)).trans hw247_7), ((HB.out.cell (World.block_lt_of_cell? w _ hw247_8)).trans hw247_8), ((HB.out.cell (World.block_lt_of_cell? w _ hw247_9)).trans hw247_9), ((HB.out.cell (World.block_lt_of_cell? w _ hw247_10)).trans hw247_10), ((HB.out.cell (World.block_lt_of_cell? w _ hw247_11)).trans hw247_11)⟩ (fun hHeld => ?_); refine with_tabW nautilusref17_Table.tab9 nautilusref17_Table.bits9 (fun HT_ HW_ => ?_)
          generalize wr.drew = w42 at HO_4 HB hx246_0 hx247_0 hx247_1 hx247_10 hx247_11 hx247_2 hx247_3 hx247_4 hx247_5 hx247_6 hx247_7 hx247_8 hx247_9 hHeld ⊢
          refine pure_ (i := 0) (N := some 26) (v := ?_) (a' := ?_) #[true, false, false, false, false, false, false, false, false, false, false, false, false, false, false, false, false, false] rfl rfl (any_of HT_.out (by kernel_rfl)) (fun _ _ _ h => h) (Or.inl ⟨by rfl, ?_⟩) ?_ ?_
          rotate_left
          ·intro w'
           go_simp
           with_reducible rfl
          rotate_left
          ·simp only [Act.put, List.setIfInBounds_toArray, List.set_cons_zero, List.set_cons_succ, i64_w, i32_w]
           rfl
          refine pure_ (i := 1) (N := some 27) (v := ?_) (a' := ?_) #[true, true, false, false, false, false, false, false, false, false, false, false, false, false, false, false, false, false] rfl rfl (any_of HT_.out (by kernel_rfl)) (fun _ _ _ h => h) (Or.inl ⟨by rfl, ?_⟩) ?_ ?_
          rotate_left
          ·intro w'
           go_simp
           with_reducible rfl
          rotate_left
          ·simp only [Act.put, List.setIfInBounds_toArray, List.set_cons_zero, List.set_cons_succ, i64_w, i32_w]
           rfl
          refine pure_ (i := 2) (N := some 28) (v := ?_) (a' := ?_) #[true, true, true, false, false, false, false, false, false, false, false, false, false, false, false, false, false, false] rfl rfl (any_of HT_.out (by kernel_rfl)) (fun _ _ _ h => h) (Or.inl ⟨by rfl, ?_⟩) ?_ ?_
          rotate_left
          ·intro w'
           go_simp
           with_reducible rfl
          rotate_left
          ·simp only [Act.put, List.setIfInBounds_toArray, List.set_cons_zero, List.set_cons_succ, i64_w, i32_w]
           rfl
          refine pure_ (i := 3) (N := some 29) (v := ?_) (a' := ?_) #[true, true, true, true, false, false, false, false, false, false, false, false, false, false, false, false, false, false] rfl rfl (any_of HT_.out (by kernel_rfl)) (fun _ _ _ h => h) (Or.inl ⟨by rfl, ?_⟩) ?_ ?_
          rotate_left
          ·intro w'
           go_simp
           with_reducible rfl
          rotate_left
          ·simp only [Act.put, List.setIfInBounds_toArray, List.set_cons_zero, List.set_cons_succ, i64_w, i32_w]
           rfl
          refine pure_ (i := 4) (N := some 30) (v := ?_) (a' := ?_) #[true, true, true, true, true, false, false, false, false, false, false, false, false, false, false, false, false, false] rfl rfl (any_of HT_.out (by kernel_rfl)) (fun _ _ _ h => h) (Or.inl ⟨by rfl, ?_⟩) ?_ ?_
          rotate_left
          ·intro w'
           go_simp
           with_reducible rfl
          rotate_left
          ·simp only [Act.put, List.setIfInBounds_toArray, List.set_cons_zero, List.set_cons_succ, i64_w, i32_w]
           rfl
          refine pure_ (i := 6) (N := some 32) (v := ?_) (a' := ?_) #[true, true, true, true, true, false, true, false, false, false, false, false, false, false, false, false, false, false] rfl rfl (any_of HT_.out (by kernel_rfl)) (fun _ _ _ h => h) (Or.inl ⟨by rfl, ?_⟩) ?_ ?_
          rotate_left
          ·intro w'
           go_simp
           with_reducible rfl
          rotate_left
          ·simp only [Act.put, List.setIfInBounds_toArray, List.set_cons_zero, List.set_cons_succ, i64_w, i32_w]
           rfl
          refine pure_ (i := 7) (N := some 33) (v := ?_) (a' := ?_) #[true, true, true, true, true, false, true, true, false, false, false, false, false, false, false, false, false, false] rfl rfl (any_of HT_.out (by kernel_rfl)) (fun _ _ _ h => h) (Or.inl ⟨by rfl, ?_⟩) ?_ ?_
          rotate_left
          ·intro w'
           go_simp
           with_reducible rfl
          rotate_left
          ·simp only [Act.put, List.setIfInBounds_toArray, List.set_cons_zero, List.set_cons_succ, i64_w, i32_w]
           rfl
          refine pure_ (i := 8) (N := some 34) (v := ?_) (a' := ?_) #[true, true, true, true, true, false, true, true, true, false, false, false, false, false, false, false, false, false] rfl rfl (any_of HT_.out (by kernel_rfl)) (fun _ _ _ h => h) (Or.inl ⟨by rfl, ?_⟩) ?_ ?_
          rotate_left
          ·intro w'
           go_simp
           with_reducible rfl
          rotate_left
          ·simp only [Act.put, List.setIfInBounds_toArray, List.set_cons_zero, List.set_cons_succ, i64_w, i32_w]
           rfl
          refine pure_ (i := 9) (N := some 35) (v := ?_) (a' := ?_) #[true, true, true, true, true, false, true, true, true, true, false, false, false, false, false, false, false, false] rfl rfl (any_of HT_.out (by kernel_rfl)) (fun _ _ _ h => h) (Or.inl ⟨by rfl, ?_⟩) ?_ ?_
          rotate_left
          ·intro w'
           go_simp
           with_reducible rfl
          rotate_left
          ·simp only [Act.put, List.setIfInBounds_toArray, List.set_cons_zero, List.set_cons_succ, i64_w, i32_w]
           rfl
          refine pure_ (i := 10) (N := some 36) (v := ?_) (a' := ?_) #[true, true, true, true, true, false, true, true, true, true, true, false, false, false, false, false, false, false] rfl rfl (any_of HT_.out (by kernel_rfl)) (fun _ _ _ h => h) (Or.inl ⟨by rfl, ?_⟩) ?_ ?_
          rotate_left
          ·intro w'
           go_simp
           with_reducible rfl
          rotate_left
          ·simp only [Act.put, List.setIfInBounds_toArray, List.set_cons_zero, List.set_cons_succ, i64_w, i32_w]
           rfl
          refine take_ (i := 5) (N := some 31) (v := ?_) (a' := ?_) #[true, true, true, true, true, true, true, true, true, true, true, false, false, false, false, false, false, false] rfl rfl (take_ofW HT_.out HW_.out (by kernel_rfl)) (fun _ _ _ h => h) (Or.inl ⟨by rfl, ?_⟩) hHeld ?_ ?_
          rotate_left
          ·rintro w' ⟨s0, s1, s2, s3, s4, s5, s6, s7, s8, s9, s10, s11, s12⟩
           go_simp
           with_reducible rfl
          rotate_left
          ·simp only [Act.put, List.setIfInBounds_toArray, List.set_cons_zero, List.set_cons_succ, i64_w, i32_w]
           rfl
          refine take_ (i := 11) (N := some 37) (v := ?_) (a' := ?_) #[true, true, true, true, true, true, true, true, true, true, true, true, false, false, false, false, false, false] rfl rfl (take_ofW HT_.out HW_.out (by kernel_rfl)) (fun _ _ _ h => h) (Or.inl ⟨by rfl, ?_⟩) hHeld ?_ ?_
          rotate_left
          ·rintro w' ⟨s0, s1, s2, s3, s4, s5, s6, s7, s8, s9, s10, s11, s12⟩
           go_simp
           with_reducible rfl
          rotate_left
          ·simp only [Act.put, List.setIfInBounds_toArray, List.set_cons_zero, List.set_cons_succ, i64_w, i32_w]
           rfl
          refine one_ (i := 12) (N := some 38) #[true, true, true, true, true, true, true, true, true, true, true, true, true, false, false, false, false, false] rfl rfl (one_of HT_.out (by kernel_rfl)) (by decide) (fun K hK => ?_)
          refine goes_ Try.func46 (by kernel_rfl) rfl #[.string (rdOf ByteArray.empty x4_1 (ji30)), .int .i64 (Int.tmod x5_1 12), .agg #[.int .i64 ((rd_T42 l0 x5_1).f0), .int .u16 ((rd_T42 l0 x5_1).f1), .int .u16 ((rd_T42 l0 x5_1).f2), .int .u32 ((rd_T42 l0 x5_1).f3), .int .u64 ((rd_T42 l0 x5_1).f4), .int .i64 ((rd_T42 l0 x5_1).f5), .int .u32 ((rd_T42 l0 x5_1).f6.f0), .int .u32 ((rd_T42 l0 x5_1).f6.f1), .int .u32 ((rd_T42 l0 x5_1).f6.f2), .int .u32 ((rd_T42 l0 x5_1).f6.f3), .int .u32 ((rd_T42 l0 x5_1).f6.f4), .int .u32 ((rd_T42 l0 x5_1).f6.f5)]] (by rfl) rfl rfl (by (try simp only [List.map_toArray, List.map_cons, List.map_nil]); first | done | (simp only [hji30]; rfl) | rfl | (simp only [List.length_drop, List.length_take]; rfl)) ?_
          with_reducible refine (nautilusref10_Put.calls k1 (rdOf ByteArray.empty x4_1 (ji30)) (Int.tmod x5_1 12) ((rd_T42 l0 x5_1).f0) ((rd_T42 l0 x5_1).f1) ((rd_T42 l0 x5_1).f2) ((rd_T42 l0 x5_1).f3) ((rd_T42 l0 x5_1).f4) ((rd_T42 l0 x5_1).f5) ((rd_T42 l0 x5_1).f6.f0) ((rd_T42 l0 x5_1).f6.f1) ((rd_T42 l0 x5_1).f6.f2) ((rd_T42 l0 x5_1).f6.f3) ((rd_T42 l0 x5_1).f6.f4) ((rd_T42 l0 x5_1).f6.f5) t248 t249 _ A34.out).mono ?_
          rintro e w44 ⟨rfl, hb⟩
          have HS0_ := (hb.cell (World.block_lt_of_cell? _ _ (hHeld.1))).trans (hHeld.1)
          refine ⟨_, rfl, ?_⟩
          have n0_ := Aside0.mk (Kd.R_below (by (with_reducible repeat (first | apply Kd.R_alloc | apply Kd.R_drewN | apply Kd.R_drew)); exact HO_4.out) hb)
          have n1_ := Aside0.mk (below_step (by repeat (first | (with_reducible first | exact HB.out | apply below_alloc | apply pw_below_drewN | apply below_drew1) | exact HB.out)) hb)
          clear HO_4
          clear HB
          have HO_4 := n0_
          have HB := n1_
          clear n0_ n1_
          (try clear hb)
          (try clear hb2)
          (try clear hk)
          (try clear hi)
          refine hK.out _ _ ⟨HS0_, ((HB.out.cell (World.block_lt_of_cell? w _ hw247_0)).trans hw247_0), ((HB.out.cell (World.block_lt_of_cell? w _ hw247_1)).trans hw247_1), ((HB.out.cell (World.block_lt_of_cell? w _ hw247_2)).trans hw247_2), ((HB.out.cell (World.block_lt_of_cell? w _ hw247_3)).trans hw247_3), ((HB.out.cell (World.block_lt_of_cell? w _ hw247_4)).trans hw247_4), ((HB.out.cell (World.block_lt_of_cell? w _ hw247_5)).trans hw247_5), ((HB.out.cell (World.block_lt_of_cell? w _ hw247_6)).trans hw247_6), ((HB.out.cell (World.block_lt_of_cell? w _ hw247_7)).trans hw247_7), ((HB.out.cell (World.block_lt_of_cell? w _ hw247_8)).trans hw247_8), ((HB.out.cell (World.block_lt_of_cell? w _ hw247_9)).trans hw247_9), ((HB.out.cell (World.block_lt_of_cell? w _ hw247_10)).trans hw247_10), ((HB.out.cell (World.block_lt_of_cell? w _ hw247_11)).trans hw247_11)⟩ (fun hHeld => ?_)
          clear hK K
          refine norm_ (a' := ?_) ?_ ?_
          rotate_left
          ·show Act.put _ (some 38) _ = _
           simp only [Act.put, List.setIfInBounds_toArray, List.set_cons_zero, List.set_cons_succ, i64_w, i32_w]
           rfl
          refine pure_ (i := 13) (N := some 25) (v := ?_) (a' := ?_) #[true, true, true, true, true, true, true, true, true, true, true, true, true, true, false, false, false, false] rfl rfl (any_of HT_.out (by kernel_rfl)) (fun _ _ _ h => h) (Or.inl ⟨by rfl, ?_⟩) ?_ ?_
          rotate_left
          ·intro w'
           go_simp
           with_reducible rfl
          rotate_left
          ·simp only [Act.put, List.setIfInBounds_toArray, List.set_cons_zero, List.set_cons_succ, i64_w, i32_w]
           rfl
          refine pure_ (i := 14) (N := some 39) (v := ?_) (a' := ?_) #[true, true, true, true, true, true, true, true, true, true, true, true, true, true, true, false, false, false] rfl rfl (any_of HT_.out (by kernel_rfl)) (fun _ _ _ h => h) (Or.inl ⟨by rfl, ?_⟩) ?_ ?_
          rotate_left
          ·intro w'
           go_simp
           with_reducible rfl
          rotate_left
          ·simp only [Act.put, List.setIfInBounds_toArray, List.set_cons_zero, List.set_cons_succ, i64_w, i32_w]
           rfl
          refine pure_ (i := 15) (N := some 40) (v := ?_) (a' := ?_) #[true, true, true, true, true, true, true, true, true, true, true, true, true, true, true, true, false, false] rfl rfl (any_of HT_.out (by kernel_rfl)) (fun _ _ _ h => h) (Or.inl ⟨by rfl, ?_⟩) ?_ ?_
          rotate_left
          ·intro w'
           go_simp
           with_reducible rfl
          rotate_left
          ·simp only [Act.put, List.setIfInBounds_toArray, List.set_cons_zero, List.set_cons_succ, i64_w, i32_w]
           rfl
          refine pure_ (i := 16) (N := some 6) (v := ?_) (a' := ?_) #[true, true, true, true, true, true, true, true, true, true, true, true, true, true, true, true, true, false] rfl rfl (any_of HT_.out (by kernel_rfl)) (fun _ _ _ h => h) (Or.inl ⟨by rfl, ?_⟩) ?_ ?_
          rotate_left
          ·intro w'
           go_simp
           with_reducible rfl
          rotate_left
          ·simp only [Act.put, List.setIfInBounds_toArray, List.set_cons_zero, List.set_cons_succ, i64_w, i32_w]
           rfl
          refine pure_ (i := 17) (N := some 7) (v := ?_) (a' := ?_) #[true, true, true, true, true, true, true, true, true, true, true, true, true, true, true, true, true, true] rfl rfl (any_of HT_.out (by kernel_rfl)) (fun _ _ _ h => h) (Or.inl ⟨by rfl, ?_⟩) ?_ ?_
          rotate_left
          ·intro w'
           go_simp
           with_reducible rfl
          rotate_left
          ·simp only [Act.put, List.setIfInBounds_toArray, List.set_cons_zero, List.set_cons_succ, i64_w, i32_w]
           rfl
          refine done_ (done_of HT_.out (by kernel_rfl)) ?_
          try go_wp2
          go_ret2
          exact ⟨_, by first | rfl | (simp [errW_none, errW_some] <;> rfl) | (simp only [← hji30]; first | rfl | (simp [errW_none, errW_some] <;> rfl)) | (simp [*, errW_none, errW_some] <;> rfl), by first | exact Kd.R_nil _ _ _ _ _ | exact Kd.N_nil _ _ _ _ _ | exact Kd.V_nil _ _ _ _ _ | exact Kd.Q_nil _ _ _ _ _ | exact Kd.S_nil _ _ _ _ _, by repeat (first | (with_reducible first | exact HB.out | apply below_alloc | apply pw_below_drewN | apply below_drew1) | exact HB.out)⟩
        ·rw [if_neg c33] at H
         exact absurd H (by simp)
       ·rw [if_neg c32] at H
        exact absurd H (by simp)
      ·rw [if_neg c31] at H
       exact absurd H (by simp)
    ·rw [if_neg c3] at H
     have c3b0 : decide (x5_1 < (l0.length : Int)) = false := decide_eq_false c3
     clear c3
     simp only [Option.some.injEq, Prod.mk.injEq] at H
     obtain ⟨rfl, rfl⟩ := H
     go_wp2
     go_ret2
     exact ⟨_, by first | rfl | (simp [errW_none, errW_some] <;> rfl) | (simp [*, errW_none, errW_some] <;> rfl), by (with_reducible repeat (first | apply Kd.R_alloc | apply Kd.R_drewN | apply Kd.R_drew)); exact HO_4.out, by repeat (first | (with_reducible first | exact HB.out | apply below_alloc | apply pw_below_drewN | apply below_drew1) | exact HB.out)⟩

end Go.Proofs.Ytpcokafalmafgaa.Q
