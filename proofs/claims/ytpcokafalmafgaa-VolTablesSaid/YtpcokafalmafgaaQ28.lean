/- Functions of the translation as plain Lean functions, and that the translation computes them: printed by this session's driver of the print. -/
import Derived.Test.YtpcokafalmafgaaQ0
import Derived.Test.YtpcokafalmafgaaHIDecR
namespace Go.Proofs.Ytpcokafalmafgaa.Q
open Go.Proofs.Ytpcokafalmafgaa.H
open Go.RowKit Go.Proofs.YtpcokafalmafgaaW.PrintWords Go.Proofs.YtpcokafalmafgaaW.PrintLast Go.Proofs.YtpcokafalmafgaaW.PrintMore
attribute [local go_sem] max2_int min2_int max_two min_two max_three min_three max_four min_four   -- for this text's walks alone
set_option linter.unusedVariables false
set_option linter.unusedSimpArgs false

/-! ### nautilusref01_Bare: function 42 -/
def nautilusref01_Bare.l0 : Nat → ByteArray → Int → Option (Bool)
 | 0, _, _ => none
 | k + 1, x0, x5 => if x5 < (x0.size : Int) then (if 0 ≤ x5 then (if (bt x0 x5) = 0 then (nautilusref01_Bare.l0 k x0 (wrap64 (x5 + 1))) else (some false)) else (none)) else (some true)
def nautilusref01_Bare.f (k : Nat) (a0 : ByteArray) (a1 : Int) : Option (Bool) := nautilusref01_Bare.l0 k a0 (mx 0 a1)
theorem nautilusref01_Bare.mono_l : ∀ k, (∀ y0 y1, LeO (nautilusref01_Bare.l0 k y0 y1) (nautilusref01_Bare.l0 (k + 1) y0 y1))
 | 0 => fun _ _ r h => by simp [nautilusref01_Bare.l0] at h
 | k + 1 => by
  have ih0 := nautilusref01_Bare.mono_l k
  ·intro y0 y1
   unfold nautilusref01_Bare.l0
   repeat' first
   | (with_reducible exact ih0 _ _)
   | (with_reducible exact LeO.refl _)
   | (with_reducible exact LeO.none _)
   | (with_reducible refine LeO.ite ?_ ?_)
   | (with_reducible refine LeO.bind ?_ (fun _ => ?_))
   | exact ih0 _ _
   | exact LeO.none _
   | refine LeO.ite ?_ ?_
   | refine LeO.bind ?_ (fun _ => ?_)
theorem nautilusref01_Bare.mono : ∀ a0 a1 k, LeO (nautilusref01_Bare.f k a0 a1) (nautilusref01_Bare.f (k + 1) a0 a1) := by
 intro a0 a1 k
 have ih0 := nautilusref01_Bare.mono_l k
 unfold nautilusref01_Bare.f
 repeat' first
   | (with_reducible exact ih0 _ _)
   | (with_reducible exact LeO.refl _)
   | (with_reducible exact LeO.none _)
   | (with_reducible refine LeO.ite ?_ ?_)
   | (with_reducible refine LeO.bind ?_ (fun _ => ?_))
   | exact ih0 _ _
   | exact LeO.none _
   | refine LeO.ite ?_ ?_
   | refine LeO.bind ?_ (fun _ => ?_)
set_option maxHeartbeats 8000000 in
set_option maxRecDepth 100000 in
theorem nautilusref01_Bare.calls (k : Nat) (a0 : ByteArray) (a1 : Int) (r : Bool) (w : World) (h : nautilusref01_Bare.f k a0 a1 = some r) :
  Calls Try.prog 42 #[.string a0, .int .i64 a1] w fun e w' => e = .returned (.bool r) ∧ Below w.heap.size w w' := by
 have HB := Aside0.mk (Below.refl w.heap.size w)
 have H : (nautilusref01_Bare.l0 k a0 (mx 0 a1)) = some r := h
 clear h
 obtain ⟨ji3, hji3⟩ : ∃ j_ : Int, (mx 0 a1) = j_ := ⟨_, rfl⟩
 replace H : (nautilusref01_Bare.l0 k a0 ji3) = some r := by first | (rw [hji3] at H; exact H) | (simp only [hji3] at H ⊢; exact H)
 (try (have hji3l : 0 ≤ ji3 := by (rw [← hji3]; unfold mx; (repeat' split) <;> omega)))
 (try (have hji3m : 0 ≤ ji3 := by omega))
 have hji3_ : (if 0 < a1 then a1 else 0) = ji3 := hji3
 have H' := Aside0.mk H
 clear H
 go_enter Try.func42, Try.ntmps42
 go_wp2
 go_loopg [5] k (fun kq v5 w' => ∃ (x5_1 : Int), v5 = .int .i64 x5_1 ∧ Aside0 (nautilusref01_Bare.l0 kq a0 x5_1 = some r) ∧ Aside0 (kq ≤ k) ∧ Aside0 (Below w.heap.size w w'))
 case atStart => exact ⟨(ji3), (by first | rfl | (simp; done) | (simp only [← hji3] <;> (first | rfl | simp)) | (simp [*]; done)), H', ⟨Nat.le_refl _⟩, ⟨by repeat (first | (with_reducible first | exact HB.out | apply below_alloc | apply pw_below_drewN | apply below_drew1) | exact HB.out)⟩⟩
 case round =>
  clear H'
  try clear p2
  obtain ⟨x5_1, rfl, HA, HK1, HB⟩ := hrel
  cases gk with
  | zero => exact absurd HA.out (by simp [nautilusref01_Bare.l0])
  | succ k1 =>
   have H := HA.out
   clear HA
   simp only [nautilusref01_Bare.l0] at H
   by_cases c4 : x5_1 < (a0.size : Int)
   ·rw [if_pos c4] at H
    have c4b0 : decide (x5_1 < (a0.size : Int)) = true := decide_eq_true c4
    clear c4
    by_cases c5 : 0 ≤ x5_1
    ·rw [if_pos c5] at H
     have c5b0 : decide (0 ≤ x5_1) = true := decide_eq_true c5
     clear c5
     by_cases c7 : (bt a0 x5_1) = 0
     ·rw [if_pos c7] at H
      have c7b0 : ((bt a0 x5_1) == 0) = true := beq_iff_eq.mpr c7
      have c7b1 : ((bt a0 x5_1) != 0) = false := bne_eq_false_iff_eq.mpr c7
      clear c7
      have H' := Aside0.mk H
      clear H
      have p6 : 0 ≤ (x5_1 : Int) := of_decide_eq_true (by first | (with_reducible assumption) | assumption)
      have q6 : x5_1 < (a0.size : Int) := of_decide_eq_true (by first | (with_reducible assumption) | assumption)
      have hx6 := bt_at a0 x5_1
      replace p6 := eq_true p6
      replace q6 := eq_true q6
      go_wp2
      go_roundg k1
      case measure => have := HK1.out; omega
      case rel => exact ⟨(wrap64 (x5_1 + 1)), (by first | rfl | (simp; done) | (simp [*]; done)), H', ⟨by have := HK1.out; omega⟩, ⟨by repeat (first | (with_reducible first | exact HB.out | apply below_alloc | apply pw_below_drewN | apply below_drew1) | exact HB.out)⟩⟩
     ·rw [if_neg c7] at H
      have c7b0 : ((bt a0 x5_1) == 0) = false := beq_eq_false_iff_ne.mpr c7
      have c7b1 : ((bt a0 x5_1) != 0) = true := bne_iff_ne.mpr c7
      obtain rfl := Option.some.inj H
      have p6 : 0 ≤ (x5_1 : Int) := of_decide_eq_true (by first | (with_reducible assumption) | assumption)
      have q6 : x5_1 < (a0.size : Int) := of_decide_eq_true (by first | (with_reducible assumption) | assumption)
      have hx6 := bt_at a0 x5_1
      replace p6 := eq_true p6
      replace q6 := eq_true q6
      go_wp2
      go_ret
      exact ⟨by first | rfl | (simp [errW_none, errW_some] <;> rfl) | (simp only [← hji3]; first | rfl | (simp [errW_none, errW_some] <;> rfl)) | (simp [*, errW_none, errW_some] <;> rfl) | (simp [show IntKind.u64.wrap 0 = 0 from rfl, Int.zero_tdiv]; done), by repeat (first | (with_reducible first | exact HB.out | apply below_alloc | apply pw_below_drewN | apply below_drew1) | exact HB.out)⟩
    ·rw [if_neg c5] at H
     exact absurd H (by simp)
   ·rw [if_neg c4] at H
    have c4b0 : decide (x5_1 < (a0.size : Int)) = false := decide_eq_false c4
    clear c4
    obtain rfl := Option.some.inj H
    go_wp2
    go_ret
    exact ⟨by first | rfl | (simp [errW_none, errW_some] <;> rfl) | (simp only [← hji3]; first | rfl | (simp [errW_none, errW_some] <;> rfl)) | (simp [*, errW_none, errW_some] <;> rfl) | (simp [show IntKind.u64.wrap 0 = 0 from rfl, Int.zero_tdiv]; done), by repeat (first | (with_reducible first | exact HB.out | apply below_alloc | apply pw_below_drewN | apply below_drew1) | exact HB.out)⟩

/-! ### nautilusref10_Get: function 48 -/
def nautilusref10_Get.f (a0 : ByteArray) (a1 : Int) : Option (Int × Int × Int × Int × Int × Int × Int × Int × Int × Int × Int × Int × Int) := if (a0.size : Int) = 508 then (if a1 < 0 then (some (0, 0, 0, 0, 0, 0, 0, 0, 0, 0, 0, 0, 2)) else (if a1 ≥ 12 then (some (0, 0, 0, 0, 0, 0, 0, 0, 0, 0, 0, 0, 2)) else (if 0 ≤ (wrap64 (a1 * 42)) then (if (wrap64 (a1 * 42)) ≤ (wrap64 ((wrap64 (a1 * 42)) + 42)) then (if (wrap64 ((wrap64 (a1 * 42)) + 42)) ≤ (a0.size : Int) then ((nautilusref10_Decode.f (a0.extract ((wrap64 (a1 * 42)) : Int).toNat ((wrap64 ((wrap64 (a1 * 42)) + 42)) : Int).toNat)).bind fun bt286 => (some (bt286.1, bt286.2.1, bt286.2.2.1, bt286.2.2.2.1, bt286.2.2.2.2.1, bt286.2.2.2.2.2.1, bt286.2.2.2.2.2.2.1, bt286.2.2.2.2.2.2.2.1, bt286.2.2.2.2.2.2.2.2.1, bt286.2.2.2.2.2.2.2.2.2.1, bt286.2.2.2.2.2.2.2.2.2.2.1, bt286.2.2.2.2.2.2.2.2.2.2.2.1, bt286.2.2.2.2.2.2.2.2.2.2.2.2))) else (none)) else (none)) else (none)))) else (some (0, 0, 0, 0, 0, 0, 0, 0, 0, 0, 0, 0, 2))
set_option maxHeartbeats 8000000 in
set_option maxRecDepth 100000 in
theorem nautilusref10_Get.calls (a0 : ByteArray) (a1 : Int) (r1 : Int) (r2 : Int) (r3 : Int) (r4 : Int) (r5 : Int) (r6 : Int) (r7 : Int) (r8 : Int) (r9 : Int) (r10 : Int) (r11 : Int) (r12 : Int) (r13 : Int) (w : World) (h : nautilusref10_Get.f a0 a1 = some (r1, r2, r3, r4, r5, r6, r7, r8, r9, r10, r11, r12, r13)) :
  Calls Try.prog 48 #[.string a0, .int .i64 a1] w fun e w' => e = .returned (.tuple #[.agg #[.int .i64 r1, .int .u16 r2, .int .u16 r3, .int .u32 r4, .int .u64 r5, .int .i64 r6, .int .u32 r7, .int .u32 r8, .int .u32 r9, .int .u32 r10, .int .u32 r11, .int .u32 r12], .int .i64 r13]) ∧ Below w.heap.size w w' := by
 have hu42 := Try.underlying42
 have HB := Aside0.mk (Below.refl w.heap.size w)
 have H : (if (a0.size : Int) = 508 then (if a1 < 0 then (some (0, 0, 0, 0, 0, 0, 0, 0, 0, 0, 0, 0, 2)) else (if a1 ≥ 12 then (some (0, 0, 0, 0, 0, 0, 0, 0, 0, 0, 0, 0, 2)) else (if 0 ≤ (wrap64 (a1 * 42)) then (if (wrap64 (a1 * 42)) ≤ (wrap64 ((wrap64 (a1 * 42)) + 42)) then (if (wrap64 ((wrap64 (a1 * 42)) + 42)) ≤ (a0.size : Int) then ((nautilusref10_Decode.f (a0.extract ((wrap64 (a1 * 42)) : Int).toNat ((wrap64 ((wrap64 (a1 * 42)) + 42)) : Int).toNat)).bind fun bt286 => (some (bt286.1, bt286.2.1, bt286.2.2.1, bt286.2.2.2.1, bt286.2.2.2.2.1, bt286.2.2.2.2.2.1, bt286.2.2.2.2.2.2.1, bt286.2.2.2.2.2.2.2.1, bt286.2.2.2.2.2.2.2.2.1, bt286.2.2.2.2.2.2.2.2.2.1, bt286.2.2.2.2.2.2.2.2.2.2.1, bt286.2.2.2.2.2.2.2.2.2.2.2.1, bt286.2.2.2.2.2.2.2.2.2.2.2.2))) else (none)) else (none)) else (none)))) else (some (0, 0, 0, 0, 0, 0, 0, 0, 0, 0, 0, 0, 2))) = some (r1, r2, r3, r4, r5, r6, r7, r8, r9, r10, r11, r12, r13) := h
 clear h
 by_cases c3 : (a0.size : Int) = 508
 ·rw [if_pos c3] at H
  have c3b0 : ((a0.size : Int) == 508) = true := beq_iff_eq.mpr c3
  have c3b1 : ((a0.size : Int) != 508) = false := bne_eq_false_iff_eq.mpr c3
  clear c3
  by_cases c4 : a1 < 0
  ·rw [if_pos c4] at H
   have c4b0 : decide (a1 < 0) = true := decide_eq_true c4
   clear c4
   simp only [Option.some.injEq, Prod.mk.injEq] at H
   obtain ⟨rfl, rfl, rfl, rfl, rfl, rfl, rfl, rfl, rfl, rfl, rfl, rfl, rfl⟩ := H
   go_enter Try.func48, Try.ntmps48
   go_wp2_with (first | ((with_reducible refine gate_dst (N := 4) rfl ?_); refine box_event ?hg (N := 4) ?hd (cs := #[.int .i64 0, .int .u16 0, .int .u16 0, .int .u32 0, .int .u64 0, .int .i64 0, .int .u32 0, .int .u32 0, .int .u32 0, .int .u32 0, .int .u32 0, .int .u32 0]) (t := 42) ?hr ?_; (case hd => rfl); (case hg => rfl); (case hr => first | (go_simp; done) | (go_simp; rfl)); intro gb285 hg w5 hbox hb; have n0_ := Aside0.mk (below_step (by repeat (first | (with_reducible first | exact HB.out | apply below_alloc | apply pw_below_drewN | apply below_drew1) | exact HB.out)) hb); have n1_ := Aside0.mk (hbox); have n2_ := Aside0.mk ((by rw [hg]; exact (below_size (by repeat (first | (with_reducible first | exact HB.out | apply below_alloc | apply pw_below_drewN | apply below_drew1) | exact HB.out))) : w.heap.size ≤ gb285)); have n3_ := Aside0.mk ((by rw [hg]; exact (below_size (by repeat (first | (with_reducible first | exact HB.out | apply below_alloc | apply pw_below_drewN | apply below_drew1) | exact HB.out))) : w.heap.size ≤ gb285)); clear HB; have HB := n0_; have BK285 := n1_; have GW285 := n2_; have GE285 := n3_; clear n0_ n1_ n2_ n3_; clear hb hbox hg; have hcz6_0 : w5.cell? ⟨gb285, 0, none⟩ = some (.int .i64 0) := (blk_cell BK285.out 0).trans rfl; have hcz6_1 : w5.cell? ⟨gb285, 1, none⟩ = some (.int .u16 0) := (blk_cell BK285.out 1).trans rfl; have hcz6_2 : w5.cell? ⟨gb285, 2, none⟩ = some (.int .u16 0) := (blk_cell BK285.out 2).trans rfl; have hcz6_3 : w5.cell? ⟨gb285, 3, none⟩ = some (.int .u32 0) := (blk_cell BK285.out 3).trans rfl; have hcz6_4 : w5.cell? ⟨gb285, 4, none⟩ = some (.int .u64 0) := (blk_cell BK285.out 4).trans rfl; have hcz6_5 : w5.cell? ⟨gb285, 5, none⟩ = some (.int .i64 0) := (blk_cell BK285.out 5).trans rfl; have hcz6_6 : w5.cell? ⟨gb285, 6, none⟩ = some (.int .u32 0) := (blk_cell BK285.out 6).trans rfl; have hcz6_7 : w5.cell? ⟨gb285, 7, none⟩ = some (.int .u32 0) := (blk_cell BK285.out 7).trans rfl; have hcz6_8 : w5.cell? ⟨gb285, 8, none⟩ = some (.int .u32 0) := (blk_cell BK285.out 8).trans rfl; have hcz6_9 : w5.cell? ⟨gb285, 9, none⟩ = some (.int .u32 0) := (blk_cell BK285.out 9).trans rfl; have hcz6_10 : w5.cell? ⟨gb285, 10, none⟩ = some (.int .u32 0) := (blk_cell BK285.out 10).trans rfl; have hcz6_11 : w5.cell? ⟨gb285, 11, none⟩ = some (.int .u32 0) := (blk_cell BK285.out 11).trans rfl; have hfz6_0 := blk_frozen BK285.out 0; have hfz6_1 := blk_frozen BK285.out 1; have hfz6_2 := blk_frozen BK285.out 2; have hfz6_3 := blk_frozen BK285.out 3; have hfz6_4 := blk_frozen BK285.out 4; have hfz6_5 := blk_frozen BK285.out 5; have hfz6_6 := blk_frozen BK285.out 6; have hfz6_7 := blk_frozen BK285.out 7; have hfz6_8 := blk_frozen BK285.out 8; have hfz6_9 := blk_frozen BK285.out 9; have hfz6_10 := blk_frozen BK285.out 10; have hfz6_11 := blk_frozen BK285.out 11))
   refine bodyPost_ret (results_ct rfl _ _ gb285 42 #[.int .i64 0, .int .u16 0, .int .u16 0, .int .u32 0, .int .u64 0, .int .i64 0, .int .u32 0, .int .u32 0, .int .u32 0, .int .u32 0, .int .u32 0, .int .u32 0] (0, 0) _ rfl (by (with_reducible repeat (first | refine blk_drewN ?_ _ | refine blk_drew ?_ | refine blk_alloc ?_ _)); refine blk_put (cs := #[.int .i64 0, .int .u16 0, .int .u16 0, .int .u32 0, .int .u64 0, .int .i64 0, .int .u32 0, .int .u32 0, .int .u32 0, .int .u32 0, .int .u32 0, .int .u32 0]) ?_ 11 _ rfl; (with_reducible repeat (first | refine blk_drewN ?_ _ | refine blk_drew ?_ | refine blk_alloc ?_ _)); refine blk_put (cs := #[.int .i64 0, .int .u16 0, .int .u16 0, .int .u32 0, .int .u64 0, .int .i64 0, .int .u32 0, .int .u32 0, .int .u32 0, .int .u32 0, .int .u32 0, .int .u32 0]) ?_ 10 _ rfl; (with_reducible repeat (first | refine blk_drewN ?_ _ | refine blk_drew ?_ | refine blk_alloc ?_ _)); refine blk_put (cs := #[.int .i64 0, .int .u16 0, .int .u16 0, .int .u32 0, .int .u64 0, .int .i64 0, .int .u32 0, .int .u32 0, .int .u32 0, .int .u32 0, .int .u32 0, .int .u32 0]) ?_ 9 _ rfl; (with_reducible repeat (first | refine blk_drewN ?_ _ | refine blk_drew ?_ | refine blk_alloc ?_ _)); refine blk_put (cs := #[.int .i64 0, .int .u16 0, .int .u16 0, .int .u32 0, .int .u64 0, .int .i64 0, .int .u32 0, .int .u32 0, .int .u32 0, .int .u32 0, .int .u32 0, .int .u32 0]) ?_ 8 _ rfl; (with_reducible repeat (first | refine blk_drewN ?_ _ | refine blk_drew ?_ | refine blk_alloc ?_ _)); refine blk_put (cs := #[.int .i64 0, .int .u16 0, .int .u16 0, .int .u32 0, .int .u64 0, .int .i64 0, .int .u32 0, .int .u32 0, .int .u32 0, .int .u32 0, .int .u32 0, .int .u32 0]) ?_ 7 _ rfl; (with_reducible repeat (first | refine blk_drewN ?_ _ | refine blk_drew ?_ | refine blk_alloc ?_ _)); refine blk_put (cs := #[.int .i64 0, .int .u16 0, .int .u16 0, .int .u32 0, .int .u64 0, .int .i64 0, .int .u32 0, .int .u32 0, .int .u32 0, .int .u32 0, .int .u32 0, .int .u32 0]) ?_ 6 _ rfl; (with_reducible repeat (first | refine blk_drewN ?_ _ | refine blk_drew ?_ | refine blk_alloc ?_ _)); refine blk_put (cs := #[.int .i64 0, .int .u16 0, .int .u16 0, .int .u32 0, .int .u64 0, .int .i64 0, .int .u32 0, .int .u32 0, .int .u32 0, .int .u32 0, .int .u32 0, .int .u32 0]) ?_ 5 _ rfl; (with_reducible repeat (first | refine blk_drewN ?_ _ | refine blk_drew ?_ | refine blk_alloc ?_ _)); refine blk_put (cs := #[.int .i64 0, .int .u16 0, .int .u16 0, .int .u32 0, .int .u64 0, .int .i64 0, .int .u32 0, .int .u32 0, .int .u32 0, .int .u32 0, .int .u32 0, .int .u32 0]) ?_ 4 _ rfl; (with_reducible repeat (first | refine blk_drewN ?_ _ | refine blk_drew ?_ | refine blk_alloc ?_ _)); refine blk_put (cs := #[.int .i64 0, .int .u16 0, .int .u16 0, .int .u32 0, .int .u64 0, .int .i64 0, .int .u32 0, .int .u32 0, .int .u32 0, .int .u32 0, .int .u32 0, .int .u32 0]) ?_ 3 _ rfl; (with_reducible repeat (first | refine blk_drewN ?_ _ | refine blk_drew ?_ | refine blk_alloc ?_ _)); refine blk_put (cs := #[.int .i64 0, .int .u16 0, .int .u16 0, .int .u32 0, .int .u64 0, .int .i64 0, .int .u32 0, .int .u32 0, .int .u32 0, .int .u32 0, .int .u32 0, .int .u32 0]) ?_ 2 _ rfl; (with_reducible repeat (first | refine blk_drewN ?_ _ | refine blk_drew ?_ | refine blk_alloc ?_ _)); refine blk_put (cs := #[.int .i64 0, .int .u16 0, .int .u16 0, .int .u32 0, .int .u64 0, .int .i64 0, .int .u32 0, .int .u32 0, .int .u32 0, .int .u32 0, .int .u32 0, .int .u32 0]) ?_ 1 _ rfl; (with_reducible repeat (first | refine blk_drewN ?_ _ | refine blk_drew ?_ | refine blk_alloc ?_ _)); refine blk_put (cs := #[.int .i64 0, .int .u16 0, .int .u16 0, .int .u32 0, .int .u64 0, .int .i64 0, .int .u32 0, .int .u32 0, .int .u32 0, .int .u32 0, .int .u32 0, .int .u32 0]) ?_ 0 _ rfl; (with_reducible repeat (first | refine blk_drewN ?_ _ | refine blk_drew ?_ | refine blk_alloc ?_ _)); exact BK285.out) Try.underlying42 rfl (by kernel_rfl)) rfl ?_
   exact ⟨by first | rfl | (simp [errW_none, errW_some] <;> rfl) | (simp [*, errW_none, errW_some] <;> rfl) | (simp [show IntKind.u64.wrap 0 = 0 from rfl, Int.zero_tdiv]; done), by repeat (first | (with_reducible first | exact HB.out | apply below_alloc | apply pw_below_drewN | apply below_drew1 | refine below_set ?_ GE285.out) | exact HB.out)⟩
  ·rw [if_neg c4] at H
   have c4b0 : decide (a1 < 0) = false := decide_eq_false c4
   clear c4
   by_cases c7 : a1 ≥ 12
   ·rw [if_pos c7] at H
    have c7b0 : decide (12 ≤ a1) = true := decide_eq_true c7
    clear c7
    simp only [Option.some.injEq, Prod.mk.injEq] at H
    obtain ⟨rfl, rfl, rfl, rfl, rfl, rfl, rfl, rfl, rfl, rfl, rfl, rfl, rfl⟩ := H
    go_enter Try.func48, Try.ntmps48
    go_wp2_with (first | ((with_reducible refine gate_dst (N := 4) rfl ?_); refine box_event ?hg (N := 4) ?hd (cs := #[.int .i64 0, .int .u16 0, .int .u16 0, .int .u32 0, .int .u64 0, .int .i64 0, .int .u32 0, .int .u32 0, .int .u32 0, .int .u32 0, .int .u32 0, .int .u32 0]) (t := 42) ?hr ?_; (case hd => rfl); (case hg => rfl); (case hr => first | (go_simp; done) | (go_simp; rfl)); intro gb285 hg w8 hbox hb; have n0_ := Aside0.mk (below_step (by repeat (first | (with_reducible first | exact HB.out | apply below_alloc | apply pw_below_drewN | apply below_drew1) | exact HB.out)) hb); have n1_ := Aside0.mk (hbox); have n2_ := Aside0.mk ((by rw [hg]; exact (below_size (by repeat (first | (with_reducible first | exact HB.out | apply below_alloc | apply pw_below_drewN | apply below_drew1) | exact HB.out))) : w.heap.size ≤ gb285)); have n3_ := Aside0.mk ((by rw [hg]; exact (below_size (by repeat (first | (with_reducible first | exact HB.out | apply below_alloc | apply pw_below_drewN | apply below_drew1) | exact HB.out))) : w.heap.size ≤ gb285)); clear HB; have HB := n0_; have BK285 := n1_; have GW285 := n2_; have GE285 := n3_; clear n0_ n1_ n2_ n3_; clear hb hbox hg; have hcz9_0 : w8.cell? ⟨gb285, 0, none⟩ = some (.int .i64 0) := (blk_cell BK285.out 0).trans rfl; have hcz9_1 : w8.cell? ⟨gb285, 1, none⟩ = some (.int .u16 0) := (blk_cell BK285.out 1).trans rfl; have hcz9_2 : w8.cell? ⟨gb285, 2, none⟩ = some (.int .u16 0) := (blk_cell BK285.out 2).trans rfl; have hcz9_3 : w8.cell? ⟨gb285, 3, none⟩ = some (.int .u32 0) := (blk_cell BK285.out 3).trans rfl; have hcz9_4 : w8.cell? ⟨gb285, 4, none⟩ = some (.int .u64 0) := (blk_cell BK285.out 4).trans rfl; have hcz9_5 : w8.cell? ⟨gb285, 5, none⟩ = some (.int .i64 0) := (blk_cell BK285.out 5).trans rfl; have hcz9_6 : w8.cell? ⟨gb285, 6, none⟩ = some (.int .u32 0) := (blk_cell BK285.out 6).trans rfl; have hcz9_7 : w8.cell? ⟨gb285, 7, none⟩ = some (.int .u32 0) := (blk_cell BK285.out 7).trans rfl; have hcz9_8 : w8.cell? ⟨gb285, 8, none⟩ = some (.int .u32 0) := (blk_cell BK285.out 8).trans rfl; have hcz9_9 : w8.cell? ⟨gb285, 9, none⟩ = some (.int .u32 0) := (blk_cell BK285.out 9).trans rfl; have hcz9_10 : w8.cell? ⟨gb285, 10, none⟩ = some (.int .u32 0) := (blk_cell BK285.out 10).trans rfl; have hcz9_11 : w8.cell? ⟨gb285, 11, none⟩ = some (.int .u32 0) := (blk_cell BK285.out 11).trans rfl; have hfz9_0 := blk_frozen BK285.out 0; have hfz9_1 := blk_frozen BK285.out 1; have hfz9_2 := blk_frozen BK285.out 2; have hfz9_3 := blk_frozen BK285.out 3; have hfz9_4 := blk_frozen BK285.out 4; have hfz9_5 := blk_frozen BK285.out 5; have hfz9_6 := blk_frozen BK285.out 6; have hfz9_7 := blk_frozen BK285.out 7; have hfz9_8 := blk_frozen BK285.out 8; have hfz9_9 := blk_frozen BK285.out 9; have hfz9_10 := blk_frozen BK285.out 10; have hfz9_11 := blk_frozen BK285.out 11))
    refine bodyPost_ret (results_ct rfl _ _ gb285 42 #[.int .i64 0, .int .u16 0, .int .u16 0, .int .u32 0, .int .u64 0, .int .i64 0, .int .u32 0, .int .u32 0, .int .u32 0, .int .u32 0, .int .u32 0, .int .u32 0] (0, 0) _ rfl (by (with_reducible repeat (first | refine blk_drewN ?_ _ | refine blk_drew ?_ | refine blk_alloc ?_ _)); refine blk_put (cs := #[.int .i64 0, .int .u16 0, .int .u16 0, .int .u32 0, .int .u64 0, .int .i64 0, .int .u32 0, .int .u32 0, .int .u32 0, .int .u32 0, .int .u32 0, .int .u32 0]) ?_ 11 _ rfl; (with_reducible repeat (first | refine blk_drewN ?_ _ | refine blk_drew ?_ | refine blk_alloc ?_ _)); refine blk_put (cs := #[.int .i64 0, .int .u16 0, .int .u16 0, .int .u32 0, .int .u64 0, .int .i64 0, .int .u32 0, .int .u32 0, .int .u32 0, .int .u32 0, .int .u32 0, .int .u32 0]) ?_ 10 _ rfl; (with_reducible repeat (first | refine blk_drewN ?_ _ | refine blk_drew ?_ | refine blk_alloc ?_ _)); refine blk_put (cs := #[.int .i64 0, .int .u16 0, .int .u16 0, .int .u32 0, .int .u64 0, .int .i64 0, .int .u32 0, .int .u32 0, .int .u32 0, .int .u32 0, .int .u32 0, .int .u32 0]) ?_ 9 _ rfl; (with_reducible repeat (first | refine blk_drewN ?_ _ | refine blk_drew ?_ | refine blk_alloc ?_ _)); refine blk_put (cs := #[.int .i64 0, .int .u16 0, .int .u16 0, .int .u32 0, .int .u64 0, .int .i64 0, .int .u32 0, .int .u32 0, .int .u32 0, .int .u32 0, .int .u32 0, .int .u32 0]) ?_ 8 _ rfl; (with_reducible repeat (first | refine blk_drewN ?_ _ | refine blk_drew ?_ | refine blk_alloc ?_ _)); refine blk_put (cs := #[.int .i64 0, .int .u16 0, .int .u16 0, .int .u32 0, .int .u64 0, .int .i64 0, .int .u32 0, .int .u32 0, .int .u32 0, .int .u32 0, .int .u32 0, .int .u32 0]) ?_ 7 _ rfl; (with_reducible repeat (first | refine blk_drewN ?_ _ | refine blk_drew ?_ | refine blk_alloc ?_ _)); refine blk_put (cs := #[.int .i64 0, .int .u16 0, .int .u16 0, .int .u32 0, .int .u64 0, .int .i64 0, .int .u32 0, .int .u32 0, .int .u32 0, .int .u32 0, .int .u32 0, .int .u32 0]) ?_ 6 _ rfl; (with_reducible repeat (first | refine blk_drewN ?_ _ | refine blk_drew ?_ | refine blk_alloc ?_ _)); refine blk_put (cs := #[.int .i64 0, .int .u16 0, .int .u16 0, .int .u32 0, .int .u64 0, .int .i64 0, .int .u32 0, .int .u32 0, .int .u32 0, .int .u32 0, .int .u32 0, .int .u32 0]) ?_ 5 _ rfl; (with_reducible repeat (first | refine blk_drewN ?_ _ | refine blk_drew ?_ | refine blk_alloc ?_ _)); refine blk_put (cs := #[.int .i64 0, .int .u16 0, .int .u16 0, .int .u32 0, .int .u64 0, .int .i64 0, .int .u32 0, .int .u32 0, .int .u32 0, .int .u32 0, .int .u32 0, .int .u32 0]) ?_ 4 _ rfl; (with_reducible repeat (first | refine blk_drewN ?_ _ | refine blk_drew ?_ | refine blk_alloc ?_ _)); refine blk_put (cs := #[.int .i64 0, .int .u16 0, .int .u16 0, .int .u32 0, .int .u64 0, .int .i64 0, .int .u32 0, .int .u32 0, .int .u32 0, .int .u32 0, .int .u32 0, .int .u32 0]) ?_ 3 _ rfl; (with_reducible repeat (first | refine blk_drewN ?_ _ | refine blk_drew ?_ | refine blk_alloc ?_ _)); refine blk_put (cs := #[.int .i64 0, .int .u16 0, .int .u16 0, .int .u32 0, .int .u64 0, .int .i64 0, .int .u32 0, .int .u32 0, .int .u32 0, .int .u32 0, .int .u32 0, .int .u32 0]) ?_ 2 _ rfl; (with_reducible repeat (first | refine blk_drewN ?_ _ | refine blk_drew ?_ | refine blk_alloc ?_ _)); refine blk_put (cs := #[.int .i64 0, .int .u16 0, .int .u16 0, .int .u32 0, .int .u64 0, .int .i64 0, .int .u32 0, .int .u32 0, .int .u32 0, .int .u32 0, .int .u32 0, .int .u32 0]) ?_ 1 _ rfl; (with_reducible repeat (first | refine blk_drewN ?_ _ | refine blk_drew ?_ | refine blk_alloc ?_ _)); refine blk_put (cs := #[.int .i64 0, .int .u16 0, .int .u16 0, .int .u32 0, .int .u64 0, .int .i64 0, .int .u32 0, .int .u32 0, .int .u32 0, .int .u32 0, .int .u32 0, .int .u32 0]) ?_ 0 _ rfl; (with_reducible repeat (first | refine blk_drewN ?_ _ | refine blk_drew ?_ | refine blk_alloc ?_ _)); exact BK285.out) Try.underlying42 rfl (by kernel_rfl)) rfl ?_
    exact ⟨by first | rfl | (simp [errW_none, errW_some] <;> rfl) | (simp [*, errW_none, errW_some] <;> rfl) | (simp [show IntKind.u64.wrap 0 = 0 from rfl, Int.zero_tdiv]; done), by repeat (first | (with_reducible first | exact HB.out | apply below_alloc | apply pw_below_drewN | apply below_drew1 | refine below_set ?_ GE285.out) | exact HB.out)⟩
   ·rw [if_neg c7] at H
    have c7b0 : decide (12 ≤ a1) = false := decide_eq_false c7
    clear c7
    obtain ⟨ji10, hji10⟩ : ∃ j_ : Int, (wrap64 (a1 * 42)) = j_ := ⟨_, rfl⟩
    replace H : (if 0 ≤ (ji10) then (if (ji10) ≤ (wrap64 ((ji10) + 42)) then (if (wrap64 ((ji10) + 42)) ≤ (a0.size : Int) then ((nautilusref10_Decode.f (a0.extract ((ji10) : Int).toNat ((wrap64 ((ji10) + 42)) : Int).toNat)).bind fun bt286 => (some (bt286.1, bt286.2.1, bt286.2.2.1, bt286.2.2.2.1, bt286.2.2.2.2.1, bt286.2.2.2.2.2.1, bt286.2.2.2.2.2.2.1, bt286.2.2.2.2.2.2.2.1, bt286.2.2.2.2.2.2.2.2.1, bt286.2.2.2.2.2.2.2.2.2.1, bt286.2.2.2.2.2.2.2.2.2.2.1, bt286.2.2.2.2.2.2.2.2.2.2.2.1, bt286.2.2.2.2.2.2.2.2.2.2.2.2))) else (none)) else (none)) else (none)) = some (r1, r2, r3, r4, r5, r6, r7, r8, r9, r10, r11, r12, r13) := by first | (rw [hji10] at H; exact H) | (simp only [hji10] at H ⊢; exact H)
    have hji10w : (IntKind.i64.wrap (a1 * 42)) = ji10 := (i64_w _).trans hji10
    by_cases c11 : 0 ≤ (ji10)
    ·rw [if_pos c11] at H
     have c11b0 := eq_true c11
     have c11b1 : decide (0 ≤ (ji10)) = true := decide_eq_true c11
     clear c11
     by_cases c12 : (ji10) ≤ (wrap64 ((ji10) + 42))
     ·rw [if_pos c12] at H
      have c12b0 := eq_true c12
      have c12b1 : decide ((ji10) ≤ (wrap64 ((ji10) + 42))) = true := decide_eq_true c12
      by_cases c13 : (wrap64 ((ji10) + 42)) ≤ (a0.size : Int)
      ·rw [if_pos c13] at H
       have c13b0 := eq_true c13
       have c13b1 : decide ((wrap64 ((ji10) + 42)) ≤ (a0.size : Int)) = true := decide_eq_true c13
       replace H := Option.bind_eq_some_iff.mp H
       obtain ⟨⟨t286, t287, t288, t289, t290, t291, t292, t293, t294, t295, t296, t297, t298⟩, A140, H⟩ := H
       replace H : (some (t286, t287, t288, t289, t290, t291, t292, t293, t294, t295, t296, t297, t298)) = some (r1, r2, r3, r4, r5, r6, r7, r8, r9, r10, r11, r12, r13) := H
       have A14 := Aside0.mk A140
       clear A140
       simp only [Option.some.injEq, Prod.mk.injEq] at H
       obtain ⟨rfl, rfl, rfl, rfl, rfl, rfl, rfl, rfl, rfl, rfl, rfl, rfl, rfl⟩ := H
       go_enter Try.func48, Try.ntmps48
       go_wp2_with (first | ((with_reducible refine gate_dst (N := 4) rfl ?_); refine box_event ?hg (N := 4) ?hd (cs := #[.int .i64 0, .int .u16 0, .int .u16 0, .int .u32 0, .int .u64 0, .int .i64 0, .int .u32 0, .int .u32 0, .int .u32 0, .int .u32 0, .int .u32 0, .int .u32 0]) (t := 42) ?hr ?_; (case hd => rfl); (case hg => rfl); (case hr => first | (go_simp; done) | (go_simp; rfl)); intro gb285 hg w15 hbox hb; have n0_ := Aside0.mk (below_step (by repeat (first | (with_reducible first | exact HB.out | apply below_alloc | apply pw_below_drewN | apply below_drew1) | exact HB.out)) hb); have n1_ := Aside0.mk (hbox); have n2_ := Aside0.mk ((by rw [hg]; exact (below_size (by repeat (first | (with_reducible first | exact HB.out | apply below_alloc | apply pw_below_drewN | apply below_drew1) | exact HB.out))) : w.heap.size ≤ gb285)); have n3_ := Aside0.mk ((by rw [hg]; exact (below_size (by repeat (first | (with_reducible first | exact HB.out | apply below_alloc | apply pw_below_drewN | apply below_drew1) | exact HB.out))) : w.heap.size ≤ gb285)); clear HB; have HB := n0_; have BK285 := n1_; have GW285 := n2_; have GE285 := n3_; clear n0_ n1_ n2_ n3_; clear hb hbox hg) | ((with_reducible refine gate_callee (f := 62) rfl ?_); refine goesL_ (some 26) rfl rfl Try.func62 (by kernel_rfl) rfl #[.string (a0.extract ((ji10) : Int).toNat ((wrap64 ((ji10) + 42)) : Int).toNat)] rfl (by (try simp only [List.map_toArray, List.map_cons, List.map_nil]); first | done | (simp only [hji10]; rfl) | rfl | (simp only [List.length_drop, List.length_take]; rfl) | (simp [Act.eval, go_sem]; simp only [decide_eq_false_iff_not, decide_eq_true_eq] at *; (repeat' apply And.intro) <;> first | done | (symm; first | (apply IntWalk.u64_in; omega) | (apply IntWalk.u32_in; omega) | (apply IntWalk.i64_in; omega) | (apply IntWalk.wrap64_in; omega) | (apply IntWalk.u16_in; omega) | (apply IntWalk.u8_in; omega)))) ?_; (with_reducible refine (nautilusref10_Decode.calls (a0.extract ((ji10) : Int).toNat ((wrap64 ((ji10) + 42)) : Int).toNat) t286 t287 t288 t289 t290 t291 t292 t293 t294 t295 t296 t297 t298 _ A14.out).mono ?_); rintro e w16 ⟨rfl, hb⟩; refine ⟨_, rfl, ?_⟩; have n0_ := Aside0.mk (blk_below (g := gb285) (o := .cells #[.int .i64 0, .int .u16 0, .int .u16 0, .int .u32 0, .int .u64 0, .int .i64 0, .int .u32 0, .int .u32 0, .int .u32 0, .int .u32 0, .int .u32 0, .int .u32 0] 42 (0, 0)) (by (with_reducible repeat (first | refine blk_drewN ?_ _ | refine blk_drew ?_ | refine blk_alloc ?_ _)); exact BK285.out) hb); have n1_ := Aside0.mk (below_step (by repeat (first | (with_reducible first | exact HB.out | apply below_alloc | apply pw_below_drewN | apply below_drew1 | refine below_set ?_ GE285.out) | exact HB.out)) hb); clear BK285; clear HB; have BK285 := n0_; have HB := n1_; clear n0_ n1_; (try clear hb); (try clear hb2); (try clear hk); (try clear hi); have hcz17_0 : w16.cell? ⟨gb285, 0, none⟩ = some (.int .i64 0) := (blk_cell BK285.out 0).trans rfl; have hcz17_1 : w16.cell? ⟨gb285, 1, none⟩ = some (.int .u16 0) := (blk_cell BK285.out 1).trans rfl; have hcz17_2 : w16.cell? ⟨gb285, 2, none⟩ = some (.int .u16 0) := (blk_cell BK285.out 2).trans rfl; have hcz17_3 : w16.cell? ⟨gb285, 3, none⟩ = some (.int .u32 0) := (blk_cell BK285.out 3).trans rfl; have hcz17_4 : w16.cell? ⟨gb285, 4, none⟩ = some (.int .u64 0) := (blk_cell BK285.out 4).trans rfl; have hcz17_5 : w16.cell? ⟨gb285, 5, none⟩ = some (.int .i64 0) := (blk_cell BK285.out 5).trans rfl; have hcz17_6 : w16.cell? ⟨gb285, 6, none⟩ = some (.int .u32 0) := (blk_cell BK285.out 6).trans rfl; have hcz17_7 : w16.cell? ⟨gb285, 7, none⟩ = some (.int .u32 0) := (blk_cell BK285.out 7).trans rfl; have hcz17_8 : w16.cell? ⟨gb285, 8, none⟩ = some (.int .u32 0) := (blk_cell BK285.out 8).trans rfl; have hcz17_9 : w16.cell? ⟨gb285, 9, none⟩ = some (.int .u32 0) := (blk_cell BK285.out 9).trans rfl; have hcz17_10 : w16.cell? ⟨gb285, 10, none⟩ = some (.int .u32 0) := (blk_cell BK285.out 10).trans rfl; have hcz17_11 : w16.cell? ⟨gb285, 11, none⟩ = some (.int .u32 0) := (blk_cell BK285.out 11).trans rfl; have hfz17_0 := blk_frozen BK285.out 0; have hfz17_1 := blk_frozen BK285.out 1; have hfz17_2 := blk_frozen BK285.out 2; have hfz17_3 := blk_frozen BK285.out 3; have hfz17_4 := blk_frozen BK285.out 4; have hfz17_5 := blk_frozen BK285.out 5; have hfz17_6 := blk_frozen BK285.out 6; have hfz17_7 := blk_frozen BK285.out 7; have hfz17_8 := blk_frozen BK285.out 8; have hfz17_9 := blk_frozen BK285.out 9; have hfz17_10 := blk_frozen BK285.out 10; have hfz17_11 := blk_frozen BK285.out 11))
       refine bodyPost_ret (results_ct rfl _ _ gb285 42 #[.int .i64 t286, .int .u16 t287, .int .u16 t288, .int .u32 t289, .int .u64 t290, .int .i64 t291, .int .u32 t292, .int .u32 t293, .int .u32 t294, .int .u32 t295, .int .u32 t296, .int .u32 t297] (0, 0) _ rfl (by (with_reducible repeat (first | refine blk_drewN ?_ _ | refine blk_drew ?_ | refine blk_alloc ?_ _)); refine blk_put (cs := #[.int .i64 t286, .int .u16 t287, .int .u16 t288, .int .u32 t289, .int .u64 t290, .int .i64 t291, .int .u32 t292, .int .u32 t293, .int .u32 t294, .int .u32 t295, .int .u32 t296, .int .u32 0]) ?_ 11 _ rfl; (with_reducible repeat (first | refine blk_drewN ?_ _ | refine blk_drew ?_ | refine blk_alloc ?_ _)); refine blk_put (cs := #[.int .i64 t286, .int .u16 t287, .int .u16 t288, .int .u32 t289, .int .u64 t290, .int .i64 t291, .int .u32 t292, .int .u32 t293, .int .u32 t294, .int .u32 t295, .int .u32 0, .int .u32 0]) ?_ 10 _ rfl; (with_reducible repeat (first | refine blk_drewN ?_ _ | refine blk_drew ?_ | refine blk_alloc ?_ _)); refine blk_put (cs := #[.int .i64 t286, .int .u16 t287, .int .u16 t288, .int .u32 t289, .int .u64 t290, .int .i64 t291, .int .u32 t292, .int .u32 t293, .int .u32 t294, .int .u32 0, .int .u32 0, .int .u32 0]) ?_ 9 _ rfl; (with_reducible repeat (first | refine blk_drewN ?_ _ | refine blk_drew ?_ | refine blk_alloc ?_ _)); refine blk_put (cs := #[.int .i64 t286, .int .u16 t287, .int .u16 t288, .int .u32 t289, .int .u64 t290, .int .i64 t291, .int .u32 t292, .int .u32 t293, .int .u32 0, .int .u32 0, .int .u32 0, .int .u32 0]) ?_ 8 _ rfl; (with_reducible repeat (first | refine blk_drewN ?_ _ | refine blk_drew ?_ | refine blk_alloc ?_ _)); refine blk_put (cs := #[.int .i64 t286, .int .u16 t287, .int .u16 t288, .int .u32 t289, .int .u64 t290, .int .i64 t291, .int .u32 t292, .int .u32 0, .int .u32 0, .int .u32 0, .int .u32 0, .int .u32 0]) ?_ 7 _ rfl; (with_reducible repeat (first | refine blk_drewN ?_ _ | refine blk_drew ?_ | refine blk_alloc ?_ _)); refine blk_put (cs := #[.int .i64 t286, .int .u16 t287, .int .u16 t288, .int .u32 t289, .int .u64 t290, .int .i64 t291, .int .u32 0, .int .u32 0, .int .u32 0, .int .u32 0, .int .u32 0, .int .u32 0]) ?_ 6 _ rfl; (with_reducible repeat (first | refine blk_drewN ?_ _ | refine blk_drew ?_ | refine blk_alloc ?_ _)); refine blk_put (cs := #[.int .i64 t286, .int .u16 t287, .int .u16 t288, .int .u32 t289, .int .u64 t290, .int .i64 0, .int .u32 0, .int .u32 0, .int .u32 0, .int .u32 0, .int .u32 0, .int .u32 0]) ?_ 5 _ rfl; (with_reducible repeat (first | refine blk_drewN ?_ _ | refine blk_drew ?_ | refine blk_alloc ?_ _)); refine blk_put (cs := #[.int .i64 t286, .int .u16 t287, .int .u16 t288, .int .u32 t289, .int .u64 0, .int .i64 0, .int .u32 0, .int .u32 0, .int .u32 0, .int .u32 0, .int .u32 0, .int .u32 0]) ?_ 4 _ rfl; (with_reducible repeat (first | refine blk_drewN ?_ _ | refine blk_drew ?_ | refine blk_alloc ?_ _)); refine blk_put (cs := #[.int .i64 t286, .int .u16 t287, .int .u16 t288, .int .u32 0, .int .u64 0, .int .i64 0, .int .u32 0, .int .u32 0, .int .u32 0, .int .u32 0, .int .u32 0, .int .u32 0]) ?_ 3 _ rfl; (with_reducible repeat (first | refine blk_drewN ?_ _ | refine blk_drew ?_ | refine blk_alloc ?_ _)); refine blk_put (cs := #[.int .i64 t286, .int .u16 t287, .int .u16 0, .int .u32 0, .int .u64 0, .int .i64 0, .int .u32 0, .int .u32 0, .int .u32 0, .int .u32 0, .int .u32 0, .int .u32 0]) ?_ 2 _ rfl; (with_reducible repeat (first | refine blk_drewN ?_ _ | refine blk_drew ?_ | refine blk_alloc ?_ _)); refine blk_put (cs := #[.int .i64 t286, .int .u16 0, .int .u16 0, .int .u32 0, .int .u64 0, .int .i64 0, .int .u32 0, .int .u32 0, .int .u32 0, .int .u32 0, .int .u32 0, .int .u32 0]) ?_ 1 _ rfl; (with_reducible repeat (first | refine blk_drewN ?_ _ | refine blk_drew ?_ | refine blk_alloc ?_ _)); refine blk_put (cs := #[.int .i64 0, .int .u16 0, .int .u16 0, .int .u32 0, .int .u64 0, .int .i64 0, .int .u32 0, .int .u32 0, .int .u32 0, .int .u32 0, .int .u32 0, .int .u32 0]) ?_ 0 _ rfl; (with_reducible repeat (first | refine blk_drewN ?_ _ | refine blk_drew ?_ | refine blk_alloc ?_ _)); exact BK285.out) Try.underlying42 rfl (by kernel_rfl)) rfl ?_
       exact ⟨by first | rfl | (simp [errW_none, errW_some] <;> rfl) | (simp only [← hji10]; first | rfl | (simp [errW_none, errW_some] <;> rfl)) | (simp [*, errW_none, errW_some] <;> rfl) | (simp [show IntKind.u64.wrap 0 = 0 from rfl, Int.zero_tdiv]; done), by repeat (first | (with_reducible first | exact HB.out | apply below_alloc | apply pw_below_drewN | apply below_drew1 | refine below_set ?_ GE285.out) | exact HB.out)⟩
      ·rw [if_neg c13] at H
       exact absurd H (by simp)
     ·rw [if_neg c12] at H
      exact absurd H (by simp)
    ·rw [if_neg c11] at H
     exact absurd H (by simp)
 ·rw [if_neg c3] at H
  have c3b0 : ((a0.size : Int) == 508) = false := beq_eq_false_iff_ne.mpr c3
  have c3b1 : ((a0.size : Int) != 508) = true := bne_iff_ne.mpr c3
  simp only [Option.some.injEq, Prod.mk.injEq] at H
  obtain ⟨rfl, rfl, rfl, rfl, rfl, rfl, rfl, rfl, rfl, rfl, rfl, rfl, rfl⟩ := H
  go_enter Try.func48, Try.ntmps48
  go_wp2_with (first | ((with_reducible refine gate_dst (N := 4) rfl ?_); refine box_event ?hg (N := 4) ?hd (cs := #[.int .i64 0, .int .u16 0, .int .u16 0, .int .u32 0, .int .u64 0, .int .i64 0, .int .u32 0, .int .u32 0, .int .u32 0, .int .u32 0, .int .u32 0, .int .u32 0]) (t := 42) ?hr ?_; (case hd => rfl); (case hg => rfl); (case hr => first | (go_simp; done) | (go_simp; rfl)); intro gb285 hg w18 hbox hb; have n0_ := Aside0.mk (below_step (by repeat (first | (with_reducible first | exact HB.out | apply below_alloc | apply pw_below_drewN | apply below_drew1) | exact HB.out)) hb); have n1_ := Aside0.mk (hbox); have n2_ := Aside0.mk ((by rw [hg]; exact (below_size (by repeat (first | (with_reducible first | exact HB.out | apply below_alloc | apply pw_below_drewN | apply below_drew1) | exact HB.out))) : w.heap.size ≤ gb285)); have n3_ := Aside0.mk ((by rw [hg]; exact (below_size (by repeat (first | (with_reducible first | exact HB.out | apply below_alloc | apply pw_below_drewN | apply below_drew1) | exact HB.out))) : w.heap.size ≤ gb285)); clear HB; have HB := n0_; have BK285 := n1_; have GW285 := n2_; have GE285 := n3_; clear n0_ n1_ n2_ n3_; clear hb hbox hg; have hcz19_0 : w18.cell? ⟨gb285, 0, none⟩ = some (.int .i64 0) := (blk_cell BK285.out 0).trans rfl; have hcz19_1 : w18.cell? ⟨gb285, 1, none⟩ = some (.int .u16 0) := (blk_cell BK285.out 1).trans rfl; have hcz19_2 : w18.cell? ⟨gb285, 2, none⟩ = some (.int .u16 0) := (blk_cell BK285.out 2).trans rfl; have hcz19_3 : w18.cell? ⟨gb285, 3, none⟩ = some (.int .u32 0) := (blk_cell BK285.out 3).trans rfl; have hcz19_4 : w18.cell? ⟨gb285, 4, none⟩ = some (.int .u64 0) := (blk_cell BK285.out 4).trans rfl; have hcz19_5 : w18.cell? ⟨gb285, 5, none⟩ = some (.int .i64 0) := (blk_cell BK285.out 5).trans rfl; have hcz19_6 : w18.cell? ⟨gb285, 6, none⟩ = some (.int .u32 0) := (blk_cell BK285.out 6).trans rfl; have hcz19_7 : w18.cell? ⟨gb285, 7, none⟩ = some (.int .u32 0) := (blk_cell BK285.out 7).trans rfl; have hcz19_8 : w18.cell? ⟨gb285, 8, none⟩ = some (.int .u32 0) := (blk_cell BK285.out 8).trans rfl; have hcz19_9 : w18.cell? ⟨gb285, 9, none⟩ = some (.int .u32 0) := (blk_cell BK285.out 9).trans rfl; have hcz19_10 : w18.cell? ⟨gb285, 10, none⟩ = some (.int .u32 0) := (blk_cell BK285.out 10).trans rfl; have hcz19_11 : w18.cell? ⟨gb285, 11, none⟩ = some (.int .u32 0) := (blk_cell BK285.out 11).trans rfl; have hfz19_0 := blk_frozen BK285.out 0; have hfz19_1 := blk_frozen BK285.out 1; have hfz19_2 := blk_frozen BK285.out 2; have hfz19_3 := blk_frozen BK285.out 3; have hfz19_4 := blk_frozen BK285.out 4; have hfz19_5 := blk_frozen BK285.out 5; have hfz19_6 := blk_frozen BK285.out 6; have hfz19_7 := blk_frozen BK285.out 7; have hfz19_8 := blk_frozen BK285.out 8; have hfz19_9 := blk_frozen BK285.out 9; have hfz19_10 := blk_frozen BK285.out 10; have hfz19_11 := blk_frozen BK285.out 11))
  refine bodyPost_ret (results_ct rfl _ _ gb285 42 #[.int .i64 0, .int .u16 0, .int .u16 0, .int .u32 0, .int .u64 0, .int .i64 0, .int .u32 0, .int .u32 0, .int .u32 0, .int .u32 0, .int .u32 0, .int .u32 0] (0, 0) _ rfl (by (with_reducible repeat (first | refine blk_drewN ?_ _ | refine blk_drew ?_ | refine blk_alloc ?_ _)); refine blk_put (cs := #[.int .i64 0, .int .u16 0, .int .u16 0, .int .u32 0, .int .u64 0, .int .i64 0, .int .u32 0, .int .u32 0, .int .u32 0, .int .u32 0, .int .u32 0, .int .u32 0]) ?_ 11 _ rfl; (with_reducible repeat (first | refine blk_drewN ?_ _ | refine blk_drew ?_ | refine blk_alloc ?_ _)); refine blk_put (cs := #[.int .i64 0, .int .u16 0, .int .u16 0, .int .u32 0, .int .u64 0, .int .i64 0, .int .u32 0, .int .u32 0, .int .u32 0, .int .u32 0, .int .u32 0, .int .u32 0]) ?_ 10 _ rfl; (with_reducible repeat (first | refine blk_drewN ?_ _ | refine blk_drew ?_ | refine blk_alloc ?_ _)); refine blk_put (cs := #[.int .i64 0, .int .u16 0, .int .u16 0, .int .u32 0, .int .u64 0, .int .i64 0, .int .u32 0, .int .u32 0, .int .u32 0, .int .u32 0, .int .u32 0, .int .u32 0]) ?_ 9 _ rfl; (with_reducible repeat (first | refine blk_drewN ?_ _ | refine blk_drew ?_ | refine blk_alloc ?_ _)); refine blk_put (cs := #[.int .i64 0, .int .u16 0, .int .u16 0, .int .u32 0, .int .u64 0, .int .i64 0, .int .u32 0, .int .u32 0, .int .u32 0, .int .u32 0, .int .u32 0, .int .u32 0]) ?_ 8 _ rfl; (with_reducible repeat (first | refine blk_drewN ?_ _ | refine blk_drew ?_ | refine blk_alloc ?_ _)); refine blk_put (cs := #[.int .i64 0, .int .u16 0, .int .u16 0, .int .u32 0, .int .u64 0, .int .i64 0, .int .u32 0, .int .u32 0, .int .u32 0, .int .u32 0, .int .u32 0, .int .u32 0]) ?_ 7 _ rfl; (with_reducible repeat (first | refine blk_drewN ?_ _ | refine blk_drew ?_ | refine blk_alloc ?_ _)); refine blk_put (cs := #[.int .i64 0, .int .u16 0, .int .u16 0, .int .u32 0, .int .u64 0, .int .i64 0, .int .u32 0, .int .u32 0, .int .u32 0, .int .u32 0, .int .u32 0, .int .u32 0]) ?_ 6 _ rfl; (with_reducible repeat (first | refine blk_drewN ?_ _ | refine blk_drew ?_ | refine blk_alloc ?_ _)); refine blk_put (cs := #[.int .i64 0, .int .u16 0, .int .u16 0, .int .u32 0, .int .u64 0, .int .i64 0, .int .u32 0, .int .u32 0, .int .u32 0, .int .u32 0, .int .u32 0, .int .u32 0]) ?_ 5 _ rfl; (with_reducible repeat (first | refine blk_drewN ?_ _ | refine blk_drew ?_ | refine blk_alloc ?_ _)); refine blk_put (cs := #[.int .i64 0, .int .u16 0, .int .u16 0, .int .u32 0, .int .u64 0, .int .i64 0, .int .u32 0, .int .u32 0, .int .u32 0, .int .u32 0, .int .u32 0, .int .u32 0]) ?_ 4 _ rfl; (with_reducible repeat (first | refine blk_drewN ?_ _ | refine blk_drew ?_ | refine blk_alloc ?_ _)); refine blk_put (cs := #[.int .i64 0, .int .u16 0, .int .u16 0, .int .u32 0, .int .u64 0, .int .i64 0, .int .u32 0, .int .u32 0, .int .u32 0, .int .u32 0, .int .u32 0, .int .u32 0]) ?_ 3 _ rfl; (with_reducible repeat (first | refine blk_drewN ?_ _ | refine blk_drew ?_ | refine blk_alloc ?_ _)); refine blk_put (cs := #[.int .i64 0, .int .u16 0, .int .u16 0, .int .u32 0, .int .u64 0, .int .i64 0, .int .u32 0, .int .u32 0, .int .u32 0, .int .u32 0, .int .u32 0, .int .u32 0]) ?_ 2 _ rfl; (with_reducible repeat (first | refine blk_drewN ?_ _ | refine blk_drew ?_ | refine blk_alloc ?_ _)); refine blk_put (cs := #[.int .i64 0, .int .u16 0, .int .u16 0, .int .u32 0, .int .u64 0, .int .i64 0, .int .u32 0, .int .u32 0, .int .u32 0, .int .u32 0, .int .u32 0, .int .u32 0]) ?_ 1 _ rfl; (with_reducible repeat (first | refine blk_drewN ?_ _ | refine blk_drew ?_ | refine blk_alloc ?_ _)); refine blk_put (cs := #[.int .i64 0, .int .u16 0, .int .u16 0, .int .u32 0, .int .u64 0, .int .i64 0, .int .u32 0, .int .u32 0, .int .u32 0, .int .u32 0, .int .u32 0, .int .u32 0]) ?_ 0 _ rfl; (with_reducible repeat (first | refine blk_drewN ?_ _ | refine blk_drew ?_ | refine blk_alloc ?_ _)); exact BK285.out) Try.underlying42 rfl (by kernel_rfl)) rfl ?_
  exact ⟨by first | rfl | (simp [errW_none, errW_some] <;> rfl) | (simp [*, errW_none, errW_some] <;> rfl) | (simp [show IntKind.u64.wrap 0 = 0 from rfl, Int.zero_tdiv]; done), by repeat (first | (with_reducible first | exact HB.out | apply below_alloc | apply pw_below_drewN | apply below_drew1 | refine below_set ?_ GE285.out) | exact HB.out)⟩

end Go.Proofs.Ytpcokafalmafgaa.Q

namespace Go.Proofs.Ytpcokafalmafgaa.Q
open Go.Proofs.Ytpcokafalmafgaa.H
open Go.RowKit Go.Proofs.YtpcokafalmafgaaW.PrintWords Go.Proofs.YtpcokafalmafgaaW.PrintLast Go.Proofs.YtpcokafalmafgaaW.PrintMore
attribute [local go_sem] max2_int min2_int max_two min_two max_three min_three max_four min_four   -- for this text's walks alone
set_option linter.unusedVariables false
set_option linter.unusedSimpArgs false

/-! ### nautilusref17_Inodes: function 30 -/
mutual
def nautilusref17_Inodes.l0 : Nat → List ByteArray → List (S42) → Int → Option ((List (S42)) × Int)
 | 0, _, _, _ => none
 | k + 1, x0, x4, x5 => if x5 < (x0.length : Int) then (if 0 ≤ x5 then (if ((rdOf ByteArray.empty x0 x5).size : Int) = 508 then ((nautilusref01_Bare.f k (rdOf ByteArray.empty x0 x5) 504).bind fun t301 => (nautilusref17_Inodes.j1 k x0 x4 x5 (!t301))) else (nautilusref17_Inodes.j1 k x0 x4 x5 true)) else (none)) else (some (x4, 0))
def nautilusref17_Inodes.j1 : Nat → List ByteArray → List (S42) → Int → Bool → Option ((List (S42)) × Int)
 | 0, _, _, _, _ => none
 | k + 1, x0, x4, x5, x31 => if x31 = true then (some (([] : List (S42)), 154)) else (nautilusref17_Inodes.l1 k x0 x4 x5 0)
def nautilusref17_Inodes.l1 : Nat → List ByteArray → List (S42) → Int → Int → Option ((List (S42)) × Int)
 | 0, _, _, _, _ => none
 | k + 1, x0, x4, x5, x6 => if x6 < 12 then (if 0 ≤ x5 then (if x5 < (x0.length : Int) then ((nautilusref10_Get.f (rdOf ByteArray.empty x0 x5) x6).bind fun bt303 => (if bt303.2.2.2.2.2.2.2.2.2.2.2.2 = 0 then (if x4.length < 2513169434916 then (nautilusref17_Inodes.l1 k x0 (x4 ++ [(⟨bt303.1, bt303.2.1, bt303.2.2.1, bt303.2.2.2.1, bt303.2.2.2.2.1, bt303.2.2.2.2.2.1, (⟨bt303.2.2.2.2.2.2.1, bt303.2.2.2.2.2.2.2.1, bt303.2.2.2.2.2.2.2.2.1, bt303.2.2.2.2.2.2.2.2.2.1, bt303.2.2.2.2.2.2.2.2.2.2.1, bt303.2.2.2.2.2.2.2.2.2.2.2.1⟩ : S40)⟩ : S42)]) x5 (wrap64 (x6 + 1))) else (none)) else (some (([] : List (S42)), 154)))) else (none)) else (none)) else (nautilusref17_Inodes.l0 k x0 x4 (wrap64 (x5 + 1)))
end
def nautilusref17_Inodes.f (k : Nat) (l0 : List ByteArray) : Option ((List (S42)) × Int) := if (l0.length : Int) > 20 then (some (([] : List (S42)), 154)) else (nautilusref17_Inodes.l0 k l0 ([] : List (S42)) 0)
theorem nautilusref17_Inodes.mono_l : ∀ k, (∀ y0 y1 y2, LeO (nautilusref17_Inodes.l0 k y0 y1 y2) (nautilusref17_Inodes.l0 (k + 1) y0 y1 y2)) ∧ (∀ y0 y1 y2 y3, LeO (nautilusref17_Inodes.j1 k y0 y1 y2 y3) (nautilusref17_Inodes.j1 (k + 1) y0 y1 y2 y3)) ∧ (∀ y0 y1 y2 y3, LeO (nautilusref17_Inodes.l1 k y0 y1 y2 y3) (nautilusref17_Inodes.l1 (k + 1) y0 y1 y2 y3))
 | 0 => ⟨fun _ _ _ r h => by simp [nautilusref17_Inodes.l0] at h, fun _ _ _ _ r h => by simp [nautilusref17_Inodes.j1] at h, fun _ _ _ _ r h => by simp [nautilusref17_Inodes.l1] at h⟩
 | k + 1 => by
  obtain ⟨ih0, ih1, ih2⟩ := nautilusref17_Inodes.mono_l k
  refine ⟨?_, ?_, ?_⟩
  ·intro y0 y1 y2
   unfold nautilusref17_Inodes.l0
   repeat' first
   | (with_reducible exact ih0 _ _ _)
   | (with_reducible exact ih1 _ _ _ _)
   | (with_reducible exact ih2 _ _ _ _)
   | (with_reducible exact nautilusref01_Bare.mono _ _ _)
   | (with_reducible exact LeO.refl _)
   | (with_reducible exact LeO.none _)
   | (with_reducible refine LeO.ite ?_ ?_)
   | (with_reducible refine LeO.bind ?_ (fun _ => ?_))
   | exact ih0 _ _ _
   | exact ih1 _ _ _ _
   | exact ih2 _ _ _ _
   | exact nautilusref01_Bare.mono _ _ _
   | exact LeO.none _
   | refine LeO.ite ?_ ?_
   | refine LeO.bind ?_ (fun _ => ?_)
  ·intro y0 y1 y2 y3
   unfold nautilusref17_Inodes.j1
   repeat' first
   | (with_reducible exact ih0 _ _ _)
   | (with_reducible exact ih1 _ _ _ _)
   | (with_reducible exact ih2 _ _ _ _)
   | (with_reducible exact nautilusref01_Bare.mono _ _ _)
   | (with_reducible exact LeO.refl _)
   | (with_reducible exact LeO.none _)
   | (with_reducible refine LeO.ite ?_ ?_)
   | (with_reducible refine LeO.bind ?_ (fun _ => ?_))
   | exact ih0 _ _ _
   | exact ih1 _ _ _ _
   | exact ih2 _ _ _ _
   | exact nautilusref01_Bare.mono _ _ _
   | exact LeO.none _
   | refine LeO.ite ?_ ?_
   | refine LeO.bind ?_ (fun _ => ?_)
  ·intro y0 y1 y2 y3
   unfold nautilusref17_Inodes.l1
   repeat' first
   | (with_reducible exact ih0 _ _ _)
   | (with_reducible exact ih1 _ _ _ _)
   | (with_reducible exact ih2 _ _ _ _)
   | (with_reducible exact nautilusref01_Bare.mono _ _ _)
   | (with_reducible exact LeO.refl _)
   | (with_reducible exact LeO.none _)
   | (with_reducible refine LeO.ite ?_ ?_)
   | (with_reducible refine LeO.bind ?_ (fun _ => ?_))
   | exact ih0 _ _ _
   | exact ih1 _ _ _ _
   | exact ih2 _ _ _ _
   | exact nautilusref01_Bare.mono _ _ _
   | exact LeO.none _
   | refine LeO.ite ?_ ?_
   | refine LeO.bind ?_ (fun _ => ?_)
theorem nautilusref17_Inodes.mono : ∀ a0 k, LeO (nautilusref17_Inodes.f k a0) (nautilusref17_Inodes.f (k + 1) a0) := by
 intro a0 k
 obtain ⟨ih0, ih1, ih2⟩ := nautilusref17_Inodes.mono_l k
 unfold nautilusref17_Inodes.f
 repeat' first
   | (with_reducible exact ih0 _ _ _)
   | (with_reducible exact ih1 _ _ _ _)
   | (with_reducible exact ih2 _ _ _ _)
   | (with_reducible exact nautilusref01_Bare.mono _ _ _)
   | (with_reducible exact LeO.refl _)
   | (with_reducible exact LeO.none _)
   | (with_reducible refine LeO.ite ?_ ?_)
   | (with_reducible refine LeO.bind ?_ (fun _ => ?_))
   | exact ih0 _ _ _
   | exact ih1 _ _ _ _
   | exact ih2 _ _ _ _
   | exact nautilusref01_Bare.mono _ _ _
   | exact LeO.none _
   | refine LeO.ite ?_ ?_
   | refine LeO.bind ?_ (fun _ => ?_)
set_option maxHeartbeats 8000000 in
set_option maxRecDepth 100000 in
theorem nautilusref17_Inodes.calls (k : Nat) (A0 : Option Addr) (c0 : Nat) (l0 : List ByteArray) (r1 : List (S42)) (r2 : Int) (w : World) (hr0 : Kd.C Kd.string w A0 l0.length l0) (hc0 : l0.length ≤ c0) (h : nautilusref17_Inodes.f k l0 = some (r1, r2)) :
  Calls Try.prog 30 #[.slice A0 l0.length c0] w fun e w' => ∃ v0_ : Value, e = .returned (.tuple #[v0_, .int .i64 r2]) ∧ Kd.R k42 42 w' w.heap.size (fun _ => True) v0_ r1 ∧ Below w.heap.size w w' := by
 have hu42 := Try.underlying42
 have HR0 := Aside0.mk hr0
 have HC0 := Aside0.mk hc0
 clear hr0 hc0
 have HB := Aside0.mk (Below.refl w.heap.size w)
 have H : (if (l0.length : Int) > 20 then (some (([] : List (S42)), 154)) else (nautilusref17_Inodes.l0 k l0 ([] : List (S42)) 0)) = some (r1, r2) := h
 clear h
 by_cases c2 : (l0.length : Int) > 20
 ·rw [if_pos c2] at H
  have c2b0 : decide (20 < (l0.length : Int)) = true := decide_eq_true c2
  have c2b1 : decide (20 < l0.length) = true := decide_eq_true (by omega)
  clear c2
  simp only [Option.some.injEq, Prod.mk.injEq] at H
  obtain ⟨rfl, rfl⟩ := H
  go_enter Try.func30, Try.ntmps30
  go_wp2
  go_ret2
  exact ⟨_, by first | rfl | (simp [errW_none, errW_some] <;> rfl) | (simp [*, errW_none, errW_some] <;> rfl), by first | exact Kd.R_nil _ _ _ _ _ | exact Kd.N_nil _ _ _ _ _ | exact Kd.V_nil _ _ _ _ _ | exact Kd.Q_nil _ _ _ _ _ | exact Kd.S_nil _ _ _ _ _, by repeat (first | (with_reducible first | exact HB.out | apply below_alloc | apply pw_below_drewN | apply below_drew1) | exact HB.out)⟩
 ·rw [if_neg c2] at H
  have c2b0 : decide (20 < (l0.length : Int)) = false := decide_eq_false c2
  have c2b1 : decide (20 < l0.length) = false := decide_eq_false (by omega)
  clear c2
  have H' := Aside0.mk H
  clear H
  go_enter Try.func30, Try.ntmps30
  go_wp2
  go_loopg [4, 5] k (fun kq v4 v5 w' => ∃ (x4_1 : List (S42)) (x5_1 : Int), v5 = .int .i64 x5_1 ∧ Aside0 (nautilusref17_Inodes.l0 kq l0 x4_1 x5_1 = some (r1, r2)) ∧ Aside0 (kq ≤ k) ∧ Aside0 (Kd.R k42 42 w' w.heap.size (fun _ => True) v4 x4_1) ∧ Aside0 (Below w.heap.size w w'))
  case atStart => exact ⟨(([] : List (S42))), (0), (by first | rfl | (simp; done) | (simp [*]; done)), H', ⟨Nat.le_refl _⟩, ⟨by first | exact Kd.R_nil _ _ _ _ _ | exact Kd.N_nil _ _ _ _ _ | exact Kd.V_nil _ _ _ _ _ | exact Kd.Q_nil _ _ _ _ _ | exact Kd.S_nil _ _ _ _ _⟩, ⟨by repeat (first | (with_reducible first | exact HB.out | apply below_alloc | apply pw_below_drewN | apply below_drew1) | exact HB.out)⟩⟩
  case round =>
   clear H'
   try clear c2
   try clear c2b0
   try clear c2b1
   try clear p2
   obtain ⟨x4_1, x5_1, rfl, HA, HK1, HO_4, HB⟩ := hrel
   cases gk with
   | zero => exact absurd HA.out (by simp [nautilusref17_Inodes.l0])
   | succ k1 =>
    have H := HA.out
    clear HA
    simp only [nautilusref17_Inodes.l0] at H
    by_cases c3 : x5_1 < (l0.length : Int)
    ·rw [if_pos c3] at H
     have c3b0 : decide (x5_1 < (l0.length : Int)) = true := decide_eq_true c3
     clear c3
     have HC4 := Aside0.mk H
     clear H
     go_upto_region 7 with (fail)
     go_cut [31] (fun v31 wc => ∃ (kq : Nat) (x31_3 : Bool), v31 = .bool x31_3 ∧ Aside0 (nautilusref17_Inodes.j1 kq l0 x4_1 x5_1 x31_3 = some (r1, r2)) ∧ Aside0 (kq ≤ k1) ∧ Aside0 (Kd.R k42 42 wc w.heap.size (fun _ => True) u4 x4_1) ∧ Aside0 (Below w.heap.size w wc))
     case first =>
      have H := HC4.out
      clear HC4
      by_cases c5 : 0 ≤ x5_1
      ·rw [if_pos c5] at H
       have c5b0 : decide (0 ≤ x5_1) = true := decide_eq_true c5
       clear c5
       (first | rw [c5b0] | (simp only [i64_w, i32_w]; rw [c5b0]) | skip)
       by_cases c6 : ((rdOf ByteArray.empty l0 x5_1).size : Int) = 508
       ·rw [if_pos c6] at H
        have c6b0 : (((rdOf ByteArray.empty l0 x5_1).size : Int) == 508) = true := beq_iff_eq.mpr c6
        have c6b1 : (((rdOf ByteArray.empty l0 x5_1).size : Int) != 508) = false := bne_eq_false_iff_eq.mpr c6
        clear c6
        replace H := Option.bind_eq_some_iff.mp H
        obtain ⟨t301, A70, H⟩ := H
        replace H : (nautilusref17_Inodes.j1 k1 l0 x4_1 x5_1 (!t301)) = some (r1, r2) := H
        have A7 := Aside0.mk A70
        clear A70
        have H' := Aside0.mk H
        clear H
        have p299 : 0 ≤ (x5_1 : Int) := of_decide_eq_true (by first | (with_reducible assumption) | assumption)
        have q299 : x5_1 < (l0.length : Int) := of_decide_eq_true (by first | (with_reducible assumption) | assumption)
        obtain ⟨ad299, e299, hx299_0⟩ := Kd.at_string HR0.out x5_1 p299 q299
        cases e299
        replace hx299_0 := (HB.out.cell (World.block_lt_of_cell? w _ hx299_0)).trans hx299_0
        replace p299 := eq_true p299
        replace q299 := eq_true q299
        have p300 : 0 ≤ (x5_1 : Int) := of_decide_eq_true (by first | (with_reducible assumption) | assumption)
        have q300 : x5_1 < (l0.length : Int) := of_decide_eq_true (by first | (with_reducible assumption) | assumption)
        obtain ⟨ad300, e300, hx300_0⟩ := Kd.at_string HR0.out x5_1 p300 q300
        obtain rfl : ad299 = ad300 := (by injection e300)
        replace hx300_0 := (HB.out.cell (World.block_lt_of_cell? w _ hx300_0)).trans hx300_0
        replace p300 := eq_true p300
        replace q300 := eq_true q300
        go_wp2_with (first | (go_at_call 42; (with_reducible refine (nautilusref01_Bare.calls k1 (rdOf ByteArray.empty l0 x5_1) 504 t301 _ A7.out).mono ?_); rintro e w8 ⟨rfl, hb⟩; have n0_ := Aside0.mk (Kd.R_below (by (with_reducible repeat (first | apply Kd.R_alloc | apply Kd.R_drewN | apply Kd.R_drew)); exact HO_4.out) hb); have n1_ := Aside0.mk (below_step (by repeat (first | (with_reducible first | exact HB.out | apply below_alloc | apply pw_below_drewN | apply below_drew1) | exact HB.out)) hb); clear HO_4; clear HB; have HO_4 := n0_; have HB := n1_; clear n0_ n1_; (try clear hb); (try clear hb2); (try clear hk); (try clear hi)))
        go_meet
        case rel => exact ⟨_, (!t301), (by first | rfl | (simp; done) | (simp [*]; done)), H', ⟨by have := HK1.out; first | omega | exact Nat.le_refl _⟩, ⟨by (with_reducible repeat (first | apply Kd.R_alloc | apply Kd.R_drewN | apply Kd.R_drew)); exact HO_4.out⟩, ⟨by repeat (first | (with_reducible first | exact HB.out | apply below_alloc | apply pw_below_drewN | apply below_drew1) | exact HB.out)⟩⟩
       ·rw [if_neg c6] at H
        have c6b0 : (((rdOf ByteArray.empty l0 x5_1).size : Int) == 508) = false := beq_eq_false_iff_ne.mpr c6
        have c6b1 : (((rdOf ByteArray.empty l0 x5_1).size : Int) != 508) = true := bne_iff_ne.mpr c6
        have H' := Aside0.mk H
        clear H
        have p299 : 0 ≤ (x5_1 : Int) := of_decide_eq_true (by first | (with_reducible assumption) | assumption)
        have q299 : x5_1 < (l0.length : Int) := of_decide_eq_true (by first | (with_reducible assumption) | assumption)
        obtain ⟨ad299, e299, hx299_0⟩ := Kd.at_string HR0.out x5_1 p299 q299
        cases e299
        replace hx299_0 := (HB.out.cell (World.block_lt_of_cell? w _ hx299_0)).trans hx299_0
        replace p299 := eq_true p299
        replace q299 := eq_true q299
        go_wp2
        go_meet
        case rel => exact ⟨_, (true), (by first | rfl | (simp; done) | (simp [*]; done)), H', ⟨by have := HK1.out; first | omega | exact Nat.le_refl _⟩, ⟨by (with_reducible repeat (first | apply Kd.R_alloc | apply Kd.R_drewN | apply Kd.R_drew)); exact HO_4.out⟩, ⟨by repeat (first | (with_reducible first | exact HB.out | apply below_alloc | apply pw_below_drewN | apply below_drew1) | exact HB.out)⟩⟩
      ·rw [if_neg c5] at H
       exact absurd H (by simp)
     case rest =>
      clear HC4
      try clear c2
      try clear c2b0
      try clear c2b1
      try clear p2
      try clear q2
      try clear hx2
      try clear c3
      try clear c3b0
      try clear p3
      try clear q3
      try clear hx3
      try clear c5
      try clear c5b0
      try clear c6
      try clear c6b0
      try clear c6b1
      try clear hx299_0
      try clear hx300_0
      try clear p2
      try clear p299
      try clear p300
      try clear q299
      try clear q300
      obtain ⟨kq, x31_3, rfl, HA, HJ3, HO_4, HB⟩ := hcut
      cases kq with
      | zero => exact absurd HA.out (by simp [nautilusref17_Inodes.j1])
      | succ kj3 =>
       have H := HA.out
       clear HA
       simp only [nautilusref17_Inodes.j1] at H
       by_cases c9 : x31_3 = true
       ·subst c9
        have H1 : (some (([] : List (S42)), 154)) = some (r1, r2) := by rw [if_pos rfl] at H; exact H
        clear H
        have H := H1
        clear H1
        simp only [Option.some.injEq, Prod.mk.injEq] at H
        obtain ⟨rfl, rfl⟩ := H
        go_wp2
        go_ret2
        exact ⟨_, by first | rfl | (simp [errW_none, errW_some] <;> rfl) | (simp [*, errW_none, errW_some] <;> rfl), by first | exact Kd.R_nil _ _ _ _ _ | exact Kd.N_nil _ _ _ _ _ | exact Kd.V_nil _ _ _ _ _ | exact Kd.Q_nil _ _ _ _ _ | exact Kd.S_nil _ _ _ _ _, by repeat (first | (with_reducible first | exact HB.out | apply below_alloc | apply pw_below_drewN | apply below_drew1) | exact HB.out)⟩
       ·replace c9 := Bool.eq_false_iff.mpr c9
        subst c9
        have H1 : (nautilusref17_Inodes.l1 kj3 l0 x4_1 x5_1 0) = some (r1, r2) := by rw [if_neg (show ¬ (false = true) by decide)] at H; exact H
        clear H
        have H := H1
        clear H1
        have H' := Aside0.mk H
        clear H
        go_wp2
        go_loopg [4, 6] kj3 (fun kq v4 v6 w' => ∃ (x4_3 : List (S42)) (x6_3 : Int), v6 = .int .i64 x6_3 ∧ Aside0 (nautilusref17_Inodes.l1 kq l0 x4_3 x5_1 x6_3 = some (r1, r2)) ∧ Aside0 (kq ≤ kj3) ∧ Aside0 (Kd.R k42 42 w' w.heap.size (fun _ => True) v4 x4_3) ∧ Aside0 (Below w.heap.size w w'))
        case atStart => exact ⟨(x4_1), (0), (by first | rfl | (simp; done) | (simp [*]; done)), H', ⟨Nat.le_refl _⟩, ⟨by (with_reducible repeat (first | apply Kd.R_alloc | apply Kd.R_drewN | apply Kd.R_drew)); exact HO_4.out⟩, ⟨by repeat (first | (with_reducible first | exact HB.out | apply below_alloc | apply pw_below_drewN | apply below_drew1) | exact HB.out)⟩⟩
        case round =>
         clear H'
         try clear c2
         try clear c2b0
         try clear c2b1
         try clear p2
         try clear q2
         try clear hx2
         try clear c3
         try clear c3b0
         try clear p3
         try clear q3
         try clear hx3
         try clear c5
         try clear c5b0
         try clear c6
         try clear c6b0
         try clear c6b1
         try clear c9
         try clear hx299_0
         try clear hx300_0
         try clear p2
         try clear p299
         try clear p3
         try clear p300
         try clear q2
         try clear q299
         try clear q3
         try clear q300
         obtain ⟨x4_3, x6_3, rfl, HA, HK3, HO_4, HB⟩ := hrel
         cases gk with
         | zero => exact absurd HA.out (by simp [nautilusref17_Inodes.l1])
         | succ k3 =>
          have H := HA.out
          clear HA
          simp only [nautilusref17_Inodes.l1] at H
          by_cases c10 : x6_3 < 12
          ·rw [if_pos c10] at H
           have c10b0 : decide (x6_3 < 12) = true := decide_eq_true c10
           clear c10
           by_cases c11 : 0 ≤ x5_1
           ·rw [if_pos c11] at H
            have c11b0 : decide (0 ≤ x5_1) = true := decide_eq_true c11
            clear c11
            by_cases c12 : x5_1 < (l0.length : Int)
            ·rw [if_pos c12] at H
             have c12b0 : decide (x5_1 < (l0.length : Int)) = true := decide_eq_true c12
             clear c12
             replace H := Option.bind_eq_some_iff.mp H
             obtain ⟨⟨t303, t304, t305, t306, t307, t308, t309, t310, t311, t312, t313, t314, t315⟩, A130, H⟩ := H
             replace H : (if t315 = 0 then (if x4_3.length < 2513169434916 then (nautilusref17_Inodes.l1 k3 l0 (x4_3 ++ [(⟨t303, t304, t305, t306, t307, t308, (⟨t309, t310, t311, t312, t313, t314⟩ : S40)⟩ : S42)]) x5_1 (wrap64 (x6_3 + 1))) else (none)) else (some (([] : List (S42)), 154))) = some (r1, r2) := H
             have A13 := Aside0.mk A130
             clear A130
             by_cases c14 : t315 = 0
             ·rw [if_pos c14] at H
              have c14b0 : (t315 == 0) = true := beq_iff_eq.mpr c14
              have c14b1 : (t315 != 0) = false := bne_eq_false_iff_eq.mpr c14
              clear c14
              by_cases c15 : x4_3.length < 2513169434916
              ·rw [if_pos c15] at H
               have LMc15 := Aside0.mk c15
               clear c15
               obtain ⟨y317, hy317⟩ : ∃ y_ : List (S42), y_ = (x4_3 ++ [(⟨t303, t304, t305, t306, t307, t308, (⟨t309, t310, t311, t312, t313, t314⟩ : S40)⟩ : S42)]) := ⟨_, rfl⟩
               replace H : (nautilusref17_Inodes.l1 k3 l0 y317 x5_1 (wrap64 (x6_3 + 1))) = some (r1, r2) := by first | (rw [hy317]; with_reducible exact H) | (have H2_ := (Option.bind_some _ _).symm.trans H; rw [hy317]; with_reducible exact H2_) | (have H2_ := (Option.bind_some _ _).symm.trans H; with_reducible exact H2_) | with_reducible exact H | (rw [hy317]; exact H) | exact H
               have Ny317 := Aside0.mk hy317
               clear hy317
               have H' := Aside0.mk H
               clear H
               have p302 : 0 ≤ (x5_1 : Int) := of_decide_eq_true (by first | (with_reducible assumption) | assumption)
               have q302 : x5_1 < (l0.length : Int) := of_decide_eq_true (by first | (with_reducible assumption) | assumption)
               obtain ⟨ad302, e302, hx302_0⟩ := Kd.at_string HR0.out x5_1 p302 q302
               cases e302
               replace hx302_0 := (HB.out.cell (World.block_lt_of_cell? w _ hx302_0)).trans hx302_0
               replace p302 := eq_true p302
               replace q302 := eq_true q302
               go_wp2_with (first | ((with_reducible refine gate_callee (f := 48) rfl ?_); refine goesL_ (some 42) rfl rfl Try.func48 (by kernel_rfl) rfl #[.string (rdOf ByteArray.empty l0 x5_1), .int .i64 x6_3] rfl (by (try simp only [List.map_toArray, List.map_cons, List.map_nil]); first | done | rfl | (simp only [List.length_drop, List.length_take]; rfl)) ?_; (with_reducible refine (nautilusref10_Get.calls (rdOf ByteArray.empty l0 x5_1) x6_3 t303 t304 t305 t306 t307 t308 t309 t310 t311 t312 t313 t314 t315 _ A13.out).mono ?_); rintro e w16 ⟨rfl, hb⟩; refine ⟨_, rfl, ?_⟩; have n0_ := Aside0.mk (Kd.R_below (by (with_reducible repeat (first | apply Kd.R_alloc | apply Kd.R_drewN | apply Kd.R_drew)); exact HO_4.out) hb); have n1_ := Aside0.mk (below_step (by repeat (first | (with_reducible first | exact HB.out | apply below_alloc | apply pw_below_drewN | apply below_drew1) | exact HB.out)) hb); clear HO_4; clear HB; have HO_4 := n0_; have HB := n1_; clear n0_ n1_; (try clear hb); (try clear hb2); (try clear hk); (try clear hi)) | ((with_reducible refine gate_dst (N := 7) rfl ?_); refine box_event ?hg (N := 7) ?hd (cs := #[.int .i64 0, .int .u16 0, .int .u16 0, .int .u32 0, .int .u64 0, .int .i64 0, .int .u32 0, .int .u32 0, .int .u32 0, .int .u32 0, .int .u32 0, .int .u32 0]) (t := 42) ?hr ?_; (case hd => rfl); (case hg => rfl); (case hr => first | (go_simp; done) | (go_simp; rfl)); intro gb316 hg w17 hbox hb; have n0_ := Aside0.mk (Kd.R_below (Kd.R_elderB (by (with_reducible repeat (first | apply Kd.R_alloc | apply Kd.R_drewN | apply Kd.R_drew)); exact HO_4.out) gb316 (Nat.le_of_eq hg.symm)) hb); have n1_ := Aside0.mk (below_step (by repeat (first | (with_reducible first | exact HB.out | apply below_alloc | apply pw_below_drewN | apply below_drew1) | exact HB.out)) hb); have n2_ := Aside0.mk (hbox); have n3_ := Aside0.mk ((by rw [hg]; exact (below_size (by repeat (first | (with_reducible first | exact HB.out | apply below_alloc | apply pw_below_drewN | apply below_drew1) | exact HB.out))) : w.heap.size ≤ gb316)); have n4_ := Aside0.mk ((by rw [hg]; exact (below_size (by repeat (first | (with_reducible first | exact HB.out | apply below_alloc | apply pw_below_drewN | apply below_drew1) | exact HB.out))) : w.heap.size ≤ gb316)); clear HO_4; clear HB; have HO_4 := n0_; have HB := n1_; have BK316 := n2_; have GW316 := n3_; have GE316 := n4_; clear n0_ n1_ n2_ n3_ n4_; clear hb hbox hg; have hcz18_0 : w17.cell? ⟨gb316, 0, none⟩ = some (.int .i64 0) := (blk_cell BK316.out 0).trans rfl; have hcz18_1 : w17.cell? ⟨gb316, 1, none⟩ = some (.int .u16 0) := (blk_cell BK316.out 1).trans rfl; have hcz18_2 : w17.cell? ⟨gb316, 2, none⟩ = some (.int .u16 0) := (blk_cell BK316.out 2).trans rfl; have hcz18_3 : w17.cell? ⟨gb316, 3, none⟩ = some (.int .u32 0) := (blk_cell BK316.out 3).trans rfl; have hcz18_4 : w17.cell? ⟨gb316, 4, none⟩ = some (.int .u64 0) := (blk_cell BK316.out 4).trans rfl; have hcz18_5 : w17.cell? ⟨gb316, 5, none⟩ = some (.int .i64 0) := (blk_cell BK316.out 5).trans rfl; have hcz18_6 : w17.cell? ⟨gb316, 6, none⟩ = some (.int .u32 0) := (blk_cell BK316.out 6).trans rfl; have hcz18_7 : w17.cell? ⟨gb316, 7, none⟩ = some (.int .u32 0) := (blk_cell BK316.out 7).trans rfl; have hcz18_8 : w17.cell? ⟨gb316, 8, none⟩ = some (.int .u32 0) := (blk_cell BK316.out 8).trans rfl; have hcz18_9 : w17.cell? ⟨gb316, 9, none⟩ = some (.int .u32 0) := (blk_cell BK316.out 9).trans rfl; have hcz18_10 : w17.cell? ⟨gb316, 10, none⟩ = some (.int .u32 0) := (blk_cell BK316.out 10).trans rfl; have hcz18_11 : w17.cell? ⟨gb316, 11, none⟩ = some (.int .u32 0) := (blk_cell BK316.out 11).trans rfl; have hfz18_0 := blk_frozen BK316.out 0; have hfz18_1 := blk_frozen BK316.out 1; have hfz18_2 := blk_frozen BK316.out 2; have hfz18_3 := blk_frozen BK316.out 3; have hfz18_4 := blk_frozen BK316.out 4; have hfz18_5 := blk_frozen BK316.out 5; have hfz18_6 := blk_frozen BK316.out 6; have hfz18_7 := blk_frozen BK316.out 7; have hfz18_8 := blk_frozen BK316.out 8; have hfz18_9 := blk_frozen BK316.out 9; have hfz18_10 := blk_frozen BK316.out 10; have hfz18_11 := blk_frozen BK316.out 11) | ((with_reducible refine gate_builtin (b := .append) (xs := #[.tmp 47, .tmp 49]) rfl ?_); at_builtin; refine Kd.R_append k42 (w0 := w) w.heap.size rfl (.tmp 47) (.tmp 49) 54 42 (.agg #[(.int .i64 0), (.int .u16 0), (.int .u16 0), (.int .u32 0), (.int .u64 0), (.int .i64 0), (.int .u32 0), (.int .u32 0), (.int .u32 0), (.int .u32 0), (.int .u32 0), (.int .u32 0)]) 56 rfl Try.underlying54 info42 rfl (by decide) (by omega) u4 x4_3 (⟨t303, t304, t305, t306, t307, t308, (⟨t309, t310, t311, t312, t313, t314⟩ : S40)⟩ : S42) [.int .i64 t303, .int .u16 t304, .int .u16 t305, .int .u32 t306, .int .u64 t307, .int .i64 t308, .int .u32 t309, .int .u32 t310, .int .u32 t311, .int .u32 t312, .int .u32 t313, .int .u32 t314] (fun k_ => k_ ≠ gb316) (fun _ => False) rfl (by first | (go_simp; done) | (go_simp; rfl)) ?aP (fun _ hk => hk.elim) ?aF ?aO ?aB ?aS ?aL ?_; (case aP => exact k42_mkM _ _ _ (⟨t303, t304, t305, t306, t307, t308, (⟨t309, t310, t311, t312, t313, t314⟩ : S40)⟩ : S42)); (case aB => exact (by repeat (first | (with_reducible first | exact HB.out | apply below_alloc | apply pw_below_drewN | apply below_drew1 | refine below_set ?_ GE316.out) | exact HB.out))); (case aF => exact (fun k_ hk => Kd.freshB (g := gb316) (o := .cells #[.int .i64 t303, .int .u16 t304, .int .u16 t305, .int .u32 t306, .int .u64 t307, .int .i64 t308, .int .u32 t309, .int .u32 t310, .int .u32 t311, .int .u32 t312, .int .u32 t313, .int .u32 t314] 42 (0, 0)) (by (with_reducible repeat (first | refine blk_drewN ?_ _ | refine blk_drew ?_ | refine blk_alloc ?_ _)); refine blk_put (cs := #[.int .i64 t303, .int .u16 t304, .int .u16 t305, .int .u32 t306, .int .u64 t307, .int .i64 t308, .int .u32 t309, .int .u32 t310, .int .u32 t311, .int .u32 t312, .int .u32 t313, .int .u32 0]) ?_ 11 _ rfl; (with_reducible repeat (first | refine blk_drewN ?_ _ | refine blk_drew ?_ | refine blk_alloc ?_ _)); refine blk_put (cs := #[.int .i64 t303, .int .u16 t304, .int .u16 t305, .int .u32 t306, .int .u64 t307, .int .i64 t308, .int .u32 t309, .int .u32 t310, .int .u32 t311, .int .u32 t312, .int .u32 0, .int .u32 0]) ?_ 10 _ rfl; (with_reducible repeat (first | refine blk_drewN ?_ _ | refine blk_drew ?_ | refine blk_alloc ?_ _)); refine blk_put (cs := #[.int .i64 t303, .int .u16 t304, .int .u16 t305, .int .u32 t306, .int .u64 t307, .int .i64 t308, .int .u32 t309, .int .u32 t310, .int .u32 t311, .int .u32 0, .int .u32 0, .int .u32 0]) ?_ 9 _ rfl; (with_reducible repeat (first | refine blk_drewN ?_ _ | refine blk_drew ?_ | refine blk_alloc ?_ _)); refine blk_put (cs := #[.int .i64 t303, .int .u16 t304, .int .u16 t305, .int .u32 t306, .int .u64 t307, .int .i64 t308, .int .u32 t309, .int .u32 t310, .int .u32 0, .int .u32 0, .int .u32 0, .int .u32 0]) ?_ 8 _ rfl; (with_reducible repeat (first | refine blk_drewN ?_ _ | refine blk_drew ?_ | refine blk_alloc ?_ _)); refine blk_put (cs := #[.int .i64 t303, .int .u16 t304, .int .u16 t305, .int .u32 t306, .int .u64 t307, .int .i64 t308, .int .u32 t309, .int .u32 0, .int .u32 0, .int .u32 0, .int .u32 0, .int .u32 0]) ?_ 7 _ rfl; (with_reducible repeat (first | refine blk_drewN ?_ _ | refine blk_drew ?_ | refine blk_alloc ?_ _)); refine blk_put (cs := #[.int .i64 t303, .int .u16 t304, .int .u16 t305, .int .u32 t306, .int .u64 t307, .int .i64 t308, .int .u32 0, .int .u32 0, .int .u32 0, .int .u32 0, .int .u32 0, .int .u32 0]) ?_ 6 _ rfl; (with_reducible repeat (first | refine blk_drewN ?_ _ | refine blk_drew ?_ | refine blk_alloc ?_ _)); refine blk_put (cs := #[.int .i64 t303, .int .u16 t304, .int .u16 t305, .int .u32 t306, .int .u64 t307, .int .i64 0, .int .u32 0, .int .u32 0, .int .u32 0, .int .u32 0, .int .u32 0, .int .u32 0]) ?_ 5 _ rfl; (with_reducible repeat (first | refine blk_drewN ?_ _ | refine blk_drew ?_ | refine blk_alloc ?_ _)); refine blk_put (cs := #[.int .i64 t303, .int .u16 t304, .int .u16 t305, .int .u32 t306, .int .u64 0, .int .i64 0, .int .u32 0, .int .u32 0, .int .u32 0, .int .u32 0, .int .u32 0, .int .u32 0]) ?_ 4 _ rfl; (with_reducible repeat (first | refine blk_drewN ?_ _ | refine blk_drew ?_ | refine blk_alloc ?_ _)); refine blk_put (cs := #[.int .i64 t303, .int .u16 t304, .int .u16 t305, .int .u32 0, .int .u64 0, .int .i64 0, .int .u32 0, .int .u32 0, .int .u32 0, .int .u32 0, .int .u32 0, .int .u32 0]) ?_ 3 _ rfl; (with_reducible repeat (first | refine blk_drewN ?_ _ | refine blk_drew ?_ | refine blk_alloc ?_ _)); refine blk_put (cs := #[.int .i64 t303, .int .u16 t304, .int .u16 0, .int .u32 0, .int .u64 0, .int .i64 0, .int .u32 0, .int .u32 0, .int .u32 0, .int .u32 0, .int .u32 0, .int .u32 0]) ?_ 2 _ rfl; (with_reducible repeat (first | refine blk_drewN ?_ _ | refine blk_drew ?_ | refine blk_alloc ?_ _)); refine blk_put (cs := #[.int .i64 t303, .int .u16 0, .int .u16 0, .int .u32 0, .int .u64 0, .int .i64 0, .int .u32 0, .int .u32 0, .int .u32 0, .int .u32 0, .int .u32 0, .int .u32 0]) ?_ 1 _ rfl; (with_reducible repeat (first | refine blk_drewN ?_ _ | refine blk_drew ?_ | refine blk_alloc ?_ _)); refine blk_put (cs := #[.int .i64 0, .int .u16 0, .int .u16 0, .int .u32 0, .int .u64 0, .int .i64 0, .int .u32 0, .int .u32 0, .int .u32 0, .int .u32 0, .int .u32 0, .int .u32 0]) ?_ 0 _ rfl; (with_reducible repeat (first | refine blk_drewN ?_ _ | refine blk_drew ?_ | refine blk_alloc ?_ _)); exact BK316.out) k_ hk)); (case aO => exact (by (with_reducible repeat (first | apply Kd.R_alloc | apply Kd.R_drewN | apply Kd.R_drew)); exact Kd.R_mono (Kd.R_far (p := ⟨gb316, 11, none⟩) (Kd.R_far (p := ⟨gb316, 10, none⟩) (Kd.R_far (p := ⟨gb316, 9, none⟩) (Kd.R_far (p := ⟨gb316, 8, none⟩) (Kd.R_far (p := ⟨gb316, 7, none⟩) (Kd.R_far (p := ⟨gb316, 6, none⟩) (Kd.R_far (p := ⟨gb316, 5, none⟩) (Kd.R_far (p := ⟨gb316, 4, none⟩) (Kd.R_far (p := ⟨gb316, 3, none⟩) (Kd.R_far (p := ⟨gb316, 2, none⟩) (Kd.R_far (p := ⟨gb316, 1, none⟩) (Kd.R_far (p := ⟨gb316, 0, none⟩) (Kd.R_mono HO_4.out (fun k_ hk => (⟨hk, hk.2⟩ : _ ∧ k_ ≠ gb316))) (fun _ hk => hk.2) (.int .i64 t303)) (fun _ hk => hk.2) (.int .u16 t304)) (fun _ hk => hk.2) (.int .u16 t305)) (fun _ hk => hk.2) (.int .u32 t306)) (fun _ hk => hk.2) (.int .u64 t307)) (fun _ hk => hk.2) (.int .i64 t308)) (fun _ hk => hk.2) (.int .u32 t309)) (fun _ hk => hk.2) (.int .u32 t310)) (fun _ hk => hk.2) (.int .u32 t311)) (fun _ hk => hk.2) (.int .u32 t312)) (fun _ hk => hk.2) (.int .u32 t313)) (fun _ hk => hk.2) (.int .u32 t314)) (fun _ hk => hk.1.2))); (case aS => exact (below_size (by repeat (first | (with_reducible first | exact HB.out | apply below_alloc | apply pw_below_drewN | apply below_drew1 | refine below_set ?_ GE316.out) | exact HB.out)))); (case aL => have := LMc15.out; omega); intro v318 w19 ho hb hg hat; rw [← Ny317.out] at ho; have n0_ := Aside0.mk (blk_grown (g := gb316) (o := .cells #[.int .i64 t303, .int .u16 t304, .int .u16 t305, .int .u32 t306, .int .u64 t307, .int .i64 t308, .int .u32 t309, .int .u32 t310, .int .u32 t311, .int .u32 t312, .int .u32 t313, .int .u32 t314] 42 (0, 0)) (by (with_reducible repeat (first | refine blk_drewN ?_ _ | refine blk_drew ?_ | refine blk_alloc ?_ _)); refine blk_put (cs := #[.int .i64 t303, .int .u16 t304, .int .u16 t305, .int .u32 t306, .int .u64 t307, .int .i64 t308, .int .u32 t309, .int .u32 t310, .int .u32 t311, .int .u32 t312, .int .u32 t313, .int .u32 0]) ?_ 11 _ rfl; (with_reducible repeat (first | refine blk_drewN ?_ _ | refine blk_drew ?_ | refine blk_alloc ?_ _)); refine blk_put (cs := #[.int .i64 t303, .int .u16 t304, .int .u16 t305, .int .u32 t306, .int .u64 t307, .int .i64 t308, .int .u32 t309, .int .u32 t310, .int .u32 t311, .int .u32 t312, .int .u32 0, .int .u32 0]) ?_ 10 _ rfl; (with_reducible repeat (first | refine blk_drewN ?_ _ | refine blk_drew ?_ | refine blk_alloc ?_ _)); refine blk_put (cs := #[.int .i64 t303, .int .u16 t304, .int .u16 t305, .int .u32 t306, .int .u64 t307, .int .i64 t308, .int .u32 t309, .int .u32 t310, .int .u32 t311, .int .u32 0, .int .u32 0, .int .u32 0]) ?_ 9 _ rfl; (with_reducible repeat (first | refine blk_drewN ?_ _ | refine blk_drew ?_ | refine blk_alloc ?_ _)); refine blk_put (cs := #[.int .i64 t303, .int .u16 t304, .int .u16 t305, .int .u32 t306, .int .u64 t307, .int .i64 t308, .int .u32 t309, .int .u32 t310, .int .u32 0, .int .u32 0, .int .u32 0, .int .u32 0]) ?_ 8 _ rfl; (with_reducible repeat (first | refine blk_drewN ?_ _ | refine blk_drew ?_ | refine blk_alloc ?_ _)); refine blk_put (cs := #[.int .i64 t303, .int .u16 t304, .int .u16 t305, .int .u32 t306, .int .u64 t307, .int .i64 t308, .int .u32 t309, .int .u32 0, .int .u32 0, .int .u32 0, .int .u32 0, .int .u32 0]) ?_ 7 _ rfl; (with_reducible repeat (first | refine blk_drewN ?_ _ | refine blk_drew ?_ | refine blk_alloc ?_ _)); refine blk_put (cs := #[.int .i64 t303, .int .u16 t304, .int .u16 t305, .int .u32 t306, .int .u64 t307, .int .i64 t308, .int .u32 0, .int .u32 0, .int .u32 0, .int .u32 0, .int .u32 0, .int .u32 0]) ?_ 6 _ rfl; (with_reducible repeat (first | refine blk_drewN ?_ _ | refine blk_drew ?_ | refine blk_alloc ?_ _)); refine blk_put (cs := #[.int .i64 t303, .int .u16 t304, .int .u16 t305, .int .u32 t306, .int .u64 t307, .int .i64 0, .int .u32 0, .int .u32 0, .int .u32 0, .int .u32 0, .int .u32 0, .int .u32 0]) ?_ 5 _ rfl; (with_reducible repeat (first | refine blk_drewN ?_ _ | refine blk_drew ?_ | refine blk_alloc ?_ _)); refine blk_put (cs := #[.int .i64 t303, .int .u16 t304, .int .u16 t305, .int .u32 t306, .int .u64 0, .int .i64 0, .int .u32 0, .int .u32 0, .int .u32 0, .int .u32 0, .int .u32 0, .int .u32 0]) ?_ 4 _ rfl; (with_reducible repeat (first | refine blk_drewN ?_ _ | refine blk_drew ?_ | refine blk_alloc ?_ _)); refine blk_put (cs := #[.int .i64 t303, .int .u16 t304, .int .u16 t305, .int .u32 0, .int .u64 0, .int .i64 0, .int .u32 0, .int .u32 0, .int .u32 0, .int .u32 0, .int .u32 0, .int .u32 0]) ?_ 3 _ rfl; (with_reducible repeat (first | refine blk_drewN ?_ _ | refine blk_drew ?_ | refine blk_alloc ?_ _)); refine blk_put (cs := #[.int .i64 t303, .int .u16 t304, .int .u16 0, .int .u32 0, .int .u64 0, .int .i64 0, .int .u32 0, .int .u32 0, .int .u32 0, .int .u32 0, .int .u32 0, .int .u32 0]) ?_ 2 _ rfl; (with_reducible repeat (first | refine blk_drewN ?_ _ | refine blk_drew ?_ | refine blk_alloc ?_ _)); refine blk_put (cs := #[.int .i64 t303, .int .u16 0, .int .u16 0, .int .u32 0, .int .u64 0, .int .i64 0, .int .u32 0, .int .u32 0, .int .u32 0, .int .u32 0, .int .u32 0, .int .u32 0]) ?_ 1 _ rfl; (with_reducible repeat (first | refine blk_drewN ?_ _ | refine blk_drew ?_ | refine blk_alloc ?_ _)); refine blk_put (cs := #[.int .i64 0, .int .u16 0, .int .u16 0, .int .u32 0, .int .u64 0, .int .i64 0, .int .u32 0, .int .u32 0, .int .u32 0, .int .u32 0, .int .u32 0, .int .u32 0]) ?_ 0 _ rfl; (with_reducible repeat (first | refine blk_drewN ?_ _ | refine blk_drew ?_ | refine blk_alloc ?_ _)); exact BK316.out) hg (Kd.R_away HO_4.out (fun _ hk => hk.2))); have n1_ := Aside0.mk (hb); have n2_ := Aside0.mk (ho); clear BK316; clear HB; clear HO_4; have BK316 := n0_; have HB := n1_; have HO319 := n2_; clear n0_ n1_ n2_; clear ho hb hg hat))
               go_roundg k3
               case measure => have := HK1.out; have := HJ3.out; have := HK3.out; omega
               case rel => exact ⟨(y317), (wrap64 (x6_3 + 1)), (by first | rfl | (simp; done) | (simp [*]; done)), H', ⟨by have := HK1.out; have := HJ3.out; have := HK3.out; omega⟩, ⟨by (with_reducible repeat (first | apply Kd.R_alloc | apply Kd.R_drewN | apply Kd.R_drew)); exact Kd.R_mono HO319.out (fun _ hk => trivial)⟩, ⟨by repeat (first | (with_reducible first | exact HB.out | apply below_alloc | apply pw_below_drewN | apply below_drew1 | refine below_set ?_ GE316.out) | exact HB.out)⟩⟩
              ·rw [if_neg c15] at H
               exact absurd H (by simp)
             ·rw [if_neg c14] at H
              have c14b0 : (t315 == 0) = false := beq_eq_false_iff_ne.mpr c14
              have c14b1 : (t315 != 0) = true := bne_iff_ne.mpr c14
              simp only [Option.some.injEq, Prod.mk.injEq] at H
              obtain ⟨rfl, rfl⟩ := H
              have p302 : 0 ≤ (x5_1 : Int) := of_decide_eq_true (by first | (with_reducible assumption) | assumption)
              have q302 : x5_1 < (l0.length : Int) := of_decide_eq_true (by first | (with_reducible assumption) | assumption)
              obtain ⟨ad302, e302, hx302_0⟩ := Kd.at_string HR0.out x5_1 p302 q302
              cases e302
              replace hx302_0 := (HB.out.cell (World.block_lt_of_cell? w _ hx302_0)).trans hx302_0
              replace p302 := eq_true p302
              replace q302 := eq_true q302
              go_wp2_with (first | ((with_reducible refine gate_callee (f := 48) rfl ?_); refine goesL_ (some 42) rfl rfl Try.func48 (by kernel_rfl) rfl #[.string (rdOf ByteArray.empty l0 x5_1), .int .i64 x6_3] rfl (by (try simp only [List.map_toArray, List.map_cons, List.map_nil]); first | done | rfl | (simp only [List.length_drop, List.length_take]; rfl)) ?_; (with_reducible refine (nautilusref10_Get.calls (rdOf ByteArray.empty l0 x5_1) x6_3 t303 t304 t305 t306 t307 t308 t309 t310 t311 t312 t313 t314 t315 _ A13.out).mono ?_); rintro e w20 ⟨rfl, hb⟩; refine ⟨_, rfl, ?_⟩; have n0_ := Aside0.mk (Kd.R_below (by (with_reducible repeat (first | apply Kd.R_alloc | apply Kd.R_drewN | apply Kd.R_drew)); exact HO_4.out) hb); have n1_ := Aside0.mk (below_step (by repeat (first | (with_reducible first | exact HB.out | apply below_alloc | apply pw_below_drewN | apply below_drew1) | exact HB.out)) hb); clear HO_4; clear HB; have HO_4 := n0_; have HB := n1_; clear n0_ n1_; (try clear hb); (try clear hb2); (try clear hk); (try clear hi)) | ((with_reducible refine gate_dst (N := 7) rfl ?_); refine box_event ?hg (N := 7) ?hd (cs := #[.int .i64 0, .int .u16 0, .int .u16 0, .int .u32 0, .int .u64 0, .int .i64 0, .int .u32 0, .int .u32 0, .int .u32 0, .int .u32 0, .int .u32 0, .int .u32 0]) (t := 42) ?hr ?_; (case hd => rfl); (case hg => rfl); (case hr => first | (go_simp; done) | (go_simp; rfl)); intro gb316 hg w21 hbox hb; have n0_ := Aside0.mk (Kd.R_below (Kd.R_elderB (by (with_reducible repeat (first | apply Kd.R_alloc | apply Kd.R_drewN | apply Kd.R_drew)); exact HO_4.out) gb316 (Nat.le_of_eq hg.symm)) hb); have n1_ := Aside0.mk (below_step (by repeat (first | (with_reducible first | exact HB.out | apply below_alloc | apply pw_below_drewN | apply below_drew1) | exact HB.out)) hb); have n2_ := Aside0.mk (hbox); have n3_ := Aside0.mk ((by rw [hg]; exact (below_size (by repeat (first | (with_reducible first | exact HB.out | apply below_alloc | apply pw_below_drewN | apply below_drew1) | exact HB.out))) : w.heap.size ≤ gb316)); have n4_ := Aside0.mk ((by rw [hg]; exact (below_size (by repeat (first | (with_reducible first | exact HB.out | apply below_alloc | apply pw_below_drewN | apply below_drew1) | exact HB.out))) : w.heap.size ≤ gb316)); clear HO_4; clear HB; have HO_4 := n0_; have HB := n1_; have BK316 := n2_; have GW316 := n3_; have GE316 := n4_; clear n0_ n1_ n2_ n3_ n4_; clear hb hbox hg; have hcz22_0 : w21.cell? ⟨gb316, 0, none⟩ = some (.int .i64 0) := (blk_cell BK316.out 0).trans rfl; have hcz22_1 : w21.cell? ⟨gb316, 1, none⟩ = some (.int .u16 0) := (blk_cell BK316.out 1).trans rfl; have hcz22_2 : w21.cell? ⟨gb316, 2, none⟩ = some (.int .u16 0) := (blk_cell BK316.out 2).trans rfl; have hcz22_3 : w21.cell? ⟨gb316, 3, none⟩ = some (.int .u32 0) := (blk_cell BK316.out 3).trans rfl; have hcz22_4 : w21.cell? ⟨gb316, 4, none⟩ = some (.int .u64 0) := (blk_cell BK316.out 4).trans rfl; have hcz22_5 : w21.cell? ⟨gb316, 5, none⟩ = some (.int .i64 0) := (blk_cell BK316.out 5).trans rfl; have hcz22_6 : w21.cell? ⟨gb316, 6, none⟩ = some (.int .u32 0) := (blk_cell BK316.out 6).trans rfl; have hcz22_7 : w21.cell? ⟨gb316, 7, none⟩ = some (.int .u32 0) := (blk_cell BK316.out 7).trans rfl; have hcz22_8 : w21.cell? ⟨gb316, 8, none⟩ = some (.int .u32 0) := (blk_cell BK316.out 8).trans rfl; have hcz22_9 : w21.cell? ⟨gb316, 9, none⟩ = some (.int .u32 0) := (blk_cell BK316.out 9).trans rfl; have hcz22_10 : w21.cell? ⟨gb316, 10, none⟩ = some (.int .u32 0) := (blk_cell BK316.out 10).trans rfl; have hcz22_11 : w21.cell? ⟨gb316, 11, none⟩ = some (.int .u32 0) := (blk_cell BK316.out 11).trans rfl; have hfz22_0 := blk_frozen BK316.out 0; have hfz22_1 := blk_frozen BK316.out 1; have hfz22_2 := blk_frozen BK316.out 2; have hfz22_3 := blk_frozen BK316.out 3; have hfz22_4 := blk_frozen BK316.out 4; have hfz22_5 := blk_frozen BK316.out 5; have hfz22_6 := blk_frozen BK316.out 6; have hfz22_7 := blk_frozen BK316.out 7; have hfz22_8 := blk_frozen BK316.out 8; have hfz22_9 := blk_frozen BK316.out 9; have hfz22_10 := blk_frozen BK316.out 10; have hfz22_11 := blk_frozen BK316.out 11))
              go_ret2
              exact ⟨_, by first | rfl | (simp [errW_none, errW_some] <;> rfl) | (simp [*, errW_none, errW_some] <;> rfl), by first | exact Kd.R_nil _ _ _ _ _ | exact Kd.N_nil _ _ _ _ _ | exact Kd.V_nil _ _ _ _ _ | exact Kd.Q_nil _ _ _ _ _ | exact Kd.S_nil _ _ _ _ _, by repeat (first | (with_reducible first | exact HB.out | apply below_alloc | apply pw_below_drewN | apply below_drew1 | refine below_set ?_ GE316.out) | exact HB.out)⟩
            ·rw [if_neg c12] at H
             exact absurd H (by simp)
           ·rw [if_neg c11] at H
            exact absurd H (by simp)
          ·rw [if_neg c10] at H
           have c10b0 : decide (x6_3 < 12) = false := decide_eq_false c10
           clear c10
           have H' := Aside0.mk H
           clear H
           go_wp2
           go_roundg k3
           case measure => have := HK1.out; have := HJ3.out; have := HK3.out; omega
           case rel => exact ⟨(x4_3), (wrap64 (x5_1 + 1)), (by first | rfl | (simp; done) | (simp [*]; done)), H', ⟨by have := HK1.out; have := HJ3.out; have := HK3.out; omega⟩, ⟨by (with_reducible repeat (first | apply Kd.R_alloc | apply Kd.R_drewN | apply Kd.R_drew)); exact HO_4.out⟩, ⟨by repeat (first | (with_reducible first | exact HB.out | apply below_alloc | apply pw_below_drewN | apply below_drew1) | exact HB.out)⟩⟩
    ·rw [if_neg c3] at H
     have c3b0 : decide (x5_1 < (l0.length : Int)) = false := decide_eq_false c3
     clear c3
     simp only [Option.some.injEq, Prod.mk.injEq] at H
     obtain ⟨rfl, rfl⟩ := H
     go_wp2
     go_ret2
     exact ⟨_, by first | rfl | (simp [errW_none, errW_some] <;> rfl) | (simp [*, errW_none, errW_some] <;> rfl), by (with_reducible repeat (first | apply Kd.R_alloc | apply Kd.R_drewN | apply Kd.R_drew)); exact HO_4.out, by repeat (first | (with_reducible first | exact HB.out | apply below_alloc | apply pw_below_drewN | apply below_drew1) | exact HB.out)⟩

end Go.Proofs.Ytpcokafalmafgaa.Q
