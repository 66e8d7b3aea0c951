/- Functions of the translation as plain Lean functions, and that the translation computes them: printed by this session's driver of the print. -/
import Derived.Test.YtpcokafalmafgaaQ0
import Derived.Test.YtpcokafalmafgaaQ18
import Derived.Test.YtpcokafalmafgaaHIDec
import Derived.Test.YtpcokafalmafgaaHNum
namespace Go.Proofs.Ytpcokafalmafgaa.Q
open Go.Proofs.Ytpcokafalmafgaa.H
open Go.RowKit Go.Proofs.YtpcokafalmafgaaW.PrintWords Go.Proofs.YtpcokafalmafgaaW.PrintLast Go.Proofs.YtpcokafalmafgaaW.PrintMore
attribute [local go_sem] max2_int min2_int max_two min_two max_three min_three max_four min_four   -- for this text's walks alone
set_option linter.unusedVariables false
set_option linter.unusedSimpArgs false

/-! ### inode_Get: function 47 -/
def inode_Get.f (a0 : ByteArray) (a1 : Int) : Option (Int × Int × Int × Int × Int × Int × Int × Int × Int × Int × Int × Int × Int) := (inode_isPlace.f a0 a1).bind fun t217 => (if t217 = true then (if 0 ≤ (wrap64 (a1 * 42)) then (if (wrap64 (a1 * 42)) ≤ (wrap64 ((wrap64 (a1 * 42)) + 42)) then (if (wrap64 ((wrap64 (a1 * 42)) + 42)) ≤ (a0.size : Int) then ((inode_Decode.f (a0.extract ((wrap64 (a1 * 42)) : Int).toNat ((wrap64 ((wrap64 (a1 * 42)) + 42)) : Int).toNat)).bind fun bt218 => (some (bt218.1, bt218.2.1, bt218.2.2.1, bt218.2.2.2.1, bt218.2.2.2.2.1, bt218.2.2.2.2.2.1, bt218.2.2.2.2.2.2.1, bt218.2.2.2.2.2.2.2.1, bt218.2.2.2.2.2.2.2.2.1, bt218.2.2.2.2.2.2.2.2.2.1, bt218.2.2.2.2.2.2.2.2.2.2.1, bt218.2.2.2.2.2.2.2.2.2.2.2.1, bt218.2.2.2.2.2.2.2.2.2.2.2.2))) else (none)) else (none)) else (none)) else (some (0, 0, 0, 0, 0, 0, 0, 0, 0, 0, 0, 0, 2)))
set_option maxHeartbeats 8000000 in
set_option maxRecDepth 100000 in
theorem inode_Get.calls (a0 : ByteArray) (a1 : Int) (r1 : Int) (r2 : Int) (r3 : Int) (r4 : Int) (r5 : Int) (r6 : Int) (r7 : Int) (r8 : Int) (r9 : Int) (r10 : Int) (r11 : Int) (r12 : Int) (r13 : Int) (w : World) (h : inode_Get.f a0 a1 = some (r1, r2, r3, r4, r5, r6, r7, r8, r9, r10, r11, r12, r13)) :
  Calls Try.prog 47 #[.string a0, .int .i64 a1] w fun e w' => e = .returned (.tuple #[.agg #[.int .i64 r1, .int .u16 r2, .int .u16 r3, .int .u32 r4, .int .u64 r5, .int .i64 r6, .int .u32 r7, .int .u32 r8, .int .u32 r9, .int .u32 r10, .int .u32 r11, .int .u32 r12], .int .i64 r13]) ∧ Below w.heap.size w w' := by
 have hu42 := Try.underlying42
 have HB := Aside0.mk (Below.refl w.heap.size w)
 have H : ((inode_isPlace.f a0 a1).bind fun t217 => (if t217 = true then (if 0 ≤ (wrap64 (a1 * 42)) then (if (wrap64 (a1 * 42)) ≤ (wrap64 ((wrap64 (a1 * 42)) + 42)) then (if (wrap64 ((wrap64 (a1 * 42)) + 42)) ≤ (a0.size : Int) then ((inode_Decode.f (a0.extract ((wrap64 (a1 * 42)) : Int).toNat ((wrap64 ((wrap64 (a1 * 42)) + 42)) : Int).toNat)).bind fun bt218 => (some (bt218.1, bt218.2.1, bt218.2.2.1, bt218.2.2.2.1, bt218.2.2.2.2.1, bt218.2.2.2.2.2.1, bt218.2.2.2.2.2.2.1, bt218.2.2.2.2.2.2.2.1, bt218.2.2.2.2.2.2.2.2.1, bt218.2.2.2.2.2.2.2.2.2.1, bt218.2.2.2.2.2.2.2.2.2.2.1, bt218.2.2.2.2.2.2.2.2.2.2.2.1, bt218.2.2.2.2.2.2.2.2.2.2.2.2))) else (none)) else (none)) else (none)) else (some (0, 0, 0, 0, 0, 0, 0, 0, 0, 0, 0, 0, 2)))) = some (r1, r2, r3, r4, r5, r6, r7, r8, r9, r10, r11, r12, r13) := h
 clear h
 replace H := Option.bind_eq_some_iff.mp H
 obtain ⟨t217, A30, H⟩ := H
 replace H : (if t217 = true then (if 0 ≤ (wrap64 (a1 * 42)) then (if (wrap64 (a1 * 42)) ≤ (wrap64 ((wrap64 (a1 * 42)) + 42)) then (if (wrap64 ((wrap64 (a1 * 42)) + 42)) ≤ (a0.size : Int) then ((inode_Decode.f (a0.extract ((wrap64 (a1 * 42)) : Int).toNat ((wrap64 ((wrap64 (a1 * 42)) + 42)) : Int).toNat)).bind fun bt218 => (some (bt218.1, bt218.2.1, bt218.2.2.1, bt218.2.2.2.1, bt218.2.2.2.2.1, bt218.2.2.2.2.2.1, bt218.2.2.2.2.2.2.1, bt218.2.2.2.2.2.2.2.1, bt218.2.2.2.2.2.2.2.2.1, bt218.2.2.2.2.2.2.2.2.2.1, bt218.2.2.2.2.2.2.2.2.2.2.1, bt218.2.2.2.2.2.2.2.2.2.2.2.1, bt218.2.2.2.2.2.2.2.2.2.2.2.2))) else (none)) else (none)) else (none)) else (some (0, 0, 0, 0, 0, 0, 0, 0, 0, 0, 0, 0, 2))) = some (r1, r2, r3, r4, r5, r6, r7, r8, r9, r10, r11, r12, r13) := H
 have A3 := Aside0.mk A30
 clear A30
 by_cases c4 : t217 = true
 ·subst c4
  have H1 : (if 0 ≤ (wrap64 (a1 * 42)) then (if (wrap64 (a1 * 42)) ≤ (wrap64 ((wrap64 (a1 * 42)) + 42)) then (if (wrap64 ((wrap64 (a1 * 42)) + 42)) ≤ (a0.size : Int) then ((inode_Decode.f (a0.extract ((wrap64 (a1 * 42)) : Int).toNat ((wrap64 ((wrap64 (a1 * 42)) + 42)) : Int).toNat)).bind fun bt218 => (some (bt218.1, bt218.2.1, bt218.2.2.1, bt218.2.2.2.1, bt218.2.2.2.2.1, bt218.2.2.2.2.2.1, bt218.2.2.2.2.2.2.1, bt218.2.2.2.2.2.2.2.1, bt218.2.2.2.2.2.2.2.2.1, bt218.2.2.2.2.2.2.2.2.2.1, bt218.2.2.2.2.2.2.2.2.2.2.1, bt218.2.2.2.2.2.2.2.2.2.2.2.1, bt218.2.2.2.2.2.2.2.2.2.2.2.2))) else (none)) else (none)) else (none)) = some (r1, r2, r3, r4, r5, r6, r7, r8, r9, r10, r11, r12, r13) := by rw [if_pos rfl] at H; exact H
  clear H
  have H := H1
  clear H1
  obtain ⟨ji5, hji5⟩ : ∃ j_ : Int, (wrap64 (a1 * 42)) = j_ := ⟨_, rfl⟩
  replace H : (if 0 ≤ (ji5) then (if (ji5) ≤ (wrap64 ((ji5) + 42)) then (if (wrap64 ((ji5) + 42)) ≤ (a0.size : Int) then ((inode_Decode.f (a0.extract ((ji5) : Int).toNat ((wrap64 ((ji5) + 42)) : Int).toNat)).bind fun bt218 => (some (bt218.1, bt218.2.1, bt218.2.2.1, bt218.2.2.2.1, bt218.2.2.2.2.1, bt218.2.2.2.2.2.1, bt218.2.2.2.2.2.2.1, bt218.2.2.2.2.2.2.2.1, bt218.2.2.2.2.2.2.2.2.1, bt218.2.2.2.2.2.2.2.2.2.1, bt218.2.2.2.2.2.2.2.2.2.2.1, bt218.2.2.2.2.2.2.2.2.2.2.2.1, bt218.2.2.2.2.2.2.2.2.2.2.2.2))) else (none)) else (none)) else (none)) = some (r1, r2, r3, r4, r5, r6, r7, r8, r9, r10, r11, r12, r13) := by first | (rw [hji5] at H; exact H) | (simp only [hji5] at H ⊢; exact H)
  (try rw [hji5] at A3)
  have hji5w : (IntKind.i64.wrap (a1 * 42)) = ji5 := (i64_w _).trans hji5
  by_cases c6 : 0 ≤ (ji5)
  ·rw [if_pos c6] at H
   have c6b0 := eq_true c6
   have c6b1 : decide (0 ≤ (ji5)) = true := decide_eq_true c6
   clear c6
   by_cases c7 : (ji5) ≤ (wrap64 ((ji5) + 42))
   ·rw [if_pos c7] at H
    have c7b0 := eq_true c7
    have c7b1 : decide ((ji5) ≤ (wrap64 ((ji5) + 42))) = true := decide_eq_true c7
    by_cases c8 : (wrap64 ((ji5) + 42)) ≤ (a0.size : Int)
    ·rw [if_pos c8] at H
     have c8b0 := eq_true c8
     have c8b1 : decide ((wrap64 ((ji5) + 42)) ≤ (a0.size : Int)) = true := decide_eq_true c8
     replace H := Option.bind_eq_some_iff.mp H
     obtain ⟨⟨t218, t219, t220, t221, t222, t223, t224, t225, t226, t227, t228, t229, t230⟩, A90, H⟩ := H
     replace H : (some (t218, t219, t220, t221, t222, t223, t224, t225, t226, t227, t228, t229, t230)) = some (r1, r2, r3, r4, r5, r6, r7, r8, r9, r10, r11, r12, r13) := H
     have A9 := Aside0.mk A90
     clear A90
     simp only [Option.some.injEq, Prod.mk.injEq] at H
     obtain ⟨rfl, rfl, rfl, rfl, rfl, rfl, rfl, rfl, rfl, rfl, rfl, rfl, rfl⟩ := H
     go_enter Try.func47, Try.ntmps47
     go_wp2_with (first | ((with_reducible refine gate_dst (N := 4) rfl ?_); refine box_event ?hg (N := 4) ?hd (cs := #[.int .i64 0, .int .u16 0, .int .u16 0, .int .u32 0, .int .u64 0, .int .i64 0, .int .u32 0, .int .u32 0, .int .u32 0, .int .u32 0, .int .u32 0, .int .u32 0]) (t := 42) ?hr ?_; (case hd => rfl); (case hg => rfl); (case hr => first | (go_simp; done) | (go_simp; rfl)); intro gb216 hg w10 hbox hb; have n0_ := Aside0.mk (below_step (by repeat (first | (with_reducible first | exact HB.out | apply below_alloc | apply pw_below_drewN | apply below_drew1) | exact HB.out)) hb); have n1_ := Aside0.mk (hbox); have n2_ := Aside0.mk ((by rw [hg]; exact (below_size (by repeat (first | (with_reducible first | exact HB.out | apply below_alloc | apply pw_below_drewN | apply below_drew1) | exact HB.out))) : w.heap.size ≤ gb216)); have n3_ := Aside0.mk ((by rw [hg]; exact (below_size (by repeat (first | (with_reducible first | exact HB.out | apply below_alloc | apply pw_below_drewN | apply below_drew1) | exact HB.out))) : w.heap.size ≤ gb216)); clear HB; have HB := n0_; have BK216 := n1_; have GW216 := n2_; have GE216 := n3_; clear n0_ n1_ n2_ n3_; clear hb hbox hg) | ((with_reducible refine gate_callee (f := 58) rfl ?_); refine goesL_ (some 9) rfl rfl Try.func58 (by kernel_rfl) rfl #[.string a0, .int .i64 a1] rfl (by (try simp only [List.map_toArray, List.map_cons, List.map_nil]); first | done | rfl | (simp only [List.length_drop, List.length_take]; rfl)) ?_; (with_reducible refine (inode_isPlace.calls a0 a1 true _ A3.out).mono ?_); rintro e w' ⟨rfl, ⟨nd, rfl⟩⟩; refine ⟨_, rfl, ?_⟩; (try (rw [drewN_self w10]; generalize hq_ : World.drewN w10 _ = w10; have n0_ : Aside0 (w10.heap[gb216]? = some (.cells #[.int .i64 0, .int .u16 0, .int .u16 0, .int .u32 0, .int .u64 0, .int .i64 0, .int .u32 0, .int .u32 0, .int .u32 0, .int .u32 0, .int .u32 0, .int .u32 0] 42 (0, 0))) := ⟨by rw [← hq_]; exact (by (with_reducible repeat (first | refine blk_drewN ?_ _ | refine blk_drew ?_ | refine blk_alloc ?_ _)); exact BK216.out)⟩; have n1_ : Aside0 (Below w.heap.size w w10) := ⟨by rw [← hq_]; exact (by repeat (first | (with_reducible first | exact HB.out | apply below_alloc | apply pw_below_drewN | apply below_drew1 | refine below_set ?_ GE216.out) | exact HB.out))⟩; clear BK216 HB hq_; have BK216 := n0_; have HB := n1_; clear n0_ n1_))) | ((with_reducible refine gate_callee (f := 61) rfl ?_); refine goesL_ (some 19) rfl rfl Try.func61 (by kernel_rfl) rfl #[.string (a0.extract ((ji5) : Int).toNat ((wrap64 ((ji5) + 42)) : Int).toNat)] rfl (by (try simp only [List.map_toArray, List.map_cons, List.map_nil]); first | done | (simp only [hji5]; rfl) | rfl | (simp only [List.length_drop, List.length_take]; rfl) | (simp [Act.eval, go_sem]; simp only [decide_eq_false_iff_not, decide_eq_true_eq] at *; (repeat' apply And.intro) <;> first | done | (symm; first | (apply IntWalk.u64_in; omega) | (apply IntWalk.u32_in; omega) | (apply IntWalk.i64_in; omega) | (apply IntWalk.wrap64_in; omega) | (apply IntWalk.u16_in; omega) | (apply IntWalk.u8_in; omega)))) ?_; (with_reducible refine (inode_Decode.calls (a0.extract ((ji5) : Int).toNat ((wrap64 ((ji5) + 42)) : Int).toNat) t218 t219 t220 t221 t222 t223 t224 t225 t226 t227 t228 t229 t230 _ A9.out).mono ?_); rintro e w11 ⟨rfl, hb⟩; refine ⟨_, rfl, ?_⟩; have n0_ := Aside0.mk (blk_below (g := gb216) (o := .cells #[.int .i64 0, .int .u16 0, .int .u16 0, .int .u32 0, .int .u64 0, .int .i64 0, .int .u32 0, .int .u32 0, .int .u32 0, .int .u32 0, .int .u32 0, .int .u32 0] 42 (0, 0)) (by (with_reducible repeat (first | refine blk_drewN ?_ _ | refine blk_drew ?_ | refine blk_alloc ?_ _)); exact BK216.out) hb); have n1_ := Aside0.mk (below_step (by repeat (first | (with_reducible first | exact HB.out | apply below_alloc | apply pw_below_drewN | apply below_drew1 | refine below_set ?_ GE216.out) | exact HB.out)) hb); clear BK216; clear HB; have BK216 := n0_; have HB := n1_; clear n0_ n1_; (try clear hb); (try clear hb2); (try clear hk); (try clear hi); have hcz12_0 : w11.cell? ⟨gb216, 0, none⟩ = some (.int .i64 0) := (blk_cell BK216.out 0).trans rfl; have hcz12_1 : w11.cell? ⟨gb216, 1, none⟩ = some (.int .u16 0) := (blk_cell BK216.out 1).trans rfl; have hcz12_2 : w11.cell? ⟨gb216, 2, none⟩ = some (.int .u16 0) := (blk_cell BK216.out 2).trans rfl; have hcz12_3 : w11.cell? ⟨gb216, 3, none⟩ = some (.int .u32 0) := (blk_cell BK216.out 3).trans rfl; have hcz12_4 : w11.cell? ⟨gb216, 4, none⟩ = some (.int .u64 0) := (blk_cell BK216.out 4).trans rfl; have hcz12_5 : w11.cell? ⟨gb216, 5, none⟩ = some (.int .i64 0) := (blk_cell BK216.out 5).trans rfl; have hcz12_6 : w11.cell? ⟨gb216, 6, none⟩ = some (.int .u32 0) := (blk_cell BK216.out 6).trans rfl; have hcz12_7 : w11.cell? ⟨gb216, 7, none⟩ = some (.int .u32 0) := (blk_cell BK216.out 7).trans rfl; have hcz12_8 : w11.cell? ⟨gb216, 8, none⟩ = some (.int .u32 0) := (blk_cell BK216.out 8).trans rfl; have hcz12_9 : w11.cell? ⟨gb216, 9, none⟩ = some (.int .u32 0) := (blk_cell BK216.out 9).trans rfl; have hcz12_10 : w11.cell? ⟨gb216, 10, none⟩ = some (.int .u32 0) := (blk_cell BK216.out 10).trans rfl; have hcz12_11 : w11.cell? ⟨gb216, 11, none⟩ = some (.int .u32 0) := (blk_cell BK216.out 11).trans rfl; have hfz12_0 := blk_frozen BK216.out 0; have hfz12_1 := blk_frozen BK216.out 1; have hfz12_2 := blk_frozen BK216.out 2; have hfz12_3 := blk_frozen BK216.out 3; have hfz12_4 := blk_frozen BK216.out 4; have hfz12_5 := blk_frozen BK216.out 5; have hfz12_6 := blk_frozen BK216.out 6; have hfz12_7 := blk_frozen BK216.out 7; have hfz12_8 := blk_frozen BK216.out 8; have hfz12_9 := blk_frozen BK216.out 9; have hfz12_10 := blk_frozen BK216.out 10; have hfz12_11 := blk_frozen BK216.out 11))
     refine bodyPost_ret (results_ct rfl _ _ gb216 42 #[.int .i64 t218, .int .u16 t219, .int .u16 t220, .int .u32 t221, .int .u64 t222, .int .i64 t223, .int .u32 t224, .int .u32 t225, .int .u32 t226, .int .u32 t227, .int .u32 t228, .int .u32 t229] (0, 0) _ rfl (by (with_reducible repeat (first | refine blk_drewN ?_ _ | refine blk_drew ?_ | refine blk_alloc ?_ _)); refine blk_put (cs := #[.int .i64 t218, .int .u16 t219, .int .u16 t220, .int .u32 t221, .int .u64 t222, .int .i64 t223, .int .u32 t224, .int .u32 t225, .int .u32 t226, .int .u32 t227, .int .u32 t228, .int .u32 0]) ?_ 11 _ rfl; (with_reducible repeat (first | refine blk_drewN ?_ _ | refine blk_drew ?_ | refine blk_alloc ?_ _)); refine blk_put (cs := #[.int .i64 t218, .int .u16 t219, .int .u16 t220, .int .u32 t221, .int .u64 t222, .int .i64 t223, .int .u32 t224, .int .u32 t225, .int .u32 t226, .int .u32 t227, .int .u32 0, .int .u32 0]) ?_ 10 _ rfl; (with_reducible repeat (first | refine blk_drewN ?_ _ | refine blk_drew ?_ | refine blk_alloc ?_ _)); refine blk_put (cs := #[.int .i64 t218, .int .u16 t219, .int .u16 t220, .int .u32 t221, .int .u64 t222, .int .i64 t223, .int .u32 t224, .int .u32 t225, .int .u32 t226, .int .u32 0, .int .u32 0, .int .u32 0]) ?_ 9 _ rfl; (with_reducible repeat (first | refine blk_drewN ?_ _ | refine blk_drew ?_ | refine blk_alloc ?_ _)); refine blk_put (cs := #[.int .i64 t218, .int .u16 t219, .int .u16 t220, .int .u32 t221, .int .u64 t222, .int .i64 t223, .int .u32 t224, .int .u32 t225, .int .u32 0, .int .u32 0, .int .u32 0, .int .u32 0]) ?_ 8 _ rfl; (with_reducible repeat (first | refine blk_drewN ?_ _ | refine blk_drew ?_ | refine blk_alloc ?_ _)); refine blk_put (cs := #[.int .i64 t218, .int .u16 t219, .int .u16 t220, .int .u32 t221, .int .u64 t222, .int .i64 t223, .int .u32 t224, .int .u32 0, .int .u32 0, .int .u32 0, .int .u32 0, .int .u32 0]) ?_ 7 _ rfl; (with_reducible repeat (first | refine blk_drewN ?_ _ | refine blk_drew ?_ | refine blk_alloc ?_ _)); refine blk_put (cs := #[.int .i64 t218, .int .u16 t219, .int .u16 t220, .int .u32 t221, .int .u64 t222, .int .i64 t223, .int .u32 0, .int .u32 0, .int .u32 0, .int .u32 0, .int .u32 0, .int .u32 0]) ?_ 6 _ rfl; (with_reducible repeat (first | refine blk_drewN ?_ _ | refine blk_drew ?_ | refine blk_alloc ?_ _)); refine blk_put (cs := #[.int .i64 t218, .int .u16 t219, .int .u16 t220, .int .u32 t221, .int .u64 t222, .int .i64 0, .int .u32 0, .int .u32 0, .int .u32 0, .int .u32 0, .int .u32 0, .int .u32 0]) ?_ 5 _ rfl; (with_reducible repeat (first | refine blk_drewN ?_ _ | refine blk_drew ?_ | refine blk_alloc ?_ _)); refine blk_put (cs := #[.int .i64 t218, .int .u16 t219, .int .u16 t220, .int .u32 t221, .int .u64 0, .int .i64 0, .int .u32 0, .int .u32 0, .int .u32 0, .int .u32 0, .int .u32 0, .int .u32 0]) ?_ 4 _ rfl; (with_reducible repeat (first | refine blk_drewN ?_ _ | refine blk_drew ?_ | refine blk_alloc ?_ _)); refine blk_put (cs := #[.int .i64 t218, .int .u16 t219, .int .u16 t220, .int .u32 0, .int .u64 0, .int .i64 0, .int .u32 0, .int .u32 0, .int .u32 0, .int .u32 0, .int .u32 0, .int .u32 0]) ?_ 3 _ rfl; (with_reducible repeat (first | refine blk_drewN ?_ _ | refine blk_drew ?_ | refine blk_alloc ?_ _)); refine blk_put (cs := #[.int .i64 t218, .int .u16 t219, .int .u16 0, .int .u32 0, .int .u64 0, .int .i64 0, .int .u32 0, .int .u32 0, .int .u32 0, .int .u32 0, .int .u32 0, .int .u32 0]) ?_ 2 _ rfl; (with_reducible repeat (first | refine blk_drewN ?_ _ | refine blk_drew ?_ | refine blk_alloc ?_ _)); refine blk_put (cs := #[.int .i64 t218, .int .u16 0, .int .u16 0, .int .u32 0, .int .u64 0, .int .i64 0, .int .u32 0, .int .u32 0, .int .u32 0, .int .u32 0, .int .u32 0, .int .u32 0]) ?_ 1 _ rfl; (with_reducible repeat (first | refine blk_drewN ?_ _ | refine blk_drew ?_ | refine blk_alloc ?_ _)); refine blk_put (cs := #[.int .i64 0, .int .u16 0, .int .u16 0, .int .u32 0, .int .u64 0, .int .i64 0, .int .u32 0, .int .u32 0, .int .u32 0, .int .u32 0, .int .u32 0, .int .u32 0]) ?_ 0 _ rfl; (with_reducible repeat (first | refine blk_drewN ?_ _ | refine blk_drew ?_ | refine blk_alloc ?_ _)); exact BK216.out) Try.underlying42 rfl (by kernel_rfl)) rfl ?_
     exact ⟨by first | rfl | (simp [errW_none, errW_some] <;> rfl) | (simp only [← hji5]; first | rfl | (simp [errW_none, errW_some] <;> rfl)) | (simp [*, errW_none, errW_some] <;> rfl) | (simp [show IntKind.u64.wrap 0 = 0 from rfl, Int.zero_tdiv]; done), by repeat (first | (with_reducible first | exact HB.out | apply below_alloc | apply pw_below_drewN | apply below_drew1 | refine below_set ?_ GE216.out) | exact HB.out)⟩
    ·rw [if_neg c8] at H
     exact absurd H (by simp)
   ·rw [if_neg c7] at H
    exact absurd H (by simp)
  ·rw [if_neg c6] at H
   exact absurd H (by simp)
 ·replace c4 := Bool.eq_false_iff.mpr c4
  subst c4
  have H1 : (some (0, 0, 0, 0, 0, 0, 0, 0, 0, 0, 0, 0, 2)) = some (r1, r2, r3, r4, r5, r6, r7, r8, r9, r10, r11, r12, r13) := by rw [if_neg (show ¬ (false = true) by decide)] at H; exact H
  clear H
  have H := H1
  clear H1
  simp only [Option.some.injEq, Prod.mk.injEq] at H
  obtain ⟨rfl, rfl, rfl, rfl, rfl, rfl, rfl, rfl, rfl, rfl, rfl, rfl, rfl⟩ := H
  go_enter Try.func47, Try.ntmps47
  go_wp2_with (first | ((with_reducible refine gate_dst (N := 4) rfl ?_); refine box_event ?hg (N := 4) ?hd (cs := #[.int .i64 0, .int .u16 0, .int .u16 0, .int .u32 0, .int .u64 0, .int .i64 0, .int .u32 0, .int .u32 0, .int .u32 0, .int .u32 0, .int .u32 0, .int .u32 0]) (t := 42) ?hr ?_; (case hd => rfl); (case hg => rfl); (case hr => first | (go_simp; done) | (go_simp; rfl)); intro gb216 hg w13 hbox hb; have n0_ := Aside0.mk (below_step (by repeat (first | (with_reducible first | exact HB.out | apply below_alloc | apply pw_below_drewN | apply below_drew1) | exact HB.out)) hb); have n1_ := Aside0.mk (hbox); have n2_ := Aside0.mk ((by rw [hg]; exact (below_size (by repeat (first | (with_reducible first | exact HB.out | apply below_alloc | apply pw_below_drewN | apply below_drew1) | exact HB.out))) : w.heap.size ≤ gb216)); have n3_ := Aside0.mk ((by rw [hg]; exact (below_size (by repeat (first | (with_reducible first | exact HB.out | apply below_alloc | apply pw_below_drewN | apply below_drew1) | exact HB.out))) : w.heap.size ≤ gb216)); clear HB; have HB := n0_; have BK216 := n1_; have GW216 := n2_; have GE216 := n3_; clear n0_ n1_ n2_ n3_; clear hb hbox hg) | ((with_reducible refine gate_callee (f := 58) rfl ?_); refine goesL_ (some 9) rfl rfl Try.func58 (by kernel_rfl) rfl #[.string a0, .int .i64 a1] rfl (by (try simp only [List.map_toArray, List.map_cons, List.map_nil]); first | done | rfl | (simp only [List.length_drop, List.length_take]; rfl)) ?_; (with_reducible refine (inode_isPlace.calls a0 a1 false _ A3.out).mono ?_); rintro e w' ⟨rfl, ⟨nd, rfl⟩⟩; refine ⟨_, rfl, ?_⟩; (try (rw [drewN_self w13]; generalize hq_ : World.drewN w13 _ = w13; have n0_ : Aside0 (w13.heap[gb216]? = some (.cells #[.int .i64 0, .int .u16 0, .int .u16 0, .int .u32 0, .int .u64 0, .int .i64 0, .int .u32 0, .int .u32 0, .int .u32 0, .int .u32 0, .int .u32 0, .int .u32 0] 42 (0, 0))) := ⟨by rw [← hq_]; exact (by (with_reducible repeat (first | refine blk_drewN ?_ _ | refine blk_drew ?_ | refine blk_alloc ?_ _)); exact BK216.out)⟩; have n1_ : Aside0 (Below w.heap.size w w13) := ⟨by rw [← hq_]; exact (by repeat (first | (with_reducible first | exact HB.out | apply below_alloc | apply pw_below_drewN | apply below_drew1 | refine below_set ?_ GE216.out) | exact HB.out))⟩; clear BK216 HB hq_; have BK216 := n0_; have HB := n1_; clear n0_ n1_)); have hcz14_0 : w13.cell? ⟨gb216, 0, none⟩ = some (.int .i64 0) := (blk_cell BK216.out 0).trans rfl; have hcz14_1 : w13.cell? ⟨gb216, 1, none⟩ = some (.int .u16 0) := (blk_cell BK216.out 1).trans rfl; have hcz14_2 : w13.cell? ⟨gb216, 2, none⟩ = some (.int .u16 0) := (blk_cell BK216.out 2).trans rfl; have hcz14_3 : w13.cell? ⟨gb216, 3, none⟩ = some (.int .u32 0) := (blk_cell BK216.out 3).trans rfl; have hcz14_4 : w13.cell? ⟨gb216, 4, none⟩ = some (.int .u64 0) := (blk_cell BK216.out 4).trans rfl; have hcz14_5 : w13.cell? ⟨gb216, 5, none⟩ = some (.int .i64 0) := (blk_cell BK216.out 5).trans rfl; have hcz14_6 : w13.cell? ⟨gb216, 6, none⟩ = some (.int .u32 0) := (blk_cell BK216.out 6).trans rfl; have hcz14_7 : w13.cell? ⟨gb216, 7, none⟩ = some (.int .u32 0) := (blk_cell BK216.out 7).trans rfl; have hcz14_8 : w13.cell? ⟨gb216, 8, none⟩ = some (.int .u32 0) := (blk_cell BK216.out 8).trans rfl; have hcz14_9 : w13.cell? ⟨gb216, 9, none⟩ = some (.int .u32 0) := (blk_cell BK216.out 9).trans rfl; have hcz14_10 : w13.cell? ⟨gb216, 10, none⟩ = some (.int .u32 0) := (blk_cell BK216.out 10).trans rfl; have hcz14_11 : w13.cell? ⟨gb216, 11, none⟩ = some (.int .u32 0) := (blk_cell BK216.out 11).trans rfl; have hfz14_0 := blk_frozen BK216.out 0; have hfz14_1 := blk_frozen BK216.out 1; have hfz14_2 := blk_frozen BK216.out 2; have hfz14_3 := blk_frozen BK216.out 3; have hfz14_4 := blk_frozen BK216.out 4; have hfz14_5 := blk_frozen BK216.out 5; have hfz14_6 := blk_frozen BK216.out 6; have hfz14_7 := blk_frozen BK216.out 7; have hfz14_8 := blk_frozen BK216.out 8; have hfz14_9 := blk_frozen BK216.out 9; have hfz14_10 := blk_frozen BK216.out 10; have hfz14_11 := blk_frozen BK216.out 11))
  refine bodyPost_ret (results_ct rfl _ _ gb216 42 #[.int .i64 0, .int .u16 0, .int .u16 0, .int .u32 0, .int .u64 0, .int .i64 0, .int .u32 0, .int .u32 0, .int .u32 0, .int .u32 0, .int .u32 0, .int .u32 0] (0, 0) _ rfl (by (with_reducible repeat (first | refine blk_drewN ?_ _ | refine blk_drew ?_ | refine blk_alloc ?_ _)); refine blk_put (cs := #[.int .i64 0, .int .u16 0, .int .u16 0, .int .u32 0, .int .u64 0, .int .i64 0, .int .u32 0, .int .u32 0, .int .u32 0, .int .u32 0, .int .u32 0, .int .u32 0]) ?_ 11 _ rfl; (with_reducible repeat (first | refine blk_drewN ?_ _ | refine blk_drew ?_ | refine blk_alloc ?_ _)); refine blk_put (cs := #[.int .i64 0, .int .u16 0, .int .u16 0, .int .u32 0, .int .u64 0, .int .i64 0, .int .u32 0, .int .u32 0, .int .u32 0, .int .u32 0, .int .u32 0, .int .u32 0]) ?_ 10 _ rfl; (with_reducible repeat (first | refine blk_drewN ?_ _ | refine blk_drew ?_ | refine blk_alloc ?_ _)); refine blk_put (cs := #[.int .i64 0, .int .u16 0, .int .u16 0, .int .u32 0, .int .u64 0, .int .i64 0, .int .u32 0, .int .u32 0, .int .u32 0, .int .u32 0, .int .u32 0, .int .u32 0]) ?_ 9 _ rfl; (with_reducible repeat (first | refine blk_drewN ?_ _ | refine blk_drew ?_ | refine blk_alloc ?_ _)); refine blk_put (cs := #[.int .i64 0, .int .u16 0, .int .u16 0, .int .u32 0, .int .u64 0, .int .i64 0, .int .u32 0, .int .u32 0, .int .u32 0, .int .u32 0, .int .u32 0, .int .u32 0]) ?_ 8 _ rfl; (with_reducible repeat (first | refine blk_drewN ?_ _ | refine blk_drew ?_ | refine blk_alloc ?_ _)); refine blk_put (cs := #[.int .i64 0, .int .u16 0, .int .u16 0, .int .u32 0, .int .u64 0, .int .i64 0, .int .u32 0, .int .u32 0, .int .u32 0, .int .u32 0, .int .u32 0, .int .u32 0]) ?_ 7 _ rfl; (with_reducible repeat (first | refine blk_drewN ?_ _ | refine blk_drew ?_ | refine blk_alloc ?_ _)); refine blk_put (cs := #[.int .i64 0, .int .u16 0, .int .u16 0, .int .u32 0, .int .u64 0, .int .i64 0, .int .u32 0, .int .u32 0, .int .u32 0, .int .u32 0, .int .u32 0, .int .u32 0]) ?_ 6 _ rfl; (with_reducible repeat (first | refine blk_drewN ?_ _ | refine blk_drew ?_ | refine blk_alloc ?_ _)); refine blk_put (cs := #[.int .i64 0, .int .u16 0, .int .u16 0, .int .u32 0, .int .u64 0, .int .i64 0, .int .u32 0, .int .u32 0, .int .u32 0, .int .u32 0, .int .u32 0, .int .u32 0]) ?_ 5 _ rfl; (with_reducible repeat (first | refine blk_drewN ?_ _ | refine blk_drew ?_ | refine blk_alloc ?_ _)); refine blk_put (cs := #[.int .i64 0, .int .u16 0, .int .u16 0, .int .u32 0, .int .u64 0, .int .i64 0, .int .u32 0, .int .u32 0, .int .u32 0, .int .u32 0, .int .u32 0, .int .u32 0]) ?_ 4 _ rfl; (with_reducible repeat (first | refine blk_drewN ?_ _ | refine blk_drew ?_ | refine blk_alloc ?_ _)); refine blk_put (cs := #[.int .i64 0, .int .u16 0, .int .u16 0, .int .u32 0, .int .u64 0, .int .i64 0, .int .u32 0, .int .u32 0, .int .u32 0, .int .u32 0, .int .u32 0, .int .u32 0]) ?_ 3 _ rfl; (with_reducible repeat (first | refine blk_drewN ?_ _ | refine blk_drew ?_ | refine blk_alloc ?_ _)); refine blk_put (cs := #[.int .i64 0, .int .u16 0, .int .u16 0, .int .u32 0, .int .u64 0, .int .i64 0, .int .u32 0, .int .u32 0, .int .u32 0, .int .u32 0, .int .u32 0, .int .u32 0]) ?_ 2 _ rfl; (with_reducible repeat (first | refine blk_drewN ?_ _ | refine blk_drew ?_ | refine blk_alloc ?_ _)); refine blk_put (cs := #[.int .i64 0, .int .u16 0, .int .u16 0, .int .u32 0, .int .u64 0, .int .i64 0, .int .u32 0, .int .u32 0, .int .u32 0, .int .u32 0, .int .u32 0, .int .u32 0]) ?_ 1 _ rfl; (with_reducible repeat (first | refine blk_drewN ?_ _ | refine blk_drew ?_ | refine blk_alloc ?_ _)); refine blk_put (cs := #[.int .i64 0, .int .u16 0, .int .u16 0, .int .u32 0, .int .u64 0, .int .i64 0, .int .u32 0, .int .u32 0, .int .u32 0, .int .u32 0, .int .u32 0, .int .u32 0]) ?_ 0 _ rfl; (with_reducible repeat (first | refine blk_drewN ?_ _ | refine blk_drew ?_ | refine blk_alloc ?_ _)); exact BK216.out) Try.underlying42 rfl (by kernel_rfl)) rfl ?_
  exact ⟨by first | rfl | (simp [errW_none, errW_some] <;> rfl) | (simp [*, errW_none, errW_some] <;> rfl) | (simp [show IntKind.u64.wrap 0 = 0 from rfl, Int.zero_tdiv]; done), by repeat (first | (with_reducible first | exact HB.out | apply below_alloc | apply pw_below_drewN | apply below_drew1 | refine below_set ?_ GE216.out) | exact HB.out)⟩

/-! ### vol_Inodes: function 29 -/
mutual
def vol_Inodes.l0 : Nat → List (S42) → List ByteArray → Int → Int → Option ((List (S42)) × Int)
 | 0, _, _, _, _ => none
 | k + 1, x4, x13, x14, x15 => if x15 < x14 then (if 0 ≤ x15 then (if x15 < (x13.length : Int) then (if ((rdOf ByteArray.empty x13 x15).size : Int) = 508 then ((num_Bare.f (rdOf ByteArray.empty x13 x15) 504).bind fun t232 => (vol_Inodes.j1 k x4 (rdOf ByteArray.empty x13 x15) x13 x14 x15 (!t232))) else (vol_Inodes.j1 k x4 (rdOf ByteArray.empty x13 x15) x13 x14 x15 true)) else (none)) else (none)) else (some (x4, 0))
def vol_Inodes.j1 : Nat → List (S42) → ByteArray → List ByteArray → Int → Int → Bool → Option ((List (S42)) × Int)
 | 0, _, _, _, _, _, _ => none
 | k + 1, x4, x6, x13, x14, x15, x26 => if x26 = true then (some (([] : List (S42)), 154)) else (vol_Inodes.l1 k x4 x6 x13 x14 x15 0)
def vol_Inodes.l1 : Nat → List (S42) → ByteArray → List ByteArray → Int → Int → Int → Option ((List (S42)) × Int)
 | 0, _, _, _, _, _, _ => none
 | k + 1, x4, x6, x13, x14, x15, x27 => if x27 < 12 then ((inode_Get.f x6 x27).bind fun bt233 => (if bt233.2.2.2.2.2.2.2.2.2.2.2.2 = 0 then (if x4.length < 2513169434916 then (vol_Inodes.l1 k (x4 ++ [(⟨bt233.1, bt233.2.1, bt233.2.2.1, bt233.2.2.2.1, bt233.2.2.2.2.1, bt233.2.2.2.2.2.1, (⟨bt233.2.2.2.2.2.2.1, bt233.2.2.2.2.2.2.2.1, bt233.2.2.2.2.2.2.2.2.1, bt233.2.2.2.2.2.2.2.2.2.1, bt233.2.2.2.2.2.2.2.2.2.2.1, bt233.2.2.2.2.2.2.2.2.2.2.2.1⟩ : S40)⟩ : S42)]) x6 x13 x14 x15 (wrap64 (x27 + 1))) else (none)) else (some (([] : List (S42)), 154)))) else (vol_Inodes.l0 k x4 x13 x14 (wrap64 (x15 + 1)))
end
def vol_Inodes.f (k : Nat) (l0 : List ByteArray) : Option ((List (S42)) × Int) := if (l0.length : Int) > 20 then (some (([] : List (S42)), 154)) else (vol_Inodes.l0 k ([] : List (S42)) l0 (l0.length : Int) 0)
theorem vol_Inodes.mono_l : ∀ k, (∀ y0 y1 y2 y3, LeO (vol_Inodes.l0 k y0 y1 y2 y3) (vol_Inodes.l0 (k + 1) y0 y1 y2 y3)) ∧ (∀ y0 y1 y2 y3 y4 y5, LeO (vol_Inodes.j1 k y0 y1 y2 y3 y4 y5) (vol_Inodes.j1 (k + 1) y0 y1 y2 y3 y4 y5)) ∧ (∀ y0 y1 y2 y3 y4 y5, LeO (vol_Inodes.l1 k y0 y1 y2 y3 y4 y5) (vol_Inodes.l1 (k + 1) y0 y1 y2 y3 y4 y5))
 | 0 => ⟨fun _ _ _ _ r h => by simp [vol_Inodes.l0] at h, fun _ _ _ _ _ _ r h => by simp [vol_Inodes.j1] at h, fun _ _ _ _ _ _ r h => by simp [vol_Inodes.l1] at h⟩
 | k + 1 => by
  obtain ⟨ih0, ih1, ih2⟩ := vol_Inodes.mono_l k
  refine ⟨?_, ?_, ?_⟩
  ·intro y0 y1 y2 y3
   unfold vol_Inodes.l0
   repeat' first
   | (with_reducible exact ih0 _ _ _ _)
   | (with_reducible exact ih1 _ _ _ _ _ _)
   | (with_reducible exact ih2 _ _ _ _ _ _)
   | (with_reducible exact LeO.refl _)
   | (with_reducible exact LeO.none _)
   | (with_reducible refine LeO.ite ?_ ?_)
   | (with_reducible refine LeO.bind ?_ (fun _ => ?_))
   | exact ih0 _ _ _ _
   | exact ih1 _ _ _ _ _ _
   | exact ih2 _ _ _ _ _ _
   | exact LeO.none _
   | refine LeO.ite ?_ ?_
   | refine LeO.bind ?_ (fun _ => ?_)
  ·intro y0 y1 y2 y3 y4 y5
   unfold vol_Inodes.j1
   repeat' first
   | (with_reducible exact ih0 _ _ _ _)
   | (with_reducible exact ih1 _ _ _ _ _ _)
   | (with_reducible exact ih2 _ _ _ _ _ _)
   | (with_reducible exact LeO.refl _)
   | (with_reducible exact LeO.none _)
   | (with_reducible refine LeO.ite ?_ ?_)
   | (with_reducible refine LeO.bind ?_ (fun _ => ?_))
   | exact ih0 _ _ _ _
   | exact ih1 _ _ _ _ _ _
   | exact ih2 _ _ _ _ _ _
   | exact LeO.none _
   | refine LeO.ite ?_ ?_
   | refine LeO.bind ?_ (fun _ => ?_)
  ·intro y0 y1 y2 y3 y4 y5
   unfold vol_Inodes.l1
   repeat' first
   | (with_reducible exact ih0 _ _ _ _)
   | (with_reducible exact ih1 _ _ _ _ _ _)
   | (with_reducible exact ih2 _ _ _ _ _ _)
   | (with_reducible exact LeO.refl _)
   | (with_reducible exact LeO.none _)
   | (with_reducible refine LeO.ite ?_ ?_)
   | (with_reducible refine LeO.bind ?_ (fun _ => ?_))
   | exact ih0 _ _ _ _
   | exact ih1 _ _ _ _ _ _
   | exact ih2 _ _ _ _ _ _
   | exact LeO.none _
   | refine LeO.ite ?_ ?_
   | refine LeO.bind ?_ (fun _ => ?_)
theorem vol_Inodes.mono : ∀ a0 k, LeO (vol_Inodes.f k a0) (vol_Inodes.f (k + 1) a0) := by
 intro a0 k
 obtain ⟨ih0, ih1, ih2⟩ := vol_Inodes.mono_l k
 unfold vol_Inodes.f
 repeat' first
   | (with_reducible exact ih0 _ _ _ _)
   | (with_reducible exact ih1 _ _ _ _ _ _)
   | (with_reducible exact ih2 _ _ _ _ _ _)
   | (with_reducible exact LeO.refl _)
   | (with_reducible exact LeO.none _)
   | (with_reducible refine LeO.ite ?_ ?_)
   | (with_reducible refine LeO.bind ?_ (fun _ => ?_))
   | exact ih0 _ _ _ _
   | exact ih1 _ _ _ _ _ _
   | exact ih2 _ _ _ _ _ _
   | exact LeO.none _
   | refine LeO.ite ?_ ?_
   | refine LeO.bind ?_ (fun _ => ?_)
set_option maxHeartbeats 8000000 in
set_option maxRecDepth 100000 in
theorem vol_Inodes.calls (k : Nat) (A0 : Option Addr) (c0 : Nat) (l0 : List ByteArray) (r1 : List (S42)) (r2 : Int) (w : World) (hr0 : Kd.C Kd.string w A0 l0.length l0) (hc0 : l0.length ≤ c0) (h : vol_Inodes.f k l0 = some (r1, r2)) :
  Calls Try.prog 29 #[.slice A0 l0.length c0] w fun e w' => ∃ v0_ : Value, e = .returned (.tuple #[v0_, .int .i64 r2]) ∧ Kd.R k42 42 w' w.heap.size (fun _ => True) v0_ r1 ∧ Below w.heap.size w w' := by
 have hu42 := Try.underlying42
 have HR0 := Aside0.mk hr0
 have HC0 := Aside0.mk hc0
 clear hr0 hc0
 have HB := Aside0.mk (Below.refl w.heap.size w)
 have H : (if (l0.length : Int) > 20 then (some (([] : List (S42)), 154)) else (vol_Inodes.l0 k ([] : List (S42)) l0 (l0.length : Int) 0)) = some (r1, r2) := h
 clear h
 by_cases c2 : (l0.length : Int) > 20
 ·rw [if_pos c2] at H
  have c2b0 : decide (20 < (l0.length : Int)) = true := decide_eq_true c2
  have c2b1 : decide (20 < l0.length) = true := decide_eq_true (by omega)
  clear c2
  simp only [Option.some.injEq, Prod.mk.injEq] at H
  obtain ⟨rfl, rfl⟩ := H
  go_enter Try.func29, Try.ntmps29
  go_wp2
  go_ret2
  exact ⟨_, by first | rfl | (simp [errW_none, errW_some] <;> rfl) | (simp [*, errW_none, errW_some] <;> rfl), by first | exact Kd.R_nil _ _ _ _ _ | exact Kd.N_nil _ _ _ _ _ | exact Kd.V_nil _ _ _ _ _ | exact Kd.Q_nil _ _ _ _ _ | exact Kd.S_nil _ _ _ _ _, by repeat (first | (with_reducible first | exact HB.out | apply below_alloc | apply pw_below_drewN | apply below_drew1) | exact HB.out)⟩
 ·rw [if_neg c2] at H
  have c2b0 : decide (20 < (l0.length : Int)) = false := decide_eq_false c2
  have c2b1 : decide (20 < l0.length) = false := decide_eq_false (by omega)
  clear c2
  have H' := Aside0.mk H
  clear H
  go_enter Try.func29, Try.ntmps29
  go_wp2
  go_loopg [4, 15] k (fun kq v4 v15 w' => ∃ (x4_1 : List (S42)) (x15_1 : Int), v15 = .int .i64 x15_1 ∧ Aside0 (vol_Inodes.l0 kq x4_1 l0 (l0.length : Int) x15_1 = some (r1, r2)) ∧ Aside0 (kq ≤ k) ∧ Aside0 (Kd.R k42 42 w' w.heap.size (fun _ => True) v4 x4_1) ∧ Aside0 (Below w.heap.size w w'))
  case atStart => exact ⟨(([] : List (S42))), (0), (by first | rfl | (simp; done) | (simp [*]; done)), H', ⟨Nat.le_refl _⟩, ⟨by first | exact Kd.R_nil _ _ _ _ _ | exact Kd.N_nil _ _ _ _ _ | exact Kd.V_nil _ _ _ _ _ | exact Kd.Q_nil _ _ _ _ _ | exact Kd.S_nil _ _ _ _ _⟩, ⟨by repeat (first | (with_reducible first | exact HB.out | apply below_alloc | apply pw_below_drewN | apply below_drew1) | exact HB.out)⟩⟩
  case round =>
   clear H'
   try clear c2
   try clear c2b0
   try clear c2b1
   try clear p2
   obtain ⟨x4_1, x15_1, rfl, HA, HK1, HO_4, HB⟩ := hrel
   cases gk with
   | zero => exact absurd HA.out (by simp [vol_Inodes.l0])
   | succ k1 =>
    have H := HA.out
    clear HA
    simp only [vol_Inodes.l0] at H
    by_cases c3 : x15_1 < (l0.length : Int)
    ·rw [if_pos c3] at H
     have c3b0 : decide (x15_1 < (l0.length : Int)) = true := decide_eq_true c3
     clear c3
     by_cases c4 : 0 ≤ x15_1
     ·rw [if_pos c4] at H
      have c4b0 : decide (0 ≤ x15_1) = true := decide_eq_true c4
      clear c4
      by_cases c5 : x15_1 < (l0.length : Int)
      ·rw [if_pos c5] at H
       have c5b0 : decide (x15_1 < (l0.length : Int)) = true := decide_eq_true c5
       clear c5
       have HC6 := Aside0.mk H
       clear H
       have p231 : 0 ≤ (x15_1 : Int) := of_decide_eq_true (by first | (with_reducible assumption) | assumption)
       have q231 : x15_1 < (l0.length : Int) := of_decide_eq_true (by first | (with_reducible assumption) | assumption)
       obtain ⟨ad231, e231, hx231_0⟩ := Kd.at_string HR0.out x15_1 p231 q231
       cases e231
       replace hx231_0 := (HB.out.cell (World.block_lt_of_cell? w _ hx231_0)).trans hx231_0
       replace p231 := eq_true p231
       replace q231 := eq_true q231
       go_upto_region 7 with (fail)
       go_cut [26] (fun v26 wc => ∃ (kq : Nat) (x26_5 : Bool), v26 = .bool x26_5 ∧ Aside0 (vol_Inodes.j1 kq x4_1 (rdOf ByteArray.empty l0 x15_1) l0 (l0.length : Int) x15_1 x26_5 = some (r1, r2)) ∧ Aside0 (kq ≤ k1) ∧ Aside0 (Kd.R k42 42 wc w.heap.size (fun _ => True) u4 x4_1) ∧ Aside0 (Below w.heap.size w wc))
       case first =>
        have H := HC6.out
        clear HC6
        by_cases c7 : ((rdOf ByteArray.empty l0 x15_1).size : Int) = 508
        ·rw [if_pos c7] at H
         have c7b0 : (((rdOf ByteArray.empty l0 x15_1).size : Int) == 508) = true := beq_iff_eq.mpr c7
         have c7b1 : (((rdOf ByteArray.empty l0 x15_1).size : Int) != 508) = false := bne_eq_false_iff_eq.mpr c7
         clear c7
         (first | rw [c7b0] | (simp only [i64_w, i32_w]; rw [c7b0]) | skip)
         replace H := Option.bind_eq_some_iff.mp H
         obtain ⟨t232, A80, H⟩ := H
         replace H : (vol_Inodes.j1 k1 x4_1 (rdOf ByteArray.empty l0 x15_1) l0 (l0.length : Int) x15_1 (!t232)) = some (r1, r2) := H
         have A8 := Aside0.mk A80
         clear A80
         have H' := Aside0.mk H
         clear H
         go_wp2_with (first | (go_at_call 40; (with_reducible refine (num_Bare.calls (rdOf ByteArray.empty l0 x15_1) 504 t232 _ A8.out).mono ?_); rintro e w9 ⟨rfl, hb⟩; have n0_ := Aside0.mk (Kd.R_below (by (with_reducible repeat (first | apply Kd.R_alloc | apply Kd.R_drewN | apply Kd.R_drew)); exact HO_4.out) hb); have n1_ := Aside0.mk (below_step (by repeat (first | (with_reducible first | exact HB.out | apply below_alloc | apply pw_below_drewN | apply below_drew1) | exact HB.out)) hb); clear HO_4; clear HB; have HO_4 := n0_; have HB := n1_; clear n0_ n1_; (try clear hb); (try clear hb2); (try clear hk); (try clear hi)))
         go_meet
         case rel => exact ⟨_, (!t232), (by first | rfl | (simp; done) | (simp [*]; done)), H', ⟨by have := HK1.out; first | omega | exact Nat.le_refl _⟩, ⟨by (with_reducible repeat (first | apply Kd.R_alloc | apply Kd.R_drewN | apply Kd.R_drew)); exact HO_4.out⟩, ⟨by repeat (first | (with_reducible first | exact HB.out | apply below_alloc | apply pw_below_drewN | apply below_drew1) | exact HB.out)⟩⟩
        ·rw [if_neg c7] at H
         have c7b0 : (((rdOf ByteArray.empty l0 x15_1).size : Int) == 508) = false := beq_eq_false_iff_ne.mpr c7
         have c7b1 : (((rdOf ByteArray.empty l0 x15_1).size : Int) != 508) = true := bne_iff_ne.mpr c7
         (first | rw [c7b0] | (simp only [i64_w, i32_w]; rw [c7b0]) | skip)
         have H' := Aside0.mk H
         clear H
         go_wp2
         go_meet
         case rel => exact ⟨_, (true), (by first | rfl | (simp; done) | (simp [*]; done)), H', ⟨by have := HK1.out; first | omega | exact Nat.le_refl _⟩, ⟨by (with_reducible repeat (first | apply Kd.R_alloc | apply Kd.R_drewN | apply Kd.R_drew)); exact HO_4.out⟩, ⟨by repeat (first | (with_reducible first | exact HB.out | apply below_alloc | apply pw_below_drewN | apply below_drew1) | exact HB.out)⟩⟩
       case rest =>
        clear HC6
        try clear c2
        try clear c2b0
        try clear c2b1
        try clear p2
        try clear q2
        try clear hx2
        try clear c3
        try clear c3b0
        try clear c4
        try clear c4b0
        try clear c5
        try clear c5b0
        try clear c7
        try clear c7b0
        try clear c7b1
        try clear hx231_0
        try clear p2
        try clear p231
        try clear q231
        obtain ⟨kq, x26_5, rfl, HA, HJ5, HO_4, HB⟩ := hcut
        cases kq with
        | zero => exact absurd HA.out (by simp [vol_Inodes.j1])
        | succ kj5 =>
         have H := HA.out
         clear HA
         simp only [vol_Inodes.j1] at H
         by_cases c10 : x26_5 = true
         ·subst c10
          have H1 : (some (([] : List (S42)), 154)) = some (r1, r2) := by rw [if_pos rfl] at H; exact H
          clear H
          have H := H1
          clear H1
          simp only [Option.some.injEq, Prod.mk.injEq] at H
          obtain ⟨rfl, rfl⟩ := H
          go_wp2
          go_ret2
          exact ⟨_, by first | rfl | (simp [errW_none, errW_some] <;> rfl) | (simp [*, errW_none, errW_some] <;> rfl), by first | exact Kd.R_nil _ _ _ _ _ | exact Kd.N_nil _ _ _ _ _ | exact Kd.V_nil _ _ _ _ _ | exact Kd.Q_nil _ _ _ _ _ | exact Kd.S_nil _ _ _ _ _, by repeat (first | (with_reducible first | exact HB.out | apply below_alloc | apply pw_below_drewN | apply below_drew1) | exact HB.out)⟩
         ·replace c10 := Bool.eq_false_iff.mpr c10
          subst c10
          have H1 : (vol_Inodes.l1 kj5 x4_1 (rdOf ByteArray.empty l0 x15_1) l0 (l0.length : Int) x15_1 0) = some (r1, r2) := by rw [if_neg (show ¬ (false = true) by decide)] at H; exact H
          clear H
          have H := H1
          clear H1
          have H' := Aside0.mk H
          clear H
          go_wp2
          go_loopg [4, 27] kj5 (fun kq v4 v27 w' => ∃ (x4_3 : List (S42)) (x27_3 : Int), v27 = .int .i64 x27_3 ∧ Aside0 (vol_Inodes.l1 kq x4_3 (rdOf ByteArray.empty l0 x15_1) l0 (l0.length : Int) x15_1 x27_3 = some (r1, r2)) ∧ Aside0 (kq ≤ kj5) ∧ Aside0 (Kd.R k42 42 w' w.heap.size (fun _ => True) v4 x4_3) ∧ Aside0 (Below w.heap.size w w'))
          case atStart => exact ⟨(x4_1), (0), (by first | rfl | (simp; done) | (simp [*]; done)), H', ⟨Nat.le_refl _⟩, ⟨by (with_reducible repeat (first | apply Kd.R_alloc | apply Kd.R_drewN | apply Kd.R_drew)); exact HO_4.out⟩, ⟨by repeat (first | (with_reducible first | exact HB.out | apply below_alloc | apply pw_below_drewN | apply below_drew1) | exact HB.out)⟩⟩
          case round =>
           clear H'
           try clear c1
           try clear c2
           try clear c2b0
           try clear c2b1
           try clear p2
           try clear q2
           try clear hx2
           try clear c3
           try clear c3b0
           try clear c4
           try clear c4b0
           try clear c5
           try clear c5b0
           try clear c7
           try clear c7b0
           try clear c7b1
           try clear c10
           try clear hx231_0
           try clear p2
           try clear p231
           try clear q2
           try clear q231
           obtain ⟨x4_3, x27_3, rfl, HA, HK3, HO_4, HB⟩ := hrel
           cases gk with
           | zero => exact absurd HA.out (by simp [vol_Inodes.l1])
           | succ k3 =>
            have H := HA.out
            clear HA
            simp only [vol_Inodes.l1] at H
            by_cases c11 : x27_3 < 12
            ·rw [if_pos c11] at H
             have c11b0 : decide (x27_3 < 12) = true := decide_eq_true c11
             clear c11
             replace H := Option.bind_eq_some_iff.mp H
             obtain ⟨⟨t233, t234, t235, t236, t237, t238, t239, t240, t241, t242, t243, t244, t245⟩, A120, H⟩ := H
             replace H : (if t245 = 0 then (if x4_3.length < 2513169434916 then (vol_Inodes.l1 k3 (x4_3 ++ [(⟨t233, t234, t235, t236, t237, t238, (⟨t239, t240, t241, t242, t243, t244⟩ : S40)⟩ : S42)]) (rdOf ByteArray.empty l0 x15_1) l0 (l0.length : Int) x15_1 (wrap64 (x27_3 + 1))) else (none)) else (some (([] : List (S42)), 154))) = some (r1, r2) := H
             have A12 := Aside0.mk A120
             clear A120
             by_cases c13 : t245 = 0
             ·rw [if_pos c13] at H
              have c13b0 : (t245 == 0) = true := beq_iff_eq.mpr c13
              have c13b1 : (t245 != 0) = false := bne_eq_false_iff_eq.mpr c13
              clear c13
              by_cases c14 : x4_3.length < 2513169434916
              ·rw [if_pos c14] at H
               have LMc14 := Aside0.mk c14
               clear c14
               obtain ⟨y247, hy247⟩ : ∃ y_ : List (S42), y_ = (x4_3 ++ [(⟨t233, t234, t235, t236, t237, t238, (⟨t239, t240, t241, t242, t243, t244⟩ : S40)⟩ : S42)]) := ⟨_, rfl⟩
               replace H : (vol_Inodes.l1 k3 y247 (rdOf ByteArray.empty l0 x15_1) l0 (l0.length : Int) x15_1 (wrap64 (x27_3 + 1))) = some (r1, r2) := by first | (rw [hy247]; with_reducible exact H) | (have H2_ := (Option.bind_some _ _).symm.trans H; rw [hy247]; with_reducible exact H2_) | (have H2_ := (Option.bind_some _ _).symm.trans H; with_reducible exact H2_) | with_reducible exact H | (rw [hy247]; exact H) | exact H
               have Ny247 := Aside0.mk hy247
               clear hy247
               have H' := Aside0.mk H
               clear H
               go_wp2_with (first | ((with_reducible refine gate_callee (f := 47) rfl ?_); refine goesL_ (some 33) rfl rfl Try.func47 (by kernel_rfl) rfl #[.string (rdOf ByteArray.empty l0 x15_1), .int .i64 x27_3] rfl (by (try simp only [List.map_toArray, List.map_cons, List.map_nil]); first | done | rfl | (simp only [List.length_drop, List.length_take]; rfl)) ?_; (with_reducible refine (inode_Get.calls (rdOf ByteArray.empty l0 x15_1) x27_3 t233 t234 t235 t236 t237 t238 t239 t240 t241 t242 t243 t244 t245 _ A12.out).mono ?_); rintro e w15 ⟨rfl, hb⟩; refine ⟨_, rfl, ?_⟩; have n0_ := Aside0.mk (Kd.R_below (by (with_reducible repeat (first | apply Kd.R_alloc | apply Kd.R_drewN | apply Kd.R_drew)); exact HO_4.out) hb); have n1_ := Aside0.mk (below_step (by repeat (first | (with_reducible first | exact HB.out | apply below_alloc | apply pw_below_drewN | apply below_drew1) | exact HB.out)) hb); clear HO_4; clear HB; have HO_4 := n0_; have HB := n1_; clear n0_ n1_; (try clear hb); (try clear hb2); (try clear hk); (try clear hi)) | ((with_reducible refine gate_dst (N := 8) rfl ?_); refine box_event ?hg (N := 8) ?hd (cs := #[.int .i64 0, .int .u16 0, .int .u16 0, .int .u32 0, .int .u64 0, .int .i64 0, .int .u32 0, .int .u32 0, .int .u32 0, .int .u32 0, .int .u32 0, .int .u32 0]) (t := 42) ?hr ?_; (case hd => rfl); (case hg => rfl); (case hr => first | (go_simp; done) | (go_simp; rfl)); intro gb246 hg w16 hbox hb; have n0_ := Aside0.mk (Kd.R_below (Kd.R_elderB (by (with_reducible repeat (first | apply Kd.R_alloc | apply Kd.R_drewN | apply Kd.R_drew)); exact HO_4.out) gb246 (Nat.le_of_eq hg.symm)) hb); have n1_ := Aside0.mk (below_step (by repeat (first | (with_reducible first | exact HB.out | apply below_alloc | apply pw_below_drewN | apply below_drew1) | exact HB.out)) hb); have n2_ := Aside0.mk (hbox); have n3_ := Aside0.mk ((by rw [hg]; exact (below_size (by repeat (first | (with_reducible first | exact HB.out | apply below_alloc | apply pw_below_drewN | apply below_drew1) | exact HB.out))) : w.heap.size ≤ gb246)); have n4_ := Aside0.mk ((by rw [hg]; exact (below_size (by repeat (first | (with_reducible first | exact HB.out | apply below_alloc | apply pw_below_drewN | apply below_drew1) | exact HB.out))) : w.heap.size ≤ gb246)); clear HO_4; clear HB; have HO_4 := n0_; have HB := n1_; have BK246 := n2_; have GW246 := n3_; have GE246 := n4_; clear n0_ n1_ n2_ n3_ n4_; clear hb hbox hg; have hcz17_0 : w16.cell? ⟨gb246, 0, none⟩ = some (.int .i64 0) := (blk_cell BK246.out 0).trans rfl; have hcz17_1 : w16.cell? ⟨gb246, 1, none⟩ = some (.int .u16 0) := (blk_cell BK246.out 1).trans rfl; have hcz17_2 : w16.cell? ⟨gb246, 2, none⟩ = some (.int .u16 0) := (blk_cell BK246.out 2).trans rfl; have hcz17_3 : w16.cell? ⟨gb246, 3, none⟩ = some (.int .u32 0) := (blk_cell BK246.out 3).trans rfl; have hcz17_4 : w16.cell? ⟨gb246, 4, none⟩ = some (.int .u64 0) := (blk_cell BK246.out 4).trans rfl; have hcz17_5 : w16.cell? ⟨gb246, 5, none⟩ = some (.int .i64 0) := (blk_cell BK246.out 5).trans rfl; have hcz17_6 : w16.cell? ⟨gb246, 6, none⟩ = some (.int .u32 0) := (blk_cell BK246.out 6).trans rfl; have hcz17_7 : w16.cell? ⟨gb246, 7, none⟩ = some (.int .u32 0) := (blk_cell BK246.out 7).trans rfl; have hcz17_8 : w16.cell? ⟨gb246, 8, none⟩ = some (.int .u32 0) := (blk_cell BK246.out 8).trans rfl; have hcz17_9 : w16.cell? ⟨gb246, 9, none⟩ = some (.int .u32 0) := (blk_cell BK246.out 9).trans rfl; have hcz17_10 : w16.cell? ⟨gb246, 10, none⟩ = some (.int .u32 0) := (blk_cell BK246.out 10).trans rfl; have hcz17_11 : w16.cell? ⟨gb246, 11, none⟩ = some (.int .u32 0) := (blk_cell BK246.out 11).trans rfl; have hfz17_0 := blk_frozen BK246.out 0; have hfz17_1 := blk_frozen BK246.out 1; have hfz17_2 := blk_frozen BK246.out 2; have hfz17_3 := blk_frozen BK246.out 3; have hfz17_4 := blk_frozen BK246.out 4; have hfz17_5 := blk_frozen BK246.out 5; have hfz17_6 := blk_frozen BK246.out 6; have hfz17_7 := blk_frozen BK246.out 7; have hfz17_8 := blk_frozen BK246.out 8; have hfz17_9 := blk_frozen BK246.out 9; have hfz17_10 := blk_frozen BK246.out 10; have hfz17_11 := blk_frozen BK246.out 11) | ((with_reducible refine gate_builtin (b := .append) (xs := #[.tmp 38, .tmp 40]) rfl ?_); at_builtin; refine Kd.R_append k42 (w0 := w) w.heap.size rfl (.tmp 38) (.tmp 40) 54 42 (.agg #[(.int .i64 0), (.int .u16 0), (.int .u16 0), (.int .u32 0), (.int .u64 0), (.int .i64 0), (.int .u32 0), (.int .u32 0), (.int .u32 0), (.int .u32 0), (.int .u32 0), (.int .u32 0)]) 56 rfl Try.underlying54 info42 rfl (by decide) (by omega) u4 x4_3 (⟨t233, t234, t235, t236, t237, t238, (⟨t239, t240, t241, t242, t243, t244⟩ : S40)⟩ : S42) [.int .i64 t233, .int .u16 t234, .int .u16 t235, .int .u32 t236, .int .u64 t237, .int .i64 t238, .int .u32 t239, .int .u32 t240, .int .u32 t241, .int .u32 t242, .int .u32 t243, .int .u32 t244] (fun k_ => k_ ≠ gb246) (fun _ => False) rfl (by first | (go_simp; done) | (go_simp; rfl)) ?aP (fun _ hk => hk.elim) ?aF ?aO ?aB ?aS ?aL ?_; (case aP => exact k42_mkM _ _ _ (⟨t233, t234, t235, t236, t237, t238, (⟨t239, t240, t241, t242, t243, t244⟩ : S40)⟩ : S42)); (case aB => exact (by repeat (first | (with_reducible first | exact HB.out | apply below_alloc | apply pw_below_drewN | apply below_drew1 | refine below_set ?_ GE246.out) | exact HB.out))); (case aF => exact (fun k_ hk => Kd.freshB (g := gb246) (o := .cells #[.int .i64 t233, .int .u16 t234, .int .u16 t235, .int .u32 t236, .int .u64 t237, .int .i64 t238, .int .u32 t239, .int .u32 t240, .int .u32 t241, .int .u32 t242, .int .u32 t243, .int .u32 t244] 42 (0, 0)) (by (with_reducible repeat (first | refine blk_drewN ?_ _ | refine blk_drew ?_ | refine blk_alloc ?_ _)); refine blk_put (cs := #[.int .i64 t233, .int .u16 t234, .int .u16 t235, .int .u32 t236, .int .u64 t237, .int .i64 t238, .int .u32 t239, .int .u32 t240, .int .u32 t241, .int .u32 t242, .int .u32 t243, .int .u32 0]) ?_ 11 _ rfl; (with_reducible repeat (first | refine blk_drewN ?_ _ | refine blk_drew ?_ | refine blk_alloc ?_ _)); refine blk_put (cs := #[.int .i64 t233, .int .u16 t234, .int .u16 t235, .int .u32 t236, .int .u64 t237, .int .i64 t238, .int .u32 t239, .int .u32 t240, .int .u32 t241, .int .u32 t242, .int .u32 0, .int .u32 0]) ?_ 10 _ rfl; (with_reducible repeat (first | refine blk_drewN ?_ _ | refine blk_drew ?_ | refine blk_alloc ?_ _)); refine blk_put (cs := #[.int .i64 t233, .int .u16 t234, .int .u16 t235, .int .u32 t236, .int .u64 t237, .int .i64 t238, .int .u32 t239, .int .u32 t240, .int .u32 t241, .int .u32 0, .int .u32 0, .int .u32 0]) ?_ 9 _ rfl; (with_reducible repeat (first | refine blk_drewN ?_ _ | refine blk_drew ?_ | refine blk_alloc ?_ _)); refine blk_put (cs := #[.int .i64 t233, .int .u16 t234, .int .u16 t235, .int .u32 t236, .int .u64 t237, .int .i64 t238, .int .u32 t239, .int .u32 t240, .int .u32 0, .int .u32 0, .int .u32 0, .int .u32 0]) ?_ 8 _ rfl; (with_reducible repeat (first | refine blk_drewN ?_ _ | refine blk_drew ?_ | refine blk_alloc ?_ _)); refine blk_put (cs := #[.int .i64 t233, .int .u16 t234, .int .u16 t235, .int .u32 t236, .int .u64 t237, .int .i64 t238, .int .u32 t239, .int .u32 0, .int .u32 0, .int .u32 0, .int .u32 0, .int .u32 0]) ?_ 7 _ rfl; (with_reducible repeat (first | refine blk_drewN ?_ _ | refine blk_drew ?_ | refine blk_alloc ?_ _)); refine blk_put (cs := #[.int .i64 t233, .int .u16 t234, .int .u16 t235, .int .u32 t236, .int .u64 t237, .int .i64 t238, .int .u32 0, .int .u32 0, .int .u32 0, .int .u32 0, .int .u32 0, .int .u32 0]) ?_ 6 _ rfl; (with_reducible repeat (first | refine blk_drewN ?_ _ | refine blk_drew ?_ | refine blk_alloc ?_ _)); refine blk_put (cs := #[.int .i64 t233, .int .u16 t234, .int .u16 t235, .int .u32 t236, .int .u64 t237, .int .i64 0, .int .u32 0, .int .u32 0, .int .u32 0, .int .u32 0, .int .u32 0, .int .u32 0]) ?_ 5 _ rfl; (with_reducible repeat (first | refine blk_drewN ?_ _ | refine blk_drew ?_ | refine blk_alloc ?_ _)); refine blk_put (cs := #[.int .i64 t233, .int .u16 t234, .int .u16 t235, .int .u32 t236, .int .u64 0, .int .i64 0, .int .u32 0, .int .u32 0, .int .u32 0, .int .u32 0, .int .u32 0, .int .u32 0]) ?_ 4 _ rfl; (with_reducible repeat (first | refine blk_drewN ?_ _ | refine blk_drew ?_ | refine blk_alloc ?_ _)); refine blk_put (cs := #[.int .i64 t233, .int .u16 t234, .int .u16 t235, .int .u32 0, .int .u64 0, .int .i64 0, .int .u32 0, .int .u32 0, .int .u32 0, .int .u32 0, .int .u32 0, .int .u32 0]) ?_ 3 _ rfl; (with_reducible repeat (first | refine blk_drewN ?_ _ | refine blk_drew ?_ | refine blk_alloc ?_ _)); refine blk_put (cs := #[.int .i64 t233, .int .u16 t234, .int .u16 0, .int .u32 0, .int .u64 0, .int .i64 0, .int .u32 0, .int .u32 0, .int .u32 0, .int .u32 0, .int .u32 0, .int .u32 0]) ?_ 2 _ rfl; (with_reducible repeat (first | refine blk_drewN ?_ _ | refine blk_drew ?_ | refine blk_alloc ?_ _)); refine blk_put (cs := #[.int .i64 t233, .int .u16 0, .int .u16 0, .int .u32 0, .int .u64 0, .int .i64 0, .int .u32 0, .int .u32 0, .int .u32 0, .int .u32 0, .int .u32 0, .int .u32 0]) ?_ 1 _ rfl; (with_reducible repeat (first | refine blk_drewN ?_ _ | refine blk_drew ?_ | refine blk_alloc ?_ _)); refine blk_put (cs := #[.int .i64 0, .int .u16 0, .int .u16 0, .int .u32 0, .int .u64 0, .int .i64 0, .int .u32 0, .int .u32 0, .int .u32 0, .int .u32 0, .int .u32 0, .int .u32 0]) ?_ 0 _ rfl; (with_reducible repeat (first | refine blk_drewN ?_ _ | refine blk_drew ?_ | refine blk_alloc ?_ _)); exact BK246.out) k_ hk)); (case aO => exact (by (with_reducible repeat (first | apply Kd.R_alloc | apply Kd.R_drewN | apply Kd.R_drew)); exact Kd.R_mono (Kd.R_far (p := ⟨gb246, 11, none⟩) (Kd.R_far (p := ⟨gb246, 10, none⟩) (Kd.R_far (p := ⟨gb246, 9, none⟩) (Kd.R_far (p := ⟨gb246, 8, none⟩) (Kd.R_far (p := ⟨gb246, 7, none⟩) (Kd.R_far (p := ⟨gb246, 6, none⟩) (Kd.R_far (p := ⟨gb246, 5, none⟩) (Kd.R_far (p := ⟨gb246, 4, none⟩) (Kd.R_far (p := ⟨gb246, 3, none⟩) (Kd.R_far (p := ⟨gb246, 2, none⟩) (Kd.R_far (p := ⟨gb246, 1, none⟩) (Kd.R_far (p := ⟨gb246, 0, none⟩) (Kd.R_mono HO_4.out (fun k_ hk => (⟨hk, hk.2⟩ : _ ∧ k_ ≠ gb246))) (fun _ hk => hk.2) (.int .i64 t233)) (fun _ hk => hk.2) (.int .u16 t234)) (fun _ hk => hk.2) (.int .u16 t235)) (fun _ hk => hk.2) (.int .u32 t236)) (fun _ hk => hk.2) (.int .u64 t237)) (fun _ hk => hk.2) (.int .i64 t238)) (fun _ hk => hk.2) (.int .u32 t239)) (fun _ hk => hk.2) (.int .u32 t240)) (fun _ hk => hk.2) (.int .u32 t241)) (fun _ hk => hk.2) (.int .u32 t242)) (fun _ hk => hk.2) (.int .u32 t243)) (fun _ hk => hk.2) (.int .u32 t244)) (fun _ hk => hk.1.2))); (case aS => exact (below_size (by repeat (first | (with_reducible first | exact HB.out | apply below_alloc | apply pw_below_drewN | apply below_drew1 | refine below_set ?_ GE246.out) | exact HB.out)))); (case aL => have := LMc14.out; omega); intro v248 w18 ho hb hg hat; rw [← Ny247.out] at ho; have n0_ := Aside0.mk (blk_grown (g := gb246) (o := .cells #[.int .i64 t233, .int .u16 t234, .int .u16 t235, .int .u32 t236, .int .u64 t237, .int .i64 t238, .int .u32 t239, .int .u32 t240, .int .u32 t241, .int .u32 t242, .int .u32 t243, .int .u32 t244] 42 (0, 0)) (by (with_reducible repeat (first | refine blk_drewN ?_ _ | refine blk_drew ?_ | refine blk_alloc ?_ _)); refine blk_put (cs := #[.int .i64 t233, .int .u16 t234, .int .u16 t235, .int .u32 t236, .int .u64 t237, .int .i64 t238, .int .u32 t239, .int .u32 t240, .int .u32 t241, .int .u32 t242, .int .u32 t243, .int .u32 0]) ?_ 11 _ rfl; (with_reducible repeat (first | refine blk_drewN ?_ _ | refine blk_drew ?_ | refine blk_alloc ?_ _)); refine blk_put (cs := #[.int .i64 t233, .int .u16 t234, .int .u16 t235, .int .u32 t236, .int .u64 t237, .int .i64 t238, .int .u32 t239, .int .u32 t240, .int .u32 t241, .int .u32 t242, .int .u32 0, .int .u32 0]) ?_ 10 _ rfl; (with_reducible repeat (first | refine blk_drewN ?_ _ | refine blk_drew ?_ | refine blk_alloc ?_ _)); refine blk_put (cs := #[.int .i64 t233, .int .u16 t234, .int .u16 t235, .int .u32 t236, .int .u64 t237, .int .i64 t238, .int .u32 t239, .int .u32 t240, .int .u32 t241, .int .u32 0, .int .u32 0, .int .u32 0]) ?_ 9 _ rfl; (with_reducible repeat (first | refine blk_drewN ?_ _ | refine blk_drew ?_ | refine blk_alloc ?_ _)); refine blk_put (cs := #[.int .i64 t233, .int .u16 t234, .int .u16 t235, .int .u32 t236, .int .u64 t237, .int .i64 t238, .int .u32 t239, .int .u32 t240, .int .u32 0, .int .u32 0, .int .u32 0, .int .u32 0]) ?_ 8 _ rfl; (with_reducible repeat (first | refine blk_drewN ?_ _ | refine blk_drew ?_ | refine blk_alloc ?_ _)); refine blk_put (cs := #[.int .i64 t233, .int .u16 t234, .int .u16 t235, .int .u32 t236, .int .u64 t237, .int .i64 t238, .int .u32 t239, .int .u32 0, .int .u32 0, .int .u32 0, .int .u32 0, .int .u32 0]) ?_ 7 _ rfl; (with_reducible repeat (first | refine blk_drewN ?_ _ | refine blk_drew ?_ | refine blk_alloc ?_ _)); refine blk_put (cs := #[.int .i64 t233, .int .u16 t234, .int .u16 t235, .int .u32 t236, .int .u64 t237, .int .i64 t238, .int .u32 0, .int .u32 0, .int .u32 0, .int .u32 0, .int .u32 0, .int .u32 0]) ?_ 6 _ rfl; (with_reducible repeat (first | refine blk_drewN ?_ _ | refine blk_drew ?_ | refine blk_alloc ?_ _)); refine blk_put (cs := #[.int .i64 t233, .int .u16 t234, .int .u16 t235, .int .u32 t236, .int .u64 t237, .int .i64 0, .int .u32 0, .int .u32 0, .int .u32 0, .int .u32 0, .int .u32 0, .int .u32 0]) ?_ 5 _ rfl; (with_reducible repeat (first | refine blk_drewN ?_ _ | refine blk_drew ?_ | refine blk_alloc ?_ _)); refine blk_put (cs := #[.int .i64 t233, .int .u16 t234, .int .u16 t235, .int .u32 t236, .int .u64 0, .int .i64 0, .int .u32 0, .int .u32 0, .int .u32 0, .int .u32 0, .int .u32 0, .int .u32 0]) ?_ 4 _ rfl; (with_reducible repeat (first | refine blk_drewN ?_ _ | refine blk_drew ?_ | refine blk_alloc ?_ _)); refine blk_put (cs := #[.int .i64 t233, .int .u16 t234, .int .u16 t235, .int .u32 0, .int .u64 0, .int .i64 0, .int .u32 0, .int .u32 0, .int .u32 0, .int .u32 0, .int .u32 0, .int .u32 0]) ?_ 3 _ rfl; (with_reducible repeat (first | refine blk_drewN ?_ _ | refine blk_drew ?_ | refine blk_alloc ?_ _)); refine blk_put (cs := #[.int .i64 t233, .int .u16 t234, .int .u16 0, .int .u32 0, .int .u64 0, .int .i64 0, .int .u32 0, .int .u32 0, .int .u32 0, .int .u32 0, .int .u32 0, .int .u32 0]) ?_ 2 _ rfl; (with_reducible repeat (first | refine blk_drewN ?_ _ | refine blk_drew ?_ | refine blk_alloc ?_ _)); refine blk_put (cs := #[.int .i64 t233, .int .u16 0, .int .u16 0, .int .u32 0, .int .u64 0, .int .i64 0, .int .u32 0, .int .u32 0, .int .u32 0, .int .u32 0, .int .u32 0, .int .u32 0]) ?_ 1 _ rfl; (with_reducible repeat (first | refine blk_drewN ?_ _ | refine blk_drew ?_ | refine blk_alloc ?_ _)); refine blk_put (cs := #[.int .i64 0, .int .u16 0, .int .u16 0, .int .u32 0, .int .u64 0, .int .i64 0, .int .u32 0, .int .u32 0, .int .u32 0, .int .u32 0, .int .u32 0, .int .u32 0]) ?_ 0 _ rfl; (with_reducible repeat (first | refine blk_drewN ?_ _ | refine blk_drew ?_ | refine blk_alloc ?_ _)); exact BK246.out) hg (Kd.R_away HO_4.out (fun _ hk => hk.2))); have n1_ := Aside0.mk (hb); have n2_ := Aside0.mk (ho); clear BK246; clear HB; clear HO_4; have BK246 := n0_; have HB := n1_; have HO249 := n2_; clear n0_ n1_ n2_; clear ho hb hg hat))
               go_roundg k3
               case measure => have := HK1.out; have := HJ5.out; have := HK3.out; omega
               case rel => exact ⟨(y247), (wrap64 (x27_3 + 1)), (by first | rfl | (simp; done) | (simp [*]; done)), H', ⟨by have := HK1.out; have := HJ5.out; have := HK3.out; omega⟩, ⟨by (with_reducible repeat (first | apply Kd.R_alloc | apply Kd.R_drewN | apply Kd.R_drew)); exact Kd.R_mono HO249.out (fun _ hk => trivial)⟩, ⟨by repeat (first | (with_reducible first | exact HB.out | apply below_alloc | apply pw_below_drewN | apply below_drew1 | refine below_set ?_ GE246.out) | exact HB.out)⟩⟩
              ·rw [if_neg c14] at H
               exact absurd H (by simp)
             ·rw [if_neg c13] at H
              have c13b0 : (t245 == 0) = false := beq_eq_false_iff_ne.mpr c13
              have c13b1 : (t245 != 0) = true := bne_iff_ne.mpr c13
              simp only [Option.some.injEq, Prod.mk.injEq] at H
              obtain ⟨rfl, rfl⟩ := H
              go_wp2_with (first | ((with_reducible refine gate_callee (f := 47) rfl ?_); refine goesL_ (some 33) rfl rfl Try.func47 (by kernel_rfl) rfl #[.string (rdOf ByteArray.empty l0 x15_1), .int .i64 x27_3] rfl (by (try simp only [List.map_toArray, List.map_cons, List.map_nil]); first | done | rfl | (simp only [List.length_drop, List.length_take]; rfl)) ?_; (with_reducible refine (inode_Get.calls (rdOf ByteArray.empty l0 x15_1) x27_3 t233 t234 t235 t236 t237 t238 t239 t240 t241 t242 t243 t244 t245 _ A12.out).mono ?_); rintro e w19 ⟨rfl, hb⟩; refine ⟨_, rfl, ?_⟩; have n0_ := Aside0.mk (Kd.R_below (by (with_reducible repeat (first | apply Kd.R_alloc | apply Kd.R_drewN | apply Kd.R_drew)); exact HO_4.out) hb); have n1_ := Aside0.mk (below_step (by repeat (first | (with_reducible first | exact HB.out | apply below_alloc | apply pw_below_drewN | apply below_drew1) | exact HB.out)) hb); clear HO_4; clear HB; have HO_4 := n0_; have HB := n1_; clear n0_ n1_; (try clear hb); (try clear hb2); (try clear hk); (try clear hi)) | ((with_reducible refine gate_dst (N := 8) rfl ?_); refine box_event ?hg (N := 8) ?hd (cs := #[.int .i64 0, .int .u16 0, .int .u16 0, .int .u32 0, .int .u64 0, .int .i64 0, .int .u32 0, .int .u32 0, .int .u32 0, .int .u32 0, .int .u32 0, .int .u32 0]) (t := 42) ?hr ?_; (case hd => rfl); (case hg => rfl); (case hr => first | (go_simp; done) | (go_simp; rfl)); intro gb246 hg w20 hbox hb; have n0_ := Aside0.mk (Kd.R_below (Kd.R_elderB (by (with_reducible repeat (first | apply Kd.R_alloc | apply Kd.R_drewN | apply Kd.R_drew)); exact HO_4.out) gb246 (Nat.le_of_eq hg.symm)) hb); have n1_ := Aside0.mk (below_step (by repeat (first | (with_reducible first | exact HB.out | apply below_alloc | apply pw_below_drewN | apply below_drew1) | exact HB.out)) hb); have n2_ := Aside0.mk (hbox); have n3_ := Aside0.mk ((by rw [hg]; exact (below_size (by repeat (first | (with_reducible first | exact HB.out | apply below_alloc | apply pw_below_drewN | apply below_drew1) | exact HB.out))) : w.heap.size ≤ gb246)); have n4_ := Aside0.mk ((by rw [hg]; exact (below_size (by repeat (first | (with_reducible first | exact HB.out | apply below_alloc | apply pw_below_drewN | apply below_drew1) | exact HB.out))) : w.heap.size ≤ gb246)); clear HO_4; clear HB; have HO_4 := n0_; have HB := n1_; have BK246 := n2_; have GW246 := n3_; have GE246 := n4_; clear n0_ n1_ n2_ n3_ n4_; clear hb hbox hg; have hcz21_0 : w20.cell? ⟨gb246, 0, none⟩ = some (.int .i64 0) := (blk_cell BK246.out 0).trans rfl; have hcz21_1 : w20.cell? ⟨gb246, 1, none⟩ = some (.int .u16 0) := (blk_cell BK246.out 1).trans rfl; have hcz21_2 : w20.cell? ⟨gb246, 2, none⟩ = some (.int .u16 0) := (blk_cell BK246.out 2).trans rfl; have hcz21_3 : w20.cell? ⟨gb246, 3, none⟩ = some (.int .u32 0) := (blk_cell BK246.out 3).trans rfl; have hcz21_4 : w20.cell? ⟨gb246, 4, none⟩ = some (.int .u64 0) := (blk_cell BK246.out 4).trans rfl; have hcz21_5 : w20.cell? ⟨gb246, 5, none⟩ = some (.int .i64 0) := (blk_cell BK246.out 5).trans rfl; have hcz21_6 : w20.cell? ⟨gb246, 6, none⟩ = some (.int .u32 0) := (blk_cell BK246.out 6).trans rfl; have hcz21_7 : w20.cell? ⟨gb246, 7, none⟩ = some (.int .u32 0) := (blk_cell BK246.out 7).trans rfl; have hcz21_8 : w20.cell? ⟨gb246, 8, none⟩ = some (.int .u32 0) := (blk_cell BK246.out 8).trans rfl; have hcz21_9 : w20.cell? ⟨gb246, 9, none⟩ = some (.int .u32 0) := (blk_cell BK246.out 9).trans rfl; have hcz21_10 : w20.cell? ⟨gb246, 10, none⟩ = some (.int .u32 0) := (blk_cell BK246.out 10).trans rfl; have hcz21_11 : w20.cell? ⟨gb246, 11, none⟩ = some (.int .u32 0) := (blk_cell BK246.out 11).trans rfl; have hfz21_0 := blk_frozen BK246.out 0; have hfz21_1 := blk_frozen BK246.out 1; have hfz21_2 := blk_frozen BK246.out 2; have hfz21_3 := blk_frozen BK246.out 3; have hfz21_4 := blk_frozen BK246.out 4; have hfz21_5 := blk_frozen BK246.out 5; have hfz21_6 := blk_frozen BK246.out 6; have hfz21_7 := blk_frozen BK246.out 7; have hfz21_8 := blk_frozen BK246.out 8; have hfz21_9 := blk_frozen BK246.out 9; have hfz21_10 := blk_frozen BK246.out 10; have hfz21_11 := blk_frozen BK246.out 11))
              go_ret2
              exact ⟨_, by first | rfl | (simp [errW_none, errW_some] <;> rfl) | (simp [*, errW_none, errW_some] <;> rfl), by first | exact Kd.R_nil _ _ _ _ _ | exact Kd.N_nil _ _ _ _ _ | exact Kd.V_nil _ _ _ _ _ | exact Kd.Q_nil _ _ _ _ _ | exact Kd.S_nil _ _ _ _ _, by repeat (first | (with_reducible first | exact HB.out | apply below_alloc | apply pw_below_drewN | apply below_drew1 | refine below_set ?_ GE246.out) | exact HB.out)⟩
            ·rw [if_neg c11] at H
             have c11b0 : decide (x27_3 < 12) = false := decide_eq_false c11
             clear c11
             have H' := Aside0.mk H
             clear H
             go_wp2
             go_roundg k3
             case measure => have := HK1.out; have := HJ5.out; have := HK3.out; omega
             case rel => exact ⟨(x4_3), (wrap64 (x15_1 + 1)), (by first | rfl | (simp; done) | (simp [*]; done)), H', ⟨by have := HK1.out; have := HJ5.out; have := HK3.out; omega⟩, ⟨by (with_reducible repeat (first | apply Kd.R_alloc | apply Kd.R_drewN | apply Kd.R_drew)); exact HO_4.out⟩, ⟨by repeat (first | (with_reducible first | exact HB.out | apply below_alloc | apply pw_below_drewN | apply below_drew1) | exact HB.out)⟩⟩
      ·rw [if_neg c5] at H
       exact absurd H (by simp)
     ·rw [if_neg c4] at H
      exact absurd H (by simp)
    ·rw [if_neg c3] at H
     have c3b0 : decide (x15_1 < (l0.length : Int)) = false := decide_eq_false c3
     clear c3
     simp only [Option.some.injEq, Prod.mk.injEq] at H
     obtain ⟨rfl, rfl⟩ := H
     go_wp2
     go_ret2
     exact ⟨_, by first | rfl | (simp [errW_none, errW_some] <;> rfl) | (simp [*, errW_none, errW_some] <;> rfl), by (with_reducible repeat (first | apply Kd.R_alloc | apply Kd.R_drewN | apply Kd.R_drew)); exact HO_4.out, by repeat (first | (with_reducible first | exact HB.out | apply below_alloc | apply pw_below_drewN | apply below_drew1) | exact HB.out)⟩

end Go.Proofs.Ytpcokafalmafgaa.Q
