/- Functions of the translation as plain Lean functions, and that the translation computes them: printed by this session's driver of the print. -/
import Derived.Test.YtpcokafalmafgaaQ0
import Derived.Test.YtpcokafalmafgaaHIEnc
import Derived.Test.YtpcokafalmafgaaHRep
namespace Go.Proofs.Ytpcokafalmafgaa.Q
open Go.Proofs.Ytpcokafalmafgaa.H
open Go.RowKit Go.Proofs.YtpcokafalmafgaaW.PrintWords Go.Proofs.YtpcokafalmafgaaW.PrintLast Go.Proofs.YtpcokafalmafgaaW.PrintMore
attribute [local go_sem] max2_int min2_int max_two min_two max_three min_three max_four min_four   -- for this text's walks alone
set_option linter.unusedVariables false
set_option linter.unusedSimpArgs false

/-! ### inode_isPlace: function 58 -/
def inode_isPlace.f (a0 : ByteArray) (a1 : Int) : Option (Bool) := if (a0.size : Int) = 508 then (if a1 ≥ 0 then (some (decide (a1 < 12))) else (some false)) else (some false)
set_option maxHeartbeats 8000000 in
set_option maxRecDepth 100000 in
theorem inode_isPlace.calls (a0 : ByteArray) (a1 : Int) (r : Bool) (w : World) (h : inode_isPlace.f a0 a1 = some r) :
  Calls Try.prog 58 #[.string a0, .int .i64 a1] w fun e w' => e = .returned (.bool r) ∧ Drawn0 w w' := by
 have H : (if (a0.size : Int) = 508 then (if a1 ≥ 0 then (some (decide (a1 < 12))) else (some false)) else (some false)) = some r := h
 clear h
 by_cases c3 : (a0.size : Int) = 508
 ·rw [if_pos c3] at H
  have c3b0 : ((a0.size : Int) == 508) = true := beq_iff_eq.mpr c3
  have c3b1 : ((a0.size : Int) != 508) = false := bne_eq_false_iff_eq.mpr c3
  clear c3
  by_cases c4 : a1 ≥ 0
  ·rw [if_pos c4] at H
   have c4b0 : decide (0 ≤ a1) = true := decide_eq_true c4
   clear c4
   obtain rfl := Option.some.inj H
   go_enter Try.func58, Try.ntmps58
   go_wp2
   go_ret
   exact ⟨by first | rfl | (simp; done) | (simp [*]; done), by repeat (first | exact Drawn0.refl _ | apply Drawn0.step)⟩
  ·rw [if_neg c4] at H
   have c4b0 : decide (0 ≤ a1) = false := decide_eq_false c4
   clear c4
   obtain rfl := Option.some.inj H
   go_enter Try.func58, Try.ntmps58
   go_wp2
   go_ret
   exact ⟨by first | rfl | (simp; done) | (simp [*]; done), by repeat (first | exact Drawn0.refl _ | apply Drawn0.step)⟩
 ·rw [if_neg c3] at H
  have c3b0 : ((a0.size : Int) == 508) = false := beq_eq_false_iff_ne.mpr c3
  have c3b1 : ((a0.size : Int) != 508) = true := bne_iff_ne.mpr c3
  obtain rfl := Option.some.inj H
  go_enter Try.func58, Try.ntmps58
  go_wp2
  go_ret
  exact ⟨by first | rfl | (simp; done) | (simp [*]; done), by repeat (first | exact Drawn0.refl _ | apply Drawn0.step)⟩

/-! ### inode_Put: function 45 -/
def inode_Put.f (a0 : ByteArray) (a1 : Int) (a2_0 : Int) (a2_1 : Int) (a2_2 : Int) (a2_3 : Int) (a2_4 : Int) (a2_5 : Int) (a2_6 : Int) (a2_7 : Int) (a2_8 : Int) (a2_9 : Int) (a2_10 : Int) (a2_11 : Int) : Option (ByteArray × Int) := (inode_isPlace.f a0 a1).bind fun t199 => (if t199 = true then ((inode_Encode.f a2_0 a2_1 a2_2 a2_3 a2_4 a2_5 a2_6 a2_7 a2_8 a2_9 a2_10 a2_11).bind fun bt200 => (if bt200.2 = 0 then (if 0 ≤ (wrap64 (a1 * 42)) then (if (wrap64 (a1 * 42)) ≤ (a0.size : Int) then (if (a0.extract 0 ((wrap64 (a1 * 42)) : Int).toNat).size + bt200.1.size ≤ 9223372036854775807 then (if 0 ≤ (wrap64 ((wrap64 (a1 * 42)) + 42)) then (if (wrap64 ((wrap64 (a1 * 42)) + 42)) ≤ (a0.size : Int) then (if ((a0.extract 0 ((wrap64 (a1 * 42)) : Int).toNat) ++ bt200.1).size + (a0.extract ((wrap64 ((wrap64 (a1 * 42)) + 42)) : Int).toNat a0.size).size ≤ 9223372036854775807 then (some (((a0.extract 0 ((wrap64 (a1 * 42)) : Int).toNat) ++ bt200.1) ++ (a0.extract ((wrap64 ((wrap64 (a1 * 42)) + 42)) : Int).toNat a0.size), 0)) else (none)) else (none)) else (none)) else (none)) else (none)) else (none)) else (some ((⟨#[]⟩ : ByteArray), bt200.2)))) else (some ((⟨#[]⟩ : ByteArray), 2)))
set_option maxHeartbeats 8000000 in
set_option maxRecDepth 100000 in
theorem inode_Put.calls (a0 : ByteArray) (a1 : Int) (a2_0 : Int) (a2_1 : Int) (a2_2 : Int) (a2_3 : Int) (a2_4 : Int) (a2_5 : Int) (a2_6 : Int) (a2_7 : Int) (a2_8 : Int) (a2_9 : Int) (a2_10 : Int) (a2_11 : Int) (r1 : ByteArray) (r2 : Int) (w : World) (h : inode_Put.f a0 a1 a2_0 a2_1 a2_2 a2_3 a2_4 a2_5 a2_6 a2_7 a2_8 a2_9 a2_10 a2_11 = some (r1, r2)) :
  Calls Try.prog 45 #[.string a0, .int .i64 a1, .agg #[.int .i64 a2_0, .int .u16 a2_1, .int .u16 a2_2, .int .u32 a2_3, .int .u64 a2_4, .int .i64 a2_5, .int .u32 a2_6, .int .u32 a2_7, .int .u32 a2_8, .int .u32 a2_9, .int .u32 a2_10, .int .u32 a2_11]] w fun e w' => e = .returned (.tuple #[.string r1, .int .i64 r2]) ∧ Below w.heap.size w w' := by
 have hu42 := Try.underlying42
 have HB := Aside0.mk (Below.refl w.heap.size w)
 have H : ((inode_isPlace.f a0 a1).bind fun t199 => (if t199 = true then ((inode_Encode.f a2_0 a2_1 a2_2 a2_3 a2_4 a2_5 a2_6 a2_7 a2_8 a2_9 a2_10 a2_11).bind fun bt200 => (if bt200.2 = 0 then (if 0 ≤ (wrap64 (a1 * 42)) then (if (wrap64 (a1 * 42)) ≤ (a0.size : Int) then (if (a0.extract 0 ((wrap64 (a1 * 42)) : Int).toNat).size + bt200.1.size ≤ 9223372036854775807 then (if 0 ≤ (wrap64 ((wrap64 (a1 * 42)) + 42)) then (if (wrap64 ((wrap64 (a1 * 42)) + 42)) ≤ (a0.size : Int) then (if ((a0.extract 0 ((wrap64 (a1 * 42)) : Int).toNat) ++ bt200.1).size + (a0.extract ((wrap64 ((wrap64 (a1 * 42)) + 42)) : Int).toNat a0.size).size ≤ 9223372036854775807 then (some (((a0.extract 0 ((wrap64 (a1 * 42)) : Int).toNat) ++ bt200.1) ++ (a0.extract ((wrap64 ((wrap64 (a1 * 42)) + 42)) : Int).toNat a0.size), 0)) else (none)) else (none)) else (none)) else (none)) else (none)) else (none)) else (some ((⟨#[]⟩ : ByteArray), bt200.2)))) else (some ((⟨#[]⟩ : ByteArray), 2)))) = some (r1, r2) := h
 clear h
 replace H := Option.bind_eq_some_iff.mp H
 obtain ⟨t199, A40, H⟩ := H
 replace H : (if t199 = true then ((inode_Encode.f a2_0 a2_1 a2_2 a2_3 a2_4 a2_5 a2_6 a2_7 a2_8 a2_9 a2_10 a2_11).bind fun bt200 => (if bt200.2 = 0 then (if 0 ≤ (wrap64 (a1 * 42)) then (if (wrap64 (a1 * 42)) ≤ (a0.size : Int) then (if (a0.extract 0 ((wrap64 (a1 * 42)) : Int).toNat).size + bt200.1.size ≤ 9223372036854775807 then (if 0 ≤ (wrap64 ((wrap64 (a1 * 42)) + 42)) then (if (wrap64 ((wrap64 (a1 * 42)) + 42)) ≤ (a0.size : Int) then (if ((a0.extract 0 ((wrap64 (a1 * 42)) : Int).toNat) ++ bt200.1).size + (a0.extract ((wrap64 ((wrap64 (a1 * 42)) + 42)) : Int).toNat a0.size).size ≤ 9223372036854775807 then (some (((a0.extract 0 ((wrap64 (a1 * 42)) : Int).toNat) ++ bt200.1) ++ (a0.extract ((wrap64 ((wrap64 (a1 * 42)) + 42)) : Int).toNat a0.size), 0)) else (none)) else (none)) else (none)) else (none)) else (none)) else (none)) else (some ((⟨#[]⟩ : ByteArray), bt200.2)))) else (some ((⟨#[]⟩ : ByteArray), 2))) = some (r1, r2) := H
 have A4 := Aside0.mk A40
 clear A40
 by_cases c5 : t199 = true
 ·subst c5
  have H1 : ((inode_Encode.f a2_0 a2_1 a2_2 a2_3 a2_4 a2_5 a2_6 a2_7 a2_8 a2_9 a2_10 a2_11).bind fun bt200 => (if bt200.2 = 0 then (if 0 ≤ (wrap64 (a1 * 42)) then (if (wrap64 (a1 * 42)) ≤ (a0.size : Int) then (if (a0.extract 0 ((wrap64 (a1 * 42)) : Int).toNat).size + bt200.1.size ≤ 9223372036854775807 then (if 0 ≤ (wrap64 ((wrap64 (a1 * 42)) + 42)) then (if (wrap64 ((wrap64 (a1 * 42)) + 42)) ≤ (a0.size : Int) then (if ((a0.extract 0 ((wrap64 (a1 * 42)) : Int).toNat) ++ bt200.1).size + (a0.extract ((wrap64 ((wrap64 (a1 * 42)) + 42)) : Int).toNat a0.size).size ≤ 9223372036854775807 then (some (((a0.extract 0 ((wrap64 (a1 * 42)) : Int).toNat) ++ bt200.1) ++ (a0.extract ((wrap64 ((wrap64 (a1 * 42)) + 42)) : Int).toNat a0.size), 0)) else (none)) else (none)) else (none)) else (none)) else (none)) else (none)) else (some ((⟨#[]⟩ : ByteArray), bt200.2)))) = some (r1, r2) := by rw [if_pos rfl] at H; exact H
  clear H
  have H := H1
  clear H1
  replace H := Option.bind_eq_some_iff.mp H
  obtain ⟨⟨t200, t201⟩, A60, H⟩ := H
  replace H : (if t201 = 0 then (if 0 ≤ (wrap64 (a1 * 42)) then (if (wrap64 (a1 * 42)) ≤ (a0.size : Int) then (if (a0.extract 0 ((wrap64 (a1 * 42)) : Int).toNat).size + t200.size ≤ 9223372036854775807 then (if 0 ≤ (wrap64 ((wrap64 (a1 * 42)) + 42)) then (if (wrap64 ((wrap64 (a1 * 42)) + 42)) ≤ (a0.size : Int) then (if ((a0.extract 0 ((wrap64 (a1 * 42)) : Int).toNat) ++ t200).size + (a0.extract ((wrap64 ((wrap64 (a1 * 42)) + 42)) : Int).toNat a0.size).size ≤ 9223372036854775807 then (some (((a0.extract 0 ((wrap64 (a1 * 42)) : Int).toNat) ++ t200) ++ (a0.extract ((wrap64 ((wrap64 (a1 * 42)) + 42)) : Int).toNat a0.size), 0)) else (none)) else (none)) else (none)) else (none)) else (none)) else (none)) else (some ((⟨#[]⟩ : ByteArray), t201))) = some (r1, r2) := H
  have A6 := Aside0.mk A60
  clear A60
  by_cases c7 : t201 = 0
  ·rw [if_pos c7] at H
   have c7b0 : (t201 == 0) = true := beq_iff_eq.mpr c7
   have c7b1 : (t201 != 0) = false := bne_eq_false_iff_eq.mpr c7
   clear c7
   obtain ⟨ji8, hji8⟩ : ∃ j_ : Int, (wrap64 (a1 * 42)) = j_ := ⟨_, rfl⟩
   replace H : (if 0 ≤ (ji8) then (if (ji8) ≤ (a0.size : Int) then (if (a0.extract 0 ((ji8) : Int).toNat).size + t200.size ≤ 9223372036854775807 then (if 0 ≤ (wrap64 ((ji8) + 42)) then (if (wrap64 ((ji8) + 42)) ≤ (a0.size : Int) then (if ((a0.extract 0 ((ji8) : Int).toNat) ++ t200).size + (a0.extract ((wrap64 ((ji8) + 42)) : Int).toNat a0.size).size ≤ 9223372036854775807 then (some (((a0.extract 0 ((ji8) : Int).toNat) ++ t200) ++ (a0.extract ((wrap64 ((ji8) + 42)) : Int).toNat a0.size), 0)) else (none)) else (none)) else (none)) else (none)) else (none)) else (none)) = some (r1, r2) := by first | (rw [hji8] at H; exact H) | (simp only [hji8] at H ⊢; exact H)
   (try rw [hji8] at A4)
   (try rw [hji8] at A6)
   have hji8w : (IntKind.i64.wrap (a1 * 42)) = ji8 := (i64_w _).trans hji8
   by_cases c9 : 0 ≤ (ji8)
   ·rw [if_pos c9] at H
    have c9b0 := eq_true c9
    have c9b1 : decide (0 ≤ (ji8)) = true := decide_eq_true c9
    clear c9
    by_cases c10 : (ji8) ≤ (a0.size : Int)
    ·rw [if_pos c10] at H
     have c10b0 := eq_true c10
     have c10b1 : decide ((ji8) ≤ (a0.size : Int)) = true := decide_eq_true c10
     clear c10
     by_cases c11 : (a0.extract 0 ((ji8) : Int).toNat).size + t200.size ≤ 9223372036854775807
     ·rw [if_pos c11] at H
      have c11b0 := eq_true c11
      have c11b1 : decide ((a0.extract 0 ((ji8) : Int).toNat).size + t200.size ≤ 9223372036854775807) = true := decide_eq_true c11
      try have c11b2 : (9223372036854775807 < (a0.extract 0 ((ji8) : Int).toNat).size + t200.size) = False := eq_false (Nat.not_lt.2 c11)
      obtain ⟨ji12, hji12⟩ : ∃ j_ : Int, (wrap64 ((ji8) + 42)) = j_ := ⟨_, rfl⟩
      replace H : (if 0 ≤ (ji12) then (if (ji12) ≤ (a0.size : Int) then (if ((a0.extract 0 ((ji8) : Int).toNat) ++ t200).size + (a0.extract ((ji12) : Int).toNat a0.size).size ≤ 9223372036854775807 then (some (((a0.extract 0 ((ji8) : Int).toNat) ++ t200) ++ (a0.extract ((ji12) : Int).toNat a0.size), 0)) else (none)) else (none)) else (none)) = some (r1, r2) := by first | (rw [hji12] at H; exact H) | (simp only [hji12] at H ⊢; exact H)
      (try rw [hji12] at A4)
      (try rw [hji12] at A6)
      have hji12w : (IntKind.i64.wrap ((ji8) + 42)) = ji12 := (i64_w _).trans hji12
      by_cases c13 : 0 ≤ (ji12)
      ·rw [if_pos c13] at H
       have c13b0 := eq_true c13
       have c13b1 : decide (0 ≤ (ji12)) = true := decide_eq_true c13
       clear c13
       by_cases c14 : (ji12) ≤ (a0.size : Int)
       ·rw [if_pos c14] at H
        have c14b0 := eq_true c14
        have c14b1 : decide ((ji12) ≤ (a0.size : Int)) = true := decide_eq_true c14
        clear c14
        by_cases c15 : ((a0.extract 0 ((ji8) : Int).toNat) ++ t200).size + (a0.extract ((ji12) : Int).toNat a0.size).size ≤ 9223372036854775807
        ·rw [if_pos c15] at H
         have c15b0 := eq_true c15
         have c15b1 : decide (((a0.extract 0 ((ji8) : Int).toNat) ++ t200).size + (a0.extract ((ji12) : Int).toNat a0.size).size ≤ 9223372036854775807) = true := decide_eq_true c15
         try have c15b2 : (9223372036854775807 < ((a0.extract 0 ((ji8) : Int).toNat) ++ t200).size + (a0.extract ((ji12) : Int).toNat a0.size).size) = False := eq_false (Nat.not_lt.2 c15)
         simp only [Option.some.injEq, Prod.mk.injEq] at H
         obtain ⟨rfl, rfl⟩ := H
         go_enter Try.func45, Try.ntmps45
         iterate 3 ((try go_wp2_with (first | ((with_reducible refine gate_dst (N := 5) rfl ?_); refine box_event ?hg (N := 5) ?hd (cs := #[.int .i64 a2_0, .int .u16 a2_1, .int .u16 a2_2, .int .u32 a2_3, .int .u64 a2_4, .int .i64 a2_5, .int .u32 a2_6, .int .u32 a2_7, .int .u32 a2_8, .int .u32 a2_9, .int .u32 a2_10, .int .u32 a2_11]) (t := 42) ?hr ?_; (case hd => rfl); (case hg => rfl); (case hr => first | (go_simp; done) | (go_simp; rfl)); intro gb198 hg w16 hbox hb; have n0_ := Aside0.mk (below_step (by repeat (first | (with_reducible first | exact HB.out | apply below_alloc | apply pw_below_drewN | apply below_drew1) | exact HB.out)) hb); have n1_ := Aside0.mk (hbox); have n2_ := Aside0.mk ((by rw [hg]; exact (below_size (by repeat (first | (with_reducible first | exact HB.out | apply below_alloc | apply pw_below_drewN | apply below_drew1) | exact HB.out))) : w.heap.size ≤ gb198)); have n3_ := Aside0.mk ((by rw [hg]; exact (below_size (by repeat (first | (with_reducible first | exact HB.out | apply below_alloc | apply pw_below_drewN | apply below_drew1) | exact HB.out))) : w.heap.size ≤ gb198)); clear HB; have HB := n0_; have BK198 := n1_; have GW198 := n2_; have GE198 := n3_; clear n0_ n1_ n2_ n3_; clear hb hbox hg) | (go_at_call 58; (with_reducible refine (inode_isPlace.calls a0 a1 true _ A4.out).mono ?_); rintro e w' ⟨rfl, ⟨nd, rfl⟩⟩; (try first | exact ⟨rfl, _, World.drewN_drewN _ _ _⟩ | exact ⟨rfl, _, Eq.trans (World.drewN_drewN _ _ _) (congrArg (World.drewN _) (Nat.add_assoc _ _ _))⟩); have hcz17_0 : w16.cell? ⟨gb198, 0, none⟩ = some (.int .i64 a2_0) := (blk_cell BK198.out 0).trans rfl; have hcz17_1 : w16.cell? ⟨gb198, 1, none⟩ = some (.int .u16 a2_1) := (blk_cell BK198.out 1).trans rfl; have hcz17_2 : w16.cell? ⟨gb198, 2, none⟩ = some (.int .u16 a2_2) := (blk_cell BK198.out 2).trans rfl; have hcz17_3 : w16.cell? ⟨gb198, 3, none⟩ = some (.int .u32 a2_3) := (blk_cell BK198.out 3).trans rfl; have hcz17_4 : w16.cell? ⟨gb198, 4, none⟩ = some (.int .u64 a2_4) := (blk_cell BK198.out 4).trans rfl; have hcz17_5 : w16.cell? ⟨gb198, 5, none⟩ = some (.int .i64 a2_5) := (blk_cell BK198.out 5).trans rfl; have hcz17_6 : w16.cell? ⟨gb198, 6, none⟩ = some (.int .u32 a2_6) := (blk_cell BK198.out 6).trans rfl; have hcz17_7 : w16.cell? ⟨gb198, 7, none⟩ = some (.int .u32 a2_7) := (blk_cell BK198.out 7).trans rfl; have hcz17_8 : w16.cell? ⟨gb198, 8, none⟩ = some (.int .u32 a2_8) := (blk_cell BK198.out 8).trans rfl; have hcz17_9 : w16.cell? ⟨gb198, 9, none⟩ = some (.int .u32 a2_9) := (blk_cell BK198.out 9).trans rfl; have hcz17_10 : w16.cell? ⟨gb198, 10, none⟩ = some (.int .u32 a2_10) := (blk_cell BK198.out 10).trans rfl; have hcz17_11 : w16.cell? ⟨gb198, 11, none⟩ = some (.int .u32 a2_11) := (blk_cell BK198.out 11).trans rfl; have hfz17_0 := blk_frozen BK198.out 0; have hfz17_1 := blk_frozen BK198.out 1; have hfz17_2 := blk_frozen BK198.out 2; have hfz17_3 := blk_frozen BK198.out 3; have hfz17_4 := blk_frozen BK198.out 4; have hfz17_5 := blk_frozen BK198.out 5; have hfz17_6 := blk_frozen BK198.out 6; have hfz17_7 := blk_frozen BK198.out 7; have hfz17_8 := blk_frozen BK198.out 8; have hfz17_9 := blk_frozen BK198.out 9; have hfz17_10 := blk_frozen BK198.out 10; have hfz17_11 := blk_frozen BK198.out 11) | (go_at_call 59; (with_reducible refine (inode_Encode.calls a2_0 a2_1 a2_2 a2_3 a2_4 a2_5 a2_6 a2_7 a2_8 a2_9 a2_10 a2_11 t200 t201 _ A6.out).mono ?_); rintro e w18 ⟨rfl, hb⟩; have n0_ := Aside0.mk (blk_below (g := gb198) (o := .cells #[.int .i64 a2_0, .int .u16 a2_1, .int .u16 a2_2, .int .u32 a2_3, .int .u64 a2_4, .int .i64 a2_5, .int .u32 a2_6, .int .u32 a2_7, .int .u32 a2_8, .int .u32 a2_9, .int .u32 a2_10, .int .u32 a2_11] 42 (0, 0)) (by (with_reducible repeat (first | refine blk_drewN ?_ _ | refine blk_drew ?_ | refine blk_alloc ?_ _)); exact BK198.out) hb); have n1_ := Aside0.mk (below_step (by repeat (first | (with_reducible first | exact HB.out | apply below_alloc | apply pw_below_drewN | apply below_drew1 | refine below_set ?_ GE198.out) | exact HB.out)) hb); clear BK198; clear HB; have BK198 := n0_; have HB := n1_; clear n0_ n1_; (try clear hb); (try clear hb2); (try clear hk); (try clear hi)))); (try go_quiet (first | ((with_reducible refine gate_dst (N := 5) rfl ?_); refine box_event ?hg (N := 5) ?hd (cs := #[.int .i64 a2_0, .int .u16 a2_1, .int .u16 a2_2, .int .u32 a2_3, .int .u64 a2_4, .int .i64 a2_5, .int .u32 a2_6, .int .u32 a2_7, .int .u32 a2_8, .int .u32 a2_9, .int .u32 a2_10, .int .u32 a2_11]) (t := 42) ?hr ?_; (case hd => rfl); (case hg => rfl); (case hr => first | (go_simp; done) | (go_simp; rfl)); intro gb198 hg w16 hbox hb; have n0_ := Aside0.mk (below_step (by repeat (first | (with_reducible first | exact HB.out | apply below_alloc | apply pw_below_drewN | apply below_drew1) | exact HB.out)) hb); have n1_ := Aside0.mk (hbox); have n2_ := Aside0.mk ((by rw [hg]; exact (below_size (by repeat (first | (with_reducible first | exact HB.out | apply below_alloc | apply pw_below_drewN | apply below_drew1) | exact HB.out))) : w.heap.size ≤ gb198)); have n3_ := Aside0.mk ((by rw [hg]; exact (below_size (by repeat (first | (with_reducible first | exact HB.out | apply below_alloc | apply pw_below_drewN | apply below_drew1) | exact HB.out))) : w.heap.size ≤ gb198)); clear HB; have HB := n0_; have BK198 := n1_; have GW198 := n2_; have GE198 := n3_; clear n0_ n1_ n2_ n3_; clear hb hbox hg) | (go_at_call 58; (with_reducible refine (inode_isPlace.calls a0 a1 true _ A4.out).mono ?_); rintro e w' ⟨rfl, ⟨nd, rfl⟩⟩; (try first | exact ⟨rfl, _, World.drewN_drewN _ _ _⟩ | exact ⟨rfl, _, Eq.trans (World.drewN_drewN _ _ _) (congrArg (World.drewN _) (Nat.add_assoc _ _ _))⟩); have hcz17_0 : w16.cell? ⟨gb198, 0, none⟩ = some (.int .i64 a2_0) := (blk_cell BK198.out 0).trans rfl; have hcz17_1 : w16.cell? ⟨gb198, 1, none⟩ = some (.int .u16 a2_1) := (blk_cell BK198.out 1).trans rfl; have hcz17_2 : w16.cell? ⟨gb198, 2, none⟩ = some (.int .u16 a2_2) := (blk_cell BK198.out 2).trans rfl; have hcz17_3 : w16.cell? ⟨gb198, 3, none⟩ = some (.int .u32 a2_3) := (blk_cell BK198.out 3).trans rfl; have hcz17_4 : w16.cell? ⟨gb198, 4, none⟩ = some (.int .u64 a2_4) := (blk_cell BK198.out 4).trans rfl; have hcz17_5 : w16.cell? ⟨gb198, 5, none⟩ = some (.int .i64 a2_5) := (blk_cell BK198.out 5).trans rfl; have hcz17_6 : w16.cell? ⟨gb198, 6, none⟩ = some (.int .u32 a2_6) := (blk_cell BK198.out 6).trans rfl; have hcz17_7 : w16.cell? ⟨gb198, 7, none⟩ = some (.int .u32 a2_7) := (blk_cell BK198.out 7).trans rfl; have hcz17_8 : w16.cell? ⟨gb198, 8, none⟩ = some (.int .u32 a2_8) := (blk_cell BK198.out 8).trans rfl; have hcz17_9 : w16.cell? ⟨gb198, 9, none⟩ = some (.int .u32 a2_9) := (blk_cell BK198.out 9).trans rfl; have hcz17_10 : w16.cell? ⟨gb198, 10, none⟩ = some (.int .u32 a2_10) := (blk_cell BK198.out 10).trans rfl; have hcz17_11 : w16.cell? ⟨gb198, 11, none⟩ = some (.int .u32 a2_11) := (blk_cell BK198.out 11).trans rfl; have hfz17_0 := blk_frozen BK198.out 0; have hfz17_1 := blk_frozen BK198.out 1; have hfz17_2 := blk_frozen BK198.out 2; have hfz17_3 := blk_frozen BK198.out 3; have hfz17_4 := blk_frozen BK198.out 4; have hfz17_5 := blk_frozen BK198.out 5; have hfz17_6 := blk_frozen BK198.out 6; have hfz17_7 := blk_frozen BK198.out 7; have hfz17_8 := blk_frozen BK198.out 8; have hfz17_9 := blk_frozen BK198.out 9; have hfz17_10 := blk_frozen BK198.out 10; have hfz17_11 := blk_frozen BK198.out 11) | (go_at_call 59; (with_reducible refine (inode_Encode.calls a2_0 a2_1 a2_2 a2_3 a2_4 a2_5 a2_6 a2_7 a2_8 a2_9 a2_10 a2_11 t200 t201 _ A6.out).mono ?_); rintro e w18 ⟨rfl, hb⟩; have n0_ := Aside0.mk (blk_below (g := gb198) (o := .cells #[.int .i64 a2_0, .int .u16 a2_1, .int .u16 a2_2, .int .u32 a2_3, .int .u64 a2_4, .int .i64 a2_5, .int .u32 a2_6, .int .u32 a2_7, .int .u32 a2_8, .int .u32 a2_9, .int .u32 a2_10, .int .u32 a2_11] 42 (0, 0)) (by (with_reducible repeat (first | refine blk_drewN ?_ _ | refine blk_drew ?_ | refine blk_alloc ?_ _)); exact BK198.out) hb); have n1_ := Aside0.mk (below_step (by repeat (first | (with_reducible first | exact HB.out | apply below_alloc | apply pw_below_drewN | apply below_drew1 | refine below_set ?_ GE198.out) | exact HB.out)) hb); clear BK198; clear HB; have BK198 := n0_; have HB := n1_; clear n0_ n1_; (try clear hb); (try clear hb2); (try clear hk); (try clear hi)))))
         go_ret2
         exact ⟨by first | rfl | (simp [errW_none, errW_some] <;> rfl) | (simp only [← hji8, ← hji12]; first | rfl | (simp [errW_none, errW_some] <;> rfl)) | (simp [*, errW_none, errW_some] <;> rfl) | (simp [show IntKind.u64.wrap 0 = 0 from rfl, Int.zero_tdiv]; done), by repeat (first | (with_reducible first | exact HB.out | apply below_alloc | apply pw_below_drewN | apply below_drew1 | refine below_set ?_ GE198.out) | exact HB.out)⟩
        ·rw [if_neg c15] at H
         exact absurd H (by simp)
       ·rw [if_neg c14] at H
        exact absurd H (by simp)
      ·rw [if_neg c13] at H
       exact absurd H (by simp)
     ·rw [if_neg c11] at H
      exact absurd H (by simp)
    ·rw [if_neg c10] at H
     exact absurd H (by simp)
   ·rw [if_neg c9] at H
    exact absurd H (by simp)
  ·rw [if_neg c7] at H
   have c7b0 : (t201 == 0) = false := beq_eq_false_iff_ne.mpr c7
   have c7b1 : (t201 != 0) = true := bne_iff_ne.mpr c7
   simp only [Option.some.injEq, Prod.mk.injEq] at H
   obtain ⟨rfl, rfl⟩ := H
   go_enter Try.func45, Try.ntmps45
   iterate 3 ((try go_wp2_with (first | ((with_reducible refine gate_dst (N := 5) rfl ?_); refine box_event ?hg (N := 5) ?hd (cs := #[.int .i64 a2_0, .int .u16 a2_1, .int .u16 a2_2, .int .u32 a2_3, .int .u64 a2_4, .int .i64 a2_5, .int .u32 a2_6, .int .u32 a2_7, .int .u32 a2_8, .int .u32 a2_9, .int .u32 a2_10, .int .u32 a2_11]) (t := 42) ?hr ?_; (case hd => rfl); (case hg => rfl); (case hr => first | (go_simp; done) | (go_simp; rfl)); intro gb198 hg w19 hbox hb; have n0_ := Aside0.mk (below_step (by repeat (first | (with_reducible first | exact HB.out | apply below_alloc | apply pw_below_drewN | apply below_drew1) | exact HB.out)) hb); have n1_ := Aside0.mk (hbox); have n2_ := Aside0.mk ((by rw [hg]; exact (below_size (by repeat (first | (with_reducible first | exact HB.out | apply below_alloc | apply pw_below_drewN | apply below_drew1) | exact HB.out))) : w.heap.size ≤ gb198)); have n3_ := Aside0.mk ((by rw [hg]; exact (below_size (by repeat (first | (with_reducible first | exact HB.out | apply below_alloc | apply pw_below_drewN | apply below_drew1) | exact HB.out))) : w.heap.size ≤ gb198)); clear HB; have HB := n0_; have BK198 := n1_; have GW198 := n2_; have GE198 := n3_; clear n0_ n1_ n2_ n3_; clear hb hbox hg) | (go_at_call 58; (with_reducible refine (inode_isPlace.calls a0 a1 true _ A4.out).mono ?_); rintro e w' ⟨rfl, ⟨nd, rfl⟩⟩; (try first | exact ⟨rfl, _, World.drewN_drewN _ _ _⟩ | exact ⟨rfl, _, Eq.trans (World.drewN_drewN _ _ _) (congrArg (World.drewN _) (Nat.add_assoc _ _ _))⟩); have hcz20_0 : w19.cell? ⟨gb198, 0, none⟩ = some (.int .i64 a2_0) := (blk_cell BK198.out 0).trans rfl; have hcz20_1 : w19.cell? ⟨gb198, 1, none⟩ = some (.int .u16 a2_1) := (blk_cell BK198.out 1).trans rfl; have hcz20_2 : w19.cell? ⟨gb198, 2, none⟩ = some (.int .u16 a2_2) := (blk_cell BK198.out 2).trans rfl; have hcz20_3 : w19.cell? ⟨gb198, 3, none⟩ = some (.int .u32 a2_3) := (blk_cell BK198.out 3).trans rfl; have hcz20_4 : w19.cell? ⟨gb198, 4, none⟩ = some (.int .u64 a2_4) := (blk_cell BK198.out 4).trans rfl; have hcz20_5 : w19.cell? ⟨gb198, 5, none⟩ = some (.int .i64 a2_5) := (blk_cell BK198.out 5).trans rfl; have hcz20_6 : w19.cell? ⟨gb198, 6, none⟩ = some (.int .u32 a2_6) := (blk_cell BK198.out 6).trans rfl; have hcz20_7 : w19.cell? ⟨gb198, 7, none⟩ = some (.int .u32 a2_7) := (blk_cell BK198.out 7).trans rfl; have hcz20_8 : w19.cell? ⟨gb198, 8, none⟩ = some (.int .u32 a2_8) := (blk_cell BK198.out 8).trans rfl; have hcz20_9 : w19.cell? ⟨gb198, 9, none⟩ = some (.int .u32 a2_9) := (blk_cell BK198.out 9).trans rfl; have hcz20_10 : w19.cell? ⟨gb198, 10, none⟩ = some (.int .u32 a2_10) := (blk_cell BK198.out 10).trans rfl; have hcz20_11 : w19.cell? ⟨gb198, 11, none⟩ = some (.int .u32 a2_11) := (blk_cell BK198.out 11).trans rfl; have hfz20_0 := blk_frozen BK198.out 0; have hfz20_1 := blk_frozen BK198.out 1; have hfz20_2 := blk_frozen BK198.out 2; have hfz20_3 := blk_frozen BK198.out 3; have hfz20_4 := blk_frozen BK198.out 4; have hfz20_5 := blk_frozen BK198.out 5; have hfz20_6 := blk_frozen BK198.out 6; have hfz20_7 := blk_frozen BK198.out 7; have hfz20_8 := blk_frozen BK198.out 8; have hfz20_9 := blk_frozen BK198.out 9; have hfz20_10 := blk_frozen BK198.out 10; have hfz20_11 := blk_frozen BK198.out 11) | (go_at_call 59; (with_reducible refine (inode_Encode.calls a2_0 a2_1 a2_2 a2_3 a2_4 a2_5 a2_6 a2_7 a2_8 a2_9 a2_10 a2_11 t200 t201 _ A6.out).mono ?_); rintro e w21 ⟨rfl, hb⟩; have n0_ := Aside0.mk (blk_below (g := gb198) (o := .cells #[.int .i64 a2_0, .int .u16 a2_1, .int .u16 a2_2, .int .u32 a2_3, .int .u64 a2_4, .int .i64 a2_5, .int .u32 a2_6, .int .u32 a2_7, .int .u32 a2_8, .int .u32 a2_9, .int .u32 a2_10, .int .u32 a2_11] 42 (0, 0)) (by (with_reducible repeat (first | refine blk_drewN ?_ _ | refine blk_drew ?_ | refine blk_alloc ?_ _)); exact BK198.out) hb); have n1_ := Aside0.mk (below_step (by repeat (first | (with_reducible first | exact HB.out | apply below_alloc | apply pw_below_drewN | apply below_drew1 | refine below_set ?_ GE198.out) | exact HB.out)) hb); clear BK198; clear HB; have BK198 := n0_; have HB := n1_; clear n0_ n1_; (try clear hb); (try clear hb2); (try clear hk); (try clear hi)))); (try go_quiet (first | ((with_reducible refine gate_dst (N := 5) rfl ?_); refine box_event ?hg (N := 5) ?hd (cs := #[.int .i64 a2_0, .int .u16 a2_1, .int .u16 a2_2, .int .u32 a2_3, .int .u64 a2_4, .int .i64 a2_5, .int .u32 a2_6, .int .u32 a2_7, .int .u32 a2_8, .int .u32 a2_9, .int .u32 a2_10, .int .u32 a2_11]) (t := 42) ?hr ?_; (case hd => rfl); (case hg => rfl); (case hr => first | (go_simp; done) | (go_simp; rfl)); intro gb198 hg w19 hbox hb; have n0_ := Aside0.mk (below_step (by repeat (first | (with_reducible first | exact HB.out | apply below_alloc | apply pw_below_drewN | apply below_drew1) | exact HB.out)) hb); have n1_ := Aside0.mk (hbox); have n2_ := Aside0.mk ((by rw [hg]; exact (below_size (by repeat (first | (with_reducible first | exact HB.out | apply below_alloc | apply pw_below_drewN | apply below_drew1) | exact HB.out))) : w.heap.size ≤ gb198)); have n3_ := Aside0.mk ((by rw [hg]; exact (below_size (by repeat (first | (with_reducible first | exact HB.out | apply below_alloc | apply pw_below_drewN | apply below_drew1) | exact HB.out))) : w.heap.size ≤ gb198)); clear HB; have HB := n0_; have BK198 := n1_; have GW198 := n2_; have GE198 := n3_; clear n0_ n1_ n2_ n3_; clear hb hbox hg) | (go_at_call 58; (with_reducible refine (inode_isPlace.calls a0 a1 true _ A4.out).mono ?_); rintro e w' ⟨rfl, ⟨nd, rfl⟩⟩; (try first | exact ⟨rfl, _, World.drewN_drewN _ _ _⟩ | exact ⟨rfl, _, Eq.trans (World.drewN_drewN _ _ _) (congrArg (World.drewN _) (Nat.add_assoc _ _ _))⟩); have hcz20_0 : w19.cell? ⟨gb198, 0, none⟩ = some (.int .i64 a2_0) := (blk_cell BK198.out 0).trans rfl; have hcz20_1 : w19.cell? ⟨gb198, 1, none⟩ = some (.int .u16 a2_1) := (blk_cell BK198.out 1).trans rfl; have hcz20_2 : w19.cell? ⟨gb198, 2, none⟩ = some (.int .u16 a2_2) := (blk_cell BK198.out 2).trans rfl; have hcz20_3 : w19.cell? ⟨gb198, 3, none⟩ = some (.int .u32 a2_3) := (blk_cell BK198.out 3).trans rfl; have hcz20_4 : w19.cell? ⟨gb198, 4, none⟩ = some (.int .u64 a2_4) := (blk_cell BK198.out 4).trans rfl; have hcz20_5 : w19.cell? ⟨gb198, 5, none⟩ = some (.int .i64 a2_5) := (blk_cell BK198.out 5).trans rfl; have hcz20_6 : w19.cell? ⟨gb198, 6, none⟩ = some (.int .u32 a2_6) := (blk_cell BK198.out 6).trans rfl; have hcz20_7 : w19.cell? ⟨gb198, 7, none⟩ = some (.int .u32 a2_7) := (blk_cell BK198.out 7).trans rfl; have hcz20_8 : w19.cell? ⟨gb198, 8, none⟩ = some (.int .u32 a2_8) := (blk_cell BK198.out 8).trans rfl; have hcz20_9 : w19.cell? ⟨gb198, 9, none⟩ = some (.int .u32 a2_9) := (blk_cell BK198.out 9).trans rfl; have hcz20_10 : w19.cell? ⟨gb198, 10, none⟩ = some (.int .u32 a2_10) := (blk_cell BK198.out 10).trans rfl; have hcz20_11 : w19.cell? ⟨gb198, 11, none⟩ = some (.int .u32 a2_11) := (blk_cell BK198.out 11).trans rfl; have hfz20_0 := blk_frozen BK198.out 0; have hfz20_1 := blk_frozen BK198.out 1; have hfz20_2 := blk_frozen BK198.out 2; have hfz20_3 := blk_frozen BK198.out 3; have hfz20_4 := blk_frozen BK198.out 4; have hfz20_5 := blk_frozen BK198.out 5; have hfz20_6 := blk_frozen BK198.out 6; have hfz20_7 := blk_frozen BK198.out 7; have hfz20_8 := blk_frozen BK198.out 8; have hfz20_9 := blk_frozen BK198.out 9; have hfz20_10 := blk_frozen BK198.out 10; have hfz20_11 := blk_frozen BK198.out 11) | (go_at_call 59; (with_reducible refine (inode_Encode.calls a2_0 a2_1 a2_2 a2_3 a2_4 a2_5 a2_6 a2_7 a2_8 a2_9 a2_10 a2_11 t200 t201 _ A6.out).mono ?_); rintro e w21 ⟨rfl, hb⟩; have n0_ := Aside0.mk (blk_below (g := gb198) (o := .cells #[.int .i64 a2_0, .int .u16 a2_1, .int .u16 a2_2, .int .u32 a2_3, .int .u64 a2_4, .int .i64 a2_5, .int .u32 a2_6, .int .u32 a2_7, .int .u32 a2_8, .int .u32 a2_9, .int .u32 a2_10, .int .u32 a2_11] 42 (0, 0)) (by (with_reducible repeat (first | refine blk_drewN ?_ _ | refine blk_drew ?_ | refine blk_alloc ?_ _)); exact BK198.out) hb); have n1_ := Aside0.mk (below_step (by repeat (first | (with_reducible first | exact HB.out | apply below_alloc | apply pw_below_drewN | apply below_drew1 | refine below_set ?_ GE198.out) | exact HB.out)) hb); clear BK198; clear HB; have BK198 := n0_; have HB := n1_; clear n0_ n1_; (try clear hb); (try clear hb2); (try clear hk); (try clear hi)))))
   go_ret2
   exact ⟨by first | rfl | (simp [errW_none, errW_some] <;> rfl) | (simp [*, errW_none, errW_some] <;> rfl) | (simp [show IntKind.u64.wrap 0 = 0 from rfl, Int.zero_tdiv]; done), by repeat (first | (with_reducible first | exact HB.out | apply below_alloc | apply pw_below_drewN | apply below_drew1 | refine below_set ?_ GE198.out) | exact HB.out)⟩
 ·replace c5 := Bool.eq_false_iff.mpr c5
  subst c5
  have H1 : (some ((⟨#[]⟩ : ByteArray), 2)) = some (r1, r2) := by rw [if_neg (show ¬ (false = true) by decide)] at H; exact H
  clear H
  have H := H1
  clear H1
  simp only [Option.some.injEq, Prod.mk.injEq] at H
  obtain ⟨rfl, rfl⟩ := H
  go_enter Try.func45, Try.ntmps45
  iterate 3 ((try go_wp2_with (first | ((with_reducible refine gate_dst (N := 5) rfl ?_); refine box_event ?hg (N := 5) ?hd (cs := #[.int .i64 a2_0, .int .u16 a2_1, .int .u16 a2_2, .int .u32 a2_3, .int .u64 a2_4, .int .i64 a2_5, .int .u32 a2_6, .int .u32 a2_7, .int .u32 a2_8, .int .u32 a2_9, .int .u32 a2_10, .int .u32 a2_11]) (t := 42) ?hr ?_; (case hd => rfl); (case hg => rfl); (case hr => first | (go_simp; done) | (go_simp; rfl)); intro gb198 hg w22 hbox hb; have n0_ := Aside0.mk (below_step (by repeat (first | (with_reducible first | exact HB.out | apply below_alloc | apply pw_below_drewN | apply below_drew1) | exact HB.out)) hb); have n1_ := Aside0.mk (hbox); have n2_ := Aside0.mk ((by rw [hg]; exact (below_size (by repeat (first | (with_reducible first | exact HB.out | apply below_alloc | apply pw_below_drewN | apply below_drew1) | exact HB.out))) : w.heap.size ≤ gb198)); have n3_ := Aside0.mk ((by rw [hg]; exact (below_size (by repeat (first | (with_reducible first | exact HB.out | apply below_alloc | apply pw_below_drewN | apply below_drew1) | exact HB.out))) : w.heap.size ≤ gb198)); clear HB; have HB := n0_; have BK198 := n1_; have GW198 := n2_; have GE198 := n3_; clear n0_ n1_ n2_ n3_; clear hb hbox hg) | (go_at_call 58; (with_reducible refine (inode_isPlace.calls a0 a1 false _ A4.out).mono ?_); rintro e w' ⟨rfl, ⟨nd, rfl⟩⟩; (try first | exact ⟨rfl, _, World.drewN_drewN _ _ _⟩ | exact ⟨rfl, _, Eq.trans (World.drewN_drewN _ _ _) (congrArg (World.drewN _) (Nat.add_assoc _ _ _))⟩)))); (try go_quiet (first | ((with_reducible refine gate_dst (N := 5) rfl ?_); refine box_event ?hg (N := 5) ?hd (cs := #[.int .i64 a2_0, .int .u16 a2_1, .int .u16 a2_2, .int .u32 a2_3, .int .u64 a2_4, .int .i64 a2_5, .int .u32 a2_6, .int .u32 a2_7, .int .u32 a2_8, .int .u32 a2_9, .int .u32 a2_10, .int .u32 a2_11]) (t := 42) ?hr ?_; (case hd => rfl); (case hg => rfl); (case hr => first | (go_simp; done) | (go_simp; rfl)); intro gb198 hg w22 hbox hb; have n0_ := Aside0.mk (below_step (by repeat (first | (with_reducible first | exact HB.out | apply below_alloc | apply pw_below_drewN | apply below_drew1) | exact HB.out)) hb); have n1_ := Aside0.mk (hbox); have n2_ := Aside0.mk ((by rw [hg]; exact (below_size (by repeat (first | (with_reducible first | exact HB.out | apply below_alloc | apply pw_below_drewN | apply below_drew1) | exact HB.out))) : w.heap.size ≤ gb198)); have n3_ := Aside0.mk ((by rw [hg]; exact (below_size (by repeat (first | (with_reducible first | exact HB.out | apply below_alloc | apply pw_below_drewN | apply below_drew1) | exact HB.out))) : w.heap.size ≤ gb198)); clear HB; have HB := n0_; have BK198 := n1_; have GW198 := n2_; have GE198 := n3_; clear n0_ n1_ n2_ n3_; clear hb hbox hg) | (go_at_call 58; (with_reducible refine (inode_isPlace.calls a0 a1 false _ A4.out).mono ?_); rintro e w' ⟨rfl, ⟨nd, rfl⟩⟩; (try first | exact ⟨rfl, _, World.drewN_drewN _ _ _⟩ | exact ⟨rfl, _, Eq.trans (World.drewN_drewN _ _ _) (congrArg (World.drewN _) (Nat.add_assoc _ _ _))⟩)))))
  go_ret2
  exact ⟨by first | rfl | (simp [errW_none, errW_some] <;> rfl) | (simp [*, errW_none, errW_some] <;> rfl) | (simp [show IntKind.u64.wrap 0 = 0 from rfl, Int.zero_tdiv]; done), by repeat (first | (with_reducible first | exact HB.out | apply below_alloc | apply pw_below_drewN | apply below_drew1 | refine below_set ?_ GE198.out) | exact HB.out)⟩

end Go.Proofs.Ytpcokafalmafgaa.Q

namespace Go.Proofs.Ytpcokafalmafgaa.Q
open Go.Proofs.Ytpcokafalmafgaa.H
open Go.RowKit Go.Proofs.YtpcokafalmafgaaW.PrintWords Go.Proofs.YtpcokafalmafgaaW.PrintLast Go.Proofs.YtpcokafalmafgaaW.PrintMore
attribute [local go_sem] max2_int min2_int max_two min_two max_three min_three max_four min_four   -- for this text's walks alone
set_option linter.unusedVariables false
set_option linter.unusedSimpArgs false

/-! ### vol_Table: function 27 -/
def vol_Table.l0 : Nat → List ByteArray → List (S42) → Int → Int → Option (List ByteArray × Int)
 | 0, _, _, _, _ => none
 | k + 1, x4, x14, x15, x16 => if x16 < x15 then (if 0 ≤ x16 then (if x16 < (x14.length : Int) then (if (Int.tmod x16 12) = 0 then ((strings_Repeat.f (⟨#[0]⟩ : ByteArray) 508).bind fun t204 => (if x4.length < 8796093022208 then ((some (x4 ++ [t204] : List ByteArray)).bind fun y205 => (if 0 ≤ (wrap64 ((y205.length : Int) - 1)) then (if (wrap64 ((y205.length : Int) - 1)) < (y205.length : Int) then ((inode_Put.f (rdOf ByteArray.empty y205 (wrap64 ((y205.length : Int) - 1))) (Int.tmod x16 12) ((rd_T42 x14 x16).f0) ((rd_T42 x14 x16).f1) ((rd_T42 x14 x16).f2) ((rd_T42 x14 x16).f3) ((rd_T42 x14 x16).f4) ((rd_T42 x14 x16).f5) ((rd_T42 x14 x16).f6.f0) ((rd_T42 x14 x16).f6.f1) ((rd_T42 x14 x16).f6.f2) ((rd_T42 x14 x16).f6.f3) ((rd_T42 x14 x16).f6.f4) ((rd_T42 x14 x16).f6.f5)).bind fun bt209 => (if bt209.2 = 0 then (vol_Table.l0 k (y205.set ((wrap64 ((y205.length : Int) - 1)) : Int).toNat bt209.1) x14 x15 (wrap64 (x16 + 1))) else (some (([] : List ByteArray), 154)))) else (none)) else (none))) else (none))) else (if 0 ≤ (wrap64 ((x4.length : Int) - 1)) then (if (wrap64 ((x4.length : Int) - 1)) < (x4.length : Int) then ((inode_Put.f (rdOf ByteArray.empty x4 (wrap64 ((x4.length : Int) - 1))) (Int.tmod x16 12) ((rd_T42 x14 x16).f0) ((rd_T42 x14 x16).f1) ((rd_T42 x14 x16).f2) ((rd_T42 x14 x16).f3) ((rd_T42 x14 x16).f4) ((rd_T42 x14 x16).f5) ((rd_T42 x14 x16).f6.f0) ((rd_T42 x14 x16).f6.f1) ((rd_T42 x14 x16).f6.f2) ((rd_T42 x14 x16).f6.f3) ((rd_T42 x14 x16).f6.f4) ((rd_T42 x14 x16).f6.f5)).bind fun bt213 => (if bt213.2 = 0 then (vol_Table.l0 k (x4.set ((wrap64 ((x4.length : Int) - 1)) : Int).toNat bt213.1) x14 x15 (wrap64 (x16 + 1))) else (some (([] : List ByteArray), 154)))) else (none)) else (none))) else (none)) else (none)) else (some (x4, 0))
def vol_Table.f (k : Nat) (l0 : List (S42)) : Option (List ByteArray × Int) := if (l0.length : Int) > 240 then (some (([] : List ByteArray), 154)) else (vol_Table.l0 k ([] : List ByteArray) l0 (l0.length : Int) 0)
theorem vol_Table.mono_l : ∀ k, (∀ y0 y1 y2 y3, LeO (vol_Table.l0 k y0 y1 y2 y3) (vol_Table.l0 (k + 1) y0 y1 y2 y3))
 | 0 => fun _ _ _ _ r h => by simp [vol_Table.l0] at h
 | k + 1 => by
  have ih0 := vol_Table.mono_l k
  ·intro y0 y1 y2 y3
   unfold vol_Table.l0
   repeat' first
   | (with_reducible exact ih0 _ _ _ _)
   | (with_reducible exact LeO.refl _)
   | (with_reducible exact LeO.none _)
   | (with_reducible refine LeO.ite ?_ ?_)
   | (with_reducible refine LeO.bind ?_ (fun _ => ?_))
   | exact ih0 _ _ _ _
   | exact LeO.none _
   | refine LeO.ite ?_ ?_
   | refine LeO.bind ?_ (fun _ => ?_)
theorem vol_Table.mono : ∀ a0 k, LeO (vol_Table.f k a0) (vol_Table.f (k + 1) a0) := by
 intro a0 k
 have ih0 := vol_Table.mono_l k
 unfold vol_Table.f
 repeat' first
   | (with_reducible exact ih0 _ _ _ _)
   | (with_reducible exact LeO.refl _)
   | (with_reducible exact LeO.none _)
   | (with_reducible refine LeO.ite ?_ ?_)
   | (with_reducible refine LeO.bind ?_ (fun _ => ?_))
   | exact ih0 _ _ _ _
   | exact LeO.none _
   | refine LeO.ite ?_ ?_
   | refine LeO.bind ?_ (fun _ => ?_)
def vol_Table.T11 : Bool × List (List Nat × List Nat) := (true, [([], []), ([], []), ([0, 1], [0, 1]), ([2], [2]), ([], []), ([], []), ([3, 4, 5], [3, 4, 5]), ([6], [6]), ([7], [7]), ([7], [7]), ([8, 6, 0, 1, 2, 3, 4, 5, 6, 7, 8], [8]), ([9, 10, 0, 1, 2, 3, 4, 5, 6, 7, 8, 9, 10], [9])])
def vol_Table.B11 : List Nat := [0, 0, 3, 7, 0, 0, 63, 127, 255, 255, 511, 2047]
theorem vol_Table.tab11 : rtab .any (opsOf Try.f27 11) = vol_Table.T11 := by kernel_rfl
theorem vol_Table.bits11 : waitsOk vol_Table.T11.2 vol_Table.B11 = true := by kernel_rfl
set_option maxHeartbeats 8000000 in
set_option maxRecDepth 100000 in
theorem vol_Table.calls (k : Nat) (A0 : Option Addr) (c0 : Nat) (l0 : List (S42)) (r1 : List ByteArray) (r2 : Int) (w : World) (hr0 : Kd.C k42 w A0 l0.length l0) (hc0 : l0.length ≤ c0) (h : vol_Table.f k l0 = some (r1, r2)) :
  Calls Try.prog 27 #[.slice A0 l0.length c0] w fun e w' => ∃ v0_ : Value, e = .returned (.tuple #[v0_, .int .i64 r2]) ∧ Kd.R Kd.string 9 w' w.heap.size (fun _ => True) v0_ r1 ∧ Below w.heap.size w w' := by
 have hu42 := Try.underlying42
 have HR0 := Aside0.mk hr0
 have HC0 := Aside0.mk hc0
 clear hr0 hc0
 have HB := Aside0.mk (Below.refl w.heap.size w)
 have H : (if (l0.length : Int) > 240 then (some (([] : List ByteArray), 154)) else (vol_Table.l0 k ([] : List ByteArray) l0 (l0.length : Int) 0)) = some (r1, r2) := h
 clear h
 by_cases c2 : (l0.length : Int) > 240
 ·rw [if_pos c2] at H
  have c2b0 : decide (240 < (l0.length : Int)) = true := decide_eq_true c2
  have c2b1 : decide (240 < l0.length) = true := decide_eq_true (by omega)
  clear c2
  simp only [Option.some.injEq, Prod.mk.injEq] at H
  obtain ⟨rfl, rfl⟩ := H
  go_enter Try.func27, Try.ntmps27
  go_wp2
  go_ret2
  exact ⟨_, by first | rfl | (simp [errW_none, errW_some] <;> rfl) | (simp [*, errW_none, errW_some] <;> rfl), by first | exact Kd.R_nil _ _ _ _ _ | exact Kd.N_nil _ _ _ _ _ | exact Kd.V_nil _ _ _ _ _ | exact Kd.Q_nil _ _ _ _ _ | exact Kd.S_nil _ _ _ _ _, by repeat (first | (with_reducible first | exact HB.out | apply below_alloc | apply pw_below_drewN | apply below_drew1) | exact HB.out)⟩
 ·rw [if_neg c2] at H
  have c2b0 : decide (240 < (l0.length : Int)) = false := decide_eq_false c2
  have c2b1 : decide (240 < l0.length) = false := decide_eq_false (by omega)
  clear c2
  have H' := Aside0.mk H
  clear H
  go_enter Try.func27, Try.ntmps27
  go_wp2
  go_loopg [4, 16] k (fun kq v4 v16 w' => ∃ (x4_1 : List ByteArray) (x16_1 : Int), v16 = .int .i64 x16_1 ∧ Aside0 (vol_Table.l0 kq x4_1 l0 (l0.length : Int) x16_1 = some (r1, r2)) ∧ Aside0 (kq ≤ k) ∧ Aside0 (Kd.R Kd.string 9 w' w.heap.size (fun _ => True) v4 x4_1) ∧ Aside0 (Below w.heap.size w w'))
  case atStart => exact ⟨(([] : List ByteArray)), (0), (by first | rfl | (simp; done) | (simp [*]; done)), H', ⟨Nat.le_refl _⟩, ⟨by first | exact Kd.R_nil _ _ _ _ _ | exact Kd.N_nil _ _ _ _ _ | exact Kd.V_nil _ _ _ _ _ | exact Kd.Q_nil _ _ _ _ _ | exact Kd.S_nil _ _ _ _ _⟩, ⟨by repeat (first | (with_reducible first | exact HB.out | apply below_alloc | apply pw_below_drewN | apply below_drew1) | exact HB.out)⟩⟩
  case round =>
   clear H'
   try clear c2
   try clear c2b0
   try clear c2b1
   try clear p2
   obtain ⟨x4_1, x16_1, rfl, HA, HK1, HO_4, HB⟩ := hrel
   cases gk with
   | zero => exact absurd HA.out (by simp [vol_Table.l0])
   | succ k1 =>
    have H := HA.out
    clear HA
    simp only [vol_Table.l0] at H
    by_cases c3 : x16_1 < (l0.length : Int)
    ·rw [if_pos c3] at H
     have c3b0 : decide (x16_1 < (l0.length : Int)) = true := decide_eq_true c3
     clear c3
     by_cases c4 : 0 ≤ x16_1
     ·rw [if_pos c4] at H
      have c4b0 : decide (0 ≤ x16_1) = true := decide_eq_true c4
      clear c4
      by_cases c5 : x16_1 < (l0.length : Int)
      ·rw [if_pos c5] at H
       have c5b0 : decide (x16_1 < (l0.length : Int)) = true := decide_eq_true c5
       clear c5
       by_cases c6 : (Int.tmod x16_1 12) = 0
       ·rw [if_pos c6] at H
        have c6b0 : ((Int.tmod x16_1 12) == 0) = true := beq_iff_eq.mpr c6
        have c6b1 : ((Int.tmod x16_1 12) != 0) = false := bne_eq_false_iff_eq.mpr c6
        clear c6
        replace H := Option.bind_eq_some_iff.mp H
        obtain ⟨t204, A70, H⟩ := H
        replace H : (if x4_1.length < 8796093022208 then ((some (x4_1 ++ [t204] : List ByteArray)).bind fun y205 => (if 0 ≤ (wrap64 ((y205.length : Int) - 1)) then (if (wrap64 ((y205.length : Int) - 1)) < (y205.length : Int) then ((inode_Put.f (rdOf ByteArray.empty y205 (wrap64 ((y205.length : Int) - 1))) (Int.tmod x16_1 12) ((rd_T42 l0 x16_1).f0) ((rd_T42 l0 x16_1).f1) ((rd_T42 l0 x16_1).f2) ((rd_T42 l0 x16_1).f3) ((rd_T42 l0 x16_1).f4) ((rd_T42 l0 x16_1).f5) ((rd_T42 l0 x16_1).f6.f0) ((rd_T42 l0 x16_1).f6.f1) ((rd_T42 l0 x16_1).f6.f2) ((rd_T42 l0 x16_1).f6.f3) ((rd_T42 l0 x16_1).f6.f4) ((rd_T42 l0 x16_1).f6.f5)).bind fun bt209 => (if bt209.2 = 0 then (vol_Table.l0 k1 (y205.set ((wrap64 ((y205.length : Int) - 1)) : Int).toNat bt209.1) l0 (l0.length : Int) (wrap64 (x16_1 + 1))) else (some (([] : List ByteArray), 154)))) else (none)) else (none))) else (none)) = some (r1, r2) := H
        have A7 := Aside0.mk A70
        clear A70
        by_cases c8 : x4_1.length < 8796093022208
        ·rw [if_pos c8] at H
         have LMc8 := Aside0.mk c8
         clear c8
         obtain ⟨y205, hy205⟩ : ∃ y_ : List ByteArray, y_ = (x4_1 ++ [t204]) := ⟨_, rfl⟩
         replace H : (if 0 ≤ (wrap64 ((y205.length : Int) - 1)) then (if (wrap64 ((y205.length : Int) - 1)) < (y205.length : Int) then ((inode_Put.f (rdOf ByteArray.empty y205 (wrap64 ((y205.length : Int) - 1))) (Int.tmod x16_1 12) ((rd_T42 l0 x16_1).f0) ((rd_T42 l0 x16_1).f1) ((rd_T42 l0 x16_1).f2) ((rd_T42 l0 x16_1).f3) ((rd_T42 l0 x16_1).f4) ((rd_T42 l0 x16_1).f5) ((rd_T42 l0 x16_1).f6.f0) ((rd_T42 l0 x16_1).f6.f1) ((rd_T42 l0 x16_1).f6.f2) ((rd_T42 l0 x16_1).f6.f3) ((rd_T42 l0 x16_1).f6.f4) ((rd_T42 l0 x16_1).f6.f5)).bind fun bt209 => (if bt209.2 = 0 then (vol_Table.l0 k1 (y205.set ((wrap64 ((y205.length : Int) - 1)) : Int).toNat bt209.1) l0 (l0.length : Int) (wrap64 (x16_1 + 1))) else (some (([] : List ByteArray), 154)))) else (none)) else (none)) = some (r1, r2) := by first | (rw [hy205]; with_reducible exact H) | (have H2_ := (Option.bind_some _ _).symm.trans H; rw [hy205]; with_reducible exact H2_) | (have H2_ := (Option.bind_some _ _).symm.trans H; with_reducible exact H2_) | with_reducible exact H | (rw [hy205]; exact H) | exact H
         have Ny205 := Aside0.mk hy205
         clear hy205
         obtain ⟨ji9, hji9⟩ : ∃ j_ : Int, (wrap64 ((y205.length : Int) - 1)) = j_ := ⟨_, rfl⟩
         replace H : (if 0 ≤ (ji9) then (if (ji9) < (y205.length : Int) then ((inode_Put.f (rdOf ByteArray.empty y205 (ji9)) (Int.tmod x16_1 12) ((rd_T42 l0 x16_1).f0) ((rd_T42 l0 x16_1).f1) ((rd_T42 l0 x16_1).f2) ((rd_T42 l0 x16_1).f3) ((rd_T42 l0 x16_1).f4) ((rd_T42 l0 x16_1).f5) ((rd_T42 l0 x16_1).f6.f0) ((rd_T42 l0 x16_1).f6.f1) ((rd_T42 l0 x16_1).f6.f2) ((rd_T42 l0 x16_1).f6.f3) ((rd_T42 l0 x16_1).f6.f4) ((rd_T42 l0 x16_1).f6.f5)).bind fun bt209 => (if bt209.2 = 0 then (vol_Table.l0 k1 (y205.set ((ji9) : Int).toNat bt209.1) l0 (l0.length : Int) (wrap64 (x16_1 + 1))) else (some (([] : List ByteArray), 154)))) else (none)) else (none)) = some (r1, r2) := by first | (rw [hji9] at H; exact H) | (simp only [hji9] at H ⊢; exact H)
         (try rw [hji9] at A7)
         have hji9w : (IntKind.i64.wrap ((y205.length : Int) - 1)) = ji9 := (i64_w _).trans hji9
         by_cases c10 : 0 ≤ (ji9)
         ·rw [if_pos c10] at H
          have c10b0 : decide (0 ≤ (ji9)) = true := decide_eq_true c10
          clear c10
          by_cases c11 : (ji9) < (y205.length : Int)
          ·rw [if_pos c11] at H
           have c11b0 : decide ((ji9) < (y205.length : Int)) = true := decide_eq_true c11
           clear c11
           replace H := Option.bind_eq_some_iff.mp H
           obtain ⟨⟨t209, t210⟩, A120, H⟩ := H
           replace H : (if t210 = 0 then (vol_Table.l0 k1 (y205.set ((ji9) : Int).toNat t209) l0 (l0.length : Int) (wrap64 (x16_1 + 1))) else (some (([] : List ByteArray), 154))) = some (r1, r2) := H
           have A12 := Aside0.mk A120
           clear A120
           by_cases c13 : t210 = 0
           ·rw [if_pos c13] at H
            have c13b0 : (t210 == 0) = true := beq_iff_eq.mpr c13
            have c13b1 : (t210 != 0) = false := bne_eq_false_iff_eq.mpr c13
            clear c13
            obtain ⟨y211, hy211⟩ : ∃ y_ : List ByteArray, y_ = (y205.set ((ji9) : Int).toNat t209) := ⟨_, rfl⟩
            replace H : (vol_Table.l0 k1 y211 l0 (l0.length : Int) (wrap64 (x16_1 + 1))) = some (r1, r2) := by first | (rw [hy211]; with_reducible exact H) | (have H2_ := (Option.bind_some _ _).symm.trans H; rw [hy211]; with_reducible exact H2_) | (have H2_ := (Option.bind_some _ _).symm.trans H; with_reducible exact H2_) | with_reducible exact H | (rw [hy211]; exact H) | exact H
            have Ny211 := Aside0.mk hy211
            clear hy211
            have H' := Aside0.mk H
            clear H
            have p202 : 0 ≤ (x16_1 : Int) := of_decide_eq_true (by first | (with_reducible assumption) | assumption)
            have q202 : x16_1 < (l0.length : Int) := of_decide_eq_true (by first | (with_reducible assumption) | assumption)
            obtain ⟨ad202, e202, hx202_0, hx202_1, hx202_2, hx202_3, hx202_4, hx202_5, hx202_6, hx202_7, hx202_8, hx202_9, hx202_10, hx202_11⟩ := at_T42 HR0.out x16_1 p202 q202
            cases e202
            replace hx202_0 := (HB.out.cell (World.block_lt_of_cell? w _ hx202_0)).trans hx202_0
            replace hx202_1 := (HB.out.cell (World.block_lt_of_cell? w _ hx202_1)).trans hx202_1
            replace hx202_2 := (HB.out.cell (World.block_lt_of_cell? w _ hx202_2)).trans hx202_2
            replace hx202_3 := (HB.out.cell (World.block_lt_of_cell? w _ hx202_3)).trans hx202_3
            replace hx202_4 := (HB.out.cell (World.block_lt_of_cell? w _ hx202_4)).trans hx202_4
            replace hx202_5 := (HB.out.cell (World.block_lt_of_cell? w _ hx202_5)).trans hx202_5
            replace hx202_6 := (HB.out.cell (World.block_lt_of_cell? w _ hx202_6)).trans hx202_6
            replace hx202_7 := (HB.out.cell (World.block_lt_of_cell? w _ hx202_7)).trans hx202_7
            replace hx202_8 := (HB.out.cell (World.block_lt_of_cell? w _ hx202_8)).trans hx202_8
            replace hx202_9 := (HB.out.cell (World.block_lt_of_cell? w _ hx202_9)).trans hx202_9
            replace hx202_10 := (HB.out.cell (World.block_lt_of_cell? w _ hx202_10)).trans hx202_10
            replace hx202_11 := (HB.out.cell (World.block_lt_of_cell? w _ hx202_11)).trans hx202_11
            replace p202 := eq_true p202
            replace q202 := eq_true q202
            try go_wp2_with (first | ((with_reducible refine gate_dst (N := 6) rfl ?_); refine box_event ?hg (N := 6) ?hd (cs := #[.int .i64 0, .int .u16 0, .int .u16 0, .int .u32 0, .int .u64 0, .int .i64 0, .int .u32 0, .int .u32 0, .int .u32 0, .int .u32 0, .int .u32 0, .int .u32 0]) (t := 42) ?hr ?_; (case hd => rfl); (case hg => rfl); (case hr => first | (go_simp; done) | (go_simp; rfl)); intro gb203 hg w15 hbox hb; have n0_ := Aside0.mk (Kd.R_below (by (with_reducible repeat (first | apply Kd.R_alloc | apply Kd.R_drewN | apply Kd.R_drew)); exact HO_4.out) hb); have n1_ := Aside0.mk (below_step (by repeat (first | (with_reducible first | exact HB.out | apply below_alloc | apply pw_below_drewN | apply below_drew1) | exact HB.out)) hb); have n2_ := Aside0.mk (hbox); have n3_ := Aside0.mk ((by rw [hg]; exact (below_size (by repeat (first | (with_reducible first | exact HB.out | apply below_alloc | apply pw_below_drewN | apply below_drew1) | exact HB.out))) : w.heap.size ≤ gb203)); have n4_ := Aside0.mk ((by rw [hg]; exact (below_size (by repeat (first | (with_reducible first | exact HB.out | apply below_alloc | apply pw_below_drewN | apply below_drew1) | exact HB.out))) : w.heap.size ≤ gb203)); clear HO_4; clear HB; have HO_4 := n0_; have HB := n1_; have BK203 := n2_; have GW203 := n3_; have GE203 := n4_; clear n0_ n1_ n2_ n3_ n4_; clear hb hbox hg; have hcz16_0 : w15.cell? ⟨gb203, 0, none⟩ = some (.int .i64 0) := (blk_cell BK203.out 0).trans rfl; have hcz16_1 : w15.cell? ⟨gb203, 1, none⟩ = some (.int .u16 0) := (blk_cell BK203.out 1).trans rfl; have hcz16_2 : w15.cell? ⟨gb203, 2, none⟩ = some (.int .u16 0) := (blk_cell BK203.out 2).trans rfl; have hcz16_3 : w15.cell? ⟨gb203, 3, none⟩ = some (.int .u32 0) := (blk_cell BK203.out 3).trans rfl; have hcz16_4 : w15.cell? ⟨gb203, 4, none⟩ = some (.int .u64 0) := (blk_cell BK203.out 4).trans rfl; have hcz16_5 : w15.cell? ⟨gb203, 5, none⟩ = some (.int .i64 0) := (blk_cell BK203.out 5).trans rfl; have hcz16_6 : w15.cell? ⟨gb203, 6, none⟩ = some (.int .u32 0) := (blk_cell BK203.out 6).trans rfl; have hcz16_7 : w15.cell? ⟨gb203, 7, none⟩ = some (.int .u32 0) := (blk_cell BK203.out 7).trans rfl; have hcz16_8 : w15.cell? ⟨gb203, 8, none⟩ = some (.int .u32 0) := (blk_cell BK203.out 8).trans rfl; have hcz16_9 : w15.cell? ⟨gb203, 9, none⟩ = some (.int .u32 0) := (blk_cell BK203.out 9).trans rfl; have hcz16_10 : w15.cell? ⟨gb203, 10, none⟩ = some (.int .u32 0) := (blk_cell BK203.out 10).trans rfl; have hcz16_11 : w15.cell? ⟨gb203, 11, none⟩ = some (.int .u32 0) := (blk_cell BK203.out 11).trans rfl; have hfz16_0 := blk_frozen BK203.out 0; have hfz16_1 := blk_frozen BK203.out 1; have hfz16_2 := blk_frozen BK203.out 2; have hfz16_3 := blk_frozen BK203.out 3; have hfz16_4 := blk_frozen BK203.out 4; have hfz16_5 := blk_frozen BK203.out 5; have hfz16_6 := blk_frozen BK203.out 6; have hfz16_7 := blk_frozen BK203.out 7; have hfz16_8 := blk_frozen BK203.out 8; have hfz16_9 := blk_frozen BK203.out 9; have hfz16_10 := blk_frozen BK203.out 10; have hfz16_11 := blk_frozen BK203.out 11) | ((with_reducible refine gate_callee (f := 44) rfl ?_); refine goesL_ (some 26) rfl rfl Try.func44 (by kernel_rfl) rfl #[.string (⟨#[0]⟩ : ByteArray), .int .i64 508] rfl (by (try simp only [List.map_toArray, List.map_cons, List.map_nil]); first | done | rfl | (simp only [List.length_drop, List.length_take]; rfl)) ?_; (with_reducible refine (strings_Repeat.calls (⟨#[0]⟩ : ByteArray) 508 t204 _ A7.out).mono ?_); rintro e w17 ⟨rfl, hb⟩; refine ⟨_, rfl, ?_⟩; have n0_ := Aside0.mk (Kd.R_below (by (with_reducible repeat (first | apply Kd.R_alloc | apply Kd.R_drewN | apply Kd.R_drew)); exact (Kd.R_mono (Kd.R_far (p := ⟨gb203, 11, none⟩) (Kd.R_far (p := ⟨gb203, 10, none⟩) (Kd.R_far (p := ⟨gb203, 9, none⟩) (Kd.R_far (p := ⟨gb203, 8, none⟩) (Kd.R_far (p := ⟨gb203, 7, none⟩) (Kd.R_far (p := ⟨gb203, 6, none⟩) (Kd.R_far (p := ⟨gb203, 5, none⟩) (Kd.R_far (p := ⟨gb203, 4, none⟩) (Kd.R_far (p := ⟨gb203, 3, none⟩) (Kd.R_far (p := ⟨gb203, 2, none⟩) (Kd.R_far (p := ⟨gb203, 1, none⟩) (Kd.R_far (p := ⟨gb203, 0, none⟩) (Kd.R_types HO_4.out BK203.out (by decide)) (fun _ hk => hk.2) (.int .i64 ((rd_T42 l0 x16_1).f0))) (fun _ hk => hk.2) (.int .u16 ((rd_T42 l0 x16_1).f1))) (fun _ hk => hk.2) (.int .u16 ((rd_T42 l0 x16_1).f2))) (fun _ hk => hk.2) (.int .u32 ((rd_T42 l0 x16_1).f3))) (fun _ hk => hk.2) (.int .u64 ((rd_T42 l0 x16_1).f4))) (fun _ hk => hk.2) (.int .i64 ((rd_T42 l0 x16_1).f5))) (fun _ hk => hk.2) (.int .u32 ((rd_T42 l0 x16_1).f6.f0))) (fun _ hk => hk.2) (.int .u32 ((rd_T42 l0 x16_1).f6.f1))) (fun _ hk => hk.2) (.int .u32 ((rd_T42 l0 x16_1).f6.f2))) (fun _ hk => hk.2) (.int .u32 ((rd_T42 l0 x16_1).f6.f3))) (fun _ hk => hk.2) (.int .u32 ((rd_T42 l0 x16_1).f6.f4))) (fun _ hk => hk.2) (.int .u32 ((rd_T42 l0 x16_1).f6.f5))) (fun _ h_ => h_.1))) hb); have n1_ := Aside0.mk (blk_below (g := gb203) (o := .cells #[.int .i64 ((rd_T42 l0 x16_1).f0), .int .u16 ((rd_T42 l0 x16_1).f1), .int .u16 ((rd_T42 l0 x16_1).f2), .int .u32 ((rd_T42 l0 x16_1).f3), .int .u64 ((rd_T42 l0 x16_1).f4), .int .i64 ((rd_T42 l0 x16_1).f5), .int .u32 ((rd_T42 l0 x16_1).f6.f0), .int .u32 ((rd_T42 l0 x16_1).f6.f1), .int .u32 ((rd_T42 l0 x16_1).f6.f2), .int .u32 ((rd_T42 l0 x16_1).f6.f3), .int .u32 ((rd_T42 l0 x16_1).f6.f4), .int .u32 ((rd_T42 l0 x16_1).f6.f5)] 42 (0, 0)) (by (with_reducible repeat (first | refine blk_drewN ?_ _ | refine blk_drew ?_ | refine blk_alloc ?_ _)); refine blk_put (cs := #[.int .i64 ((rd_T42 l0 x16_1).f0), .int .u16 ((rd_T42 l0 x16_1).f1), .int .u16 ((rd_T42 l0 x16_1).f2), .int .u32 ((rd_T42 l0 x16_1).f3), .int .u64 ((rd_T42 l0 x16_1).f4), .int .i64 ((rd_T42 l0 x16_1).f5), .int .u32 ((rd_T42 l0 x16_1).f6.f0), .int .u32 ((rd_T42 l0 x16_1).f6.f1), .int .u32 ((rd_T42 l0 x16_1).f6.f2), .int .u32 ((rd_T42 l0 x16_1).f6.f3), .int .u32 ((rd_T42 l0 x16_1).f6.f4), .int .u32 0]) ?_ 11 _ rfl; (with_reducible repeat (first | refine blk_drewN ?_ _ | refine blk_drew ?_ | refine blk_alloc ?_ _)); refine blk_put (cs := #[.int .i64 ((rd_T42 l0 x16_1).f0), .int .u16 ((rd_T42 l0 x16_1).f1), .int .u16 ((rd_T42 l0 x16_1).f2), .int .u32 ((rd_T42 l0 x16_1).f3), .int .u64 ((rd_T42 l0 x16_1).f4), .int .i64 ((rd_T42 l0 x16_1).f5), .int .u32 ((rd_T42 l0 x16_1).f6.f0), .int .u32 ((rd_T42 l0 x16_1).f6.f1), .int .u32 ((rd_T42 l0 x16_1).f6.f2), .int .u32 ((rd_T42 l0 x16_1).f6.f3), .int .u32 0, .int .u32 0]) ?_ 10 _ rfl; (with_reducible repeat (first | refine blk_drewN ?_ _ | refine blk_drew ?_ | refine blk_alloc ?_ _)); refine blk_put (cs := #[.int .i64 ((rd_T42 l0 x16_1).f0), .int .u16 ((rd_T42 l0 x16_1).f1), .int .u16 ((rd_T42 l0 x16_1).f2), .int .u32 ((rd_T42 l0 x16_1).f3), .int .u64 ((rd_T42 l0 x16_1).f4), .int .i64 ((rd_T42 l0 x16_1).f5), .int .u32 ((rd_T42 l0 x16_1).f6.f0), .int .u32 ((rd_T42 l0 x16_1).f6.f1), .int .u32 ((rd_T42 l0 x16_1).f6.f2), .int .u32 0, .int .u32 0, .int .u32 0]) ?_ 9 _ rfl; (with_reducible repeat (first | refine blk_drewN ?_ _ | refine blk_drew ?_ | refine blk_alloc ?_ _)); refine blk_put (cs := #[.int .i64 ((rd_T42 l0 x16_1).f0), .int .u16 ((rd_T42 l0 x16_1).f1), .int .u16 ((rd_T42 l0 x16_1).f2), .int .u32 ((rd_T42 l0 x16_1).f3), .int .u64 ((rd_T42 l0 x16_1).f4), .int .i64 ((rd_T42 l0 x16_1).f5), .int .u32 ((rd_T42 l0 x16_1).f6.f0), .int .u32 ((rd_T42 l0 x16_1).f6.f1), .int .u32 0, .int .u32 0, .int .u32 0, .int .u32 0]) ?_ 8 _ rfl; (with_reducible repeat (first | refine blk_drewN ?_ _ | refine blk_drew ?_ | refine blk_alloc ?_ _)); refine blk_put (cs := #[.int .i64 ((rd_T42 l0 x16_1).f0), .int .u16 ((rd_T42 l0 x16_1).f1), .int .u16 ((rd_T42 l0 x16_1).f2), .int .u32 ((rd_T42 l0 x16_1).f3), .int .u64 ((rd_T42 l0 x16_1).f4), .int .i64 ((rd_T42 l0 x16_1).f5), .int .u32 ((rd_T42 l0 x16_1).f6.f0), .int .u32 0, .int .u32 0, .int .u32 0, .int .u32 0, .int .u32 0]) ?_ 7 _ rfl; (with_reducible repeat (first | refine blk_drewN ?_ _ | refine blk_drew ?_ | refine blk_alloc ?_ _)); refine blk_put (cs := #[.int .i64 ((rd_T42 l0 x16_1).f0), .int .u16 ((rd_T42 l0 x16_1).f1), .int .u16 ((rd_T42 l0 x16_1).f2), .int .u32 ((rd_T42 l0 x16_1).f3), .int .u64 ((rd_T42 l0 x16_1).f4), .int .i64 ((rd_T42 l0 x16_1).f5), .int .u32 0, .int .u32 0, .int .u32 0, .int .u32 0, .int .u32 0, .int .u32 0]) ?_ 6 _ rfl; (with_reducible repeat (first | refine blk_drewN ?_ _ | refine blk_drew ?_ | refine blk_alloc ?_ _)); refine blk_put (cs := #[.int .i64 ((rd_T42 l0 x16_1).f0), .int .u16 ((rd_T42 l0 x16_1).f1), .int .u16 ((rd_T42 l0 x16_1).f2), .int .u32 ((rd_T42 l0 x16_1).f3), .int .u64 ((rd_T42 l0 x16_1).f4), .int .i64 0, .int .u32 0, .int .u32 0, .int .u32 0, .int .u32 0, .int .u32 0, .int .u32 0]) ?_ 5 _ rfl; (with_reducible repeat (first | refine blk_drewN ?_ _ | refine blk_drew ?_ | refine blk_alloc ?_ _)); refine blk_put (cs := #[.int .i64 ((rd_T42 l0 x16_1).f0), .int .u16 ((rd_T42 l0 x16_1).f1), .int .u16 ((rd_T42 l0 x16_1).f2), .int .u32 ((rd_T42 l0 x16_1).f3), .int .u64 0, .int .i64 0, .int .u32 0, .int .u32 0, .int .u32 0, .int .u32 0, .int .u32 0, .int .u32 0]) ?_ 4 _ rfl; (with_reducible repeat (first | refine blk_drewN ?_ _ | refine blk_drew ?_ | refine blk_alloc ?_ _)); refine blk_put (cs := #[.int .i64 ((rd_T42 l0 x16_1).f0), .int .u16 ((rd_T42 l0 x16_1).f1), .int .u16 ((rd_T42 l0 x16_1).f2), .int .u32 0, .int .u64 0, .int .i64 0, .int .u32 0, .int .u32 0, .int .u32 0, .int .u32 0, .int .u32 0, .int .u32 0]) ?_ 3 _ rfl; (with_reducible repeat (first | refine blk_drewN ?_ _ | refine blk_drew ?_ | refine blk_alloc ?_ _)); refine blk_put (cs := #[.int .i64 ((rd_T42 l0 x16_1).f0), .int .u16 ((rd_T42 l0 x16_1).f1), .int .u16 0, .int .u32 0, .int .u64 0, .int .i64 0, .int .u32 0, .int .u32 0, .int .u32 0, .int .u32 0, .int .u32 0, .int .u32 0]) ?_ 2 _ rfl; (with_reducible repeat (first | refine blk_drewN ?_ _ | refine blk_drew ?_ | refine blk_alloc ?_ _)); refine blk_put (cs := #[.int .i64 ((rd_T42 l0 x16_1).f0), .int .u16 0, .int .u16 0, .int .u32 0, .int .u64 0, .int .i64 0, .int .u32 0, .int .u32 0, .int .u32 0, .int .u32 0, .int .u32 0, .int .u32 0]) ?_ 1 _ rfl; (with_reducible repeat (first | refine blk_drewN ?_ _ | refine blk_drew ?_ | refine blk_alloc ?_ _)); refine blk_put (cs := #[.int .i64 0, .int .u16 0, .int .u16 0, .int .u32 0, .int .u64 0, .int .i64 0, .int .u32 0, .int .u32 0, .int .u32 0, .int .u32 0, .int .u32 0, .int .u32 0]) ?_ 0 _ rfl; (with_reducible repeat (first | refine blk_drewN ?_ _ | refine blk_drew ?_ | refine blk_alloc ?_ _)); exact BK203.out) hb); have n2_ := Aside0.mk (below_step (by repeat (first | (with_reducible first | exact HB.out | apply below_alloc | apply pw_below_drewN | apply below_drew1 | refine below_set ?_ GE203.out) | exact HB.out)) hb); clear HO_4; clear BK203; clear HB; have HO_4 := n0_; have BK203 := n1_; have HB := n2_; clear n0_ n1_ n2_; (try clear hb); (try clear hb2); (try clear hk); (try clear hi)) | ((with_reducible refine gate_builtin (b := .append) (xs := #[.tmp 25, .tmp 27]) rfl ?_); at_builtin; refine Kd.R_append Kd.string (w0 := w) w.heap.size rfl (.tmp 25) (.tmp 27) 29 9 (.string ⟨#[]⟩) 16 rfl Try.underlying29 info9 rfl (by decide) (by omega) u4 x4_1 t204 [.string t204] (fun _ => True) (fun _ => False) rfl rfl ?aP (fun _ hk => hk.elim) ?aF ?aO ?aB ?aS ?aL ?_; (case aP => exact rfl); (case aB => exact (by repeat (first | (with_reducible first | exact HB.out | apply below_alloc | apply pw_below_drewN | apply below_drew1 | refine below_set ?_ GE203.out) | exact HB.out))); (case aF => exact (fun _ _ => trivial)); (case aO => exact (by (with_reducible repeat (first | apply Kd.R_alloc | apply Kd.R_drewN | apply Kd.R_drew)); exact HO_4.out)); (case aS => exact (below_size (by repeat (first | (with_reducible first | exact HB.out | apply below_alloc | apply pw_below_drewN | apply below_drew1 | refine below_set ?_ GE203.out) | exact HB.out)))); (case aL => have := LMc8.out; omega); intro v206 w18 ho hb hg hat; rw [← Ny205.out] at ho; have n0_ := Aside0.mk (blk_grown (g := gb203) (o := .cells #[.int .i64 ((rd_T42 l0 x16_1).f0), .int .u16 ((rd_T42 l0 x16_1).f1), .int .u16 ((rd_T42 l0 x16_1).f2), .int .u32 ((rd_T42 l0 x16_1).f3), .int .u64 ((rd_T42 l0 x16_1).f4), .int .i64 ((rd_T42 l0 x16_1).f5), .int .u32 ((rd_T42 l0 x16_1).f6.f0), .int .u32 ((rd_T42 l0 x16_1).f6.f1), .int .u32 ((rd_T42 l0 x16_1).f6.f2), .int .u32 ((rd_T42 l0 x16_1).f6.f3), .int .u32 ((rd_T42 l0 x16_1).f6.f4), .int .u32 ((rd_T42 l0 x16_1).f6.f5)] 42 (0, 0)) (by (with_reducible repeat (first | refine blk_drewN ?_ _ | refine blk_drew ?_ | refine blk_alloc ?_ _)); exact BK203.out) hg (Kd.R_ne HO_4.out BK203.out (by decide))); have n1_ := Aside0.mk (hb); have n2_ := Aside0.mk (ho); clear BK203; clear HB; clear HO_4; have BK203 := n0_; have HB := n1_; have HO207 := n2_; clear n0_ n1_ n2_; clear ho hb hg hat; obtain ⟨Ao19, co19, eo19⟩ := Kd.R_slice HO207.out; subst eo19))
            have n0_ := Aside0.mk (Kd.R_drew HO207.out)
            have n1_ := Aside0.mk (blk_drew BK203.out)
            have n2_ := Aside0.mk (below_drew1 HB.out)
            clear HO207
            clear BK203
            clear HB
            have HO207 := n0_
            have BK203 := n1_
            have HB := n2_
            clear n0_ n1_ n2_
            have p208 : 0 ≤ ((ji9) : Int) := of_decide_eq_true (by first | (with_reducible assumption) | assumption)
            have q208 : (ji9) < (y205.length : Int) := of_decide_eq_true (by first | (with_reducible assumption) | assumption)
            obtain ⟨ad208, e208, hx208_0⟩ := Kd.at_string (Kd.R_reads' HO207.out).2.2 (ji9) p208 q208
            cases e208
            replace p208 := eq_true p208
            replace q208 := eq_true q208
            refine start_ (n := 12) (S := fun w' => w'.cell? ⟨gb203, 0, none⟩ = some (.int .i64 ((rd_T42 l0 x16_1).f0)) ∧ w'.cell? ⟨gb203, 1, none⟩ = some (.int .u16 ((rd_T42 l0 x16_1).f1)) ∧ w'.cell? ⟨gb203, 2, none⟩ = some (.int .u16 ((rd_T42 l0 x16_1).f2)) ∧ w'.cell? ⟨gb203, 3, none⟩ = some (.int .u32 ((rd_T42 l0 x16_1).f3)) ∧ w'.cell? ⟨gb203, 4, none⟩ = some (.int .u64 ((rd_T42 l0 x16_1).f4)) ∧ w'.cell? ⟨gb203, 5, none⟩ = some (.int .i64 ((rd_T42 l0 x16_1).f5)) ∧ w'.cell? ⟨gb203, 6, none⟩ = some (.int .u32 ((rd_T42 l0 x16_1).f6.f0)) ∧ w'.cell? ⟨gb203, 7, none⟩ = some (.int .u32 ((rd_T42 l0 x16_1).f6.f1)) ∧ w'.cell? ⟨gb203, 8, none⟩ = some (.int .u32 ((rd_T42 l0 x16_1).f6.f2)) ∧ w'.cell? ⟨gb203, 9, none⟩ = some (.int .u32 ((rd_T42 l0 x16_1).f6.f3)) ∧ w'.cell? ⟨gb203, 10, none⟩ = some (.int .u32 ((rd_T42 l0 x16_1).f6.f4)) ∧ w'.cell? ⟨gb203, 11, none⟩ = some (.int .u32 ((rd_T42 l0 x16_1).f6.f5)) ∧ w'.cell? (ad208.add ((ji9)).toNat) = some (.string (rdOf ByteArray.empty y205 (ji9)))) (ds := []) #[false, false, false, false, false, false, false, false, false, false, false, false] (by kernel_rfl) rfl rfl ⟨(blk_cell BK203.out 0).trans rfl, (blk_cell BK203.out 1).trans rfl, (blk_cell BK203.out 2).trans rfl, (blk_cell BK203.out 3).trans rfl, (blk_cell BK203.out 4).trans rfl, (blk_cell BK203.out 5).trans rfl, (blk_cell BK203.out 6).trans rfl, (blk_cell BK203.out 7).trans rfl, (blk_cell BK203.out 8).trans rfl, (blk_cell BK203.out 9).trans rfl, (blk_cell BK203.out 10).trans rfl, (blk_cell BK203.out 11).trans rfl, hx208_0⟩ (fun hHeld => ?_); refine with_tabW vol_Table.tab11 vol_Table.bits11 (fun HT_ HW_ => ?_)
            generalize w18.drew = w20 at HO207 BK203 HB hx208_0 hHeld ⊢
            refine pure_ (i := 0) (N := some 33) (v := ?_) (a' := ?_) #[true, false, false, false, false, false, false, false, false, false, false, false] rfl rfl (any_of HT_.out (by kernel_rfl)) (fun _ _ _ h => h) (Or.inl ⟨by rfl, ?_⟩) ?_ ?_
            rotate_left
            ·intro w'
             go_simp
             with_reducible rfl
            rotate_left
            ·simp only [Act.put, List.setIfInBounds_toArray, List.set_cons_zero, List.set_cons_succ, i64_w, i32_w]
             rfl
            refine pure_ (i := 1) (N := some 34) (v := ?_) (a' := ?_) #[true, true, false, false, false, false, false, false, false, false, false, false] rfl rfl (any_of HT_.out (by kernel_rfl)) (fun _ _ _ h => h) (Or.inl ⟨by rfl, ?_⟩) ?_ ?_
            rotate_left
            ·intro w'
             go_simp
             with_reducible rfl
            rotate_left
            ·simp only [Act.put, List.setIfInBounds_toArray, List.set_cons_zero, List.set_cons_succ, i64_w, i32_w]
             rfl
            refine pure_ (i := 2) (N := some 35) (v := ?_) (a' := ?_) #[true, true, true, false, false, false, false, false, false, false, false, false] rfl rfl (any_of HT_.out (by kernel_rfl)) (fun _ _ _ h => h) (Or.inl ⟨by rfl, ?_⟩) ?_ ?_
            rotate_left
            ·intro w'
             go_simp
             with_reducible rfl
            rotate_left
            ·simp only [Act.put, List.setIfInBounds_toArray, List.set_cons_zero, List.set_cons_succ, i64_w, i32_w]
             rfl
            refine pure_ (i := 4) (N := some 37) (v := ?_) (a' := ?_) #[true, true, true, false, true, false, false, false, false, false, false, false] rfl rfl (any_of HT_.out (by kernel_rfl)) (fun _ _ _ h => h) (Or.inl ⟨by rfl, ?_⟩) ?_ ?_
            rotate_left
            ·intro w'
             go_simp
             with_reducible rfl
            rotate_left
            ·simp only [Act.put, List.setIfInBounds_toArray, List.set_cons_zero, List.set_cons_succ, i64_w, i32_w]
             rfl
            refine take_ (i := 3) (N := some 36) (v := ?_) (a' := ?_) #[true, true, true, true, true, false, false, false, false, false, false, false] rfl rfl (take_ofW HT_.out HW_.out (by kernel_rfl)) (fun _ _ _ h => h) (Or.inl ⟨by rfl, ?_⟩) hHeld ?_ ?_
            rotate_left
            ·rintro w' ⟨s0, s1, s2, s3, s4, s5, s6, s7, s8, s9, s10, s11, s12⟩
             go_simp
             with_reducible rfl
            rotate_left
            ·simp only [Act.put, List.setIfInBounds_toArray, List.set_cons_zero, List.set_cons_succ, i64_w, i32_w]
             rfl
            refine take_ (i := 5) (N := some 38) (v := ?_) (a' := ?_) #[true, true, true, true, true, true, false, false, false, false, false, false] rfl rfl (take_ofW HT_.out HW_.out (by kernel_rfl)) (fun _ _ _ h => h) (Or.inl ⟨by rfl, ?_⟩) hHeld ?_ ?_
            rotate_left
            ·rintro w' ⟨s0, s1, s2, s3, s4, s5, s6, s7, s8, s9, s10, s11, s12⟩
             go_simp
             with_reducible rfl
            rotate_left
            ·simp only [Act.put, List.setIfInBounds_toArray, List.set_cons_zero, List.set_cons_succ, i64_w, i32_w]
             rfl
            refine one_ (i := 6) (N := some 39) #[true, true, true, true, true, true, true, false, false, false, false, false] rfl rfl (one_of HT_.out (by kernel_rfl)) (by decide) (fun K hK => ?_)
            refine goes_ Try.func45 (by kernel_rfl) rfl #[.string (rdOf ByteArray.empty y205 (ji9)), .int .i64 (Int.tmod x16_1 12), .agg #[.int .i64 ((rd_T42 l0 x16_1).f0), .int .u16 ((rd_T42 l0 x16_1).f1), .int .u16 ((rd_T42 l0 x16_1).f2), .int .u32 ((rd_T42 l0 x16_1).f3), .int .u64 ((rd_T42 l0 x16_1).f4), .int .i64 ((rd_T42 l0 x16_1).f5), .int .u32 ((rd_T42 l0 x16_1).f6.f0), .int .u32 ((rd_T42 l0 x16_1).f6.f1), .int .u32 ((rd_T42 l0 x16_1).f6.f2), .int .u32 ((rd_T42 l0 x16_1).f6.f3), .int .u32 ((rd_T42 l0 x16_1).f6.f4), .int .u32 ((rd_T42 l0 x16_1).f6.f5)]] (by rfl) rfl rfl (by (try simp only [List.map_toArray, List.map_cons, List.map_nil]); first | done | (simp only [hji9]; rfl) | rfl | (simp only [List.length_drop, List.length_take]; rfl)) ?_
            with_reducible refine (inode_Put.calls (rdOf ByteArray.empty y205 (ji9)) (Int.tmod x16_1 12) ((rd_T42 l0 x16_1).f0) ((rd_T42 l0 x16_1).f1) ((rd_T42 l0 x16_1).f2) ((rd_T42 l0 x16_1).f3) ((rd_T42 l0 x16_1).f4) ((rd_T42 l0 x16_1).f5) ((rd_T42 l0 x16_1).f6.f0) ((rd_T42 l0 x16_1).f6.f1) ((rd_T42 l0 x16_1).f6.f2) ((rd_T42 l0 x16_1).f6.f3) ((rd_T42 l0 x16_1).f6.f4) ((rd_T42 l0 x16_1).f6.f5) t209 t210 _ A12.out).mono ?_
            rintro e w21 ⟨rfl, hb⟩
            have HS12_ := (hb.cell (World.block_lt_of_cell? _ _ (hHeld.2.2.2.2.2.2.2.2.2.2.2.2))).trans (hHeld.2.2.2.2.2.2.2.2.2.2.2.2)
            refine ⟨_, rfl, ?_⟩
            have n0_ := Aside0.mk (Kd.R_below (by (with_reducible repeat (first | apply Kd.R_alloc | apply Kd.R_drewN | apply Kd.R_drew)); exact HO207.out) hb)
            have n1_ := Aside0.mk (blk_below (g := gb203) (o := .cells #[.int .i64 ((rd_T42 l0 x16_1).f0), .int .u16 ((rd_T42 l0 x16_1).f1), .int .u16 ((rd_T42 l0 x16_1).f2), .int .u32 ((rd_T42 l0 x16_1).f3), .int .u64 ((rd_T42 l0 x16_1).f4), .int .i64 ((rd_T42 l0 x16_1).f5), .int .u32 ((rd_T42 l0 x16_1).f6.f0), .int .u32 ((rd_T42 l0 x16_1).f6.f1), .int .u32 ((rd_T42 l0 x16_1).f6.f2), .int .u32 ((rd_T42 l0 x16_1).f6.f3), .int .u32 ((rd_T42 l0 x16_1).f6.f4), .int .u32 ((rd_T42 l0 x16_1).f6.f5)] 42 (0, 0)) (by (with_reducible repeat (first | refine blk_drewN ?_ _ | refine blk_drew ?_ | refine blk_alloc ?_ _)); exact BK203.out) hb)
            have n2_ := Aside0.mk (below_step (by repeat (first | (with_reducible first | exact HB.out | apply below_alloc | apply pw_below_drewN | apply below_drew1 | refine below_set ?_ GE203.out) | exact HB.out)) hb)
            clear HO207
            clear BK203
            clear HB
            have HO207 := n0_
            have BK203 := n1_
            have HB := n2_
            clear n0_ n1_ n2_
            (try clear hb)
            (try clear hb2)
            (try clear hk)
            (try clear hi)
            refine hK.out _ _ ⟨(blk_cell BK203.out 0).trans rfl, (blk_cell BK203.out 1).trans rfl, (blk_cell BK203.out 2).trans rfl, (blk_cell BK203.out 3).trans rfl, (blk_cell BK203.out 4).trans rfl, (blk_cell BK203.out 5).trans rfl, (blk_cell BK203.out 6).trans rfl, (blk_cell BK203.out 7).trans rfl, (blk_cell BK203.out 8).trans rfl, (blk_cell BK203.out 9).trans rfl, (blk_cell BK203.out 10).trans rfl, (blk_cell BK203.out 11).trans rfl, HS12_⟩ (fun hHeld => ?_)
            clear hK K
            refine norm_ (a' := ?_) ?_ ?_
            rotate_left
            ·show Act.put _ (some 39) _ = _
             simp only [Act.put, List.setIfInBounds_toArray, List.set_cons_zero, List.set_cons_succ, i64_w, i32_w]
             rfl
            refine pure_ (i := 7) (N := some 32) (v := ?_) (a' := ?_) #[true, true, true, true, true, true, true, true, false, false, false, false] rfl rfl (any_of HT_.out (by kernel_rfl)) (fun _ _ _ h => h) (Or.inl ⟨by rfl, ?_⟩) ?_ ?_
            rotate_left
            ·intro w'
             go_simp
             with_reducible rfl
            rotate_left
            ·simp only [Act.put, List.setIfInBounds_toArray, List.set_cons_zero, List.set_cons_succ, i64_w, i32_w]
             rfl
            refine pure_ (i := 8) (N := some 40) (v := ?_) (a' := ?_) #[true, true, true, true, true, true, true, true, true, false, false, false] rfl rfl (any_of HT_.out (by kernel_rfl)) (fun _ _ _ h => h) (Or.inl ⟨by rfl, ?_⟩) ?_ ?_
            rotate_left
            ·intro w'
             go_simp
             with_reducible rfl
            rotate_left
            ·simp only [Act.put, List.setIfInBounds_toArray, List.set_cons_zero, List.set_cons_succ, i64_w, i32_w]
             rfl
            refine pure_ (i := 9) (N := some 41) (v := ?_) (a' := ?_) #[true, true, true, true, true, true, true, true, true, true, false, false] rfl rfl (any_of HT_.out (by kernel_rfl)) (fun _ _ _ h => h) (Or.inl ⟨by rfl, ?_⟩) ?_ ?_
            rotate_left
            ·intro w'
             go_simp
             with_reducible rfl
            rotate_left
            ·simp only [Act.put, List.setIfInBounds_toArray, List.set_cons_zero, List.set_cons_succ, i64_w, i32_w]
             rfl
            refine pure_ (i := 10) (N := some 9) (v := ?_) (a' := ?_) #[true, true, true, true, true, true, true, true, true, true, true, false] rfl rfl (any_of HT_.out (by kernel_rfl)) (fun _ _ _ h => h) (Or.inl ⟨by rfl, ?_⟩) ?_ ?_
            rotate_left
            ·intro w'
             go_simp
             with_reducible rfl
            rotate_left
            ·simp only [Act.put, List.setIfInBounds_toArray, List.set_cons_zero, List.set_cons_succ, i64_w, i32_w]
             rfl
            refine pure_ (i := 11) (N := some 10) (v := ?_) (a' := ?_) #[true, true, true, true, true, true, true, true, true, true, true, true] rfl rfl (any_of HT_.out (by kernel_rfl)) (fun _ _ _ h => h) (Or.inl ⟨by rfl, ?_⟩) ?_ ?_
            rotate_left
            ·intro w'
             go_simp
             with_reducible rfl
            rotate_left
            ·simp only [Act.put, List.setIfInBounds_toArray, List.set_cons_zero, List.set_cons_succ, i64_w, i32_w]
             rfl
            refine done_ (done_of HT_.out (by kernel_rfl)) ?_
            have p14 : 0 ≤ ((ji9) : Int) := of_decide_eq_true (by first | (with_reducible assumption) | assumption)
            have q14 : ((ji9) : Int) < ((y205.length : Int) : Int) := of_decide_eq_true (by first | (with_reducible assumption) | assumption)
            obtain ⟨go14, co14, eo14, gb14, gl14, cl14, HG14⟩ := Kd.R_form HO207.out (by omega)
            (first | cases eo14 | (injection eo14 with ea_ en_ ec_; (first | subst ea_ | (injection ea_ with ea_; subst ea_)); subst ec_; clear en_))
            have GB14 := Aside0.mk gb14
            have GG14 := Aside0.mk HG14
            clear gb14 gl14 HG14
            (first | simp only [add_plain] at hx208_0 | skip)
            obtain ⟨hx14_0, hf14_0⟩ := Kd.R_celln (⟨#[]⟩ : ByteArray) HO207.out ((ji9) : Int) p14 q14
            replace p14 := eq_true p14
            replace q14 := eq_true q14
            obtain ⟨hy22_, hz22_⟩ := Kd.R_celln (⟨#[]⟩ : ByteArray) HO207.out ((ji9) : Int) (of_decide_eq_true (by first | (with_reducible assumption) | assumption)) (of_decide_eq_true (by first | (with_reducible assumption) | assumption))
            have HP22 := Kd.R_putg HO207.out ((ji9) : Int) t209
            try go_wp2_with (first | ((with_reducible refine gate_store (t := 9) (p := 47) rfl ?_); refine store_event (t := 9) (p := 47) (v := ?vo_w23) (w1 := (w21.setCell ⟨go14, ((ji9) : Int).toNat, none⟩ (.string t209))) ?hg ?ho ?hn ?hr ?_; (case ho => rfl); (case hg => rfl); (case hn => rfl); (case hr => first | (go_simp; done) | (go_simp; rfl)); intro w23 hw; have hg : w21.grownBy w23 (some go14) := (by rw [hw]; exact HP22.2); have hp_ : Kd.R Kd.string 9 w23 w.heap.size (fun _ => True) (.slice (some ⟨go14, 0, none⟩) y205.length co19) y211 := (by rw [hw, Ny211.out]; exact HP22.1); clear HP22; have n0_ := Aside0.mk (blk_grown (g := gb203) (o := .cells #[.int .i64 ((rd_T42 l0 x16_1).f0), .int .u16 ((rd_T42 l0 x16_1).f1), .int .u16 ((rd_T42 l0 x16_1).f2), .int .u32 ((rd_T42 l0 x16_1).f3), .int .u64 ((rd_T42 l0 x16_1).f4), .int .i64 ((rd_T42 l0 x16_1).f5), .int .u32 ((rd_T42 l0 x16_1).f6.f0), .int .u32 ((rd_T42 l0 x16_1).f6.f1), .int .u32 ((rd_T42 l0 x16_1).f6.f2), .int .u32 ((rd_T42 l0 x16_1).f6.f3), .int .u32 ((rd_T42 l0 x16_1).f6.f4), .int .u32 ((rd_T42 l0 x16_1).f6.f5)] 42 (0, 0)) (by (with_reducible repeat (first | refine blk_drewN ?_ _ | refine blk_drew ?_ | refine blk_alloc ?_ _)); exact BK203.out) hg (Kd.R_ne HO207.out BK203.out (by decide))); have n1_ := Aside0.mk (hp_); have n2_ := Aside0.mk ((by rw [hw]; exact below_set (HB.out) GB14.out : Below w.heap.size w w23)); clear BK203; clear HO207; clear HB; have BK203 := n0_; have HO207 := n1_; have HB := n2_; clear n0_ n1_ n2_; clear hg hw hp_))
            go_roundg k1
            case measure => have := HK1.out; omega
            case rel => exact ⟨(y211), (wrap64 (x16_1 + 1)), (by first | rfl | (simp; done) | (simp [*]; done)), H', ⟨by have := HK1.out; omega⟩, ⟨by (with_reducible repeat (first | apply Kd.R_alloc | apply Kd.R_drewN | apply Kd.R_drew)); exact HO207.out⟩, ⟨by repeat (first | (with_reducible first | exact HB.out | apply below_alloc | apply pw_below_drewN | apply below_drew1 | refine below_set ?_ GE203.out) | exact HB.out)⟩⟩
           ·rw [if_neg c13] at H
            have c13b0 : (t210 == 0) = false := beq_eq_false_iff_ne.mpr c13
            have c13b1 : (t210 != 0) = true := bne_iff_ne.mpr c13
            simp only [Option.some.injEq, Prod.mk.injEq] at H
            obtain ⟨rfl, rfl⟩ := H
            have p202 : 0 ≤ (x16_1 : Int) := of_decide_eq_true (by first | (with_reducible assumption) | assumption)
            have q202 : x16_1 < (l0.length : Int) := of_decide_eq_true (by first | (with_reducible assumption) | assumption)
            obtain ⟨ad202, e202, hx202_0, hx202_1, hx202_2, hx202_3, hx202_4, hx202_5, hx202_6, hx202_7, hx202_8, hx202_9, hx202_10, hx202_11⟩ := at_T42 HR0.out x16_1 p202 q202
            cases e202
            replace hx202_0 := (HB.out.cell (World.block_lt_of_cell? w _ hx202_0)).trans hx202_0
            replace hx202_1 := (HB.out.cell (World.block_lt_of_cell? w _ hx202_1)).trans hx202_1
            replace hx202_2 := (HB.out.cell (World.block_lt_of_cell? w _ hx202_2)).trans hx202_2
            replace hx202_3 := (HB.out.cell (World.block_lt_of_cell? w _ hx202_3)).trans hx202_3
            replace hx202_4 := (HB.out.cell (World.block_lt_of_cell? w _ hx202_4)).trans hx202_4
            replace hx202_5 := (HB.out.cell (World.block_lt_of_cell? w _ hx202_5)).trans hx202_5
            replace hx202_6 := (HB.out.cell (World.block_lt_of_cell? w _ hx202_6)).trans hx202_6
            replace hx202_7 := (HB.out.cell (World.block_lt_of_cell? w _ hx202_7)).trans hx202_7
            replace hx202_8 := (HB.out.cell (World.block_lt_of_cell? w _ hx202_8)).trans hx202_8
            replace hx202_9 := (HB.out.cell (World.block_lt_of_cell? w _ hx202_9)).trans hx202_9
            replace hx202_10 := (HB.out.cell (World.block_lt_of_cell? w _ hx202_10)).trans hx202_10
            replace hx202_11 := (HB.out.cell (World.block_lt_of_cell? w _ hx202_11)).trans hx202_11
            replace p202 := eq_true p202
            replace q202 := eq_true q202
            try go_wp2_with (first | ((with_reducible refine gate_dst (N := 6) rfl ?_); refine box_event ?hg (N := 6) ?hd (cs := #[.int .i64 0, .int .u16 0, .int .u16 0, .int .u32 0, .int .u64 0, .int .i64 0, .int .u32 0, .int .u32 0, .int .u32 0, .int .u32 0, .int .u32 0, .int .u32 0]) (t := 42) ?hr ?_; (case hd => rfl); (case hg => rfl); (case hr => first | (go_simp; done) | (go_simp; rfl)); intro gb203 hg w24 hbox hb; have n0_ := Aside0.mk (Kd.R_below (by (with_reducible repeat (first | apply Kd.R_alloc | apply Kd.R_drewN | apply Kd.R_drew)); exact HO_4.out) hb); have n1_ := Aside0.mk (below_step (by repeat (first | (with_reducible first | exact HB.out | apply below_alloc | apply pw_below_drewN | apply below_drew1) | exact HB.out)) hb); have n2_ := Aside0.mk (hbox); have n3_ := Aside0.mk ((by rw [hg]; exact (below_size (by repeat (first | (with_reducible first | exact HB.out | apply below_alloc | apply pw_below_drewN | apply below_drew1) | exact HB.out))) : w.heap.size ≤ gb203)); have n4_ := Aside0.mk ((by rw [hg]; exact (below_size (by repeat (first | (with_reducible first | exact HB.out | apply below_alloc | apply pw_below_drewN | apply below_drew1) | exact HB.out))) : w.heap.size ≤ gb203)); clear HO_4; clear HB; have HO_4 := n0_; have HB := n1_; have BK203 := n2_; have GW203 := n3_; have GE203 := n4_; clear n0_ n1_ n2_ n3_ n4_; clear hb hbox hg; have hcz25_0 : w24.cell? ⟨gb203, 0, none⟩ = some (.int .i64 0) := (blk_cell BK203.out 0).trans rfl; have hcz25_1 : w24.cell? ⟨gb203, 1, none⟩ = some (.int .u16 0) := (blk_cell BK203.out 1).trans rfl; have hcz25_2 : w24.cell? ⟨gb203, 2, none⟩ = some (.int .u16 0) := (blk_cell BK203.out 2).trans rfl; have hcz25_3 : w24.cell? ⟨gb203, 3, none⟩ = some (.int .u32 0) := (blk_cell BK203.out 3).trans rfl; have hcz25_4 : w24.cell? ⟨gb203, 4, none⟩ = some (.int .u64 0) := (blk_cell BK203.out 4).trans rfl; have hcz25_5 : w24.cell? ⟨gb203, 5, none⟩ = some (.int .i64 0) := (blk_cell BK203.out 5).trans rfl; have hcz25_6 : w24.cell? ⟨gb203, 6, none⟩ = some (.int .u32 0) := (blk_cell BK203.out 6).trans rfl; have hcz25_7 : w24.cell? ⟨gb203, 7, none⟩ = some (.int .u32 0) := (blk_cell BK203.out 7).trans rfl; have hcz25_8 : w24.cell? ⟨gb203, 8, none⟩ = some (.int .u32 0) := (blk_cell BK203.out 8).trans rfl; have hcz25_9 : w24.cell? ⟨gb203, 9, none⟩ = some (.int .u32 0) := (blk_cell BK203.out 9).trans rfl; have hcz25_10 : w24.cell? ⟨gb203, 10, none⟩ = some (.int .u32 0) := (blk_cell BK203.out 10).trans rfl; have hcz25_11 : w24.cell? ⟨gb203, 11, none⟩ = some (.int .u32 0) := (blk_cell BK203.out 11).trans rfl; have hfz25_0 := blk_frozen BK203.out 0; have hfz25_1 := blk_frozen BK203.out 1; have hfz25_2 := blk_frozen BK203.out 2; have hfz25_3 := blk_frozen BK203.out 3; have hfz25_4 := blk_frozen BK203.out 4; have hfz25_5 := blk_frozen BK203.out 5; have hfz25_6 := blk_frozen BK203.out 6; have hfz25_7 := blk_frozen BK203.out 7; have hfz25_8 := blk_frozen BK203.out 8; have hfz25_9 := blk_frozen BK203.out 9; have hfz25_10 := blk_frozen BK203.out 10; have hfz25_11 := blk_frozen BK203.out 11) | ((with_reducible refine gate_callee (f := 44) rfl ?_); refine goesL_ (some 26) rfl rfl Try.func44 (by kernel_rfl) rfl #[.string (⟨#[0]⟩ : ByteArray), .int .i64 508] rfl (by (try simp only [List.map_toArray, List.map_cons, List.map_nil]); first | done | rfl | (simp only [List.length_drop, List.length_take]; rfl)) ?_; (with_reducible refine (strings_Repeat.calls (⟨#[0]⟩ : ByteArray) 508 t204 _ A7.out).mono ?_); rintro e w26 ⟨rfl, hb⟩; refine ⟨_, rfl, ?_⟩; have n0_ := Aside0.mk (Kd.R_below (by (with_reducible repeat (first | apply Kd.R_alloc | apply Kd.R_drewN | apply Kd.R_drew)); exact (Kd.R_mono (Kd.R_far (p := ⟨gb203, 11, none⟩) (Kd.R_far (p := ⟨gb203, 10, none⟩) (Kd.R_far (p := ⟨gb203, 9, none⟩) (Kd.R_far (p := ⟨gb203, 8, none⟩) (Kd.R_far (p := ⟨gb203, 7, none⟩) (Kd.R_far (p := ⟨gb203, 6, none⟩) (Kd.R_far (p := ⟨gb203, 5, none⟩) (Kd.R_far (p := ⟨gb203, 4, none⟩) (Kd.R_far (p := ⟨gb203, 3, none⟩) (Kd.R_far (p := ⟨gb203, 2, none⟩) (Kd.R_far (p := ⟨gb203, 1, none⟩) (Kd.R_far (p := ⟨gb203, 0, none⟩) (Kd.R_types HO_4.out BK203.out (by decide)) (fun _ hk => hk.2) (.int .i64 ((rd_T42 l0 x16_1).f0))) (fun _ hk => hk.2) (.int .u16 ((rd_T42 l0 x16_1).f1))) (fun _ hk => hk.2) (.int .u16 ((rd_T42 l0 x16_1).f2))) (fun _ hk => hk.2) (.int .u32 ((rd_T42 l0 x16_1).f3))) (fun _ hk => hk.2) (.int .u64 ((rd_T42 l0 x16_1).f4))) (fun _ hk => hk.2) (.int .i64 ((rd_T42 l0 x16_1).f5))) (fun _ hk => hk.2) (.int .u32 ((rd_T42 l0 x16_1).f6.f0))) (fun _ hk => hk.2) (.int .u32 ((rd_T42 l0 x16_1).f6.f1))) (fun _ hk => hk.2) (.int .u32 ((rd_T42 l0 x16_1).f6.f2))) (fun _ hk => hk.2) (.int .u32 ((rd_T42 l0 x16_1).f6.f3))) (fun _ hk => hk.2) (.int .u32 ((rd_T42 l0 x16_1).f6.f4))) (fun _ hk => hk.2) (.int .u32 ((rd_T42 l0 x16_1).f6.f5))) (fun _ h_ => h_.1))) hb); have n1_ := Aside0.mk (blk_below (g := gb203) (o := .cells #[.int .i64 ((rd_T42 l0 x16_1).f0), .int .u16 ((rd_T42 l0 x16_1).f1), .int .u16 ((rd_T42 l0 x16_1).f2), .int .u32 ((rd_T42 l0 x16_1).f3), .int .u64 ((rd_T42 l0 x16_1).f4), .int .i64 ((rd_T42 l0 x16_1).f5), .int .u32 ((rd_T42 l0 x16_1).f6.f0), .int .u32 ((rd_T42 l0 x16_1).f6.f1), .int .u32 ((rd_T42 l0 x16_1).f6.f2), .int .u32 ((rd_T42 l0 x16_1).f6.f3), .int .u32 ((rd_T42 l0 x16_1).f6.f4), .int .u32 ((rd_T42 l0 x16_1).f6.f5)] 42 (0, 0)) (by (with_reducible repeat (first | refine blk_drewN ?_ _ | refine blk_drew ?_ | refine blk_alloc ?_ _)); refine blk_put (cs := #[.int .i64 ((rd_T42 l0 x16_1).f0), .int .u16 ((rd_T42 l0 x16_1).f1), .int .u16 ((rd_T42 l0 x16_1).f2), .int .u32 ((rd_T42 l0 x16_1).f3), .int .u64 ((rd_T42 l0 x16_1).f4), .int .i64 ((rd_T42 l0 x16_1).f5), .int .u32 ((rd_T42 l0 x16_1).f6.f0), .int .u32 ((rd_T42 l0 x16_1).f6.f1), .int .u32 ((rd_T42 l0 x16_1).f6.f2), .int .u32 ((rd_T42 l0 x16_1).f6.f3), .int .u32 ((rd_T42 l0 x16_1).f6.f4), .int .u32 0]) ?_ 11 _ rfl; (with_reducible repeat (first | refine blk_drewN ?_ _ | refine blk_drew ?_ | refine blk_alloc ?_ _)); refine blk_put (cs := #[.int .i64 ((rd_T42 l0 x16_1).f0), .int .u16 ((rd_T42 l0 x16_1).f1), .int .u16 ((rd_T42 l0 x16_1).f2), .int .u32 ((rd_T42 l0 x16_1).f3), .int .u64 ((rd_T42 l0 x16_1).f4), .int .i64 ((rd_T42 l0 x16_1).f5), .int .u32 ((rd_T42 l0 x16_1).f6.f0), .int .u32 ((rd_T42 l0 x16_1).f6.f1), .int .u32 ((rd_T42 l0 x16_1).f6.f2), .int .u32 ((rd_T42 l0 x16_1).f6.f3), .int .u32 0, .int .u32 0]) ?_ 10 _ rfl; (with_reducible repeat (first | refine blk_drewN ?_ _ | refine blk_drew ?_ | refine blk_alloc ?_ _)); refine blk_put (cs := #[.int .i64 ((rd_T42 l0 x16_1).f0), .int .u16 ((rd_T42 l0 x16_1).f1), .int .u16 ((rd_T42 l0 x16_1).f2), .int .u32 ((rd_T42 l0 x16_1).f3), .int .u64 ((rd_T42 l0 x16_1).f4), .int .i64 ((rd_T42 l0 x16_1).f5), .int .u32 ((rd_T42 l0 x16_1).f6.f0), .int .u32 ((rd_T42 l0 x16_1).f6.f1), .int .u32 ((rd_T42 l0 x16_1).f6.f2), .int .u32 0, .int .u32 0, .int .u32 0]) ?_ 9 _ rfl; (with_reducible repeat (first | refine blk_drewN ?_ _ | refine blk_drew ?_ | refine blk_alloc ?_ _)); refine blk_put (cs := #[.int .i64 ((rd_T42 l0 x16_1).f0), .int .u16 ((rd_T42 l0 x16_1).f1), .int .u16 ((rd_T42 l0 x16_1).f2), .int .u32 ((rd_T42 l0 x16_1).f3), .int .u64 ((rd_T42 l0 x16_1).f4), .int .i64 ((rd_T42 l0 x16_1).f5), .int .u32 ((rd_T42 l0 x16_1).f6.f0), .int .u32 ((rd_T42 l0 x16_1).f6.f1), .int .u32 0, .int .u32 0, .int .u32 0, .int .u32 0]) ?_ 8 _ rfl; (with_reducible repeat (first | refine blk_drewN ?_ _ | refine blk_drew ?_ | refine blk_alloc ?_ _)); refine blk_put (cs := #[.int .i64 ((rd_T42 l0 x16_1).f0), .int .u16 ((rd_T42 l0 x16_1).f1), .int .u16 ((rd_T42 l0 x16_1).f2), .int .u32 ((rd_T42 l0 x16_1).f3), .int .u64 ((rd_T42 l0 x16_1).f4), .int .i64 ((rd_T42 l0 x16_1).f5), .int .u32 ((rd_T42 l0 x16_1).f6.f0), .int .u32 0, .int .u32 0, .int .u32 0, .int .u32 0, .int .u32 0]) ?_ 7 _ rfl; (with_reducible repeat (first | refine blk_drewN ?_ _ | refine blk_drew ?_ | refine blk_alloc ?_ _)); refine blk_put (cs := #[.int .i64 ((rd_T42 l0 x16_1).f0), .int .u16 ((rd_T42 l0 x16_1).f1), .int .u16 ((rd_T42 l0 x16_1).f2), .int .u32 ((rd_T42 l0 x16_1).f3), .int .u64 ((rd_T42 l0 x16_1).f4), .int .i64 ((rd_T42 l0 x16_1).f5), .int .u32 0, .int .u32 0, .int .u32 0, .int .u32 0, .int .u32 0, .int .u32 0]) ?_ 6 _ rfl; (with_reducible repeat (first | refine blk_drewN ?_ _ | refine blk_drew ?_ | refine blk_alloc ?_ _)); refine blk_put (cs := #[.int .i64 ((rd_T42 l0 x16_1).f0), .int .u16 ((rd_T42 l0 x16_1).f1), .int .u16 ((rd_T42 l0 x16_1).f2), .int .u32 ((rd_T42 l0 x16_1).f3), .int .u64 ((rd_T42 l0 x16_1).f4), .int .i64 0, .int .u32 0, .int .u32 0, .int .u32 0, .int .u32 0, .int .u32 0, .int .u32 0]) ?_ 5 _ rfl; (with_reducible repeat (first | refine blk_drewN ?_ _ | refine blk_drew ?_ | refine blk_alloc ?_ _)); refine blk_put (cs := #[.int .i64 ((rd_T42 l0 x16_1).f0), .int .u16 ((rd_T42 l0 x16_1).f1), .int .u16 ((rd_T42 l0 x16_1).f2), .int .u32 ((rd_T42 l0 x16_1).f3), .int .u64 0, .int .i64 0, .int .u32 0, .int .u32 0, .int .u32 0, .int .u32 0, .int .u32 0, .int .u32 0]) ?_ 4 _ rfl; (with_reducible repeat (first | refine blk_drewN ?_ _ | refine blk_drew ?_ | refine blk_alloc ?_ _)); refine blk_put (cs := #[.int .i64 ((rd_T42 l0 x16_1).f0), .int .u16 ((rd_T42 l0 x16_1).f1), .int .u16 ((rd_T42 l0 x16_1).f2), .int .u32 0, .int .u64 0, .int .i64 0, .int .u32 0, .int .u32 0, .int .u32 0, .int .u32 0, .int .u32 0, .int .u32 0]) ?_ 3 _ rfl; (with_reducible repeat (first | refine blk_drewN ?_ _ | refine blk_drew ?_ | refine blk_alloc ?_ _)); refine blk_put (cs := #[.int .i64 ((rd_T42 l0 x16_1).f0), .int .u16 ((rd_T42 l0 x16_1).f1), .int .u16 0, .int .u32 0, .int .u64 0, .int .i64 0, .int .u32 0, .int .u32 0, .int .u32 0, .int .u32 0, .int .u32 0, .int .u32 0]) ?_ 2 _ rfl; (with_reducible repeat (first | refine blk_drewN ?_ _ | refine blk_drew ?_ | refine blk_alloc ?_ _)); refine blk_put (cs := #[.int .i64 ((rd_T42 l0 x16_1).f0), .int .u16 0, .int .u16 0, .int .u32 0, .int .u64 0, .int .i64 0, .int .u32 0, .int .u32 0, .int .u32 0, .int .u32 0, .int .u32 0, .int .u32 0]) ?_ 1 _ rfl; (with_reducible repeat (first | refine blk_drewN ?_ _ | refine blk_drew ?_ | refine blk_alloc ?_ _)); refine blk_put (cs := #[.int .i64 0, .int .u16 0, .int .u16 0, .int .u32 0, .int .u64 0, .int .i64 0, .int .u32 0, .int .u32 0, .int .u32 0, .int .u32 0, .int .u32 0, .int .u32 0]) ?_ 0 _ rfl; (with_reducible repeat (first | refine blk_drewN ?_ _ | refine blk_drew ?_ | refine blk_alloc ?_ _)); exact BK203.out) hb); have n2_ := Aside0.mk (below_step (by repeat (first | (with_reducible first | exact HB.out | apply below_alloc | apply pw_below_drewN | apply below_drew1 | refine below_set ?_ GE203.out) | exact HB.out)) hb); clear HO_4; clear BK203; clear HB; have HO_4 := n0_; have BK203 := n1_; have HB := n2_; clear n0_ n1_ n2_; (try clear hb); (try clear hb2); (try clear hk); (try clear hi)) | ((with_reducible refine gate_builtin (b := .append) (xs := #[.tmp 25, .tmp 27]) rfl ?_); at_builtin; refine Kd.R_append Kd.string (w0 := w) w.heap.size rfl (.tmp 25) (.tmp 27) 29 9 (.string ⟨#[]⟩) 16 rfl Try.underlying29 info9 rfl (by decide) (by omega) u4 x4_1 t204 [.string t204] (fun _ => True) (fun _ => False) rfl rfl ?aP (fun _ hk => hk.elim) ?aF ?aO ?aB ?aS ?aL ?_; (case aP => exact rfl); (case aB => exact (by repeat (first | (with_reducible first | exact HB.out | apply below_alloc | apply pw_below_drewN | apply below_drew1 | refine below_set ?_ GE203.out) | exact HB.out))); (case aF => exact (fun _ _ => trivial)); (case aO => exact (by (with_reducible repeat (first | apply Kd.R_alloc | apply Kd.R_drewN | apply Kd.R_drew)); exact HO_4.out)); (case aS => exact (below_size (by repeat (first | (with_reducible first | exact HB.out | apply below_alloc | apply pw_below_drewN | apply below_drew1 | refine below_set ?_ GE203.out) | exact HB.out)))); (case aL => have := LMc8.out; omega); intro v206 w27 ho hb hg hat; rw [← Ny205.out] at ho; have n0_ := Aside0.mk (blk_grown (g := gb203) (o := .cells #[.int .i64 ((rd_T42 l0 x16_1).f0), .int .u16 ((rd_T42 l0 x16_1).f1), .int .u16 ((rd_T42 l0 x16_1).f2), .int .u32 ((rd_T42 l0 x16_1).f3), .int .u64 ((rd_T42 l0 x16_1).f4), .int .i64 ((rd_T42 l0 x16_1).f5), .int .u32 ((rd_T42 l0 x16_1).f6.f0), .int .u32 ((rd_T42 l0 x16_1).f6.f1), .int .u32 ((rd_T42 l0 x16_1).f6.f2), .int .u32 ((rd_T42 l0 x16_1).f6.f3), .int .u32 ((rd_T42 l0 x16_1).f6.f4), .int .u32 ((rd_T42 l0 x16_1).f6.f5)] 42 (0, 0)) (by (with_reducible repeat (first | refine blk_drewN ?_ _ | refine blk_drew ?_ | refine blk_alloc ?_ _)); exact BK203.out) hg (Kd.R_ne HO_4.out BK203.out (by decide))); have n1_ := Aside0.mk (hb); have n2_ := Aside0.mk (ho); clear BK203; clear HB; clear HO_4; have BK203 := n0_; have HB := n1_; have HO207 := n2_; clear n0_ n1_ n2_; clear ho hb hg hat; obtain ⟨Ao28, co28, eo28⟩ := Kd.R_slice HO207.out; subst eo28))
            have n0_ := Aside0.mk (Kd.R_drew HO207.out)
            have n1_ := Aside0.mk (blk_drew BK203.out)
            have n2_ := Aside0.mk (below_drew1 HB.out)
            clear HO207
            clear BK203
            clear HB
            have HO207 := n0_
            have BK203 := n1_
            have HB := n2_
            clear n0_ n1_ n2_
            have p208 : 0 ≤ ((ji9) : Int) := of_decide_eq_true (by first | (with_reducible assumption) | assumption)
            have q208 : (ji9) < (y205.length : Int) := of_decide_eq_true (by first | (with_reducible assumption) | assumption)
            obtain ⟨ad208, e208, hx208_0⟩ := Kd.at_string (Kd.R_reads' HO207.out).2.2 (ji9) p208 q208
            cases e208
            replace p208 := eq_true p208
            replace q208 := eq_true q208
            refine start_ (n := 12) (S := fun w' => w'.cell? ⟨gb203, 0, none⟩ = some (.int .i64 ((rd_T42 l0 x16_1).f0)) ∧ w'.cell? ⟨gb203, 1, none⟩ = some (.int .u16 ((rd_T42 l0 x16_1).f1)) ∧ w'.cell? ⟨gb203, 2, none⟩ = some (.int .u16 ((rd_T42 l0 x16_1).f2)) ∧ w'.cell? ⟨gb203, 3, none⟩ = some (.int .u32 ((rd_T42 l0 x16_1).f3)) ∧ w'.cell? ⟨gb203, 4, none⟩ = some (.int .u64 ((rd_T42 l0 x16_1).f4)) ∧ w'.cell? ⟨gb203, 5, none⟩ = some (.int .i64 ((rd_T42 l0 x16_1).f5)) ∧ w'.cell? ⟨gb203, 6, none⟩ = some (.int .u32 ((rd_T42 l0 x16_1).f6.f0)) ∧ w'.cell? ⟨gb203, 7, none⟩ = some (.int .u32 ((rd_T42 l0 x16_1).f6.f1)) ∧ w'.cell? ⟨gb203, 8, none⟩ = some (.int .u32 ((rd_T42 l0 x16_1).f6.f2)) ∧ w'.cell? ⟨gb203, 9, none⟩ = some (.int .u32 ((rd_T42 l0 x16_1).f6.f3)) ∧ w'.cell? ⟨gb203, 10, none⟩ = some (.int .u32 ((rd_T42 l0 x16_1).f6.f4)) ∧ w'.cell? ⟨gb203, 11, none⟩ = some (.int .u32 ((rd_T42 l0 x16_1).f6.f5)) ∧ w'.cell? (ad208.add ((ji9)).toNat) = some (.string (rdOf ByteArray.empty y205 (ji9)))) (ds := []) #[false, false, false, false, false, false, false, false, false, false, false, false] (by kernel_rfl) rfl rfl ⟨(blk_cell BK203.out 0).trans rfl, (blk_cell BK203.out 1).trans rfl, (blk_cell BK203.out 2).trans rfl, (blk_cell BK203.out 3).trans rfl, (blk_cell BK203.out 4).trans rfl, (blk_cell BK203.out 5).trans rfl, (blk_cell BK203.out 6).trans rfl, (blk_cell BK203.out 7).trans rfl, (blk_cell BK203.out 8).trans rfl, (blk_cell BK203.out 9).trans rfl, (blk_cell BK203.out 10).trans rfl, (blk_cell BK203.out 11).trans rfl, hx208_0⟩ (fun hHeld => ?_); refine with_tabW vol_Table.tab11 vol_Table.bits11 (fun HT_ HW_ => ?_)
            generalize w27.drew = w29 at HO207 BK203 HB hx208_0 hHeld ⊢
            refine pure_ (i := 0) (N := some 33) (v := ?_) (a' := ?_) #[true, false, false, false, false, false, false, false, false, false, false, false] rfl rfl (any_of HT_.out (by kernel_rfl)) (fun _ _ _ h => h) (Or.inl ⟨by rfl, ?_⟩) ?_ ?_
            rotate_left
            ·intro w'
             go_simp
             with_reducible rfl
            rotate_left
            ·simp only [Act.put, List.setIfInBounds_toArray, List.set_cons_zero, List.set_cons_succ, i64_w, i32_w]
             rfl
            refine pure_ (i := 1) (N := some 34) (v := ?_) (a' := ?_) #[true, true, false, false, false, false, false, false, false, false, false, false] rfl rfl (any_of HT_.out (by kernel_rfl)) (fun _ _ _ h => h) (Or.inl ⟨by rfl, ?_⟩) ?_ ?_
            rotate_left
            ·intro w'
             go_simp
             with_reducible rfl
            rotate_left
            ·simp only [Act.put, List.setIfInBounds_toArray, List.set_cons_zero, List.set_cons_succ, i64_w, i32_w]
             rfl
            refine pure_ (i := 2) (N := some 35) (v := ?_) (a' := ?_) #[true, true, true, false, false, false, false, false, false, false, false, false] rfl rfl (any_of HT_.out (by kernel_rfl)) (fun _ _ _ h => h) (Or.inl ⟨by rfl, ?_⟩) ?_ ?_
            rotate_left
            ·intro w'
             go_simp
             with_reducible rfl
            rotate_left
            ·simp only [Act.put, List.setIfInBounds_toArray, List.set_cons_zero, List.set_cons_succ, i64_w, i32_w]
             rfl
            refine pure_ (i := 4) (N := some 37) (v := ?_) (a' := ?_) #[true, true, true, false, true, false, false, false, false, false, false, false] rfl rfl (any_of HT_.out (by kernel_rfl)) (fun _ _ _ h => h) (Or.inl ⟨by rfl, ?_⟩) ?_ ?_
            rotate_left
            ·intro w'
             go_simp
             with_reducible rfl
            rotate_left
            ·simp only [Act.put, List.setIfInBounds_toArray, List.set_cons_zero, List.set_cons_succ, i64_w, i32_w]
             rfl
            refine take_ (i := 3) (N := some 36) (v := ?_) (a' := ?_) #[true, true, true, true, true, false, false, false, false, false, false, false] rfl rfl (take_ofW HT_.out HW_.out (by kernel_rfl)) (fun _ _ _ h => h) (Or.inl ⟨by rfl, ?_⟩) hHeld ?_ ?_
            rotate_left
            ·rintro w' ⟨s0, s1, s2, s3, s4, s5, s6, s7, s8, s9, s10, s11, s12⟩
             go_simp
             with_reducible rfl
            rotate_left
            ·simp only [Act.put, List.setIfInBounds_toArray, List.set_cons_zero, List.set_cons_succ, i64_w, i32_w]
             rfl
            refine take_ (i := 5) (N := some 38) (v := ?_) (a' := ?_) #[true, true, true, true, true, true, false, false, false, false, false, false] rfl rfl (take_ofW HT_.out HW_.out (by kernel_rfl)) (fun _ _ _ h => h) (Or.inl ⟨by rfl, ?_⟩) hHeld ?_ ?_
            rotate_left
            ·rintro w' ⟨s0, s1, s2, s3, s4, s5, s6, s7, s8, s9, s10, s11, s12⟩
             go_simp
             with_reducible rfl
            rotate_left
            ·simp only [Act.put, List.setIfInBounds_toArray, List.set_cons_zero, List.set_cons_succ, i64_w, i32_w]
             rfl
            refine one_ (i := 6) (N := some 39) #[true, true, true, true, true, true, true, false, false, false, false, false] rfl rfl (one_of HT_.out (by kernel_rfl)) (by decide) (fun K hK => ?_)
            refine goes_ Try.func45 (by kernel_rfl) rfl #[.string (rdOf ByteArray.empty y205 (ji9)), .int .i64 (Int.tmod x16_1 12), .agg #[.int .i64 ((rd_T42 l0 x16_1).f0), .int .u16 ((rd_T42 l0 x16_1).f1), .int .u16 ((rd_T42 l0 x16_1).f2), .int .u32 ((rd_T42 l0 x16_1).f3), .int .u64 ((rd_T42 l0 x16_1).f4), .int .i64 ((rd_T42 l0 x16_1).f5), .int .u32 ((rd_T42 l0 x16_1).f6.f0), .int .u32 ((rd_T42 l0 x16_1).f6.f1), .int .u32 ((rd_T42 l0 x16_1).f6.f2), .int .u32 ((rd_T42 l0 x16_1).f6.f3), .int .u32 ((rd_T42 l0 x16_1).f6.f4), .int .u32 ((rd_T42 l0 x16_1).f6.f5)]] (by rfl) rfl rfl (by (try simp only [List.map_toArray, List.map_cons, List.map_nil]); first | done | (simp only [hji9]; rfl) | rfl | (simp only [List.length_drop, List.length_take]; rfl)) ?_
            with_reducible refine (inode_Put.calls (rdOf ByteArray.empty y205 (ji9)) (Int.tmod x16_1 12) ((rd_T42 l0 x16_1).f0) ((rd_T42 l0 x16_1).f1) ((rd_T42 l0 x16_1).f2) ((rd_T42 l0 x16_1).f3) ((rd_T42 l0 x16_1).f4) ((rd_T42 l0 x16_1).f5) ((rd_T42 l0 x16_1).f6.f0) ((rd_T42 l0 x16_1).f6.f1) ((rd_T42 l0 x16_1).f6.f2) ((rd_T42 l0 x16_1).f6.f3) ((rd_T42 l0 x16_1).f6.f4) ((rd_T42 l0 x16_1).f6.f5) t209 t210 _ A12.out).mono ?_
            rintro e w30 ⟨rfl, hb⟩
            have HS12_ := (hb.cell (World.block_lt_of_cell? _ _ (hHeld.2.2.2.2.2.2.2.2.2.2.2.2))).trans (hHeld.2.2.2.2.2.2.2.2.2.2.2.2)
            refine ⟨_, rfl, ?_⟩
            have n0_ := Aside0.mk (Kd.R_below (by (with_reducible repeat (first | apply Kd.R_alloc | apply Kd.R_drewN | apply Kd.R_drew)); exact HO207.out) hb)
            have n1_ := Aside0.mk (blk_below (g := gb203) (o := .cells #[.int .i64 ((rd_T42 l0 x16_1).f0), .int .u16 ((rd_T42 l0 x16_1).f1), .int .u16 ((rd_T42 l0 x16_1).f2), .int .u32 ((rd_T42 l0 x16_1).f3), .int .u64 ((rd_T42 l0 x16_1).f4), .int .i64 ((rd_T42 l0 x16_1).f5), .int .u32 ((rd_T42 l0 x16_1).f6.f0), .int .u32 ((rd_T42 l0 x16_1).f6.f1), .int .u32 ((rd_T42 l0 x16_1).f6.f2), .int .u32 ((rd_T42 l0 x16_1).f6.f3), .int .u32 ((rd_T42 l0 x16_1).f6.f4), .int .u32 ((rd_T42 l0 x16_1).f6.f5)] 42 (0, 0)) (by (with_reducible repeat (first | refine blk_drewN ?_ _ | refine blk_drew ?_ | refine blk_alloc ?_ _)); exact BK203.out) hb)
            have n2_ := Aside0.mk (below_step (by repeat (first | (with_reducible first | exact HB.out | apply below_alloc | apply pw_below_drewN | apply below_drew1 | refine below_set ?_ GE203.out) | exact HB.out)) hb)
            clear HO207
            clear BK203
            clear HB
            have HO207 := n0_
            have BK203 := n1_
            have HB := n2_
            clear n0_ n1_ n2_
            (try clear hb)
            (try clear hb2)
            (try clear hk)
            (try clear hi)
            refine hK.out _ _ ⟨(blk_cell BK203.out 0).trans rfl, (blk_cell BK203.out 1).trans rfl, (blk_cell BK203.out 2).trans rfl, (blk_cell BK203.out 3).trans rfl, (blk_cell BK203.out 4).trans rfl, (blk_cell BK203.out 5).trans rfl, (blk_cell BK203.out 6).trans rfl, (blk_cell BK203.out 7).trans rfl, (blk_cell BK203.out 8).trans rfl, (blk_cell BK203.out 9).trans rfl, (blk_cell BK203.out 10).trans rfl, (blk_cell BK203.out 11).trans rfl, HS12_⟩ (fun hHeld => ?_)
            clear hK K
            refine norm_ (a' := ?_) ?_ ?_
            rotate_left
            ·show Act.put _ (some 39) _ = _
             simp only [Act.put, List.setIfInBounds_toArray, List.set_cons_zero, List.set_cons_succ, i64_w, i32_w]
             rfl
            refine pure_ (i := 7) (N := some 32) (v := ?_) (a' := ?_) #[true, true, true, true, true, true, true, true, false, false, false, false] rfl rfl (any_of HT_.out (by kernel_rfl)) (fun _ _ _ h => h) (Or.inl ⟨by rfl, ?_⟩) ?_ ?_
            rotate_left
            ·intro w'
             go_simp
             with_reducible rfl
            rotate_left
            ·simp only [Act.put, List.setIfInBounds_toArray, List.set_cons_zero, List.set_cons_succ, i64_w, i32_w]
             rfl
            refine pure_ (i := 8) (N := some 40) (v := ?_) (a' := ?_) #[true, true, true, true, true, true, true, true, true, false, false, false] rfl rfl (any_of HT_.out (by kernel_rfl)) (fun _ _ _ h => h) (Or.inl ⟨by rfl, ?_⟩) ?_ ?_
            rotate_left
            ·intro w'
             go_simp
             with_reducible rfl
            rotate_left
            ·simp only [Act.put, List.setIfInBounds_toArray, List.set_cons_zero, List.set_cons_succ, i64_w, i32_w]
             rfl
            refine pure_ (i := 9) (N := some 41) (v := ?_) (a' := ?_) #[true, true, true, true, true, true, true, true, true, true, false, false] rfl rfl (any_of HT_.out (by kernel_rfl)) (fun _ _ _ h => h) (Or.inl ⟨by rfl, ?_⟩) ?_ ?_
            rotate_left
            ·intro w'
             go_simp
             with_reducible rfl
            rotate_left
            ·simp only [Act.put, List.setIfInBounds_toArray, List.set_cons_zero, List.set_cons_succ, i64_w, i32_w]
             rfl
            refine pure_ (i := 10) (N := some 9) (v := ?_) (a' := ?_) #[true, true, true, true, true, true, true, true, true, true, true, false] rfl rfl (any_of HT_.out (by kernel_rfl)) (fun _ _ _ h => h) (Or.inl ⟨by rfl, ?_⟩) ?_ ?_
            rotate_left
            ·intro w'
             go_simp
             with_reducible rfl
            rotate_left
            ·simp only [Act.put, List.setIfInBounds_toArray, List.set_cons_zero, List.set_cons_succ, i64_w, i32_w]
             rfl
            refine pure_ (i := 11) (N := some 10) (v := ?_) (a' := ?_) #[true, true, true, true, true, true, true, true, true, true, true, true] rfl rfl (any_of HT_.out (by kernel_rfl)) (fun _ _ _ h => h) (Or.inl ⟨by rfl, ?_⟩) ?_ ?_
            rotate_left
            ·intro w'
             go_simp
             with_reducible rfl
            rotate_left
            ·simp only [Act.put, List.setIfInBounds_toArray, List.set_cons_zero, List.set_cons_succ, i64_w, i32_w]
             rfl
            refine done_ (done_of HT_.out (by kernel_rfl)) ?_
            try go_wp2
            go_ret2
            exact ⟨_, by first | rfl | (simp [errW_none, errW_some] <;> rfl) | (simp only [← hji9]; first | rfl | (simp [errW_none, errW_some] <;> rfl)) | (simp [*, errW_none, errW_some] <;> rfl), by first | exact Kd.R_nil _ _ _ _ _ | exact Kd.N_nil _ _ _ _ _ | exact Kd.V_nil _ _ _ _ _ | exact Kd.Q_nil _ _ _ _ _ | exact Kd.S_nil _ _ _ _ _, by repeat (first | (with_reducible first | exact HB.out | apply below_alloc | apply pw_below_drewN | apply below_drew1 | refine below_set ?_ GE203.out) | exact HB.out)⟩
          ·rw [if_neg c11] at H
           exact absurd H (by simp)
         ·rw [if_neg c10] at H
          exact absurd H (by simp)
        ·rw [if_neg c8] at H
         exact absurd H (by simp)
       ·rw [if_neg c6] at H
        have c6b0 : ((Int.tmod x16_1 12) == 0) = false := beq_eq_false_iff_ne.mpr c6
        have c6b1 : ((Int.tmod x16_1 12) != 0) = true := bne_iff_ne.mpr c6
        obtain ⟨ji31, hji31⟩ : ∃ j_ : Int, (wrap64 ((x4_1.length : Int) - 1)) = j_ := ⟨_, rfl⟩
        replace H : (if 0 ≤ (ji31) then (if (ji31) < (x4_1.length : Int) then ((inode_Put.f (rdOf ByteArray.empty x4_1 (ji31)) (Int.tmod x16_1 12) ((rd_T42 l0 x16_1).f0) ((rd_T42 l0 x16_1).f1) ((rd_T42 l0 x16_1).f2) ((rd_T42 l0 x16_1).f3) ((rd_T42 l0 x16_1).f4) ((rd_T42 l0 x16_1).f5) ((rd_T42 l0 x16_1).f6.f0) ((rd_T42 l0 x16_1).f6.f1) ((rd_T42 l0 x16_1).f6.f2) ((rd_T42 l0 x16_1).f6.f3) ((rd_T42 l0 x16_1).f6.f4) ((rd_T42 l0 x16_1).f6.f5)).bind fun bt213 => (if bt213.2 = 0 then (vol_Table.l0 k1 (x4_1.set ((ji31) : Int).toNat bt213.1) l0 (l0.length : Int) (wrap64 (x16_1 + 1))) else (some (([] : List ByteArray), 154)))) else (none)) else (none)) = some (r1, r2) := by first | (rw [hji31] at H; exact H) | (simp only [hji31] at H ⊢; exact H)
        have hji31w : (IntKind.i64.wrap ((x4_1.length : Int) - 1)) = ji31 := (i64_w _).trans hji31
        by_cases c32 : 0 ≤ (ji31)
        ·rw [if_pos c32] at H
         have c32b0 : decide (0 ≤ (ji31)) = true := decide_eq_true c32
         clear c32
         by_cases c33 : (ji31) < (x4_1.length : Int)
         ·rw [if_pos c33] at H
          have c33b0 : decide ((ji31) < (x4_1.length : Int)) = true := decide_eq_true c33
          clear c33
          replace H := Option.bind_eq_some_iff.mp H
          obtain ⟨⟨t213, t214⟩, A340, H⟩ := H
          replace H : (if t214 = 0 then (vol_Table.l0 k1 (x4_1.set ((ji31) : Int).toNat t213) l0 (l0.length : Int) (wrap64 (x16_1 + 1))) else (some (([] : List ByteArray), 154))) = some (r1, r2) := H
          have A34 := Aside0.mk A340
          clear A340
          by_cases c35 : t214 = 0
          ·rw [if_pos c35] at H
           have c35b0 : (t214 == 0) = true := beq_iff_eq.mpr c35
           have c35b1 : (t214 != 0) = false := bne_eq_false_iff_eq.mpr c35
           clear c35
           obtain ⟨y215, hy215⟩ : ∃ y_ : List ByteArray, y_ = (x4_1.set ((ji31) : Int).toNat t213) := ⟨_, rfl⟩
           replace H : (vol_Table.l0 k1 y215 l0 (l0.length : Int) (wrap64 (x16_1 + 1))) = some (r1, r2) := by first | (rw [hy215]; with_reducible exact H) | (have H2_ := (Option.bind_some _ _).symm.trans H; rw [hy215]; with_reducible exact H2_) | (have H2_ := (Option.bind_some _ _).symm.trans H; with_reducible exact H2_) | with_reducible exact H | (rw [hy215]; exact H) | exact H
           have Ny215 := Aside0.mk hy215
           clear hy215
           have H' := Aside0.mk H
           clear H
           have p202 : 0 ≤ (x16_1 : Int) := of_decide_eq_true (by first | (with_reducible assumption) | assumption)
           have q202 : x16_1 < (l0.length : Int) := of_decide_eq_true (by first | (with_reducible assumption) | assumption)
           obtain ⟨ad202, e202, hx202_0, hx202_1, hx202_2, hx202_3, hx202_4, hx202_5, hx202_6, hx202_7, hx202_8, hx202_9, hx202_10, hx202_11⟩ := at_T42 HR0.out x16_1 p202 q202
           cases e202
           replace hx202_0 := (HB.out.cell (World.block_lt_of_cell? w _ hx202_0)).trans hx202_0
           replace hx202_1 := (HB.out.cell (World.block_lt_of_cell? w _ hx202_1)).trans hx202_1
           replace hx202_2 := (HB.out.cell (World.block_lt_of_cell? w _ hx202_2)).trans hx202_2
           replace hx202_3 := (HB.out.cell (World.block_lt_of_cell? w _ hx202_3)).trans hx202_3
           replace hx202_4 := (HB.out.cell (World.block_lt_of_cell? w _ hx202_4)).trans hx202_4
           replace hx202_5 := (HB.out.cell (World.block_lt_of_cell? w _ hx202_5)).trans hx202_5
           replace hx202_6 := (HB.out.cell (World.block_lt_of_cell? w _ hx202_6)).trans hx202_6
           replace hx202_7 := (HB.out.cell (World.block_lt_of_cell? w _ hx202_7)).trans hx202_7
           replace hx202_8 := (HB.out.cell (World.block_lt_of_cell? w _ hx202_8)).trans hx202_8
           replace hx202_9 := (HB.out.cell (World.block_lt_of_cell? w _ hx202_9)).trans hx202_9
           replace hx202_10 := (HB.out.cell (World.block_lt_of_cell? w _ hx202_10)).trans hx202_10
           replace hx202_11 := (HB.out.cell (World.block_lt_of_cell? w _ hx202_11)).trans hx202_11
           replace p202 := eq_true p202
           replace q202 := eq_true q202
           try go_wp2_with (first | ((with_reducible refine gate_dst (N := 6) rfl ?_); refine box_event ?hg (N := 6) ?hd (cs := #[.int .i64 0, .int .u16 0, .int .u16 0, .int .u32 0, .int .u64 0, .int .i64 0, .int .u32 0, .int .u32 0, .int .u32 0, .int .u32 0, .int .u32 0, .int .u32 0]) (t := 42) ?hr ?_; (case hd => rfl); (case hg => rfl); (case hr => first | (go_simp; done) | (go_simp; rfl)); intro gb203 hg w37 hbox hb; have n0_ := Aside0.mk (Kd.R_below (by (with_reducible repeat (first | apply Kd.R_alloc | apply Kd.R_drewN | apply Kd.R_drew)); exact HO_4.out) hb); have n1_ := Aside0.mk (below_step (by repeat (first | (with_reducible first | exact HB.out | apply below_alloc | apply pw_below_drewN | apply below_drew1) | exact HB.out)) hb); have n2_ := Aside0.mk (hbox); have n3_ := Aside0.mk ((by rw [hg]; exact (below_size (by repeat (first | (with_reducible first | exact HB.out | apply below_alloc | apply pw_below_drewN | apply below_drew1) | exact HB.out))) : w.heap.size ≤ gb203)); have n4_ := Aside0.mk ((by rw [hg]; exact (below_size (by repeat (first | (with_reducible first | exact HB.out | apply below_alloc | apply pw_below_drewN | apply below_drew1) | exact HB.out))) : w.heap.size ≤ gb203)); clear HO_4; clear HB; have HO_4 := n0_; have HB := n1_; have BK203 := n2_; have GW203 := n3_; have GE203 := n4_; clear n0_ n1_ n2_ n3_ n4_; clear hb hbox hg; have hcz38_0 : w37.cell? ⟨gb203, 0, none⟩ = some (.int .i64 0) := (blk_cell BK203.out 0).trans rfl; have hcz38_1 : w37.cell? ⟨gb203, 1, none⟩ = some (.int .u16 0) := (blk_cell BK203.out 1).trans rfl; have hcz38_2 : w37.cell? ⟨gb203, 2, none⟩ = some (.int .u16 0) := (blk_cell BK203.out 2).trans rfl; have hcz38_3 : w37.cell? ⟨gb203, 3, none⟩ = some (.int .u32 0) := (blk_cell BK203.out 3).trans rfl; have hcz38_4 : w37.cell? ⟨gb203, 4, none⟩ = some (.int .u64 0) := (blk_cell BK203.out 4).trans rfl; have hcz38_5 : w37.cell? ⟨gb203, 5, none⟩ = some (.int .i64 0) := (blk_cell BK203.out 5).trans rfl; have hcz38_6 : w37.cell? ⟨gb203, 6, none⟩ = some (.int .u32 0) := (blk_cell BK203.out 6).trans rfl; have hcz38_7 : w37.cell? ⟨gb203, 7, none⟩ = some (.int .u32 0) := (blk_cell BK203.out 7).trans rfl; have hcz38_8 : w37.cell? ⟨gb203, 8, none⟩ = some (.int .u32 0) := (blk_cell BK203.out 8).trans rfl; have hcz38_9 : w37.cell? ⟨gb203, 9, none⟩ = some (.int .u32 0) := (blk_cell BK203.out 9).trans rfl; have hcz38_10 : w37.cell? ⟨gb203, 10, none⟩ = some (.int .u32 0) := (blk_cell BK203.out 10).trans rfl; have hcz38_11 : w37.cell? ⟨gb203, 11, none⟩ = some (.int .u32 0) := (blk_cell BK203.out 11).trans rfl; have hfz38_0 := blk_frozen BK203.out 0; have hfz38_1 := blk_frozen BK203.out 1; have hfz38_2 := blk_frozen BK203.out 2; have hfz38_3 := blk_frozen BK203.out 3; have hfz38_4 := blk_frozen BK203.out 4; have hfz38_5 := blk_frozen BK203.out 5; have hfz38_6 := blk_frozen BK203.out 6; have hfz38_7 := blk_frozen BK203.out 7; have hfz38_8 := blk_frozen BK203.out 8; have hfz38_9 := blk_frozen BK203.out 9; have hfz38_10 := blk_frozen BK203.out 10; have hfz38_11 := blk_frozen BK203.out 11; obtain ⟨Ao39, co39, eo39⟩ := Kd.R_slice HO_4.out; subst eo39))
           have n0_ : Aside0 (Kd.R Kd.string 9 ((((((((((((w37.setCell ⟨gb203, 0, none⟩ (.int .i64 ((rd_T42 l0 x16_1).f0))).setCell ⟨gb203, 1, none⟩ (.int .u16 ((rd_T42 l0 x16_1).f1))).setCell ⟨gb203, 2, none⟩ (.int .u16 ((rd_T42 l0 x16_1).f2))).setCell ⟨gb203, 3, none⟩ (.int .u32 ((rd_T42 l0 x16_1).f3))).setCell ⟨gb203, 4, none⟩ (.int .u64 ((rd_T42 l0 x16_1).f4))).setCell ⟨gb203, 5, none⟩ (.int .i64 ((rd_T42 l0 x16_1).f5))).setCell ⟨gb203, 6, none⟩ (.int .u32 ((rd_T42 l0 x16_1).f6.f0))).setCell ⟨gb203, 7, none⟩ (.int .u32 ((rd_T42 l0 x16_1).f6.f1))).setCell ⟨gb203, 8, none⟩ (.int .u32 ((rd_T42 l0 x16_1).f6.f2))).setCell ⟨gb203, 9, none⟩ (.int .u32 ((rd_T42 l0 x16_1).f6.f3))).setCell ⟨gb203, 10, none⟩ (.int .u32 ((rd_T42 l0 x16_1).f6.f4))).setCell ⟨gb203, 11, none⟩ (.int .u32 ((rd_T42 l0 x16_1).f6.f5))) w.heap.size (fun _ => True) (.slice Ao39 x4_1.length co39) x4_1) := ⟨by (with_reducible repeat (first | apply Kd.R_alloc | apply Kd.R_drewN | apply Kd.R_drew)); exact Kd.R_mono (Kd.R_far (p := ⟨gb203, 11, none⟩) (Kd.R_far (p := ⟨gb203, 10, none⟩) (Kd.R_far (p := ⟨gb203, 9, none⟩) (Kd.R_far (p := ⟨gb203, 8, none⟩) (Kd.R_far (p := ⟨gb203, 7, none⟩) (Kd.R_far (p := ⟨gb203, 6, none⟩) (Kd.R_far (p := ⟨gb203, 5, none⟩) (Kd.R_far (p := ⟨gb203, 4, none⟩) (Kd.R_far (p := ⟨gb203, 3, none⟩) (Kd.R_far (p := ⟨gb203, 2, none⟩) (Kd.R_far (p := ⟨gb203, 1, none⟩) (Kd.R_far (p := ⟨gb203, 0, none⟩) (Kd.R_types HO_4.out BK203.out (by decide)) (fun _ hk => hk.2) (.int .i64 ((rd_T42 l0 x16_1).f0))) (fun _ hk => hk.2) (.int .u16 ((rd_T42 l0 x16_1).f1))) (fun _ hk => hk.2) (.int .u16 ((rd_T42 l0 x16_1).f2))) (fun _ hk => hk.2) (.int .u32 ((rd_T42 l0 x16_1).f3))) (fun _ hk => hk.2) (.int .u64 ((rd_T42 l0 x16_1).f4))) (fun _ hk => hk.2) (.int .i64 ((rd_T42 l0 x16_1).f5))) (fun _ hk => hk.2) (.int .u32 ((rd_T42 l0 x16_1).f6.f0))) (fun _ hk => hk.2) (.int .u32 ((rd_T42 l0 x16_1).f6.f1))) (fun _ hk => hk.2) (.int .u32 ((rd_T42 l0 x16_1).f6.f2))) (fun _ hk => hk.2) (.int .u32 ((rd_T42 l0 x16_1).f6.f3))) (fun _ hk => hk.2) (.int .u32 ((rd_T42 l0 x16_1).f6.f4))) (fun _ hk => hk.2) (.int .u32 ((rd_T42 l0 x16_1).f6.f5))) (fun _ hk => trivial)⟩
           have n1_ : Aside0 (((((((((((((w37.setCell ⟨gb203, 0, none⟩ (.int .i64 ((rd_T42 l0 x16_1).f0))).setCell ⟨gb203, 1, none⟩ (.int .u16 ((rd_T42 l0 x16_1).f1))).setCell ⟨gb203, 2, none⟩ (.int .u16 ((rd_T42 l0 x16_1).f2))).setCell ⟨gb203, 3, none⟩ (.int .u32 ((rd_T42 l0 x16_1).f3))).setCell ⟨gb203, 4, none⟩ (.int .u64 ((rd_T42 l0 x16_1).f4))).setCell ⟨gb203, 5, none⟩ (.int .i64 ((rd_T42 l0 x16_1).f5))).setCell ⟨gb203, 6, none⟩ (.int .u32 ((rd_T42 l0 x16_1).f6.f0))).setCell ⟨gb203, 7, none⟩ (.int .u32 ((rd_T42 l0 x16_1).f6.f1))).setCell ⟨gb203, 8, none⟩ (.int .u32 ((rd_T42 l0 x16_1).f6.f2))).setCell ⟨gb203, 9, none⟩ (.int .u32 ((rd_T42 l0 x16_1).f6.f3))).setCell ⟨gb203, 10, none⟩ (.int .u32 ((rd_T42 l0 x16_1).f6.f4))).setCell ⟨gb203, 11, none⟩ (.int .u32 ((rd_T42 l0 x16_1).f6.f5))).heap[gb203]? = some (.cells #[.int .i64 ((rd_T42 l0 x16_1).f0), .int .u16 ((rd_T42 l0 x16_1).f1), .int .u16 ((rd_T42 l0 x16_1).f2), .int .u32 ((rd_T42 l0 x16_1).f3), .int .u64 ((rd_T42 l0 x16_1).f4), .int .i64 ((rd_T42 l0 x16_1).f5), .int .u32 ((rd_T42 l0 x16_1).f6.f0), .int .u32 ((rd_T42 l0 x16_1).f6.f1), .int .u32 ((rd_T42 l0 x16_1).f6.f2), .int .u32 ((rd_T42 l0 x16_1).f6.f3), .int .u32 ((rd_T42 l0 x16_1).f6.f4), .int .u32 ((rd_T42 l0 x16_1).f6.f5)] 42 (0, 0))) := ⟨by (with_reducible repeat (first | refine blk_drewN ?_ _ | refine blk_drew ?_ | refine blk_alloc ?_ _)); refine blk_put (cs := #[.int .i64 ((rd_T42 l0 x16_1).f0), .int .u16 ((rd_T42 l0 x16_1).f1), .int .u16 ((rd_T42 l0 x16_1).f2), .int .u32 ((rd_T42 l0 x16_1).f3), .int .u64 ((rd_T42 l0 x16_1).f4), .int .i64 ((rd_T42 l0 x16_1).f5), .int .u32 ((rd_T42 l0 x16_1).f6.f0), .int .u32 ((rd_T42 l0 x16_1).f6.f1), .int .u32 ((rd_T42 l0 x16_1).f6.f2), .int .u32 ((rd_T42 l0 x16_1).f6.f3), .int .u32 ((rd_T42 l0 x16_1).f6.f4), .int .u32 0]) ?_ 11 _ rfl; (with_reducible repeat (first | refine blk_drewN ?_ _ | refine blk_drew ?_ | refine blk_alloc ?_ _)); refine blk_put (cs := #[.int .i64 ((rd_T42 l0 x16_1).f0), .int .u16 ((rd_T42 l0 x16_1).f1), .int .u16 ((rd_T42 l0 x16_1).f2), .int .u32 ((rd_T42 l0 x16_1).f3), .int .u64 ((rd_T42 l0 x16_1).f4), .int .i64 ((rd_T42 l0 x16_1).f5), .int .u32 ((rd_T42 l0 x16_1).f6.f0), .int .u32 ((rd_T42 l0 x16_1).f6.f1), .int .u32 ((rd_T42 l0 x16_1).f6.f2), .int .u32 ((rd_T42 l0 x16_1).f6.f3), .int .u32 0, .int .u32 0]) ?_ 10 _ rfl; (with_reducible repeat (first | refine blk_drewN ?_ _ | refine blk_drew ?_ | refine blk_alloc ?_ _)); refine blk_put (cs := #[.int .i64 ((rd_T42 l0 x16_1).f0), .int .u16 ((rd_T42 l0 x16_1).f1), .int .u16 ((rd_T42 l0 x16_1).f2), .int .u32 ((rd_T42 l0 x16_1).f3), .int .u64 ((rd_T42 l0 x16_1).f4), .int .i64 ((rd_T42 l0 x16_1).f5), .int .u32 ((rd_T42 l0 x16_1).f6.f0), .int .u32 ((rd_T42 l0 x16_1).f6.f1), .int .u32 ((rd_T42 l0 x16_1).f6.f2), .int .u32 0, .int .u32 0, .int .u32 0]) ?_ 9 _ rfl; (with_reducible repeat (first | refine blk_drewN ?_ _ | refine blk_drew ?_ | refine blk_alloc ?_ _)); refine blk_put (cs := #[.int .i64 ((rd_T42 l0 x16_1).f0), .int .u16 ((rd_T42 l0 x16_1).f1), .int .u16 ((rd_T42 l0 x16_1).f2), .int .u32 ((rd_T42 l0 x16_1).f3), .int .u64 ((rd_T42 l0 x16_1).f4), .int .i64 ((rd_T42 l0 x16_1).f5), .int .u32 ((rd_T42 l0 x16_1).f6.f0), .int .u32 ((rd_T42 l0 x16_1).f6.f1), .int .u32 0, .int .u32 0, .int .u32 0, .int .u32 0]) ?_ 8 _ rfl; (with_reducible repeat (first | refine blk_drewN ?_ _ | refine blk_drew ?_ | refine blk_alloc ?_ _)); refine blk_put (cs := #[.int .i64 ((rd_T42 l0 x16_1).f0), .int .u16 ((rd_T42 l0 x16_1).f1), .int .u16 ((rd_T42 l0 x16_1).f2), .int .u32 ((rd_T42 l0 x16_1).f3), .int .u64 ((rd_T42 l0 x16_1).f4), .int .i64 ((rd_T42 l0 x16_1).f5), .int .u32 ((rd_T42 l0 x16_1).f6.f0), .int .u32 0, .int .u32 0, .int .u32 0, .int .u32 0, .int .u32 0]) ?_ 7 _ rfl; (with_reducible repeat (first | refine blk_drewN ?_ _ | refine blk_drew ?_ | refine blk_alloc ?_ _)); refine blk_put (cs := #[.int .i64 ((rd_T42 l0 x16_1).f0), .int .u16 ((rd_T42 l0 x16_1).f1), .int .u16 ((rd_T42 l0 x16_1).f2), .int .u32 ((rd_T42 l0 x16_1).f3), .int .u64 ((rd_T42 l0 x16_1).f4), .int .i64 ((rd_T42 l0 x16_1).f5), .int .u32 0, .int .u32 0, .int .u32 0, .int .u32 0, .int .u32 0, .int .u32 0]) ?_ 6 _ rfl; (with_reducible repeat (first | refine blk_drewN ?_ _ | refine blk_drew ?_ | refine blk_alloc ?_ _)); refine blk_put (cs := #[.int .i64 ((rd_T42 l0 x16_1).f0), .int .u16 ((rd_T42 l0 x16_1).f1), .int .u16 ((rd_T42 l0 x16_1).f2), .int .u32 ((rd_T42 l0 x16_1).f3), .int .u64 ((rd_T42 l0 x16_1).f4), .int .i64 0, .int .u32 0, .int .u32 0, .int .u32 0, .int .u32 0, .int .u32 0, .int .u32 0]) ?_ 5 _ rfl; (with_reducible repeat (first | refine blk_drewN ?_ _ | refine blk_drew ?_ | refine blk_alloc ?_ _)); refine blk_put (cs := #[.int .i64 ((rd_T42 l0 x16_1).f0), .int .u16 ((rd_T42 l0 x16_1).f1), .int .u16 ((rd_T42 l0 x16_1).f2), .int .u32 ((rd_T42 l0 x16_1).f3), .int .u64 0, .int .i64 0, .int .u32 0, .int .u32 0, .int .u32 0, .int .u32 0, .int .u32 0, .int .u32 0]) ?_ 4 _ rfl; (with_reducible repeat (first | refine blk_drewN ?_ _ | refine blk_drew ?_ | refine blk_alloc ?_ _)); refine blk_put (cs := #[.int .i64 ((rd_T42 l0 x16_1).f0), .int .u16 ((rd_T42 l0 x16_1).f1), .int .u16 ((rd_T42 l0 x16_1).f2), .int .u32 0, .int .u64 0, .int .i64 0, .int .u32 0, .int .u32 0, .int .u32 0, .int .u32 0, .int .u32 0, .int .u32 0]) ?_ 3 _ rfl; (with_reducible repeat (first | refine blk_drewN ?_ _ | refine blk_drew ?_ | refine blk_alloc ?_ _)); refine blk_put (cs := #[.int .i64 ((rd_T42 l0 x16_1).f0), .int .u16 ((rd_T42 l0 x16_1).f1), .int .u16 0, .int .u32 0, .int .u64 0, .int .i64 0, .int .u32 0, .int .u32 0, .int .u32 0, .int .u32 0, .int .u32 0, .int .u32 0]) ?_ 2 _ rfl; (with_reducible repeat (first | refine blk_drewN ?_ _ | refine blk_drew ?_ | refine blk_alloc ?_ _)); refine blk_put (cs := #[.int .i64 ((rd_T42 l0 x16_1).f0), .int .u16 0, .int .u16 0, .int .u32 0, .int .u64 0, .int .i64 0, .int .u32 0, .int .u32 0, .int .u32 0, .int .u32 0, .int .u32 0, .int .u32 0]) ?_ 1 _ rfl; (with_reducible repeat (first | refine blk_drewN ?_ _ | refine blk_drew ?_ | refine blk_alloc ?_ _)); refine blk_put (cs := #[.int .i64 0, .int .u16 0, .int .u16 0, .int .u32 0, .int .u64 0, .int .i64 0, .int .u32 0, .int .u32 0, .int .u32 0, .int .u32 0, .int .u32 0, .int .u32 0]) ?_ 0 _ rfl; (with_reducible repeat (first | refine blk_drewN ?_ _ | refine blk_drew ?_ | refine blk_alloc ?_ _)); exact BK203.out⟩
           have n2_ : Aside0 (Below w.heap.size w ((((((((((((w37.setCell ⟨gb203, 0, none⟩ (.int .i64 ((rd_T42 l0 x16_1).f0))).setCell ⟨gb203, 1, none⟩ (.int .u16 ((rd_T42 l0 x16_1).f1))).setCell ⟨gb203, 2, none⟩ (.int .u16 ((rd_T42 l0 x16_1).f2))).setCell ⟨gb203, 3, none⟩ (.int .u32 ((rd_T42 l0 x16_1).f3))).setCell ⟨gb203, 4, none⟩ (.int .u64 ((rd_T42 l0 x16_1).f4))).setCell ⟨gb203, 5, none⟩ (.int .i64 ((rd_T42 l0 x16_1).f5))).setCell ⟨gb203, 6, none⟩ (.int .u32 ((rd_T42 l0 x16_1).f6.f0))).setCell ⟨gb203, 7, none⟩ (.int .u32 ((rd_T42 l0 x16_1).f6.f1))).setCell ⟨gb203, 8, none⟩ (.int .u32 ((rd_T42 l0 x16_1).f6.f2))).setCell ⟨gb203, 9, none⟩ (.int .u32 ((rd_T42 l0 x16_1).f6.f3))).setCell ⟨gb203, 10, none⟩ (.int .u32 ((rd_T42 l0 x16_1).f6.f4))).setCell ⟨gb203, 11, none⟩ (.int .u32 ((rd_T42 l0 x16_1).f6.f5)))) := ⟨by repeat (first | (with_reducible first | exact HB.out | apply below_alloc | apply pw_below_drewN | apply below_drew1 | refine below_set ?_ GE203.out) | exact HB.out)⟩
           (try clear HO_4)
           (try clear BK203)
           (try clear HB)
           generalize ((((((((((((w37.setCell ⟨gb203, 0, none⟩ (.int .i64 ((rd_T42 l0 x16_1).f0))).setCell ⟨gb203, 1, none⟩ (.int .u16 ((rd_T42 l0 x16_1).f1))).setCell ⟨gb203, 2, none⟩ (.int .u16 ((rd_T42 l0 x16_1).f2))).setCell ⟨gb203, 3, none⟩ (.int .u32 ((rd_T42 l0 x16_1).f3))).setCell ⟨gb203, 4, none⟩ (.int .u64 ((rd_T42 l0 x16_1).f4))).setCell ⟨gb203, 5, none⟩ (.int .i64 ((rd_T42 l0 x16_1).f5))).setCell ⟨gb203, 6, none⟩ (.int .u32 ((rd_T42 l0 x16_1).f6.f0))).setCell ⟨gb203, 7, none⟩ (.int .u32 ((rd_T42 l0 x16_1).f6.f1))).setCell ⟨gb203, 8, none⟩ (.int .u32 ((rd_T42 l0 x16_1).f6.f2))).setCell ⟨gb203, 9, none⟩ (.int .u32 ((rd_T42 l0 x16_1).f6.f3))).setCell ⟨gb203, 10, none⟩ (.int .u32 ((rd_T42 l0 x16_1).f6.f4))).setCell ⟨gb203, 11, none⟩ (.int .u32 ((rd_T42 l0 x16_1).f6.f5))) = w40 at n0_ n1_ n2_ ⊢
           have HO_4 := n0_
           have BK203 := n1_
           have HB := n2_
           clear n0_ n1_ n2_
           have n0_ := Aside0.mk (Kd.R_drew HO_4.out)
           have n1_ := Aside0.mk (blk_drew BK203.out)
           have n2_ := Aside0.mk (below_drew1 HB.out)
           clear HO_4
           clear BK203
           clear HB
           have HO_4 := n0_
           have BK203 := n1_
           have HB := n2_
           clear n0_ n1_ n2_
           have p212 : 0 ≤ ((ji31) : Int) := of_decide_eq_true (by first | (with_reducible assumption) | assumption)
           have q212 : (ji31) < (x4_1.length : Int) := of_decide_eq_true (by first | (with_reducible assumption) | assumption)
           obtain ⟨ad212, e212, hx212_0⟩ := Kd.at_string (Kd.R_reads' HO_4.out).2.2 (ji31) p212 q212
           cases e212
           replace p212 := eq_true p212
           replace q212 := eq_true q212
           refine start_ (n := 12) (S := fun w' => w'.cell? ⟨gb203, 0, none⟩ = some (.int .i64 ((rd_T42 l0 x16_1).f0)) ∧ w'.cell? ⟨gb203, 1, none⟩ = some (.int .u16 ((rd_T42 l0 x16_1).f1)) ∧ w'.cell? ⟨gb203, 2, none⟩ = some (.int .u16 ((rd_T42 l0 x16_1).f2)) ∧ w'.cell? ⟨gb203, 3, none⟩ = some (.int .u32 ((rd_T42 l0 x16_1).f3)) ∧ w'.cell? ⟨gb203, 4, none⟩ = some (.int .u64 ((rd_T42 l0 x16_1).f4)) ∧ w'.cell? ⟨gb203, 5, none⟩ = some (.int .i64 ((rd_T42 l0 x16_1).f5)) ∧ w'.cell? ⟨gb203, 6, none⟩ = some (.int .u32 ((rd_T42 l0 x16_1).f6.f0)) ∧ w'.cell? ⟨gb203, 7, none⟩ = some (.int .u32 ((rd_T42 l0 x16_1).f6.f1)) ∧ w'.cell? ⟨gb203, 8, none⟩ = some (.int .u32 ((rd_T42 l0 x16_1).f6.f2)) ∧ w'.cell? ⟨gb203, 9, none⟩ = some (.int .u32 ((rd_T42 l0 x16_1).f6.f3)) ∧ w'.cell? ⟨gb203, 10, none⟩ = some (.int .u32 ((rd_T42 l0 x16_1).f6.f4)) ∧ w'.cell? ⟨gb203, 11, none⟩ = some (.int .u32 ((rd_T42 l0 x16_1).f6.f5)) ∧ w'.cell? (ad212.add ((ji31)).toNat) = some (.string (rdOf ByteArray.empty x4_1 (ji31)))) (ds := []) #[false, false, false, false, false, false, false, false, false, false, false, false] (by kernel_rfl) rfl rfl ⟨(blk_cell BK203.out 0).trans rfl, (blk_cell BK203.out 1).trans rfl, (blk_cell BK203.out 2).trans rfl, (blk_cell BK203.out 3).trans rfl, (blk_cell BK203.out 4).trans rfl, (blk_cell BK203.out 5).trans rfl, (blk_cell BK203.out 6).trans rfl, (blk_cell BK203.out 7).trans rfl, (blk_cell BK203.out 8).trans rfl, (blk_cell BK203.out 9).trans rfl, (blk_cell BK203.out 10).trans rfl, (blk_cell BK203.out 11).trans rfl, hx212_0⟩ (fun hHeld => ?_); refine with_tabW vol_Table.tab11 vol_Table.bits11 (fun HT_ HW_ => ?_)
           generalize w40.drew = w41 at HO_4 BK203 HB hx212_0 hHeld ⊢
           refine pure_ (i := 0) (N := some 33) (v := ?_) (a' := ?_) #[true, false, false, false, false, false, false, false, false, false, false, false] rfl rfl (any_of HT_.out (by kernel_rfl)) (fun _ _ _ h => h) (Or.inl ⟨by rfl, ?_⟩) ?_ ?_
           rotate_left
           ·intro w'
            go_simp
            with_reducible rfl
           rotate_left
           ·simp only [Act.put, List.setIfInBounds_toArray, List.set_cons_zero, List.set_cons_succ, i64_w, i32_w]
            rfl
           refine pure_ (i := 1) (N := some 34) (v := ?_) (a' := ?_) #[true, true, false, false, false, false, false, false, false, false, false, false] rfl rfl (any_of HT_.out (by kernel_rfl)) (fun _ _ _ h => h) (Or.inl ⟨by rfl, ?_⟩) ?_ ?_
           rotate_left
           ·intro w'
            go_simp
            with_reducible rfl
           rotate_left
           ·simp only [Act.put, List.setIfInBounds_toArray, List.set_cons_zero, List.set_cons_succ, i64_w, i32_w]
            rfl
           refine pure_ (i := 2) (N := some 35) (v := ?_) (a' := ?_) #[true, true, true, false, false, false, false, false, false, false, false, false] rfl rfl (any_of HT_.out (by kernel_rfl)) (fun _ _ _ h => h) (Or.inl ⟨by rfl, ?_⟩) ?_ ?_
           rotate_left
           ·intro w'
            go_simp
            with_reducible rfl
           rotate_left
           ·simp only [Act.put, List.setIfInBounds_toArray, List.set_cons_zero, List.set_cons_succ, i64_w, i32_w]
            rfl
           refine pure_ (i := 4) (N := some 37) (v := ?_) (a' := ?_) #[true, true, true, false, true, false, false, false, false, false, false, false] rfl rfl (any_of HT_.out (by kernel_rfl)) (fun _ _ _ h => h) (Or.inl ⟨by rfl, ?_⟩) ?_ ?_
           rotate_left
           ·intro w'
            go_simp
            with_reducible rfl
           rotate_left
           ·simp only [Act.put, List.setIfInBounds_toArray, List.set_cons_zero, List.set_cons_succ, i64_w, i32_w]
            rfl
           refine take_ (i := 3) (N := some 36) (v := ?_) (a' := ?_) #[true, true, true, true, true, false, false, false, false, false, false, false] rfl rfl (take_ofW HT_.out HW_.out (by kernel_rfl)) (fun _ _ _ h => h) (Or.inl ⟨by rfl, ?_⟩) hHeld ?_ ?_
           rotate_left
           ·rintro w' ⟨s0, s1, s2, s3, s4, s5, s6, s7, s8, s9, s10, s11, s12⟩
            go_simp
            with_reducible rfl
           rotate_left
           ·simp only [Act.put, List.setIfInBounds_toArray, List.set_cons_zero, List.set_cons_succ, i64_w, i32_w]
            rfl
           refine take_ (i := 5) (N := some 38) (v := ?_) (a' := ?_) #[true, true, true, true, true, true, false, false, false, false, false, false] rfl rfl (take_ofW HT_.out HW_.out (by kernel_rfl)) (fun _ _ _ h => h) (Or.inl ⟨by rfl, ?_⟩) hHeld ?_ ?_
           rotate_left
           ·rintro w' ⟨s0, s1, s2, s3, s4, s5, s6, s7, s8, s9, s10, s11, s12⟩
            go_simp
            with_reducible rfl
           rotate_left
           ·simp only [Act.put, List.setIfInBounds_toArray, List.set_cons_zero, List.set_cons_succ, i64_w, i32_w]
            rfl
           refine one_ (i := 6) (N := some 39) #[true, true, true, true, true, true, true, false, false, false, false, false] rfl rfl (one_of HT_.out (by kernel_rfl)) (by decide) (fun K hK => ?_)
           refine goes_ Try.func45 (by kernel_rfl) rfl #[.string (rdOf ByteArray.empty x4_1 (ji31)), .int .i64 (Int.tmod x16_1 12), .agg #[.int .i64 ((rd_T42 l0 x16_1).f0), .int .u16 ((rd_T42 l0 x16_1).f1), .int .u16 ((rd_T42 l0 x16_1).f2), .int .u32 ((rd_T42 l0 x16_1).f3), .int .u64 ((rd_T42 l0 x16_1).f4), .int .i64 ((rd_T42 l0 x16_1).f5), .int .u32 ((rd_T42 l0 x16_1).f6.f0), .int .u32 ((rd_T42 l0 x16_1).f6.f1), .int .u32 ((rd_T42 l0 x16_1).f6.f2), .int .u32 ((rd_T42 l0 x16_1).f6.f3), .int .u32 ((rd_T42 l0 x16_1).f6.f4), .int .u32 ((rd_T42 l0 x16_1).f6.f5)]] (by rfl) rfl rfl (by (try simp only [List.map_toArray, List.map_cons, List.map_nil]); first | done | (simp only [hji31]; rfl) | rfl | (simp only [List.length_drop, List.length_take]; rfl)) ?_
           with_reducible refine (inode_Put.calls (rdOf ByteArray.empty x4_1 (ji31)) (Int.tmod x16_1 12) ((rd_T42 l0 x16_1).f0) ((rd_T42 l0 x16_1).f1) ((rd_T42 l0 x16_1).f2) ((rd_T42 l0 x16_1).f3) ((rd_T42 l0 x16_1).f4) ((rd_T42 l0 x16_1).f5) ((rd_T42 l0 x16_1).f6.f0) ((rd_T42 l0 x16_1).f6.f1) ((rd_T42 l0 x16_1).f6.f2) ((rd_T42 l0 x16_1).f6.f3) ((rd_T42 l0 x16_1).f6.f4) ((rd_T42 l0 x16_1).f6.f5) t213 t214 _ A34.out).mono ?_
           rintro e w42 ⟨rfl, hb⟩
           have HS12_ := (hb.cell (World.block_lt_of_cell? _ _ (hHeld.2.2.2.2.2.2.2.2.2.2.2.2))).trans (hHeld.2.2.2.2.2.2.2.2.2.2.2.2)
           refine ⟨_, rfl, ?_⟩
           have n0_ := Aside0.mk (Kd.R_below (by (with_reducible repeat (first | apply Kd.R_alloc | apply Kd.R_drewN | apply Kd.R_drew)); exact HO_4.out) hb)
           have n1_ := Aside0.mk (blk_below (g := gb203) (o := .cells #[.int .i64 ((rd_T42 l0 x16_1).f0), .int .u16 ((rd_T42 l0 x16_1).f1), .int .u16 ((rd_T42 l0 x16_1).f2), .int .u32 ((rd_T42 l0 x16_1).f3), .int .u64 ((rd_T42 l0 x16_1).f4), .int .i64 ((rd_T42 l0 x16_1).f5), .int .u32 ((rd_T42 l0 x16_1).f6.f0), .int .u32 ((rd_T42 l0 x16_1).f6.f1), .int .u32 ((rd_T42 l0 x16_1).f6.f2), .int .u32 ((rd_T42 l0 x16_1).f6.f3), .int .u32 ((rd_T42 l0 x16_1).f6.f4), .int .u32 ((rd_T42 l0 x16_1).f6.f5)] 42 (0, 0)) (by (with_reducible repeat (first | refine blk_drewN ?_ _ | refine blk_drew ?_ | refine blk_alloc ?_ _)); exact BK203.out) hb)
           have n2_ := Aside0.mk (below_step (by repeat (first | (with_reducible first | exact HB.out | apply below_alloc | apply pw_below_drewN | apply below_drew1 | refine below_set ?_ GE203.out) | exact HB.out)) hb)
           clear HO_4
           clear BK203
           clear HB
           have HO_4 := n0_
           have BK203 := n1_
           have HB := n2_
           clear n0_ n1_ n2_
           (try clear hb)
           (try clear hb2)
           (try clear hk)
           (try clear hi)
           refine hK.out _ _ ⟨(blk_cell BK203.out 0).trans rfl, (blk_cell BK203.out 1).trans rfl, (blk_cell BK203.out 2).trans rfl, (blk_cell BK203.out 3).trans rfl, (blk_cell BK203.out 4).trans rfl, (blk_cell BK203.out 5).trans rfl, (blk_cell BK203.out 6).trans rfl, (blk_cell BK203.out 7).trans rfl, (blk_cell BK203.out 8).trans rfl, (blk_cell BK203.out 9).trans rfl, (blk_cell BK203.out 10).trans rfl, (blk_cell BK203.out 11).trans rfl, HS12_⟩ (fun hHeld => ?_)
           clear hK K
           refine norm_ (a' := ?_) ?_ ?_
           rotate_left
           ·show Act.put _ (some 39) _ = _
            simp only [Act.put, List.setIfInBounds_toArray, List.set_cons_zero, List.set_cons_succ, i64_w, i32_w]
            rfl
           refine pure_ (i := 7) (N := some 32) (v := ?_) (a' := ?_) #[true, true, true, true, true, true, true, true, false, false, false, false] rfl rfl (any_of HT_.out (by kernel_rfl)) (fun _ _ _ h => h) (Or.inl ⟨by rfl, ?_⟩) ?_ ?_
           rotate_left
           ·intro w'
            go_simp
            with_reducible rfl
           rotate_left
           ·simp only [Act.put, List.setIfInBounds_toArray, List.set_cons_zero, List.set_cons_succ, i64_w, i32_w]
            rfl
           refine pure_ (i := 8) (N := some 40) (v := ?_) (a' := ?_) #[true, true, true, true, true, true, true, true, true, false, false, false] rfl rfl (any_of HT_.out (by kernel_rfl)) (fun _ _ _ h => h) (Or.inl ⟨by rfl, ?_⟩) ?_ ?_
           rotate_left
           ·intro w'
            go_simp
            with_reducible rfl
           rotate_left
           ·simp only [Act.put, List.setIfInBounds_toArray, List.set_cons_zero, List.set_cons_succ, i64_w, i32_w]
            rfl
           refine pure_ (i := 9) (N := some 41) (v := ?_) (a' := ?_) #[true, true, true, true, true, true, true, true, true, true, false, false] rfl rfl (any_of HT_.out (by kernel_rfl)) (fun _ _ _ h => h) (Or.inl ⟨by rfl, ?_⟩) ?_ ?_
           rotate_left
           ·intro w'
            go_simp
            with_reducible rfl
           rotate_left
           ·simp only [Act.put, List.setIfInBounds_toArray, List.set_cons_zero, List.set_cons_succ, i64_w, i32_w]
            rfl
           refine pure_ (i := 10) (N := some 9) (v := ?_) (a' := ?_) #[true, true, true, true, true, true, true, true, true, true, true, false] rfl rfl (any_of HT_.out (by kernel_rfl)) (fun _ _ _ h => h) (Or.inl ⟨by rfl, ?_⟩) ?_ ?_
           rotate_left
           ·intro w'
            go_simp
            with_reducible rfl
           rotate_left
           ·simp only [Act.put, List.setIfInBounds_toArray, List.set_cons_zero, List.set_cons_succ, i64_w, i32_w]
            rfl
           refine pure_ (i := 11) (N := some 10) (v := ?_) (a' := ?_) #[true, true, true, true, true, true, true, true, true, true, true, true] rfl rfl (any_of HT_.out (by kernel_rfl)) (fun _ _ _ h => h) (Or.inl ⟨by rfl, ?_⟩) ?_ ?_
           rotate_left
           ·intro w'
            go_simp
            with_reducible rfl
           rotate_left
           ·simp only [Act.put, List.setIfInBounds_toArray, List.set_cons_zero, List.set_cons_succ, i64_w, i32_w]
            rfl
           refine done_ (done_of HT_.out (by kernel_rfl)) ?_
           have p36 : 0 ≤ ((ji31) : Int) := of_decide_eq_true (by first | (with_reducible assumption) | assumption)
           have q36 : ((ji31) : Int) < ((x4_1.length : Int) : Int) := of_decide_eq_true (by first | (with_reducible assumption) | assumption)
           obtain ⟨go36, co36, eo36, gb36, gl36, cl36, HG36⟩ := Kd.R_form HO_4.out (by omega)
           (first | cases eo36 | (injection eo36 with ea_ en_ ec_; (first | subst ea_ | (injection ea_ with ea_; subst ea_)); subst ec_; clear en_))
           have GB36 := Aside0.mk gb36
           have GG36 := Aside0.mk HG36
           clear gb36 gl36 HG36
           (first | simp only [add_plain] at hx212_0 | skip)
           obtain ⟨hx36_0, hf36_0⟩ := Kd.R_celln (⟨#[]⟩ : ByteArray) HO_4.out ((ji31) : Int) p36 q36
           replace p36 := eq_true p36
           replace q36 := eq_true q36
           obtain ⟨hy43_, hz43_⟩ := Kd.R_celln (⟨#[]⟩ : ByteArray) HO_4.out ((ji31) : Int) (of_decide_eq_true (by first | (with_reducible assumption) | assumption)) (of_decide_eq_true (by first | (with_reducible assumption) | assumption))
           have HP43 := Kd.R_putg HO_4.out ((ji31) : Int) t213
           try go_wp2_with (first | ((with_reducible refine gate_store (t := 9) (p := 47) rfl ?_); refine store_event (t := 9) (p := 47) (v := ?vo_w44) (w1 := (w42.setCell ⟨go36, ((ji31) : Int).toNat, none⟩ (.string t213))) ?hg ?ho ?hn ?hr ?_; (case ho => rfl); (case hg => rfl); (case hn => rfl); (case hr => first | (go_simp; done) | (go_simp; rfl)); intro w44 hw; have hg : w42.grownBy w44 (some go36) := (by rw [hw]; exact HP43.2); have hp_ : Kd.R Kd.string 9 w44 w.heap.size (fun _ => True) (.slice (some ⟨go36, 0, none⟩) x4_1.length co39) y215 := (by rw [hw, Ny215.out]; exact HP43.1); clear HP43; have n0_ := Aside0.mk (hp_); have n1_ := Aside0.mk (blk_grown (g := gb203) (o := .cells #[.int .i64 ((rd_T42 l0 x16_1).f0), .int .u16 ((rd_T42 l0 x16_1).f1), .int .u16 ((rd_T42 l0 x16_1).f2), .int .u32 ((rd_T42 l0 x16_1).f3), .int .u64 ((rd_T42 l0 x16_1).f4), .int .i64 ((rd_T42 l0 x16_1).f5), .int .u32 ((rd_T42 l0 x16_1).f6.f0), .int .u32 ((rd_T42 l0 x16_1).f6.f1), .int .u32 ((rd_T42 l0 x16_1).f6.f2), .int .u32 ((rd_T42 l0 x16_1).f6.f3), .int .u32 ((rd_T42 l0 x16_1).f6.f4), .int .u32 ((rd_T42 l0 x16_1).f6.f5)] 42 (0, 0)) (by (with_reducible repeat (first | refine blk_drewN ?_ _ | refine blk_drew ?_ | refine blk_alloc ?_ _)); exact BK203.out) hg (Kd.R_ne HO_4.out BK203.out (by decide))); have n2_ := Aside0.mk ((by rw [hw]; exact below_set (HB.out) GB36.out : Below w.heap.size w w44)); clear HO_4; clear BK203; clear HB; have HO_4 := n0_; have BK203 := n1_; have HB := n2_; clear n0_ n1_ n2_; clear hg hw hp_))
           go_roundg k1
           case measure => have := HK1.out; omega
           case rel => exact ⟨(y215), (wrap64 (x16_1 + 1)), (by first | rfl | (simp; done) | (simp [*]; done)), H', ⟨by have := HK1.out; omega⟩, ⟨by (with_reducible repeat (first | apply Kd.R_alloc | apply Kd.R_drewN | apply Kd.R_drew)); exact HO_4.out⟩, ⟨by repeat (first | (with_reducible first | exact HB.out | apply below_alloc | apply pw_below_drewN | apply below_drew1 | refine below_set ?_ GE203.out) | exact HB.out)⟩⟩
          ·rw [if_neg c35] at H
           have c35b0 : (t214 == 0) = false := beq_eq_false_iff_ne.mpr c35
           have c35b1 : (t214 != 0) = true := bne_iff_ne.mpr c35
           simp only [Option.some.injEq, Prod.mk.injEq] at H
           obtain ⟨rfl, rfl⟩ := H
           have p202 : 0 ≤ (x16_1 : Int) := of_decide_eq_true (by first | (with_reducible assumption) | assumption)
           have q202 : x16_1 < (l0.length : Int) := of_decide_eq_true (by first | (with_reducible assumption) | assumption)
           obtain ⟨ad202, e202, hx202_0, hx202_1, hx202_2, hx202_3, hx202_4, hx202_5, hx202_6, hx202_7, hx202_8, hx202_9, hx202_10, hx202_11⟩ := at_T42 HR0.out x16_1 p202 q202
           cases e202
           replace hx202_0 := (HB.out.cell (World.block_lt_of_cell? w _ hx202_0)).trans hx202_0
           replace hx202_1 := (HB.out.cell (World.block_lt_of_cell? w _ hx202_1)).trans hx202_1
           replace hx202_2 := (HB.out.cell (World.block_lt_of_cell? w _ hx202_2)).trans hx202_2
           replace hx202_3 := (HB.out.cell (World.block_lt_of_cell? w _ hx202_3)).trans hx202_3
           replace hx202_4 := (HB.out.cell (World.block_lt_of_cell? w _ hx202_4)).trans hx202_4
           replace hx202_5 := (HB.out.cell (World.block_lt_of_cell? w _ hx202_5)).trans hx202_5
           replace hx202_6 := (HB.out.cell (World.block_lt_of_cell? w _ hx202_6)).trans hx202_6
           replace hx202_7 := (HB.out.cell (World.block_lt_of_cell? w _ hx202_7)).trans hx202_7
           replace hx202_8 := (HB.out.cell (World.block_lt_of_cell? w _ hx202_8)).trans hx202_8
           replace hx202_9 := (HB.out.cell (World.block_lt_of_cell? w _ hx202_9)).trans hx202_9
           replace hx202_10 := (HB.out.cell (World.block_lt_of_cell? w _ hx202_10)).trans hx202_10
           replace hx202_11 := (HB.out.cell (World.block_lt_of_cell? w _ hx202_11)).trans hx202_11
           replace p202 := eq_true p202
           replace q202 := eq_true q202
           try go_wp2_with (first | ((with_reducible refine gate_dst (N := 6) rfl ?_); refine box_event ?hg (N := 6) ?hd (cs := #[.int .i64 0, .int .u16 0, .int .u16 0, .int .u32 0, .int .u64 0, .int .i64 0, .int .u32 0, .int .u32 0, .int .u32 0, .int .u32 0, .int .u32 0, .int .u32 0]) (t := 42) ?hr ?_; (case hd => rfl); (case hg => rfl); (case hr => first | (go_simp; done) | (go_simp; rfl)); intro gb203 hg w45 hbox hb; have n0_ := Aside0.mk (Kd.R_below (by (with_reducible repeat (first | apply Kd.R_alloc | apply Kd.R_drewN | apply Kd.R_drew)); exact HO_4.out) hb); have n1_ := Aside0.mk (below_step (by repeat (first | (with_reducible first | exact HB.out | apply below_alloc | apply pw_below_drewN | apply below_drew1) | exact HB.out)) hb); have n2_ := Aside0.mk (hbox); have n3_ := Aside0.mk ((by rw [hg]; exact (below_size (by repeat (first | (with_reducible first | exact HB.out | apply below_alloc | apply pw_below_drewN | apply below_drew1) | exact HB.out))) : w.heap.size ≤ gb203)); have n4_ := Aside0.mk ((by rw [hg]; exact (below_size (by repeat (first | (with_reducible first | exact HB.out | apply below_alloc | apply pw_below_drewN | apply below_drew1) | exact HB.out))) : w.heap.size ≤ gb203)); clear HO_4; clear HB; have HO_4 := n0_; have HB := n1_; have BK203 := n2_; have GW203 := n3_; have GE203 := n4_; clear n0_ n1_ n2_ n3_ n4_; clear hb hbox hg; have hcz46_0 : w45.cell? ⟨gb203, 0, none⟩ = some (.int .i64 0) := (blk_cell BK203.out 0).trans rfl; have hcz46_1 : w45.cell? ⟨gb203, 1, none⟩ = some (.int .u16 0) := (blk_cell BK203.out 1).trans rfl; have hcz46_2 : w45.cell? ⟨gb203, 2, none⟩ = some (.int .u16 0) := (blk_cell BK203.out 2).trans rfl; have hcz46_3 : w45.cell? ⟨gb203, 3, none⟩ = some (.int .u32 0) := (blk_cell BK203.out 3).trans rfl; have hcz46_4 : w45.cell? ⟨gb203, 4, none⟩ = some (.int .u64 0) := (blk_cell BK203.out 4).trans rfl; have hcz46_5 : w45.cell? ⟨gb203, 5, none⟩ = some (.int .i64 0) := (blk_cell BK203.out 5).trans rfl; have hcz46_6 : w45.cell? ⟨gb203, 6, none⟩ = some (.int .u32 0) := (blk_cell BK203.out 6).trans rfl; have hcz46_7 : w45.cell? ⟨gb203, 7, none⟩ = some (.int .u32 0) := (blk_cell BK203.out 7).trans rfl; have hcz46_8 : w45.cell? ⟨gb203, 8, none⟩ = some (.int .u32 0) := (blk_cell BK203.out 8).trans rfl; have hcz46_9 : w45.cell? ⟨gb203, 9, none⟩ = some (.int .u32 0) := (blk_cell BK203.out 9).trans rfl; have hcz46_10 : w45.cell? ⟨gb203, 10, none⟩ = some (.int .u32 0) := (blk_cell BK203.out 10).trans rfl; have hcz46_11 : w45.cell? ⟨gb203, 11, none⟩ = some (.int .u32 0) := (blk_cell BK203.out 11).trans rfl; have hfz46_0 := blk_frozen BK203.out 0; have hfz46_1 := blk_frozen BK203.out 1; have hfz46_2 := blk_frozen BK203.out 2; have hfz46_3 := blk_frozen BK203.out 3; have hfz46_4 := blk_frozen BK203.out 4; have hfz46_5 := blk_frozen BK203.out 5; have hfz46_6 := blk_frozen BK203.out 6; have hfz46_7 := blk_frozen BK203.out 7; have hfz46_8 := blk_frozen BK203.out 8; have hfz46_9 := blk_frozen BK203.out 9; have hfz46_10 := blk_frozen BK203.out 10; have hfz46_11 := blk_frozen BK203.out 11; obtain ⟨Ao47, co47, eo47⟩ := Kd.R_slice HO_4.out; subst eo47))
           have n0_ : Aside0 (Kd.R Kd.string 9 ((((((((((((w45.setCell ⟨gb203, 0, none⟩ (.int .i64 ((rd_T42 l0 x16_1).f0))).setCell ⟨gb203, 1, none⟩ (.int .u16 ((rd_T42 l0 x16_1).f1))).setCell ⟨gb203, 2, none⟩ (.int .u16 ((rd_T42 l0 x16_1).f2))).setCell ⟨gb203, 3, none⟩ (.int .u32 ((rd_T42 l0 x16_1).f3))).setCell ⟨gb203, 4, none⟩ (.int .u64 ((rd_T42 l0 x16_1).f4))).setCell ⟨gb203, 5, none⟩ (.int .i64 ((rd_T42 l0 x16_1).f5))).setCell ⟨gb203, 6, none⟩ (.int .u32 ((rd_T42 l0 x16_1).f6.f0))).setCell ⟨gb203, 7, none⟩ (.int .u32 ((rd_T42 l0 x16_1).f6.f1))).setCell ⟨gb203, 8, none⟩ (.int .u32 ((rd_T42 l0 x16_1).f6.f2))).setCell ⟨gb203, 9, none⟩ (.int .u32 ((rd_T42 l0 x16_1).f6.f3))).setCell ⟨gb203, 10, none⟩ (.int .u32 ((rd_T42 l0 x16_1).f6.f4))).setCell ⟨gb203, 11, none⟩ (.int .u32 ((rd_T42 l0 x16_1).f6.f5))) w.heap.size (fun _ => True) (.slice Ao47 x4_1.length co47) x4_1) := ⟨by (with_reducible repeat (first | apply Kd.R_alloc | apply Kd.R_drewN | apply Kd.R_drew)); exact Kd.R_mono (Kd.R_far (p := ⟨gb203, 11, none⟩) (Kd.R_far (p := ⟨gb203, 10, none⟩) (Kd.R_far (p := ⟨gb203, 9, none⟩) (Kd.R_far (p := ⟨gb203, 8, none⟩) (Kd.R_far (p := ⟨gb203, 7, none⟩) (Kd.R_far (p := ⟨gb203, 6, none⟩) (Kd.R_far (p := ⟨gb203, 5, none⟩) (Kd.R_far (p := ⟨gb203, 4, none⟩) (Kd.R_far (p := ⟨gb203, 3, none⟩) (Kd.R_far (p := ⟨gb203, 2, none⟩) (Kd.R_far (p := ⟨gb203, 1, none⟩) (Kd.R_far (p := ⟨gb203, 0, none⟩) (Kd.R_types HO_4.out BK203.out (by decide)) (fun _ hk => hk.2) (.int .i64 ((rd_T42 l0 x16_1).f0))) (fun _ hk => hk.2) (.int .u16 ((rd_T42 l0 x16_1).f1))) (fun _ hk => hk.2) (.int .u16 ((rd_T42 l0 x16_1).f2))) (fun _ hk => hk.2) (.int .u32 ((rd_T42 l0 x16_1).f3))) (fun _ hk => hk.2) (.int .u64 ((rd_T42 l0 x16_1).f4))) (fun _ hk => hk.2) (.int .i64 ((rd_T42 l0 x16_1).f5))) (fun _ hk => hk.2) (.int .u32 ((rd_T42 l0 x16_1).f6.f0))) (fun _ hk => hk.2) (.int .u32 ((rd_T42 l0 x16_1).f6.f1))) (fun _ hk => hk.2) (.int .u32 ((rd_T42 l0 x16_1).f6.f2))) (fun _ hk => hk.2) (.int .u32 ((rd_T42 l0 x16_1).f6.f3))) (fun _ hk => hk.2) (.int .u32 ((rd_T42 l0 x16_1).f6.f4))) (fun _ hk => hk.2) (.int .u32 ((rd_T42 l0 x16_1).f6.f5))) (fun _ hk => trivial)⟩
           have n1_ : Aside0 (((((((((((((w45.setCell ⟨gb203, 0, none⟩ (.int .i64 ((rd_T42 l0 x16_1).f0))).setCell ⟨gb203, 1, none⟩ (.int .u16 ((rd_T42 l0 x16_1).f1))).setCell ⟨gb203, 2, none⟩ (.int .u16 ((rd_T42 l0 x16_1).f2))).setCell ⟨gb203, 3, none⟩ (.int .u32 ((rd_T42 l0 x16_1).f3))).setCell ⟨gb203, 4, none⟩ (.int .u64 ((rd_T42 l0 x16_1).f4))).setCell ⟨gb203, 5, none⟩ (.int .i64 ((rd_T42 l0 x16_1).f5))).setCell ⟨gb203, 6, none⟩ (.int .u32 ((rd_T42 l0 x16_1).f6.f0))).setCell ⟨gb203, 7, none⟩ (.int .u32 ((rd_T42 l0 x16_1).f6.f1))).setCell ⟨gb203, 8, none⟩ (.int .u32 ((rd_T42 l0 x16_1).f6.f2))).setCell ⟨gb203, 9, none⟩ (.int .u32 ((rd_T42 l0 x16_1).f6.f3))).setCell ⟨gb203, 10, none⟩ (.int .u32 ((rd_T42 l0 x16_1).f6.f4))).setCell ⟨gb203, 11, none⟩ (.int .u32 ((rd_T42 l0 x16_1).f6.f5))).heap[gb203]? = some (.cells #[.int .i64 ((rd_T42 l0 x16_1).f0), .int .u16 ((rd_T42 l0 x16_1).f1), .int .u16 ((rd_T42 l0 x16_1).f2), .int .u32 ((rd_T42 l0 x16_1).f3), .int .u64 ((rd_T42 l0 x16_1).f4), .int .i64 ((rd_T42 l0 x16_1).f5), .int .u32 ((rd_T42 l0 x16_1).f6.f0), .int .u32 ((rd_T42 l0 x16_1).f6.f1), .int .u32 ((rd_T42 l0 x16_1).f6.f2), .int .u32 ((rd_T42 l0 x16_1).f6.f3), .int .u32 ((rd_T42 l0 x16_1).f6.f4), .int .u32 ((rd_T42 l0 x16_1).f6.f5)] 42 (0, 0))) := ⟨by (with_reducible repeat (first | refine blk_drewN ?_ _ | refine blk_drew ?_ | refine blk_alloc ?_ _)); refine blk_put (cs := #[.int .i64 ((rd_T42 l0 x16_1).f0), .int .u16 ((rd_T42 l0 x16_1).f1), .int .u16 ((rd_T42 l0 x16_1).f2), .int .u32 ((rd_T42 l0 x16_1).f3), .int .u64 ((rd_T42 l0 x16_1).f4), .int .i64 ((rd_T42 l0 x16_1).f5), .int .u32 ((rd_T42 l0 x16_1).f6.f0), .int .u32 ((rd_T42 l0 x16_1).f6.f1), .int .u32 ((rd_T42 l0 x16_1).f6.f2), .int .u32 ((rd_T42 l0 x16_1).f6.f3), .int .u32 ((rd_T42 l0 x16_1).f6.f4), .int .u32 0]) ?_ 11 _ rfl; (with_reducible repeat (first | refine blk_drewN ?_ _ | refine blk_drew ?_ | refine blk_alloc ?_ _)); refine blk_put (cs := #[.int .i64 ((rd_T42 l0 x16_1).f0), .int .u16 ((rd_T42 l0 x16_1).f1), .int .u16 ((rd_T42 l0 x16_1).f2), .int .u32 ((rd_T42 l0 x16_1).f3), .int .u64 ((rd_T42 l0 x16_1).f4), .int .i64 ((rd_T42 l0 x16_1).f5), .int .u32 ((rd_T42 l0 x16_1).f6.f0), .int .u32 ((rd_T42 l0 x16_1).f6.f1), .int .u32 ((rd_T42 l0 x16_1).f6.f2), .int .u32 ((rd_T42 l0 x16_1).f6.f3), .int .u32 0, .int .u32 0]) ?_ 10 _ rfl; (with_reducible repeat (first | refine blk_drewN ?_ _ | refine blk_drew ?_ | refine blk_alloc ?_ _)); refine blk_put (cs := #[.int .i64 ((rd_T42 l0 x16_1).f0), .int .u16 ((rd_T42 l0 x16_1).f1), .int .u16 ((rd_T42 l0 x16_1).f2), .int .u32 ((rd_T42 l0 x16_1).f3), .int .u64 ((rd_T42 l0 x16_1).f4), .int .i64 ((rd_T42 l0 x16_1).f5), .int .u32 ((rd_T42 l0 x16_1).f6.f0), .int .u32 ((rd_T42 l0 x16_1).f6.f1), .int .u32 ((rd_T42 l0 x16_1).f6.f2), .int .u32 0, .int .u32 0, .int .u32 0]) ?_ 9 _ rfl; (with_reducible repeat (first | refine blk_drewN ?_ _ | refine blk_drew ?_ | refine blk_alloc ?_ _)); refine blk_put (cs := #[.int .i64 ((rd_T42 l0 x16_1).f0), .int .u16 ((rd_T42 l0 x16_1).f1), .int .u16 ((rd_T42 l0 x16_1).f2), .int .u32 ((rd_T42 l0 x16_1).f3), .int .u64 ((rd_T42 l0 x16_1).f4), .int .i64 ((rd_T42 l0 x16_1).f5), .int .u32 ((rd_T42 l0 x16_1).f6.f0), .int .u32 ((rd_T42 l0 x16_1).f6.f1), .int .u32 0, .int .u32 0, .int .u32 0, .int .u32 0]) ?_ 8 _ rfl; (with_reducible repeat (first | refine blk_drewN ?_ _ | refine blk_drew ?_ | refine blk_alloc ?_ _)); refine blk_put (cs := #[.int .i64 ((rd_T42 l0 x16_1).f0), .int .u16 ((rd_T42 l0 x16_1).f1), .int .u16 ((rd_T42 l0 x16_1).f2), .int .u32 ((rd_T42 l0 x16_1).f3), .int .u64 ((rd_T42 l0 x16_1).f4), .int .i64 ((rd_T42 l0 x16_1).f5), .int .u32 ((rd_T42 l0 x16_1).f6.f0), .int .u32 0, .int .u32 0, .int .u32 0, .int .u32 0, .int .u32 0]) ?_ 7 _ rfl; (with_reducible repeat (first | refine blk_drewN ?_ _ | refine blk_drew ?_ | refine blk_alloc ?_ _)); refine blk_put (cs := #[.int .i64 ((rd_T42 l0 x16_1).f0), .int .u16 ((rd_T42 l0 x16_1).f1), .int .u16 ((rd_T42 l0 x16_1).f2), .int .u32 ((rd_T42 l0 x16_1).f3), .int .u64 ((rd_T42 l0 x16_1).f4), .int .i64 ((rd_T42 l0 x16_1).f5), .int .u32 0, .int .u32 0, .int .u32 0, .int .u32 0, .int .u32 0, .int .u32 0]) ?_ 6 _ rfl; (with_reducible repeat (first | refine blk_drewN ?_ _ | refine blk_drew ?_ | refine blk_alloc ?_ _)); refine blk_put (cs := #[.int .i64 ((rd_T42 l0 x16_1).f0), .int .u16 ((rd_T42 l0 x16_1).f1), .int .u16 ((rd_T42 l0 x16_1).f2), .int .u32 ((rd_T42 l0 x16_1).f3), .int .u64 ((rd_T42 l0 x16_1).f4), .int .i64 0, .int .u32 0, .int .u32 0, .int .u32 0, .int .u32 0, .int .u32 0, .int .u32 0]) ?_ 5 _ rfl; (with_reducible repeat (first | refine blk_drewN ?_ _ | refine blk_drew ?_ | refine blk_alloc ?_ _)); refine blk_put (cs := #[.int .i64 ((rd_T42 l0 x16_1).f0), .int .u16 ((rd_T42 l0 x16_1).f1), .int .u16 ((rd_T42 l0 x16_1).f2), .int .u32 ((rd_T42 l0 x16_1).f3), .int .u64 0, .int .i64 0, .int .u32 0, .int .u32 0, .int .u32 0, .int .u32 0, .int .u32 0, .int .u32 0]) ?_ 4 _ rfl; (with_reducible repeat (first | refine blk_drewN ?_ _ | refine blk_drew ?_ | refine blk_alloc ?_ _)); refine blk_put (cs := #[.int .i64 ((rd_T42 l0 x16_1).f0), .int .u16 ((rd_T42 l0 x16_1).f1), .int .u16 ((rd_T42 l0 x16_1).f2), .int .u32 0, .int .u64 0, .int .i64 0, .int .u32 0, .int .u32 0, .int .u32 0, .int .u32 0, .int .u32 0, .int .u32 0]) ?_ 3 _ rfl; (with_reducible repeat (first | refine blk_drewN ?_ _ | refine blk_drew ?_ | refine blk_alloc ?_ _)); refine blk_put (cs := #[.int .i64 ((rd_T42 l0 x16_1).f0), .int .u16 ((rd_T42 l0 x16_1).f1), .int .u16 0, .int .u32 0, .int .u64 0, .int .i64 0, .int .u32 0, .int .u32 0, .int .u32 0, .int .u32 0, .int .u32 0, .int .u32 0]) ?_ 2 _ rfl; (with_reducible repeat (first | refine blk_drewN ?_ _ | refine blk_drew ?_ | refine blk_alloc ?_ _)); refine blk_put (cs := #[.int .i64 ((rd_T42 l0 x16_1).f0), .int .u16 0, .int .u16 0, .int .u32 0, .int .u64 0, .int .i64 0, .int .u32 0, .int .u32 0, .int .u32 0, .int .u32 0, .int .u32 0, .int .u32 0]) ?_ 1 _ rfl; (with_reducible repeat (first | refine blk_drewN ?_ _ | refine blk_drew ?_ | refine blk_alloc ?_ _)); refine blk_put (cs := #[.int .i64 0, .int .u16 0, .int .u16 0, .int .u32 0, .int .u64 0, .int .i64 0, .int .u32 0, .int .u32 0, .int .u32 0, .int .u32 0, .int .u32 0, .int .u32 0]) ?_ 0 _ rfl; (with_reducible repeat (first | refine blk_drewN ?_ _ | refine blk_drew ?_ | refine blk_alloc ?_ _)); exact BK203.out⟩
           have n2_ : Aside0 (Below w.heap.size w ((((((((((((w45.setCell ⟨gb203, 0, none⟩ (.int .i64 ((rd_T42 l0 x16_1).f0))).setCell ⟨gb203, 1, none⟩ (.int .u16 ((rd_T42 l0 x16_1).f1))).setCell ⟨gb203, 2, none⟩ (.int .u16 ((rd_T42 l0 x16_1).f2))).setCell ⟨gb203, 3, none⟩ (.int .u32 ((rd_T42 l0 x16_1).f3))).setCell ⟨gb203, 4, none⟩ (.int .u64 ((rd_T42 l0 x16_1).f4))).setCell ⟨gb203, 5, none⟩ (.int .i64 ((rd_T42 l0 x16_1).f5))).setCell ⟨gb203, 6, none⟩ (.int .u32 ((rd_T42 l0 x16_1).f6.f0))).setCell ⟨gb203, 7, none⟩ (.int .u32 ((rd_T42 l0 x16_1).f6.f1))).setCell ⟨gb203, 8, none⟩ (.int .u32 ((rd_T42 l0 x16_1).f6.f2))).setCell ⟨gb203, 9, none⟩ (.int .u32 ((rd_T42 l0 x16_1).f6.f3))).setCell ⟨gb203, 10, none⟩ (.int .u32 ((rd_T42 l0 x16_1).f6.f4))).setCell ⟨gb203, 11, none⟩ (.int .u32 ((rd_T42 l0 x16_1).f6.f5)))) := ⟨by repeat (first | (with_reducible first | exact HB.out | apply below_alloc | apply pw_below_drewN | apply below_drew1 | refine below_set ?_ GE203.out) | exact HB.out)⟩
           (try clear HO_4)
           (try clear BK203)
           (try clear HB)
           generalize ((((((((((((w45.setCell ⟨gb203, 0, none⟩ (.int .i64 ((rd_T42 l0 x16_1).f0))).setCell ⟨gb203, 1, none⟩ (.int .u16 ((rd_T42 l0 x16_1).f1))).setCell ⟨gb203, 2, none⟩ (.int .u16 ((rd_T42 l0 x16_1).f2))).setCell ⟨gb203, 3, none⟩ (.int .u32 ((rd_T42 l0 x16_1).f3))).setCell ⟨gb203, 4, none⟩ (.int .u64 ((rd_T42 l0 x16_1).f4))).setCell ⟨gb203, 5, none⟩ (.int .i64 ((rd_T42 l0 x16_1).f5))).setCell ⟨gb203, 6, none⟩ (.int .u32 ((rd_T42 l0 x16_1).f6.f0))).setCell ⟨gb203, 7, none⟩ (.int .u32 ((rd_T42 l0 x16_1).f6.f1))).setCell ⟨gb203, 8, none⟩ (.int .u32 ((rd_T42 l0 x16_1).f6.f2))).setCell ⟨gb203, 9, none⟩ (.int .u32 ((rd_T42 l0 x16_1).f6.f3))).setCell ⟨gb203, 10, none⟩ (.int .u32 ((rd_T42 l0 x16_1).f6.f4))).setCell ⟨gb203, 11, none⟩ (.int .u32 ((rd_T42 l0 x16_1).f6.f5))) = w48 at n0_ n1_ n2_ ⊢
           have HO_4 := n0_
           have BK203 := n1_
           have HB := n2_
           clear n0_ n1_ n2_
           have n0_ := Aside0.mk (Kd.R_drew HO_4.out)
           have n1_ := Aside0.mk (blk_drew BK203.out)
           have n2_ := Aside0.mk (below_drew1 HB.out)
           clear HO_4
           clear BK203
           clear HB
           have HO_4 := n0_
           have BK203 := n1_
           have HB := n2_
           clear n0_ n1_ n2_
           have p212 : 0 ≤ ((ji31) : Int) := of_decide_eq_true (by first | (with_reducible assumption) | assumption)
           have q212 : (ji31) < (x4_1.length : Int) := of_decide_eq_true (by first | (with_reducible assumption) | assumption)
           obtain ⟨ad212, e212, hx212_0⟩ := Kd.at_string (Kd.R_reads' HO_4.out).2.2 (ji31) p212 q212
           cases e212
           replace p212 := eq_true p212
           replace q212 := eq_true q212
           refine start_ (n := 12) (S := fun w' => w'.cell? ⟨gb203, 0, none⟩ = some (.int .i64 ((rd_T42 l0 x16_1).f0)) ∧ w'.cell? ⟨gb203, 1, none⟩ = some (.int .u16 ((rd_T42 l0 x16_1).f1)) ∧ w'.cell? ⟨gb203, 2, none⟩ = some (.int .u16 ((rd_T42 l0 x16_1).f2)) ∧ w'.cell? ⟨gb203, 3, none⟩ = some (.int .u32 ((rd_T42 l0 x16_1).f3)) ∧ w'.cell? ⟨gb203, 4, none⟩ = some (.int .u64 ((rd_T42 l0 x16_1).f4)) ∧ w'.cell? ⟨gb203, 5, none⟩ = some (.int .i64 ((rd_T42 l0 x16_1).f5)) ∧ w'.cell? ⟨gb203, 6, none⟩ = some (.int .u32 ((rd_T42 l0 x16_1).f6.f0)) ∧ w'.cell? ⟨gb203, 7, none⟩ = some (.int .u32 ((rd_T42 l0 x16_1).f6.f1)) ∧ w'.cell? ⟨gb203, 8, none⟩ = some (.int .u32 ((rd_T42 l0 x16_1).f6.f2)) ∧ w'.cell? ⟨gb203, 9, none⟩ = some (.int .u32 ((rd_T42 l0 x16_1).f6.f3)) ∧ w'.cell? ⟨gb203, 10, none⟩ = some (.int .u32 ((rd_T42 l0 x16_1).f6.f4)) ∧ w'.cell? ⟨gb203, 11, none⟩ = some (.int .u32 ((rd_T42 l0 x16_1).f6.f5)) ∧ w'.cell? (ad212.add ((ji31)).toNat) = some (.string (rdOf ByteArray.empty x4_1 (ji31)))) (ds := []) #[false, false, false, false, false, false, false, false, false, false, false, false] (by kernel_rfl) rfl rfl ⟨(blk_cell BK203.out 0).trans rfl, (blk_cell BK203.out 1).trans rfl, (blk_cell BK203.out 2).trans rfl, (blk_cell BK203.out 3).trans rfl, (blk_cell BK203.out 4).trans rfl, (blk_cell BK203.out 5).trans rfl, (blk_cell BK203.out 6).trans rfl, (blk_cell BK203.out 7).trans rfl, (blk_cell BK203.out 8).trans rfl, (blk_cell BK203.out 9).trans rfl, (blk_cell BK203.out 10).trans rfl, (blk_cell BK203.out 11).trans rfl, hx212_0⟩ (fun hHeld => ?_); refine with_tabW vol_Table.tab11 vol_Table.bits11 (fun HT_ HW_ => ?_)
           generalize w48.drew = w49 at HO_4 BK203 HB hx212_0 hHeld ⊢
           refine pure_ (i := 0) (N := some 33) (v := ?_) (a' := ?_) #[true, false, false, false, false, false, false, false, false, false, false, false] rfl rfl (any_of HT_.out (by kernel_rfl)) (fun _ _ _ h => h) (Or.inl ⟨by rfl, ?_⟩) ?_ ?_
           rotate_left
           ·intro w'
            go_simp
            with_reducible rfl
           rotate_left
           ·simp only [Act.put, List.setIfInBounds_toArray, List.set_cons_zero, List.set_cons_succ, i64_w, i32_w]
            rfl
           refine pure_ (i := 1) (N := some 34) (v := ?_) (a' := ?_) #[true, true, false, false, false, false, false, false, false, false, false, false] rfl rfl (any_of HT_.out (by kernel_rfl)) (fun _ _ _ h => h) (Or.inl ⟨by rfl, ?_⟩) ?_ ?_
           rotate_left
           ·intro w'
            go_simp
            with_reducible rfl
           rotate_left
           ·simp only [Act.put, List.setIfInBounds_toArray, List.set_cons_zero, List.set_cons_succ, i64_w, i32_w]
            rfl
           refine pure_ (i := 2) (N := some 35) (v := ?_) (a' := ?_) #[true, true, true, false, false, false, false, false, false, false, false, false] rfl rfl (any_of HT_.out (by kernel_rfl)) (fun _ _ _ h => h) (Or.inl ⟨by rfl, ?_⟩) ?_ ?_
           rotate_left
           ·intro w'
            go_simp
            with_reducible rfl
           rotate_left
           ·simp only [Act.put, List.setIfInBounds_toArray, List.set_cons_zero, List.set_cons_succ, i64_w, i32_w]
            rfl
           refine pure_ (i := 4) (N := some 37) (v := ?_) (a' := ?_) #[true, true, true, false, true, false, false, false, false, false, false, false] rfl rfl (any_of HT_.out (by kernel_rfl)) (fun _ _ _ h => h) (Or.inl ⟨by rfl, ?_⟩) ?_ ?_
           rotate_left
           ·intro w'
            go_simp
            with_reducible rfl
           rotate_left
           ·simp only [Act.put, List.setIfInBounds_toArray, List.set_cons_zero, List.set_cons_succ, i64_w, i32_w]
            rfl
           refine take_ (i := 3) (N := some 36) (v := ?_) (a' := ?_) #[true, true, true, true, true, false, false, false, false, false, false, false] rfl rfl (take_ofW HT_.out HW_.out (by kernel_rfl)) (fun _ _ _ h => h) (Or.inl ⟨by rfl, ?_⟩) hHeld ?_ ?_
           rotate_left
           ·rintro w' ⟨s0, s1, s2, s3, s4, s5, s6, s7, s8, s9, s10, s11, s12⟩
            go_simp
            with_reducible rfl
           rotate_left
           ·simp only [Act.put, List.setIfInBounds_toArray, List.set_cons_zero, List.set_cons_succ, i64_w, i32_w]
            rfl
           refine take_ (i := 5) (N := some 38) (v := ?_) (a' := ?_) #[true, true, true, true, true, true, false, false, false, false, false, false] rfl rfl (take_ofW HT_.out HW_.out (by kernel_rfl)) (fun _ _ _ h => h) (Or.inl ⟨by rfl, ?_⟩) hHeld ?_ ?_
           rotate_left
           ·rintro w' ⟨s0, s1, s2, s3, s4, s5, s6, s7, s8, s9, s10, s11, s12⟩
            go_simp
            with_reducible rfl
           rotate_left
           ·simp only [Act.put, List.setIfInBounds_toArray, List.set_cons_zero, List.set_cons_succ, i64_w, i32_w]
            rfl
           refine one_ (i := 6) (N := some 39) #[true, true, true, true, true, true, true, false, false, false, false, false] rfl rfl (one_of HT_.out (by kernel_rfl)) (by decide) (fun K hK => ?_)
           refine goes_ Try.func45 (by kernel_rfl) rfl #[.string (rdOf ByteArray.empty x4_1 (ji31)), .int .i64 (Int.tmod x16_1 12), .agg #[.int .i64 ((rd_T42 l0 x16_1).f0), .int .u16 ((rd_T42 l0 x16_1).f1), .int .u16 ((rd_T42 l0 x16_1).f2), .int .u32 ((rd_T42 l0 x16_1).f3), .int .u64 ((rd_T42 l0 x16_1).f4), .int .i64 ((rd_T42 l0 x16_1).f5), .int .u32 ((rd_T42 l0 x16_1).f6.f0), .int .u32 ((rd_T42 l0 x16_1).f6.f1), .int .u32 ((rd_T42 l0 x16_1).f6.f2), .int .u32 ((rd_T42 l0 x16_1).f6.f3), .int .u32 ((rd_T42 l0 x16_1).f6.f4), .int .u32 ((rd_T42 l0 x16_1).f6.f5)]] (by rfl) rfl rfl (by (try simp only [List.map_toArray, List.map_cons, List.map_nil]); first | done | (simp only [hji31]; rfl) | rfl | (simp only [List.length_drop, List.length_take]; rfl)) ?_
           with_reducible refine (inode_Put.calls (rdOf ByteArray.empty x4_1 (ji31)) (Int.tmod x16_1 12) ((rd_T42 l0 x16_1).f0) ((rd_T42 l0 x16_1).f1) ((rd_T42 l0 x16_1).f2) ((rd_T42 l0 x16_1).f3) ((rd_T42 l0 x16_1).f4) ((rd_T42 l0 x16_1).f5) ((rd_T42 l0 x16_1).f6.f0) ((rd_T42 l0 x16_1).f6.f1) ((rd_T42 l0 x16_1).f6.f2) ((rd_T42 l0 x16_1).f6.f3) ((rd_T42 l0 x16_1).f6.f4) ((rd_T42 l0 x16_1).f6.f5) t213 t214 _ A34.out).mono ?_
           rintro e w50 ⟨rfl, hb⟩
           have HS12_ := (hb.cell (World.block_lt_of_cell? _ _ (hHeld.2.2.2.2.2.2.2.2.2.2.2.2))).trans (hHeld.2.2.2.2.2.2.2.2.2.2.2.2)
           refine ⟨_, rfl, ?_⟩
           have n0_ := Aside0.mk (Kd.R_below (by (with_reducible repeat (first | apply Kd.R_alloc | apply Kd.R_drewN | apply Kd.R_drew)); exact HO_4.out) hb)
           have n1_ := Aside0.mk (blk_below (g := gb203) (o := .cells #[.int .i64 ((rd_T42 l0 x16_1).f0), .int .u16 ((rd_T42 l0 x16_1).f1), .int .u16 ((rd_T42 l0 x16_1).f2), .int .u32 ((rd_T42 l0 x16_1).f3), .int .u64 ((rd_T42 l0 x16_1).f4), .int .i64 ((rd_T42 l0 x16_1).f5), .int .u32 ((rd_T42 l0 x16_1).f6.f0), .int .u32 ((rd_T42 l0 x16_1).f6.f1), .int .u32 ((rd_T42 l0 x16_1).f6.f2), .int .u32 ((rd_T42 l0 x16_1).f6.f3), .int .u32 ((rd_T42 l0 x16_1).f6.f4), .int .u32 ((rd_T42 l0 x16_1).f6.f5)] 42 (0, 0)) (by (with_reducible repeat (first | refine blk_drewN ?_ _ | refine blk_drew ?_ | refine blk_alloc ?_ _)); exact BK203.out) hb)
           have n2_ := Aside0.mk (below_step (by repeat (first | (with_reducible first | exact HB.out | apply below_alloc | apply pw_below_drewN | apply below_drew1 | refine below_set ?_ GE203.out) | exact HB.out)) hb)
           clear HO_4
           clear BK203
           clear HB
           have HO_4 := n0_
           have BK203 := n1_
           have HB := n2_
           clear n0_ n1_ n2_
           (try clear hb)
           (try clear hb2)
           (try clear hk)
           (try clear hi)
           refine hK.out _ _ ⟨(blk_cell BK203.out 0).trans rfl, (blk_cell BK203.out 1).trans rfl, (blk_cell BK203.out 2).trans rfl, (blk_cell BK203.out 3).trans rfl, (blk_cell BK203.out 4).trans rfl, (blk_cell BK203.out 5).trans rfl, (blk_cell BK203.out 6).trans rfl, (blk_cell BK203.out 7).trans rfl, (blk_cell BK203.out 8).trans rfl, (blk_cell BK203.out 9).trans rfl, (blk_cell BK203.out 10).trans rfl, (blk_cell BK203.out 11).trans rfl, HS12_⟩ (fun hHeld => ?_)
           clear hK K
           refine norm_ (a' := ?_) ?_ ?_
           rotate_left
           ·show Act.put _ (some 39) _ = _
            simp only [Act.put, List.setIfInBounds_toArray, List.set_cons_zero, List.set_cons_succ, i64_w, i32_w]
            rfl
           refine pure_ (i := 7) (N := some 32) (v := ?_) (a' := ?_) #[true, true, true, true, true, true, true, true, false, false, false, false] rfl rfl (any_of HT_.out (by kernel_rfl)) (fun _ _ _ h => h) (Or.inl ⟨by rfl, ?_⟩) ?_ ?_
           rotate_left
           ·intro w'
            go_simp
            with_reducible rfl
           rotate_left
           ·simp only [Act.put, List.setIfInBounds_toArray, List.set_cons_zero, List.set_cons_succ, i64_w, i32_w]
            rfl
           refine pure_ (i := 8) (N := some 40) (v := ?_) (a' := ?_) #[true, true, true, true, true, true, true, true, true, false, false, false] rfl rfl (any_of HT_.out (by kernel_rfl)) (fun _ _ _ h => h) (Or.inl ⟨by rfl, ?_⟩) ?_ ?_
           rotate_left
           ·intro w'
            go_simp
            with_reducible rfl
           rotate_left
           ·simp only [Act.put, List.setIfInBounds_toArray, List.set_cons_zero, List.set_cons_succ, i64_w, i32_w]
            rfl
           refine pure_ (i := 9) (N := some 41) (v := ?_) (a' := ?_) #[true, true, true, true, true, true, true, true, true, true, false, false] rfl rfl (any_of HT_.out (by kernel_rfl)) (fun _ _ _ h => h) (Or.inl ⟨by rfl, ?_⟩) ?_ ?_
           rotate_left
           ·intro w'
            go_simp
            with_reducible rfl
           rotate_left
           ·simp only [Act.put, List.setIfInBounds_toArray, List.set_cons_zero, List.set_cons_succ, i64_w, i32_w]
            rfl
           refine pure_ (i := 10) (N := some 9) (v := ?_) (a' := ?_) #[true, true, true, true, true, true, true, true, true, true, true, false] rfl rfl (any_of HT_.out (by kernel_rfl)) (fun _ _ _ h => h) (Or.inl ⟨by rfl, ?_⟩) ?_ ?_
           rotate_left
           ·intro w'
            go_simp
            with_reducible rfl
           rotate_left
           ·simp only [Act.put, List.setIfInBounds_toArray, List.set_cons_zero, List.set_cons_succ, i64_w, i32_w]
            rfl
           refine pure_ (i := 11) (N := some 10) (v := ?_) (a' := ?_) #[true, true, true, true, true, true, true, true, true, true, true, true] rfl rfl (any_of HT_.out (by kernel_rfl)) (fun _ _ _ h => h) (Or.inl ⟨by rfl, ?_⟩) ?_ ?_
           rotate_left
           ·intro w'
            go_simp
            with_reducible rfl
           rotate_left
           ·simp only [Act.put, List.setIfInBounds_toArray, List.set_cons_zero, List.set_cons_succ, i64_w, i32_w]
            rfl
           refine done_ (done_of HT_.out (by kernel_rfl)) ?_
           try go_wp2
           go_ret2
           exact ⟨_, by first | rfl | (simp [errW_none, errW_some] <;> rfl) | (simp only [← hji31]; first | rfl | (simp [errW_none, errW_some] <;> rfl)) | (simp [*, errW_none, errW_some] <;> rfl), by first | exact Kd.R_nil _ _ _ _ _ | exact Kd.N_nil _ _ _ _ _ | exact Kd.V_nil _ _ _ _ _ | exact Kd.Q_nil _ _ _ _ _ | exact Kd.S_nil _ _ _ _ _, by repeat (first | (with_reducible first | exact HB.out | apply below_alloc | apply pw_below_drewN | apply below_drew1 | refine below_set ?_ GE203.out) | exact HB.out)⟩
         ·rw [if_neg c33] at H
          exact absurd H (by simp)
        ·rw [if_neg c32] at H
         exact absurd H (by simp)
      ·rw [if_neg c5] at H
       exact absurd H (by simp)
     ·rw [if_neg c4] at H
      exact absurd H (by simp)
    ·rw [if_neg c3] at H
     have c3b0 : decide (x16_1 < (l0.length : Int)) = false := decide_eq_false c3
     clear c3
     simp only [Option.some.injEq, Prod.mk.injEq] at H
     obtain ⟨rfl, rfl⟩ := H
     go_wp2
     go_ret2
     exact ⟨_, by first | rfl | (simp [errW_none, errW_some] <;> rfl) | (simp [*, errW_none, errW_some] <;> rfl), by (with_reducible repeat (first | apply Kd.R_alloc | apply Kd.R_drewN | apply Kd.R_drew)); exact HO_4.out, by repeat (first | (with_reducible first | exact HB.out | apply below_alloc | apply pw_below_drewN | apply below_drew1) | exact HB.out)⟩

end Go.Proofs.Ytpcokafalmafgaa.Q
