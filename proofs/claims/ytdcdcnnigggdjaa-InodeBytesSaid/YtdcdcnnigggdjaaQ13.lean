/- Functions of the translation as plain Lean functions, and that the translation computes them: printed by this session's driver of the print. -/
import Derived.Test.YtdcdcnnigggdjaaQ0
import Derived.Test.YtdcdcnnigggdjaaQ2
import Derived.Test.YtdcdcnnigggdjaaQ3
import Derived.Test.YtdcdcnnigggdjaaHIDec
import Derived.Test.YtdcdcnnigggdjaaHIEnc
namespace Go.Proofs.Ytdcdcnnigggdjaa.Q
open Go.Proofs.Ytdcdcnnigggdjaa.H
open Go.RowKit Go.Proofs.YtdcdcnnigggdjaaW.PrintWords Go.Proofs.YtdcdcnnigggdjaaW.PrintLast Go.Proofs.YtdcdcnnigggdjaaW.PrintMore
attribute [local go_sem] max2_int min2_int max_two min_two max_three min_three max_four min_four   -- for this text's walks alone
set_option linter.unusedVariables false
set_option linter.unusedSimpArgs false

/-! ### nautiluslaw10_shown: function 8 -/
def nautiluslaw10_shown.f  : Option (Bool) := (inode_Encode.f 4 0 0 0 0 0 0 0 0 0 0 0).bind fun bt115 => ((inode_Encode.f 1 0 0 0 0 0 0 0 0 0 0 0).bind fun bt117 => ((inode_Blocks.f 508).bind fun t119 => (if t119 = 1 then ((inode_Blocks.f 3049).bind fun t120 => (if t120 = 7 then ((inode_Depth.f 3049).bind fun t121 => (if t121 = 1 then ((inode_Depth.f 64517).bind fun t122 => (if t122 = 2 then (if bt115.2 = 100 then (if bt117.2 = 0 then (some ((bt117.1.size : Int) == 42)) else (none)) else (none)) else (none))) else (none))) else (none))) else (none))))
set_option maxHeartbeats 8000000 in
set_option maxRecDepth 100000 in
theorem nautiluslaw10_shown.calls  (r : Bool) (w : World) (h : nautiluslaw10_shown.f  = some r) :
    Calls Try.prog 8 #[] w fun e w' => e = .returned (.bool r) ∧ Below w.heap.size w w' := by
  have hu30 := Try.underlying30
  have HB := Aside0.mk (Below.refl w.heap.size w)
  have H : ((inode_Encode.f 4 0 0 0 0 0 0 0 0 0 0 0).bind fun bt115 => ((inode_Encode.f 1 0 0 0 0 0 0 0 0 0 0 0).bind fun bt117 => ((inode_Blocks.f 508).bind fun t119 => (if t119 = 1 then ((inode_Blocks.f 3049).bind fun t120 => (if t120 = 7 then ((inode_Depth.f 3049).bind fun t121 => (if t121 = 1 then ((inode_Depth.f 64517).bind fun t122 => (if t122 = 2 then (if bt115.2 = 100 then (if bt117.2 = 0 then (some ((bt117.1.size : Int) == 42)) else (none)) else (none)) else (none))) else (none))) else (none))) else (none))))) = some r := h
  clear h
  replace H := Option.bind_eq_some_iff.mp H
  obtain ⟨⟨t115, t116⟩, A10, H⟩ := H
  replace H : ((inode_Encode.f 1 0 0 0 0 0 0 0 0 0 0 0).bind fun bt117 => ((inode_Blocks.f 508).bind fun t119 => (if t119 = 1 then ((inode_Blocks.f 3049).bind fun t120 => (if t120 = 7 then ((inode_Depth.f 3049).bind fun t121 => (if t121 = 1 then ((inode_Depth.f 64517).bind fun t122 => (if t122 = 2 then (if t116 = 100 then (if bt117.2 = 0 then (some ((bt117.1.size : Int) == 42)) else (none)) else (none)) else (none))) else (none))) else (none))) else (none)))) = some r := H
  have A1 := Aside0.mk A10
  clear A10
  replace H := Option.bind_eq_some_iff.mp H
  obtain ⟨⟨t117, t118⟩, A20, H⟩ := H
  replace H : ((inode_Blocks.f 508).bind fun t119 => (if t119 = 1 then ((inode_Blocks.f 3049).bind fun t120 => (if t120 = 7 then ((inode_Depth.f 3049).bind fun t121 => (if t121 = 1 then ((inode_Depth.f 64517).bind fun t122 => (if t122 = 2 then (if t116 = 100 then (if t118 = 0 then (some ((t117.size : Int) == 42)) else (none)) else (none)) else (none))) else (none))) else (none))) else (none))) = some r := H
  have A2 := Aside0.mk A20
  clear A20
  replace H := Option.bind_eq_some_iff.mp H
  obtain ⟨t119, A30, H⟩ := H
  replace H : (if t119 = 1 then ((inode_Blocks.f 3049).bind fun t120 => (if t120 = 7 then ((inode_Depth.f 3049).bind fun t121 => (if t121 = 1 then ((inode_Depth.f 64517).bind fun t122 => (if t122 = 2 then (if t116 = 100 then (if t118 = 0 then (some ((t117.size : Int) == 42)) else (none)) else (none)) else (none))) else (none))) else (none))) else (none)) = some r := H
  have A3 := Aside0.mk A30
  clear A30
  by_cases c4 : t119 = 1
  · rw [if_pos c4] at H
    have c4b0 : (t119 == 1) = true := beq_iff_eq.mpr c4
    have c4b1 : (t119 != 1) = false := bne_eq_false_iff_eq.mpr c4
    clear c4
    replace H := Option.bind_eq_some_iff.mp H
    obtain ⟨t120, A50, H⟩ := H
    replace H : (if t120 = 7 then ((inode_Depth.f 3049).bind fun t121 => (if t121 = 1 then ((inode_Depth.f 64517).bind fun t122 => (if t122 = 2 then (if t116 = 100 then (if t118 = 0 then (some ((t117.size : Int) == 42)) else (none)) else (none)) else (none))) else (none))) else (none)) = some r := H
    have A5 := Aside0.mk A50
    clear A50
    by_cases c6 : t120 = 7
    · rw [if_pos c6] at H
      have c6b0 : (t120 == 7) = true := beq_iff_eq.mpr c6
      have c6b1 : (t120 != 7) = false := bne_eq_false_iff_eq.mpr c6
      clear c6
      replace H := Option.bind_eq_some_iff.mp H
      obtain ⟨t121, A70, H⟩ := H
      replace H : (if t121 = 1 then ((inode_Depth.f 64517).bind fun t122 => (if t122 = 2 then (if t116 = 100 then (if t118 = 0 then (some ((t117.size : Int) == 42)) else (none)) else (none)) else (none))) else (none)) = some r := H
      have A7 := Aside0.mk A70
      clear A70
      by_cases c8 : t121 = 1
      · rw [if_pos c8] at H
        have c8b0 : (t121 == 1) = true := beq_iff_eq.mpr c8
        have c8b1 : (t121 != 1) = false := bne_eq_false_iff_eq.mpr c8
        clear c8
        replace H := Option.bind_eq_some_iff.mp H
        obtain ⟨t122, A90, H⟩ := H
        replace H : (if t122 = 2 then (if t116 = 100 then (if t118 = 0 then (some ((t117.size : Int) == 42)) else (none)) else (none)) else (none)) = some r := H
        have A9 := Aside0.mk A90
        clear A90
        by_cases c10 : t122 = 2
        · rw [if_pos c10] at H
          have c10b0 : (t122 == 2) = true := beq_iff_eq.mpr c10
          have c10b1 : (t122 != 2) = false := bne_eq_false_iff_eq.mpr c10
          clear c10
          by_cases c11 : t116 = 100
          · rw [if_pos c11] at H
            have c11b0 : (t116 == 100) = true := beq_iff_eq.mpr c11
            have c11b1 : (t116 != 100) = false := bne_eq_false_iff_eq.mpr c11
            clear c11
            by_cases c12 : t118 = 0
            · rw [if_pos c12] at H
              have c12b0 : (t118 == 0) = true := beq_iff_eq.mpr c12
              have c12b1 : (t118 != 0) = false := bne_eq_false_iff_eq.mpr c12
              clear c12
              obtain rfl := Option.some.inj H
              go_enter Try.func8, Try.ntmps8
              go_wp2_with (first | ((with_reducible refine gate_callee (f := 11) rfl ?_); refine goesL_ (some 7) rfl rfl Try.func11 (by kernel_rfl) rfl #[.agg #[.int .i64 4, .int .u16 0, .int .u16 0, .int .u32 0, .int .u64 0, .int .i64 0, .int .u32 0, .int .u32 0, .int .u32 0, .int .u32 0, .int .u32 0, .int .u32 0]] rfl (by (try simp only [List.map_toArray, List.map_cons, List.map_nil]); first | done | rfl | (simp only [List.length_drop, List.length_take]; rfl)) ?_; (with_reducible refine (inode_Encode.calls 4 0 0 0 0 0 0 0 0 0 0 0 t115 t116 _ A1.out).mono ?_); rintro e w13 ⟨rfl, hb⟩; refine ⟨_, rfl, ?_⟩; have n0_ := Aside0.mk (below_step (by repeat (first | (with_reducible first | exact HB.out | apply below_alloc | apply pw_below_drewN | apply below_drew1) | exact HB.out)) hb); clear HB; have HB := n0_; clear n0_; (try clear hb); (try clear hb2); (try clear hk); (try clear hi)) | ((with_reducible refine gate_callee (f := 11) rfl ?_); refine goesL_ (some 12) rfl rfl Try.func11 (by kernel_rfl) rfl #[.agg #[.int .i64 1, .int .u16 0, .int .u16 0, .int .u32 0, .int .u64 0, .int .i64 0, .int .u32 0, .int .u32 0, .int .u32 0, .int .u32 0, .int .u32 0, .int .u32 0]] rfl (by (try simp only [List.map_toArray, List.map_cons, List.map_nil]); first | done | rfl | (simp only [List.length_drop, List.length_take]; rfl)) ?_; (with_reducible refine (inode_Encode.calls 1 0 0 0 0 0 0 0 0 0 0 0 t117 t118 _ A2.out).mono ?_); rintro e w14 ⟨rfl, hb⟩; refine ⟨_, rfl, ?_⟩; have n0_ := Aside0.mk (below_step (by repeat (first | (with_reducible first | exact HB.out | apply below_alloc | apply pw_below_drewN | apply below_drew1) | exact HB.out)) hb); clear HB; have HB := n0_; clear n0_; (try clear hb); (try clear hb2); (try clear hk); (try clear hi)) | ((with_reducible refine gate_callee (f := 9) rfl ?_); refine goesL_ (some 15) rfl rfl Try.func9 (by kernel_rfl) rfl #[.int .u32 508] rfl (by (try simp only [List.map_toArray, List.map_cons, List.map_nil]); first | done | rfl | (simp only [List.length_drop, List.length_take]; rfl)) ?_; (with_reducible refine (inode_Blocks.calls 508 t119 _ A3.out).mono ?_); rintro e w' ⟨rfl, ⟨nd, rfl⟩⟩; refine ⟨_, rfl, ?_⟩) | (go_at_call 9; (with_reducible refine (inode_Blocks.calls 3049 t120 _ A5.out).mono ?_); rintro e w' ⟨rfl, ⟨nd, rfl⟩⟩) | (go_at_call 10; (with_reducible refine (inode_Depth.calls 3049 t121 _ A7.out).mono ?_); rintro e w' ⟨rfl, ⟨nd, rfl⟩⟩) | (go_at_call 10; (with_reducible refine (inode_Depth.calls 64517 t122 _ A9.out).mono ?_); rintro e w' ⟨rfl, ⟨nd, rfl⟩⟩))
              go_ret
              exact ⟨by first | rfl | (simp [errW_none, errW_some] <;> rfl) | (simp [*, errW_none, errW_some] <;> rfl) | (simp [show IntKind.u64.wrap 0 = 0 from rfl, Int.zero_tdiv]; done), by repeat (first | (with_reducible first | exact HB.out | apply below_alloc | apply pw_below_drewN | apply below_drew1) | exact HB.out)⟩
            · rw [if_neg c12] at H
              exact absurd H (by simp)
          · rw [if_neg c11] at H
            exact absurd H (by simp)
        · rw [if_neg c10] at H
          exact absurd H (by simp)
      · rw [if_neg c8] at H
        exact absurd H (by simp)
    · rw [if_neg c6] at H
      exact absurd H (by simp)
  · rw [if_neg c4] at H
    exact absurd H (by simp)

/-! ### inode_isPlace: function 35 -/
def inode_isPlace.f (a0 : ByteArray) (a1 : Int) : Option (Bool) := if (a0.size : Int) = 508 then (if a1 ≥ 0 then (some (decide (a1 < 12))) else (some false)) else (some false)
set_option maxHeartbeats 8000000 in
set_option maxRecDepth 100000 in
theorem inode_isPlace.calls (a0 : ByteArray) (a1 : Int) (r : Bool) (w : World) (h : inode_isPlace.f a0 a1 = some r) :
    Calls Try.prog 35 #[.string a0, .int .i64 a1] w fun e w' => e = .returned (.bool r) ∧ Drawn0 w w' := by
  have H : (if (a0.size : Int) = 508 then (if a1 ≥ 0 then (some (decide (a1 < 12))) else (some false)) else (some false)) = some r := h
  clear h
  by_cases c3 : (a0.size : Int) = 508
  · rw [if_pos c3] at H
    have c3b0 : ((a0.size : Int) == 508) = true := beq_iff_eq.mpr c3
    have c3b1 : ((a0.size : Int) != 508) = false := bne_eq_false_iff_eq.mpr c3
    clear c3
    by_cases c4 : a1 ≥ 0
    · rw [if_pos c4] at H
      have c4b0 : decide (0 ≤ a1) = true := decide_eq_true c4
      clear c4
      obtain rfl := Option.some.inj H
      go_enter Try.func35, Try.ntmps35
      go_wp2
      go_ret
      exact ⟨by first | rfl | (simp; done) | (simp [*]; done), by repeat (first | exact Drawn0.refl _ | apply Drawn0.step)⟩
    · rw [if_neg c4] at H
      have c4b0 : decide (0 ≤ a1) = false := decide_eq_false c4
      clear c4
      obtain rfl := Option.some.inj H
      go_enter Try.func35, Try.ntmps35
      go_wp2
      go_ret
      exact ⟨by first | rfl | (simp; done) | (simp [*]; done), by repeat (first | exact Drawn0.refl _ | apply Drawn0.step)⟩
  · rw [if_neg c3] at H
    have c3b0 : ((a0.size : Int) == 508) = false := beq_eq_false_iff_ne.mpr c3
    have c3b1 : ((a0.size : Int) != 508) = true := bne_iff_ne.mpr c3
    obtain rfl := Option.some.inj H
    go_enter Try.func35, Try.ntmps35
    go_wp2
    go_ret
    exact ⟨by first | rfl | (simp; done) | (simp [*]; done), by repeat (first | exact Drawn0.refl _ | apply Drawn0.step)⟩

/-! ### inode_Get: function 19 -/
def inode_Get.f (a0 : ByteArray) (a1 : Int) : Option (Int × Int × Int × Int × Int × Int × Int × Int × Int × Int × Int × Int × Int) := (inode_isPlace.f a0 a1).bind fun t180 => (if t180 = true then (if 0 ≤ (wrap64 (a1 * 42)) then (if (wrap64 (a1 * 42)) ≤ (wrap64 ((wrap64 (a1 * 42)) + 42)) then (if (wrap64 ((wrap64 (a1 * 42)) + 42)) ≤ (a0.size : Int) then ((inode_Decode.f (a0.extract ((wrap64 (a1 * 42)) : Int).toNat ((wrap64 ((wrap64 (a1 * 42)) + 42)) : Int).toNat)).bind fun bt181 => (some (bt181.1, bt181.2.1, bt181.2.2.1, bt181.2.2.2.1, bt181.2.2.2.2.1, bt181.2.2.2.2.2.1, bt181.2.2.2.2.2.2.1, bt181.2.2.2.2.2.2.2.1, bt181.2.2.2.2.2.2.2.2.1, bt181.2.2.2.2.2.2.2.2.2.1, bt181.2.2.2.2.2.2.2.2.2.2.1, bt181.2.2.2.2.2.2.2.2.2.2.2.1, bt181.2.2.2.2.2.2.2.2.2.2.2.2))) else (none)) else (none)) else (none)) else (some (0, 0, 0, 0, 0, 0, 0, 0, 0, 0, 0, 0, 2)))
set_option maxHeartbeats 8000000 in
set_option maxRecDepth 100000 in
theorem inode_Get.calls (a0 : ByteArray) (a1 : Int) (r1 : Int) (r2 : Int) (r3 : Int) (r4 : Int) (r5 : Int) (r6 : Int) (r7 : Int) (r8 : Int) (r9 : Int) (r10 : Int) (r11 : Int) (r12 : Int) (r13 : Int) (w : World) (h : inode_Get.f a0 a1 = some (r1, r2, r3, r4, r5, r6, r7, r8, r9, r10, r11, r12, r13)) :
    Calls Try.prog 19 #[.string a0, .int .i64 a1] w fun e w' => e = .returned (.tuple #[.agg #[.int .i64 r1, .int .u16 r2, .int .u16 r3, .int .u32 r4, .int .u64 r5, .int .i64 r6, .int .u32 r7, .int .u32 r8, .int .u32 r9, .int .u32 r10, .int .u32 r11, .int .u32 r12], .int .i64 r13]) ∧ Below w.heap.size w w' := by
  have hu30 := Try.underlying30
  have HB := Aside0.mk (Below.refl w.heap.size w)
  have H : ((inode_isPlace.f a0 a1).bind fun t180 => (if t180 = true then (if 0 ≤ (wrap64 (a1 * 42)) then (if (wrap64 (a1 * 42)) ≤ (wrap64 ((wrap64 (a1 * 42)) + 42)) then (if (wrap64 ((wrap64 (a1 * 42)) + 42)) ≤ (a0.size : Int) then ((inode_Decode.f (a0.extract ((wrap64 (a1 * 42)) : Int).toNat ((wrap64 ((wrap64 (a1 * 42)) + 42)) : Int).toNat)).bind fun bt181 => (some (bt181.1, bt181.2.1, bt181.2.2.1, bt181.2.2.2.1, bt181.2.2.2.2.1, bt181.2.2.2.2.2.1, bt181.2.2.2.2.2.2.1, bt181.2.2.2.2.2.2.2.1, bt181.2.2.2.2.2.2.2.2.1, bt181.2.2.2.2.2.2.2.2.2.1, bt181.2.2.2.2.2.2.2.2.2.2.1, bt181.2.2.2.2.2.2.2.2.2.2.2.1, bt181.2.2.2.2.2.2.2.2.2.2.2.2))) else (none)) else (none)) else (none)) else (some (0, 0, 0, 0, 0, 0, 0, 0, 0, 0, 0, 0, 2)))) = some (r1, r2, r3, r4, r5, r6, r7, r8, r9, r10, r11, r12, r13) := h
  clear h
  replace H := Option.bind_eq_some_iff.mp H
  obtain ⟨t180, A30, H⟩ := H
  replace H : (if t180 = true then (if 0 ≤ (wrap64 (a1 * 42)) then (if (wrap64 (a1 * 42)) ≤ (wrap64 ((wrap64 (a1 * 42)) + 42)) then (if (wrap64 ((wrap64 (a1 * 42)) + 42)) ≤ (a0.size : Int) then ((inode_Decode.f (a0.extract ((wrap64 (a1 * 42)) : Int).toNat ((wrap64 ((wrap64 (a1 * 42)) + 42)) : Int).toNat)).bind fun bt181 => (some (bt181.1, bt181.2.1, bt181.2.2.1, bt181.2.2.2.1, bt181.2.2.2.2.1, bt181.2.2.2.2.2.1, bt181.2.2.2.2.2.2.1, bt181.2.2.2.2.2.2.2.1, bt181.2.2.2.2.2.2.2.2.1, bt181.2.2.2.2.2.2.2.2.2.1, bt181.2.2.2.2.2.2.2.2.2.2.1, bt181.2.2.2.2.2.2.2.2.2.2.2.1, bt181.2.2.2.2.2.2.2.2.2.2.2.2))) else (none)) else (none)) else (none)) else (some (0, 0, 0, 0, 0, 0, 0, 0, 0, 0, 0, 0, 2))) = some (r1, r2, r3, r4, r5, r6, r7, r8, r9, r10, r11, r12, r13) := H
  have A3 := Aside0.mk A30
  clear A30
  by_cases c4 : t180 = true
  · subst c4
    have H1 : (if 0 ≤ (wrap64 (a1 * 42)) then (if (wrap64 (a1 * 42)) ≤ (wrap64 ((wrap64 (a1 * 42)) + 42)) then (if (wrap64 ((wrap64 (a1 * 42)) + 42)) ≤ (a0.size : Int) then ((inode_Decode.f (a0.extract ((wrap64 (a1 * 42)) : Int).toNat ((wrap64 ((wrap64 (a1 * 42)) + 42)) : Int).toNat)).bind fun bt181 => (some (bt181.1, bt181.2.1, bt181.2.2.1, bt181.2.2.2.1, bt181.2.2.2.2.1, bt181.2.2.2.2.2.1, bt181.2.2.2.2.2.2.1, bt181.2.2.2.2.2.2.2.1, bt181.2.2.2.2.2.2.2.2.1, bt181.2.2.2.2.2.2.2.2.2.1, bt181.2.2.2.2.2.2.2.2.2.2.1, bt181.2.2.2.2.2.2.2.2.2.2.2.1, bt181.2.2.2.2.2.2.2.2.2.2.2.2))) else (none)) else (none)) else (none)) = some (r1, r2, r3, r4, r5, r6, r7, r8, r9, r10, r11, r12, r13) := by rw [if_pos rfl] at H; exact H
    clear H
    have H := H1
    clear H1
    obtain ⟨ji5, hji5⟩ : ∃ j_ : Int, (wrap64 (a1 * 42)) = j_ := ⟨_, rfl⟩
    replace H : (if 0 ≤ (ji5) then (if (ji5) ≤ (wrap64 ((ji5) + 42)) then (if (wrap64 ((ji5) + 42)) ≤ (a0.size : Int) then ((inode_Decode.f (a0.extract ((ji5) : Int).toNat ((wrap64 ((ji5) + 42)) : Int).toNat)).bind fun bt181 => (some (bt181.1, bt181.2.1, bt181.2.2.1, bt181.2.2.2.1, bt181.2.2.2.2.1, bt181.2.2.2.2.2.1, bt181.2.2.2.2.2.2.1, bt181.2.2.2.2.2.2.2.1, bt181.2.2.2.2.2.2.2.2.1, bt181.2.2.2.2.2.2.2.2.2.1, bt181.2.2.2.2.2.2.2.2.2.2.1, bt181.2.2.2.2.2.2.2.2.2.2.2.1, bt181.2.2.2.2.2.2.2.2.2.2.2.2))) else (none)) else (none)) else (none)) = some (r1, r2, r3, r4, r5, r6, r7, r8, r9, r10, r11, r12, r13) := by first | (rw [hji5] at H; exact H) | (simp only [hji5] at H ⊢; exact H)
    (try rw [hji5] at A3)
    have hji5w : (IntKind.i64.wrap (a1 * 42)) = ji5 := (i64_w _).trans hji5
    by_cases c6 : 0 ≤ (ji5)
    · rw [if_pos c6] at H
      have c6b0 := eq_true c6
      have c6b1 : decide (0 ≤ (ji5)) = true := decide_eq_true c6
      clear c6
      by_cases c7 : (ji5) ≤ (wrap64 ((ji5) + 42))
      · rw [if_pos c7] at H
        have c7b0 := eq_true c7
        have c7b1 : decide ((ji5) ≤ (wrap64 ((ji5) + 42))) = true := decide_eq_true c7
        by_cases c8 : (wrap64 ((ji5) + 42)) ≤ (a0.size : Int)
        · rw [if_pos c8] at H
          have c8b0 := eq_true c8
          have c8b1 : decide ((wrap64 ((ji5) + 42)) ≤ (a0.size : Int)) = true := decide_eq_true c8
          replace H := Option.bind_eq_some_iff.mp H
          obtain ⟨⟨t181, t182, t183, t184, t185, t186, t187, t188, t189, t190, t191, t192, t193⟩, A90, H⟩ := H
          replace H : (some (t181, t182, t183, t184, t185, t186, t187, t188, t189, t190, t191, t192, t193)) = some (r1, r2, r3, r4, r5, r6, r7, r8, r9, r10, r11, r12, r13) := H
          have A9 := Aside0.mk A90
          clear A90
          simp only [Option.some.injEq, Prod.mk.injEq] at H
          obtain ⟨rfl, rfl, rfl, rfl, rfl, rfl, rfl, rfl, rfl, rfl, rfl, rfl, rfl⟩ := H
          go_enter Try.func19, Try.ntmps19
          go_wp2_with (first | ((with_reducible refine gate_dst (N := 4) rfl ?_); refine box_event ?hg (N := 4) ?hd (cs := #[.int .i64 0, .int .u16 0, .int .u16 0, .int .u32 0, .int .u64 0, .int .i64 0, .int .u32 0, .int .u32 0, .int .u32 0, .int .u32 0, .int .u32 0, .int .u32 0]) (t := 30) ?hr ?_; (case hd => rfl); (case hg => rfl); (case hr => first | (go_simp; done) | (go_simp; rfl)); intro gb179 hg w10 hbox hb; have n0_ := Aside0.mk (below_step (by repeat (first | (with_reducible first | exact HB.out | apply below_alloc | apply pw_below_drewN | apply below_drew1) | exact HB.out)) hb); have n1_ := Aside0.mk (hbox); have n2_ := Aside0.mk ((by rw [hg]; exact (below_size (by repeat (first | (with_reducible first | exact HB.out | apply below_alloc | apply pw_below_drewN | apply below_drew1) | exact HB.out))) : w.heap.size ≤ gb179)); have n3_ := Aside0.mk ((by rw [hg]; exact (below_size (by repeat (first | (with_reducible first | exact HB.out | apply below_alloc | apply pw_below_drewN | apply below_drew1) | exact HB.out))) : w.heap.size ≤ gb179)); clear HB; have HB := n0_; have BK179 := n1_; have GW179 := n2_; have GE179 := n3_; clear n0_ n1_ n2_ n3_; clear hb hbox hg) | ((with_reducible refine gate_callee (f := 35) rfl ?_); refine goesL_ (some 9) rfl rfl Try.func35 (by kernel_rfl) rfl #[.string a0, .int .i64 a1] rfl (by (try simp only [List.map_toArray, List.map_cons, List.map_nil]); first | done | rfl | (simp only [List.length_drop, List.length_take]; rfl)) ?_; (with_reducible refine (inode_isPlace.calls a0 a1 true _ A3.out).mono ?_); rintro e w' ⟨rfl, ⟨nd, rfl⟩⟩; refine ⟨_, rfl, ?_⟩; (try (rw [drewN_self w10]; generalize hq_ : World.drewN w10 _ = w10; have n0_ : Aside0 (w10.heap[gb179]? = some (.cells #[.int .i64 0, .int .u16 0, .int .u16 0, .int .u32 0, .int .u64 0, .int .i64 0, .int .u32 0, .int .u32 0, .int .u32 0, .int .u32 0, .int .u32 0, .int .u32 0] 30 (0, 0))) := ⟨by rw [← hq_]; exact (by (with_reducible repeat (first | refine blk_drewN ?_ _ | refine blk_drew ?_ | refine blk_alloc ?_ _)); exact BK179.out)⟩; have n1_ : Aside0 (Below w.heap.size w w10) := ⟨by rw [← hq_]; exact (by repeat (first | (with_reducible first | exact HB.out | apply below_alloc | apply pw_below_drewN | apply below_drew1 | refine below_set ?_ GE179.out) | exact HB.out))⟩; clear BK179 HB hq_; have BK179 := n0_; have HB := n1_; clear n0_ n1_))) | ((with_reducible refine gate_callee (f := 13) rfl ?_); refine goesL_ (some 19) rfl rfl Try.func13 (by kernel_rfl) rfl #[.string (a0.extract ((ji5) : Int).toNat ((wrap64 ((ji5) + 42)) : Int).toNat)] rfl (by (try simp only [List.map_toArray, List.map_cons, List.map_nil]); first | done | (simp only [hji5]; rfl) | rfl | (simp only [List.length_drop, List.length_take]; rfl) | (simp [Act.eval, go_sem]; simp only [decide_eq_false_iff_not, decide_eq_true_eq] at *; (repeat' apply And.intro) <;> first | done | (symm; first | (apply IntWalk.u64_in; omega) | (apply IntWalk.u32_in; omega) | (apply IntWalk.i64_in; omega) | (apply IntWalk.wrap64_in; omega) | (apply IntWalk.u16_in; omega) | (apply IntWalk.u8_in; omega)))) ?_; (with_reducible refine (inode_Decode.calls (a0.extract ((ji5) : Int).toNat ((wrap64 ((ji5) + 42)) : Int).toNat) t181 t182 t183 t184 t185 t186 t187 t188 t189 t190 t191 t192 t193 _ A9.out).mono ?_); rintro e w11 ⟨rfl, hb⟩; refine ⟨_, rfl, ?_⟩; have n0_ := Aside0.mk (blk_below (g := gb179) (o := .cells #[.int .i64 0, .int .u16 0, .int .u16 0, .int .u32 0, .int .u64 0, .int .i64 0, .int .u32 0, .int .u32 0, .int .u32 0, .int .u32 0, .int .u32 0, .int .u32 0] 30 (0, 0)) (by (with_reducible repeat (first | refine blk_drewN ?_ _ | refine blk_drew ?_ | refine blk_alloc ?_ _)); exact BK179.out) hb); have n1_ := Aside0.mk (below_step (by repeat (first | (with_reducible first | exact HB.out | apply below_alloc | apply pw_below_drewN | apply below_drew1 | refine below_set ?_ GE179.out) | exact HB.out)) hb); clear BK179; clear HB; have BK179 := n0_; have HB := n1_; clear n0_ n1_; (try clear hb); (try clear hb2); (try clear hk); (try clear hi); have hcz12_0 : w11.cell? ⟨gb179, 0, none⟩ = some (.int .i64 0) := (blk_cell BK179.out 0).trans rfl; have hcz12_1 : w11.cell? ⟨gb179, 1, none⟩ = some (.int .u16 0) := (blk_cell BK179.out 1).trans rfl; have hcz12_2 : w11.cell? ⟨gb179, 2, none⟩ = some (.int .u16 0) := (blk_cell BK179.out 2).trans rfl; have hcz12_3 : w11.cell? ⟨gb179, 3, none⟩ = some (.int .u32 0) := (blk_cell BK179.out 3).trans rfl; have hcz12_4 : w11.cell? ⟨gb179, 4, none⟩ = some (.int .u64 0) := (blk_cell BK179.out 4).trans rfl; have hcz12_5 : w11.cell? ⟨gb179, 5, none⟩ = some (.int .i64 0) := (blk_cell BK179.out 5).trans rfl; have hcz12_6 : w11.cell? ⟨gb179, 6, none⟩ = some (.int .u32 0) := (blk_cell BK179.out 6).trans rfl; have hcz12_7 : w11.cell? ⟨gb179, 7, none⟩ = some (.int .u32 0) := (blk_cell BK179.out 7).trans rfl; have hcz12_8 : w11.cell? ⟨gb179, 8, none⟩ = some (.int .u32 0) := (blk_cell BK179.out 8).trans rfl; have hcz12_9 : w11.cell? ⟨gb179, 9, none⟩ = some (.int .u32 0) := (blk_cell BK179.out 9).trans rfl; have hcz12_10 : w11.cell? ⟨gb179, 10, none⟩ = some (.int .u32 0) := (blk_cell BK179.out 10).trans rfl; have hcz12_11 : w11.cell? ⟨gb179, 11, none⟩ = some (.int .u32 0) := (blk_cell BK179.out 11).trans rfl; have hfz12_0 := blk_frozen BK179.out 0; have hfz12_1 := blk_frozen BK179.out 1; have hfz12_2 := blk_frozen BK179.out 2; have hfz12_3 := blk_frozen BK179.out 3; have hfz12_4 := blk_frozen BK179.out 4; have hfz12_5 := blk_frozen BK179.out 5; have hfz12_6 := blk_frozen BK179.out 6; have hfz12_7 := blk_frozen BK179.out 7; have hfz12_8 := blk_frozen BK179.out 8; have hfz12_9 := blk_frozen BK179.out 9; have hfz12_10 := blk_frozen BK179.out 10; have hfz12_11 := blk_frozen BK179.out 11))
          refine bodyPost_ret (results_ct rfl _ _ gb179 30 #[.int .i64 t181, .int .u16 t182, .int .u16 t183, .int .u32 t184, .int .u64 t185, .int .i64 t186, .int .u32 t187, .int .u32 t188, .int .u32 t189, .int .u32 t190, .int .u32 t191, .int .u32 t192] (0, 0) _ rfl (by (with_reducible repeat (first | refine blk_drewN ?_ _ | refine blk_drew ?_ | refine blk_alloc ?_ _)); refine blk_put (cs := #[.int .i64 t181, .int .u16 t182, .int .u16 t183, .int .u32 t184, .int .u64 t185, .int .i64 t186, .int .u32 t187, .int .u32 t188, .int .u32 t189, .int .u32 t190, .int .u32 t191, .int .u32 0]) ?_ 11 _ rfl; (with_reducible repeat (first | refine blk_drewN ?_ _ | refine blk_drew ?_ | refine blk_alloc ?_ _)); refine blk_put (cs := #[.int .i64 t181, .int .u16 t182, .int .u16 t183, .int .u32 t184, .int .u64 t185, .int .i64 t186, .int .u32 t187, .int .u32 t188, .int .u32 t189, .int .u32 t190, .int .u32 0, .int .u32 0]) ?_ 10 _ rfl; (with_reducible repeat (first | refine blk_drewN ?_ _ | refine blk_drew ?_ | refine blk_alloc ?_ _)); refine blk_put (cs := #[.int .i64 t181, .int .u16 t182, .int .u16 t183, .int .u32 t184, .int .u64 t185, .int .i64 t186, .int .u32 t187, .int .u32 t188, .int .u32 t189, .int .u32 0, .int .u32 0, .int .u32 0]) ?_ 9 _ rfl; (with_reducible repeat (first | refine blk_drewN ?_ _ | refine blk_drew ?_ | refine blk_alloc ?_ _)); refine blk_put (cs := #[.int .i64 t181, .int .u16 t182, .int .u16 t183, .int .u32 t184, .int .u64 t185, .int .i64 t186, .int .u32 t187, .int .u32 t188, .int .u32 0, .int .u32 0, .int .u32 0, .int .u32 0]) ?_ 8 _ rfl; (with_reducible repeat (first | refine blk_drewN ?_ _ | refine blk_drew ?_ | refine blk_alloc ?_ _)); refine blk_put (cs := #[.int .i64 t181, .int .u16 t182, .int .u16 t183, .int .u32 t184, .int .u64 t185, .int .i64 t186, .int .u32 t187, .int .u32 0, .int .u32 0, .int .u32 0, .int .u32 0, .int .u32 0]) ?_ 7 _ rfl; (with_reducible repeat (first | refine blk_drewN ?_ _ | refine blk_drew ?_ | refine blk_alloc ?_ _)); refine blk_put (cs := #[.int .i64 t181, .int .u16 t182, .int .u16 t183, .int .u32 t184, .int .u64 t185, .int .i64 t186, .int .u32 0, .int .u32 0, .int .u32 0, .int .u32 0, .int .u32 0, .int .u32 0]) ?_ 6 _ rfl; (with_reducible repeat (first | refine blk_drewN ?_ _ | refine blk_drew ?_ | refine blk_alloc ?_ _)); refine blk_put (cs := #[.int .i64 t181, .int .u16 t182, .int .u16 t183, .int .u32 t184, .int .u64 t185, .int .i64 0, .int .u32 0, .int .u32 0, .int .u32 0, .int .u32 0, .int .u32 0, .int .u32 0]) ?_ 5 _ rfl; (with_reducible repeat (first | refine blk_drewN ?_ _ | refine blk_drew ?_ | refine blk_alloc ?_ _)); refine blk_put (cs := #[.int .i64 t181, .int .u16 t182, .int .u16 t183, .int .u32 t184, .int .u64 0, .int .i64 0, .int .u32 0, .int .u32 0, .int .u32 0, .int .u32 0, .int .u32 0, .int .u32 0]) ?_ 4 _ rfl; (with_reducible repeat (first | refine blk_drewN ?_ _ | refine blk_drew ?_ | refine blk_alloc ?_ _)); refine blk_put (cs := #[.int .i64 t181, .int .u16 t182, .int .u16 t183, .int .u32 0, .int .u64 0, .int .i64 0, .int .u32 0, .int .u32 0, .int .u32 0, .int .u32 0, .int .u32 0, .int .u32 0]) ?_ 3 _ rfl; (with_reducible repeat (first | refine blk_drewN ?_ _ | refine blk_drew ?_ | refine blk_alloc ?_ _)); refine blk_put (cs := #[.int .i64 t181, .int .u16 t182, .int .u16 0, .int .u32 0, .int .u64 0, .int .i64 0, .int .u32 0, .int .u32 0, .int .u32 0, .int .u32 0, .int .u32 0, .int .u32 0]) ?_ 2 _ rfl; (with_reducible repeat (first | refine blk_drewN ?_ _ | refine blk_drew ?_ | refine blk_alloc ?_ _)); refine blk_put (cs := #[.int .i64 t181, .int .u16 0, .int .u16 0, .int .u32 0, .int .u64 0, .int .i64 0, .int .u32 0, .int .u32 0, .int .u32 0, .int .u32 0, .int .u32 0, .int .u32 0]) ?_ 1 _ rfl; (with_reducible repeat (first | refine blk_drewN ?_ _ | refine blk_drew ?_ | refine blk_alloc ?_ _)); refine blk_put (cs := #[.int .i64 0, .int .u16 0, .int .u16 0, .int .u32 0, .int .u64 0, .int .i64 0, .int .u32 0, .int .u32 0, .int .u32 0, .int .u32 0, .int .u32 0, .int .u32 0]) ?_ 0 _ rfl; (with_reducible repeat (first | refine blk_drewN ?_ _ | refine blk_drew ?_ | refine blk_alloc ?_ _)); exact BK179.out) Try.underlying30 rfl (by kernel_rfl)) rfl ?_
          exact ⟨by first | rfl | (simp [errW_none, errW_some] <;> rfl) | (simp only [← hji5]; first | rfl | (simp [errW_none, errW_some] <;> rfl)) | (simp [*, errW_none, errW_some] <;> rfl) | (simp [show IntKind.u64.wrap 0 = 0 from rfl, Int.zero_tdiv]; done), by repeat (first | (with_reducible first | exact HB.out | apply below_alloc | apply pw_below_drewN | apply below_drew1 | refine below_set ?_ GE179.out) | exact HB.out)⟩
        · rw [if_neg c8] at H
          exact absurd H (by simp)
      · rw [if_neg c7] at H
        exact absurd H (by simp)
    · rw [if_neg c6] at H
      exact absurd H (by simp)
  · replace c4 := Bool.eq_false_iff.mpr c4
    subst c4
    have H1 : (some (0, 0, 0, 0, 0, 0, 0, 0, 0, 0, 0, 0, 2)) = some (r1, r2, r3, r4, r5, r6, r7, r8, r9, r10, r11, r12, r13) := by rw [if_neg (show ¬ (false = true) by decide)] at H; exact H
    clear H
    have H := H1
    clear H1
    simp only [Option.some.injEq, Prod.mk.injEq] at H
    obtain ⟨rfl, rfl, rfl, rfl, rfl, rfl, rfl, rfl, rfl, rfl, rfl, rfl, rfl⟩ := H
    go_enter Try.func19, Try.ntmps19
    go_wp2_with (first | ((with_reducible refine gate_dst (N := 4) rfl ?_); refine box_event ?hg (N := 4) ?hd (cs := #[.int .i64 0, .int .u16 0, .int .u16 0, .int .u32 0, .int .u64 0, .int .i64 0, .int .u32 0, .int .u32 0, .int .u32 0, .int .u32 0, .int .u32 0, .int .u32 0]) (t := 30) ?hr ?_; (case hd => rfl); (case hg => rfl); (case hr => first | (go_simp; done) | (go_simp; rfl)); intro gb179 hg w13 hbox hb; have n0_ := Aside0.mk (below_step (by repeat (first | (with_reducible first | exact HB.out | apply below_alloc | apply pw_below_drewN | apply below_drew1) | exact HB.out)) hb); have n1_ := Aside0.mk (hbox); have n2_ := Aside0.mk ((by rw [hg]; exact (below_size (by repeat (first | (with_reducible first | exact HB.out | apply below_alloc | apply pw_below_drewN | apply below_drew1) | exact HB.out))) : w.heap.size ≤ gb179)); have n3_ := Aside0.mk ((by rw [hg]; exact (below_size (by repeat (first | (with_reducible first | exact HB.out | apply below_alloc | apply pw_below_drewN | apply below_drew1) | exact HB.out))) : w.heap.size ≤ gb179)); clear HB; have HB := n0_; have BK179 := n1_; have GW179 := n2_; have GE179 := n3_; clear n0_ n1_ n2_ n3_; clear hb hbox hg) | ((with_reducible refine gate_callee (f := 35) rfl ?_); refine goesL_ (some 9) rfl rfl Try.func35 (by kernel_rfl) rfl #[.string a0, .int .i64 a1] rfl (by (try simp only [List.map_toArray, List.map_cons, List.map_nil]); first | done | rfl | (simp only [List.length_drop, List.length_take]; rfl)) ?_; (with_reducible refine (inode_isPlace.calls a0 a1 false _ A3.out).mono ?_); rintro e w' ⟨rfl, ⟨nd, rfl⟩⟩; refine ⟨_, rfl, ?_⟩; (try (rw [drewN_self w13]; generalize hq_ : World.drewN w13 _ = w13; have n0_ : Aside0 (w13.heap[gb179]? = some (.cells #[.int .i64 0, .int .u16 0, .int .u16 0, .int .u32 0, .int .u64 0, .int .i64 0, .int .u32 0, .int .u32 0, .int .u32 0, .int .u32 0, .int .u32 0, .int .u32 0] 30 (0, 0))) := ⟨by rw [← hq_]; exact (by (with_reducible repeat (first | refine blk_drewN ?_ _ | refine blk_drew ?_ | refine blk_alloc ?_ _)); exact BK179.out)⟩; have n1_ : Aside0 (Below w.heap.size w w13) := ⟨by rw [← hq_]; exact (by repeat (first | (with_reducible first | exact HB.out | apply below_alloc | apply pw_below_drewN | apply below_drew1 | refine below_set ?_ GE179.out) | exact HB.out))⟩; clear BK179 HB hq_; have BK179 := n0_; have HB := n1_; clear n0_ n1_)); have hcz14_0 : w13.cell? ⟨gb179, 0, none⟩ = some (.int .i64 0) := (blk_cell BK179.out 0).trans rfl; have hcz14_1 : w13.cell? ⟨gb179, 1, none⟩ = some (.int .u16 0) := (blk_cell BK179.out 1).trans rfl; have hcz14_2 : w13.cell? ⟨gb179, 2, none⟩ = some (.int .u16 0) := (blk_cell BK179.out 2).trans rfl; have hcz14_3 : w13.cell? ⟨gb179, 3, none⟩ = some (.int .u32 0) := (blk_cell BK179.out 3).trans rfl; have hcz14_4 : w13.cell? ⟨gb179, 4, none⟩ = some (.int .u64 0) := (blk_cell BK179.out 4).trans rfl; have hcz14_5 : w13.cell? ⟨gb179, 5, none⟩ = some (.int .i64 0) := (blk_cell BK179.out 5).trans rfl; have hcz14_6 : w13.cell? ⟨gb179, 6, none⟩ = some (.int .u32 0) := (blk_cell BK179.out 6).trans rfl; have hcz14_7 : w13.cell? ⟨gb179, 7, none⟩ = some (.int .u32 0) := (blk_cell BK179.out 7).trans rfl; have hcz14_8 : w13.cell? ⟨gb179, 8, none⟩ = some (.int .u32 0) := (blk_cell BK179.out 8).trans rfl; have hcz14_9 : w13.cell? ⟨gb179, 9, none⟩ = some (.int .u32 0) := (blk_cell BK179.out 9).trans rfl; have hcz14_10 : w13.cell? ⟨gb179, 10, none⟩ = some (.int .u32 0) := (blk_cell BK179.out 10).trans rfl; have hcz14_11 : w13.cell? ⟨gb179, 11, none⟩ = some (.int .u32 0) := (blk_cell BK179.out 11).trans rfl; have hfz14_0 := blk_frozen BK179.out 0; have hfz14_1 := blk_frozen BK179.out 1; have hfz14_2 := blk_frozen BK179.out 2; have hfz14_3 := blk_frozen BK179.out 3; have hfz14_4 := blk_frozen BK179.out 4; have hfz14_5 := blk_frozen BK179.out 5; have hfz14_6 := blk_frozen BK179.out 6; have hfz14_7 := blk_frozen BK179.out 7; have hfz14_8 := blk_frozen BK179.out 8; have hfz14_9 := blk_frozen BK179.out 9; have hfz14_10 := blk_frozen BK179.out 10; have hfz14_11 := blk_frozen BK179.out 11))
    refine bodyPost_ret (results_ct rfl _ _ gb179 30 #[.int .i64 0, .int .u16 0, .int .u16 0, .int .u32 0, .int .u64 0, .int .i64 0, .int .u32 0, .int .u32 0, .int .u32 0, .int .u32 0, .int .u32 0, .int .u32 0] (0, 0) _ rfl (by (with_reducible repeat (first | refine blk_drewN ?_ _ | refine blk_drew ?_ | refine blk_alloc ?_ _)); refine blk_put (cs := #[.int .i64 0, .int .u16 0, .int .u16 0, .int .u32 0, .int .u64 0, .int .i64 0, .int .u32 0, .int .u32 0, .int .u32 0, .int .u32 0, .int .u32 0, .int .u32 0]) ?_ 11 _ rfl; (with_reducible repeat (first | refine blk_drewN ?_ _ | refine blk_drew ?_ | refine blk_alloc ?_ _)); refine blk_put (cs := #[.int .i64 0, .int .u16 0, .int .u16 0, .int .u32 0, .int .u64 0, .int .i64 0, .int .u32 0, .int .u32 0, .int .u32 0, .int .u32 0, .int .u32 0, .int .u32 0]) ?_ 10 _ rfl; (with_reducible repeat (first | refine blk_drewN ?_ _ | refine blk_drew ?_ | refine blk_alloc ?_ _)); refine blk_put (cs := #[.int .i64 0, .int .u16 0, .int .u16 0, .int .u32 0, .int .u64 0, .int .i64 0, .int .u32 0, .int .u32 0, .int .u32 0, .int .u32 0, .int .u32 0, .int .u32 0]) ?_ 9 _ rfl; (with_reducible repeat (first | refine blk_drewN ?_ _ | refine blk_drew ?_ | refine blk_alloc ?_ _)); refine blk_put (cs := #[.int .i64 0, .int .u16 0, .int .u16 0, .int .u32 0, .int .u64 0, .int .i64 0, .int .u32 0, .int .u32 0, .int .u32 0, .int .u32 0, .int .u32 0, .int .u32 0]) ?_ 8 _ rfl; (with_reducible repeat (first | refine blk_drewN ?_ _ | refine blk_drew ?_ | refine blk_alloc ?_ _)); refine blk_put (cs := #[.int .i64 0, .int .u16 0, .int .u16 0, .int .u32 0, .int .u64 0, .int .i64 0, .int .u32 0, .int .u32 0, .int .u32 0, .int .u32 0, .int .u32 0, .int .u32 0]) ?_ 7 _ rfl; (with_reducible repeat (first | refine blk_drewN ?_ _ | refine blk_drew ?_ | refine blk_alloc ?_ _)); refine blk_put (cs := #[.int .i64 0, .int .u16 0, .int .u16 0, .int .u32 0, .int .u64 0, .int .i64 0, .int .u32 0, .int .u32 0, .int .u32 0, .int .u32 0, .int .u32 0, .int .u32 0]) ?_ 6 _ rfl; (with_reducible repeat (first | refine blk_drewN ?_ _ | refine blk_drew ?_ | refine blk_alloc ?_ _)); refine blk_put (cs := #[.int .i64 0, .int .u16 0, .int .u16 0, .int .u32 0, .int .u64 0, .int .i64 0, .int .u32 0, .int .u32 0, .int .u32 0, .int .u32 0, .int .u32 0, .int .u32 0]) ?_ 5 _ rfl; (with_reducible repeat (first | refine blk_drewN ?_ _ | refine blk_drew ?_ | refine blk_alloc ?_ _)); refine blk_put (cs := #[.int .i64 0, .int .u16 0, .int .u16 0, .int .u32 0, .int .u64 0, .int .i64 0, .int .u32 0, .int .u32 0, .int .u32 0, .int .u32 0, .int .u32 0, .int .u32 0]) ?_ 4 _ rfl; (with_reducible repeat (first | refine blk_drewN ?_ _ | refine blk_drew ?_ | refine blk_alloc ?_ _)); refine blk_put (cs := #[.int .i64 0, .int .u16 0, .int .u16 0, .int .u32 0, .int .u64 0, .int .i64 0, .int .u32 0, .int .u32 0, .int .u32 0, .int .u32 0, .int .u32 0, .int .u32 0]) ?_ 3 _ rfl; (with_reducible repeat (first | refine blk_drewN ?_ _ | refine blk_drew ?_ | refine blk_alloc ?_ _)); refine blk_put (cs := #[.int .i64 0, .int .u16 0, .int .u16 0, .int .u32 0, .int .u64 0, .int .i64 0, .int .u32 0, .int .u32 0, .int .u32 0, .int .u32 0, .int .u32 0, .int .u32 0]) ?_ 2 _ rfl; (with_reducible repeat (first | refine blk_drewN ?_ _ | refine blk_drew ?_ | refine blk_alloc ?_ _)); refine blk_put (cs := #[.int .i64 0, .int .u16 0, .int .u16 0, .int .u32 0, .int .u64 0, .int .i64 0, .int .u32 0, .int .u32 0, .int .u32 0, .int .u32 0, .int .u32 0, .int .u32 0]) ?_ 1 _ rfl; (with_reducible repeat (first | refine blk_drewN ?_ _ | refine blk_drew ?_ | refine blk_alloc ?_ _)); refine blk_put (cs := #[.int .i64 0, .int .u16 0, .int .u16 0, .int .u32 0, .int .u64 0, .int .i64 0, .int .u32 0, .int .u32 0, .int .u32 0, .int .u32 0, .int .u32 0, .int .u32 0]) ?_ 0 _ rfl; (with_reducible repeat (first | refine blk_drewN ?_ _ | refine blk_drew ?_ | refine blk_alloc ?_ _)); exact BK179.out) Try.underlying30 rfl (by kernel_rfl)) rfl ?_
    exact ⟨by first | rfl | (simp [errW_none, errW_some] <;> rfl) | (simp [*, errW_none, errW_some] <;> rfl) | (simp [show IntKind.u64.wrap 0 = 0 from rfl, Int.zero_tdiv]; done), by repeat (first | (with_reducible first | exact HB.out | apply below_alloc | apply pw_below_drewN | apply below_drew1 | refine below_set ?_ GE179.out) | exact HB.out)⟩

end Go.Proofs.Ytdcdcnnigggdjaa.Q
