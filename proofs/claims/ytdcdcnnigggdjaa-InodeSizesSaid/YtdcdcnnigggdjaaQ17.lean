/- Functions of the translation as plain Lean functions, and that the translation computes them: printed by this session's driver of the print. -/
import Derived.Test.YtdcdcnnigggdjaaQ0
import Derived.Test.YtdcdcnnigggdjaaQ2
import Derived.Test.YtdcdcnnigggdjaaQ3
import Derived.Test.YtdcdcnnigggdjaaQ13
namespace Go.Proofs.Ytdcdcnnigggdjaa.Q
open Go.Proofs.Ytdcdcnnigggdjaa.H
open Go.RowKit Go.Proofs.YtdcdcnnigggdjaaW.PrintWords Go.Proofs.YtdcdcnnigggdjaaW.PrintLast Go.Proofs.YtdcdcnnigggdjaaW.PrintMore
attribute [local go_sem] max2_int min2_int max_two min_two max_three min_three max_four min_four   -- for this text's walks alone
set_option linter.unusedVariables false
set_option linter.unusedSimpArgs false

/-! ### nautiluslaw10_InodeSizes: function 3 -/
def nautiluslaw10_InodeSizes.f (a0 : Int) (a1 : Int) : Option (Bool) := (nautiluslaw10_shown.f).bind fun t123 => ((inode_Blocks.f a0).bind fun t124 => ((inode_Blocks.f a1).bind fun t125 => (if t123 = true then (if a0 > a1 then (if (IntKind.u64.wrap ((IntKind.u64.wrap (t124)) * 508)) ≥ (IntKind.u64.wrap (a0)) then (if (IntKind.u64.wrap ((IntKind.u64.wrap (t124)) * 508)) < (IntKind.u64.wrap ((IntKind.u64.wrap (a0)) + 508)) then ((inode_Depth.f a0).bind fun t126 => (if t126 ≥ 0 then ((inode_Depth.f a0).bind fun t127 => (some (decide (t127 ≤ 2)))) else (none))) else (none)) else (none)) else (if t124 ≤ t125 then ((inode_Depth.f a0).bind fun t128 => ((inode_Depth.f a1).bind fun t129 => (if t128 ≤ t129 then (if (IntKind.u64.wrap ((IntKind.u64.wrap (t124)) * 508)) ≥ (IntKind.u64.wrap (a0)) then (if (IntKind.u64.wrap ((IntKind.u64.wrap (t124)) * 508)) < (IntKind.u64.wrap ((IntKind.u64.wrap (a0)) + 508)) then ((inode_Depth.f a0).bind fun t130 => (if t130 ≥ 0 then ((inode_Depth.f a0).bind fun t131 => (some (decide (t131 ≤ 2)))) else (none))) else (none)) else (none)) else (none)))) else (none))) else (none))))
set_option maxHeartbeats 8000000 in
set_option maxRecDepth 100000 in
theorem nautiluslaw10_InodeSizes.calls (a0 : Int) (a1 : Int) (r : Bool) (w : World) (h : nautiluslaw10_InodeSizes.f a0 a1 = some r) :
    Calls Try.prog 3 #[.int .u32 a0, .int .u32 a1] w fun e w' => e = .returned (.bool r) ∧ Below w.heap.size w w' := by
  have HB := Aside0.mk (Below.refl w.heap.size w)
  have H : ((nautiluslaw10_shown.f).bind fun t123 => ((inode_Blocks.f a0).bind fun t124 => ((inode_Blocks.f a1).bind fun t125 => (if t123 = true then (if a0 > a1 then (if (IntKind.u64.wrap ((IntKind.u64.wrap (t124)) * 508)) ≥ (IntKind.u64.wrap (a0)) then (if (IntKind.u64.wrap ((IntKind.u64.wrap (t124)) * 508)) < (IntKind.u64.wrap ((IntKind.u64.wrap (a0)) + 508)) then ((inode_Depth.f a0).bind fun t126 => (if t126 ≥ 0 then ((inode_Depth.f a0).bind fun t127 => (some (decide (t127 ≤ 2)))) else (none))) else (none)) else (none)) else (if t124 ≤ t125 then ((inode_Depth.f a0).bind fun t128 => ((inode_Depth.f a1).bind fun t129 => (if t128 ≤ t129 then (if (IntKind.u64.wrap ((IntKind.u64.wrap (t124)) * 508)) ≥ (IntKind.u64.wrap (a0)) then (if (IntKind.u64.wrap ((IntKind.u64.wrap (t124)) * 508)) < (IntKind.u64.wrap ((IntKind.u64.wrap (a0)) + 508)) then ((inode_Depth.f a0).bind fun t130 => (if t130 ≥ 0 then ((inode_Depth.f a0).bind fun t131 => (some (decide (t131 ≤ 2)))) else (none))) else (none)) else (none)) else (none)))) else (none))) else (none))))) = some r := h
  clear h
  replace H := Option.bind_eq_some_iff.mp H
  obtain ⟨t123, A30, H⟩ := H
  replace H : ((inode_Blocks.f a0).bind fun t124 => ((inode_Blocks.f a1).bind fun t125 => (if t123 = true then (if a0 > a1 then (if (IntKind.u64.wrap ((IntKind.u64.wrap (t124)) * 508)) ≥ (IntKind.u64.wrap (a0)) then (if (IntKind.u64.wrap ((IntKind.u64.wrap (t124)) * 508)) < (IntKind.u64.wrap ((IntKind.u64.wrap (a0)) + 508)) then ((inode_Depth.f a0).bind fun t126 => (if t126 ≥ 0 then ((inode_Depth.f a0).bind fun t127 => (some (decide (t127 ≤ 2)))) else (none))) else (none)) else (none)) else (if t124 ≤ t125 then ((inode_Depth.f a0).bind fun t128 => ((inode_Depth.f a1).bind fun t129 => (if t128 ≤ t129 then (if (IntKind.u64.wrap ((IntKind.u64.wrap (t124)) * 508)) ≥ (IntKind.u64.wrap (a0)) then (if (IntKind.u64.wrap ((IntKind.u64.wrap (t124)) * 508)) < (IntKind.u64.wrap ((IntKind.u64.wrap (a0)) + 508)) then ((inode_Depth.f a0).bind fun t130 => (if t130 ≥ 0 then ((inode_Depth.f a0).bind fun t131 => (some (decide (t131 ≤ 2)))) else (none))) else (none)) else (none)) else (none)))) else (none))) else (none)))) = some r := H
  have A3 := Aside0.mk A30
  clear A30
  replace H := Option.bind_eq_some_iff.mp H
  obtain ⟨t124, A40, H⟩ := H
  replace H : ((inode_Blocks.f a1).bind fun t125 => (if t123 = true then (if a0 > a1 then (if (IntKind.u64.wrap ((IntKind.u64.wrap (t124)) * 508)) ≥ (IntKind.u64.wrap (a0)) then (if (IntKind.u64.wrap ((IntKind.u64.wrap (t124)) * 508)) < (IntKind.u64.wrap ((IntKind.u64.wrap (a0)) + 508)) then ((inode_Depth.f a0).bind fun t126 => (if t126 ≥ 0 then ((inode_Depth.f a0).bind fun t127 => (some (decide (t127 ≤ 2)))) else (none))) else (none)) else (none)) else (if t124 ≤ t125 then ((inode_Depth.f a0).bind fun t128 => ((inode_Depth.f a1).bind fun t129 => (if t128 ≤ t129 then (if (IntKind.u64.wrap ((IntKind.u64.wrap (t124)) * 508)) ≥ (IntKind.u64.wrap (a0)) then (if (IntKind.u64.wrap ((IntKind.u64.wrap (t124)) * 508)) < (IntKind.u64.wrap ((IntKind.u64.wrap (a0)) + 508)) then ((inode_Depth.f a0).bind fun t130 => (if t130 ≥ 0 then ((inode_Depth.f a0).bind fun t131 => (some (decide (t131 ≤ 2)))) else (none))) else (none)) else (none)) else (none)))) else (none))) else (none))) = some r := H
  have A4 := Aside0.mk A40
  clear A40
  replace H := Option.bind_eq_some_iff.mp H
  obtain ⟨t125, A50, H⟩ := H
  replace H : (if t123 = true then (if a0 > a1 then (if (IntKind.u64.wrap ((IntKind.u64.wrap (t124)) * 508)) ≥ (IntKind.u64.wrap (a0)) then (if (IntKind.u64.wrap ((IntKind.u64.wrap (t124)) * 508)) < (IntKind.u64.wrap ((IntKind.u64.wrap (a0)) + 508)) then ((inode_Depth.f a0).bind fun t126 => (if t126 ≥ 0 then ((inode_Depth.f a0).bind fun t127 => (some (decide (t127 ≤ 2)))) else (none))) else (none)) else (none)) else (if t124 ≤ t125 then ((inode_Depth.f a0).bind fun t128 => ((inode_Depth.f a1).bind fun t129 => (if t128 ≤ t129 then (if (IntKind.u64.wrap ((IntKind.u64.wrap (t124)) * 508)) ≥ (IntKind.u64.wrap (a0)) then (if (IntKind.u64.wrap ((IntKind.u64.wrap (t124)) * 508)) < (IntKind.u64.wrap ((IntKind.u64.wrap (a0)) + 508)) then ((inode_Depth.f a0).bind fun t130 => (if t130 ≥ 0 then ((inode_Depth.f a0).bind fun t131 => (some (decide (t131 ≤ 2)))) else (none))) else (none)) else (none)) else (none)))) else (none))) else (none)) = some r := H
  have A5 := Aside0.mk A50
  clear A50
  by_cases c6 : t123 = true
  · subst c6
    have H1 : (if a0 > a1 then (if (IntKind.u64.wrap ((IntKind.u64.wrap (t124)) * 508)) ≥ (IntKind.u64.wrap (a0)) then (if (IntKind.u64.wrap ((IntKind.u64.wrap (t124)) * 508)) < (IntKind.u64.wrap ((IntKind.u64.wrap (a0)) + 508)) then ((inode_Depth.f a0).bind fun t126 => (if t126 ≥ 0 then ((inode_Depth.f a0).bind fun t127 => (some (decide (t127 ≤ 2)))) else (none))) else (none)) else (none)) else (if t124 ≤ t125 then ((inode_Depth.f a0).bind fun t128 => ((inode_Depth.f a1).bind fun t129 => (if t128 ≤ t129 then (if (IntKind.u64.wrap ((IntKind.u64.wrap (t124)) * 508)) ≥ (IntKind.u64.wrap (a0)) then (if (IntKind.u64.wrap ((IntKind.u64.wrap (t124)) * 508)) < (IntKind.u64.wrap ((IntKind.u64.wrap (a0)) + 508)) then ((inode_Depth.f a0).bind fun t130 => (if t130 ≥ 0 then ((inode_Depth.f a0).bind fun t131 => (some (decide (t131 ≤ 2)))) else (none))) else (none)) else (none)) else (none)))) else (none))) = some r := by rw [if_pos rfl] at H; exact H
    clear H
    have H := H1
    clear H1
    by_cases c7 : a0 > a1
    · rw [if_pos c7] at H
      have c7b0 : decide (a1 < a0) = true := decide_eq_true c7
      clear c7
      by_cases c8 : (IntKind.u64.wrap ((IntKind.u64.wrap (t124)) * 508)) ≥ (IntKind.u64.wrap (a0))
      · rw [if_pos c8] at H
        have c8b0 : decide ((IntKind.u64.wrap (a0)) ≤ (IntKind.u64.wrap ((IntKind.u64.wrap (t124)) * 508))) = true := decide_eq_true c8
        clear c8
        by_cases c9 : (IntKind.u64.wrap ((IntKind.u64.wrap (t124)) * 508)) < (IntKind.u64.wrap ((IntKind.u64.wrap (a0)) + 508))
        · rw [if_pos c9] at H
          have c9b0 : decide ((IntKind.u64.wrap ((IntKind.u64.wrap (t124)) * 508)) < (IntKind.u64.wrap ((IntKind.u64.wrap (a0)) + 508))) = true := decide_eq_true c9
          clear c9
          replace H := Option.bind_eq_some_iff.mp H
          obtain ⟨t126, A100, H⟩ := H
          replace H : (if t126 ≥ 0 then ((inode_Depth.f a0).bind fun t127 => (some (decide (t127 ≤ 2)))) else (none)) = some r := H
          have A10 := Aside0.mk A100
          clear A100
          by_cases c11 : t126 ≥ 0
          · rw [if_pos c11] at H
            have c11b0 : decide (0 ≤ t126) = true := decide_eq_true c11
            clear c11
            replace H := Option.bind_eq_some_iff.mp H
            obtain ⟨t127, A120, H⟩ := H
            replace H : (some (decide (t127 ≤ 2))) = some r := H
            have A12 := Aside0.mk A120
            obtain rfl : t126 = t127 := Option.some.inj (A10.out.symm.trans A12.out)
            clear A120
            obtain rfl := Option.some.inj H
            go_enter Try.func3, Try.ntmps3
            go_wp2_with (first | ((with_reducible refine gate_callee (f := 8) rfl ?_); refine goesL_ (some 9) rfl rfl Try.func8 (by kernel_rfl) rfl #[] rfl (by (try simp only [List.map_toArray, List.map_cons, List.map_nil]); first | done | rfl | (simp only [List.length_drop, List.length_take]; rfl)) ?_; (with_reducible refine (nautiluslaw10_shown.calls  true _ A3.out).mono ?_); rintro e w13 ⟨rfl, hb⟩; refine ⟨_, rfl, ?_⟩; have n0_ := Aside0.mk (below_step (by repeat (first | (with_reducible first | exact HB.out | apply below_alloc | apply pw_below_drewN | apply below_drew1) | exact HB.out)) hb); clear HB; have HB := n0_; clear n0_; (try clear hb); (try clear hb2); (try clear hk); (try clear hi)) | ((with_reducible refine gate_callee (f := 9) rfl ?_); refine goesL_ (some 11) rfl rfl Try.func9 (by kernel_rfl) rfl #[.int .u32 a0] rfl (by (try simp only [List.map_toArray, List.map_cons, List.map_nil]); first | done | rfl | (simp only [List.length_drop, List.length_take]; rfl)) ?_; (with_reducible refine (inode_Blocks.calls a0 t124 _ A4.out).mono ?_); rintro e w' ⟨rfl, ⟨nd, rfl⟩⟩; refine ⟨_, rfl, ?_⟩) | ((with_reducible refine gate_callee (f := 9) rfl ?_); refine goesL_ (some 13) rfl rfl Try.func9 (by kernel_rfl) rfl #[.int .u32 a1] rfl (by (try simp only [List.map_toArray, List.map_cons, List.map_nil]); first | done | rfl | (simp only [List.length_drop, List.length_take]; rfl)) ?_; (with_reducible refine (inode_Blocks.calls a1 t125 _ A5.out).mono ?_); rintro e w' ⟨rfl, ⟨nd, rfl⟩⟩; refine ⟨_, rfl, ?_⟩) | (go_at_call 10; (with_reducible refine (inode_Depth.calls a0 t126 _ A10.out).mono ?_); rintro e w' ⟨rfl, ⟨nd, rfl⟩⟩) | (go_at_call 10; (with_reducible refine (inode_Depth.calls a0 t126 _ A12.out).mono ?_); rintro e w' ⟨rfl, ⟨nd, rfl⟩⟩))
            go_ret
            exact ⟨by first | rfl | (simp [errW_none, errW_some] <;> rfl) | (simp [*, errW_none, errW_some] <;> rfl) | (simp [show IntKind.u64.wrap 0 = 0 from rfl, Int.zero_tdiv]; done), by repeat (first | (with_reducible first | exact HB.out | apply below_alloc | apply pw_below_drewN | apply below_drew1) | exact HB.out)⟩
          · rw [if_neg c11] at H
            exact absurd H (by simp)
        · rw [if_neg c9] at H
          exact absurd H (by simp)
      · rw [if_neg c8] at H
        exact absurd H (by simp)
    · rw [if_neg c7] at H
      have c7b0 : decide (a1 < a0) = false := decide_eq_false c7
      clear c7
      by_cases c14 : t124 ≤ t125
      · rw [if_pos c14] at H
        have c14b0 : decide (t124 ≤ t125) = true := decide_eq_true c14
        clear c14
        replace H := Option.bind_eq_some_iff.mp H
        obtain ⟨t128, A150, H⟩ := H
        replace H : ((inode_Depth.f a1).bind fun t129 => (if t128 ≤ t129 then (if (IntKind.u64.wrap ((IntKind.u64.wrap (t124)) * 508)) ≥ (IntKind.u64.wrap (a0)) then (if (IntKind.u64.wrap ((IntKind.u64.wrap (t124)) * 508)) < (IntKind.u64.wrap ((IntKind.u64.wrap (a0)) + 508)) then ((inode_Depth.f a0).bind fun t130 => (if t130 ≥ 0 then ((inode_Depth.f a0).bind fun t131 => (some (decide (t131 ≤ 2)))) else (none))) else (none)) else (none)) else (none))) = some r := H
        have A15 := Aside0.mk A150
        clear A150
        replace H := Option.bind_eq_some_iff.mp H
        obtain ⟨t129, A160, H⟩ := H
        replace H : (if t128 ≤ t129 then (if (IntKind.u64.wrap ((IntKind.u64.wrap (t124)) * 508)) ≥ (IntKind.u64.wrap (a0)) then (if (IntKind.u64.wrap ((IntKind.u64.wrap (t124)) * 508)) < (IntKind.u64.wrap ((IntKind.u64.wrap (a0)) + 508)) then ((inode_Depth.f a0).bind fun t130 => (if t130 ≥ 0 then ((inode_Depth.f a0).bind fun t131 => (some (decide (t131 ≤ 2)))) else (none))) else (none)) else (none)) else (none)) = some r := H
        have A16 := Aside0.mk A160
        clear A160
        by_cases c17 : t128 ≤ t129
        · rw [if_pos c17] at H
          have c17b0 : decide (t128 ≤ t129) = true := decide_eq_true c17
          clear c17
          by_cases c18 : (IntKind.u64.wrap ((IntKind.u64.wrap (t124)) * 508)) ≥ (IntKind.u64.wrap (a0))
          · rw [if_pos c18] at H
            have c18b0 : decide ((IntKind.u64.wrap (a0)) ≤ (IntKind.u64.wrap ((IntKind.u64.wrap (t124)) * 508))) = true := decide_eq_true c18
            clear c18
            by_cases c19 : (IntKind.u64.wrap ((IntKind.u64.wrap (t124)) * 508)) < (IntKind.u64.wrap ((IntKind.u64.wrap (a0)) + 508))
            · rw [if_pos c19] at H
              have c19b0 : decide ((IntKind.u64.wrap ((IntKind.u64.wrap (t124)) * 508)) < (IntKind.u64.wrap ((IntKind.u64.wrap (a0)) + 508))) = true := decide_eq_true c19
              clear c19
              replace H := Option.bind_eq_some_iff.mp H
              obtain ⟨t130, A200, H⟩ := H
              replace H : (if t130 ≥ 0 then ((inode_Depth.f a0).bind fun t131 => (some (decide (t131 ≤ 2)))) else (none)) = some r := H
              have A20 := Aside0.mk A200
              obtain rfl : t128 = t130 := Option.some.inj (A15.out.symm.trans A20.out)
              clear A200
              by_cases c21 : t128 ≥ 0
              · rw [if_pos c21] at H
                have c21b0 : decide (0 ≤ t128) = true := decide_eq_true c21
                clear c21
                replace H := Option.bind_eq_some_iff.mp H
                obtain ⟨t131, A220, H⟩ := H
                replace H : (some (decide (t131 ≤ 2))) = some r := H
                have A22 := Aside0.mk A220
                obtain rfl : t128 = t131 := Option.some.inj (A15.out.symm.trans A22.out)
                clear A220
                obtain rfl := Option.some.inj H
                go_enter Try.func3, Try.ntmps3
                go_wp2_with (first | ((with_reducible refine gate_callee (f := 8) rfl ?_); refine goesL_ (some 9) rfl rfl Try.func8 (by kernel_rfl) rfl #[] rfl (by (try simp only [List.map_toArray, List.map_cons, List.map_nil]); first | done | rfl | (simp only [List.length_drop, List.length_take]; rfl)) ?_; (with_reducible refine (nautiluslaw10_shown.calls  true _ A3.out).mono ?_); rintro e w23 ⟨rfl, hb⟩; refine ⟨_, rfl, ?_⟩; have n0_ := Aside0.mk (below_step (by repeat (first | (with_reducible first | exact HB.out | apply below_alloc | apply pw_below_drewN | apply below_drew1) | exact HB.out)) hb); clear HB; have HB := n0_; clear n0_; (try clear hb); (try clear hb2); (try clear hk); (try clear hi)) | ((with_reducible refine gate_callee (f := 9) rfl ?_); refine goesL_ (some 11) rfl rfl Try.func9 (by kernel_rfl) rfl #[.int .u32 a0] rfl (by (try simp only [List.map_toArray, List.map_cons, List.map_nil]); first | done | rfl | (simp only [List.length_drop, List.length_take]; rfl)) ?_; (with_reducible refine (inode_Blocks.calls a0 t124 _ A4.out).mono ?_); rintro e w' ⟨rfl, ⟨nd, rfl⟩⟩; refine ⟨_, rfl, ?_⟩) | ((with_reducible refine gate_callee (f := 9) rfl ?_); refine goesL_ (some 13) rfl rfl Try.func9 (by kernel_rfl) rfl #[.int .u32 a1] rfl (by (try simp only [List.map_toArray, List.map_cons, List.map_nil]); first | done | rfl | (simp only [List.length_drop, List.length_take]; rfl)) ?_; (with_reducible refine (inode_Blocks.calls a1 t125 _ A5.out).mono ?_); rintro e w' ⟨rfl, ⟨nd, rfl⟩⟩; refine ⟨_, rfl, ?_⟩) | (go_at_call 10; (with_reducible refine (inode_Depth.calls a0 t128 _ A15.out).mono ?_); rintro e w' ⟨rfl, ⟨nd, rfl⟩⟩) | (go_at_call 10; (with_reducible refine (inode_Depth.calls a1 t129 _ A16.out).mono ?_); rintro e w' ⟨rfl, ⟨nd, rfl⟩⟩) | (go_at_call 10; (with_reducible refine (inode_Depth.calls a0 t128 _ A20.out).mono ?_); rintro e w' ⟨rfl, ⟨nd, rfl⟩⟩) | (go_at_call 10; (with_reducible refine (inode_Depth.calls a0 t128 _ A22.out).mono ?_); rintro e w' ⟨rfl, ⟨nd, rfl⟩⟩))
                go_ret
                exact ⟨by first | rfl | (simp [errW_none, errW_some] <;> rfl) | (simp [*, errW_none, errW_some] <;> rfl) | (simp [show IntKind.u64.wrap 0 = 0 from rfl, Int.zero_tdiv]; done), by repeat (first | (with_reducible first | exact HB.out | apply below_alloc | apply pw_below_drewN | apply below_drew1) | exact HB.out)⟩
              · rw [if_neg c21] at H
                exact absurd H (by simp)
            · rw [if_neg c19] at H
              exact absurd H (by simp)
          · rw [if_neg c18] at H
            exact absurd H (by simp)
        · rw [if_neg c17] at H
          exact absurd H (by simp)
      · rw [if_neg c14] at H
        exact absurd H (by simp)
  · replace c6 := Bool.eq_false_iff.mpr c6
    subst c6
    have H1 : (none) = some r := by rw [if_neg (show ¬ (false = true) by decide)] at H; exact H
    clear H
    have H := H1
    clear H1
    exact absurd H (by simp)

/-- THE ONE PURE STATEMENT of nautiluslaw10_InodeSizes: yours. -/
def nautiluslaw10_InodeSizes.Pure : Prop := ∀ (a0 : Int) (a1 : Int), (Lit.int .u32 a0).wf = true → (Lit.int .u32 a1).wf = true → nautiluslaw10_InodeSizes.f a0 a1 = some true
theorem nautiluslaw10_InodeSizes.walk (P : nautiluslaw10_InodeSizes.Pure) (a0 : Int) (a1 : Int) (w : World) (w0 : (Lit.int .u32 a0).wf = true) (w1 : (Lit.int .u32 a1).wf = true) :
    Calls Try.prog 3 #[.int .u32 a0, .int .u32 a1] w fun e w' => e = .returned (.bool true) ∧ Below w.heap.size w w' := by
  have h := P a0 a1 w0 w1
  refine (nautiluslaw10_InodeSizes.calls a0 a1 true w h).mono ?_
  rintro e w' ⟨rfl, hd⟩
  exact ⟨rfl, hd⟩

end Go.Proofs.Ytdcdcnnigggdjaa.Q
