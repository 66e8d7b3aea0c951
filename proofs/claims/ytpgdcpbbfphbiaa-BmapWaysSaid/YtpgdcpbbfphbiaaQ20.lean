/- Functions of the translation as plain Lean functions, and that the translation computes them: printed by this session's driver of the print. -/
import Derived.Test.YtpgdcpbbfphbiaaQ0
import Derived.Test.YtpgdcpbbfphbiaaQ7
import Derived.Test.YtpgdcpbbfphbiaaQ13
import Derived.Test.YtpgdcpbbfphbiaaQ16
import Derived.Test.YtpgdcpbbfphbiaaQ17
import Derived.Test.YtpgdcpbbfphbiaaQ18
import Derived.Test.YtpgdcpbbfphbiaaQ19
namespace Go.Proofs.Ytpgdcpbbfphbiaa.Q
open Go.Proofs.Ytpgdcpbbfphbiaa.H
open Go.RowKit Go.Proofs.YtpgdcpbbfphbiaaW.PrintWords Go.Proofs.YtpgdcpbbfphbiaaW.PrintLast Go.Proofs.YtpgdcpbbfphbiaaW.PrintMore
attribute [local go_sem] max2_int min2_int max_two min_two max_three min_three max_four min_four   -- for this text's walks alone
set_option linter.unusedVariables false
set_option linter.unusedSimpArgs false

/-! ### nautiluslaw13_BmapWays: function 3 -/
def nautiluslaw13_BmapWays.f (k : Nat) (a0 : Int) (a1 : Int) : Option (Bool) := (nautiluslaw13_shown.f k).bind fun t189 => ((bmap_Way.f k a0 a1).bind fun bt190 => ((nautilusref13_Way.f k a0 a1).bind fun bt194 => (if t189 = true then ((bmap_Count.f a0).bind fun t198 => ((nautilusref13_Count.f a0).bind fun t199 => (if t198 = t199 then ((nautilusref13_SameInts.f k bt190.1 bt194.1).bind fun t200 => (if t200 = true then (some (bt190.2 == bt194.2)) else (none))) else (none)))) else (none))))
theorem nautiluslaw13_BmapWays.mono : ∀ a0 a1 k, LeO (nautiluslaw13_BmapWays.f k a0 a1) (nautiluslaw13_BmapWays.f (k + 1) a0 a1) := by
  intro a0 a1 k
  unfold nautiluslaw13_BmapWays.f
  repeat' first
      | (with_reducible exact bmap_Way.mono _ _ _)
      | (with_reducible exact nautiluslaw13_shown.mono _)
      | (with_reducible exact nautilusref13_SameInts.mono _ _ _)
      | (with_reducible exact nautilusref13_Way.mono _ _ _)
      | (with_reducible exact LeO.refl _)
      | (with_reducible exact LeO.none _)
      | (with_reducible refine LeO.ite ?_ ?_)
      | (with_reducible refine LeO.bind ?_ (fun _ => ?_))
      | exact bmap_Way.mono _ _ _
      | exact nautiluslaw13_shown.mono _
      | exact nautilusref13_SameInts.mono _ _ _
      | exact nautilusref13_Way.mono _ _ _
      | exact LeO.none _
      | refine LeO.ite ?_ ?_
      | refine LeO.bind ?_ (fun _ => ?_)
set_option maxHeartbeats 8000000 in
set_option maxRecDepth 100000 in
theorem nautiluslaw13_BmapWays.calls (k : Nat) (a0 : Int) (a1 : Int) (r : Bool) (w : World) (h : nautiluslaw13_BmapWays.f k a0 a1 = some r) :
    Calls Try.prog 3 #[.int .u32 a0, .int .i64 a1] w fun e w' => e = .returned (.bool r) ∧ Below w.heap.size w w' := by
  have HB := Aside0.mk (Below.refl w.heap.size w)
  have H : ((nautiluslaw13_shown.f k).bind fun t189 => ((bmap_Way.f k a0 a1).bind fun bt190 => ((nautilusref13_Way.f k a0 a1).bind fun bt194 => (if t189 = true then ((bmap_Count.f a0).bind fun t198 => ((nautilusref13_Count.f a0).bind fun t199 => (if t198 = t199 then ((nautilusref13_SameInts.f k bt190.1 bt194.1).bind fun t200 => (if t200 = true then (some (bt190.2 == bt194.2)) else (none))) else (none)))) else (none))))) = some r := h
  clear h
  replace H := Option.bind_eq_some_iff.mp H
  obtain ⟨t189, A30, H⟩ := H
  replace H : ((bmap_Way.f k a0 a1).bind fun bt190 => ((nautilusref13_Way.f k a0 a1).bind fun bt194 => (if t189 = true then ((bmap_Count.f a0).bind fun t198 => ((nautilusref13_Count.f a0).bind fun t199 => (if t198 = t199 then ((nautilusref13_SameInts.f k bt190.1 bt194.1).bind fun t200 => (if t200 = true then (some (bt190.2 == bt194.2)) else (none))) else (none)))) else (none)))) = some r := H
  have A3 := Aside0.mk A30
  clear A30
  replace H := Option.bind_eq_some_iff.mp H
  obtain ⟨⟨t190, t191⟩, A40, H⟩ := H
  replace H : ((nautilusref13_Way.f k a0 a1).bind fun bt194 => (if t189 = true then ((bmap_Count.f a0).bind fun t198 => ((nautilusref13_Count.f a0).bind fun t199 => (if t198 = t199 then ((nautilusref13_SameInts.f k t190 bt194.1).bind fun t200 => (if t200 = true then (some (t191 == bt194.2)) else (none))) else (none)))) else (none))) = some r := H
  have A4 := Aside0.mk A40
  clear A40
  replace H := Option.bind_eq_some_iff.mp H
  obtain ⟨⟨t194, t195⟩, A50, H⟩ := H
  replace H : (if t189 = true then ((bmap_Count.f a0).bind fun t198 => ((nautilusref13_Count.f a0).bind fun t199 => (if t198 = t199 then ((nautilusref13_SameInts.f k t190 t194).bind fun t200 => (if t200 = true then (some (t191 == t195)) else (none))) else (none)))) else (none)) = some r := H
  have A5 := Aside0.mk A50
  clear A50
  by_cases c6 : t189 = true
  · subst c6
    have H1 : ((bmap_Count.f a0).bind fun t198 => ((nautilusref13_Count.f a0).bind fun t199 => (if t198 = t199 then ((nautilusref13_SameInts.f k t190 t194).bind fun t200 => (if t200 = true then (some (t191 == t195)) else (none))) else (none)))) = some r := by rw [if_pos rfl] at H; exact H
    clear H
    have H := H1
    clear H1
    replace H := Option.bind_eq_some_iff.mp H
    obtain ⟨t198, A70, H⟩ := H
    replace H : ((nautilusref13_Count.f a0).bind fun t199 => (if t198 = t199 then ((nautilusref13_SameInts.f k t190 t194).bind fun t200 => (if t200 = true then (some (t191 == t195)) else (none))) else (none))) = some r := H
    have A7 := Aside0.mk A70
    clear A70
    replace H := Option.bind_eq_some_iff.mp H
    obtain ⟨t199, A80, H⟩ := H
    replace H : (if t198 = t199 then ((nautilusref13_SameInts.f k t190 t194).bind fun t200 => (if t200 = true then (some (t191 == t195)) else (none))) else (none)) = some r := H
    have A8 := Aside0.mk A80
    clear A80
    by_cases c9 : t198 = t199
    · rw [if_pos c9] at H
      have c9b0 : (t198 == t199) = true := beq_iff_eq.mpr c9
      have c9b1 : (t198 != t199) = false := bne_eq_false_iff_eq.mpr c9
      clear c9
      replace H := Option.bind_eq_some_iff.mp H
      obtain ⟨t200, A100, H⟩ := H
      replace H : (if t200 = true then (some (t191 == t195)) else (none)) = some r := H
      have A10 := Aside0.mk A100
      clear A100
      by_cases c11 : t200 = true
      · subst c11
        have H1 : (some (t191 == t195)) = some r := by rw [if_pos rfl] at H; exact H
        clear H
        have H := H1
        clear H1
        obtain rfl := Option.some.inj H
        go_enter Try.func3, Try.ntmps3
        go_wp2_with (first | ((with_reducible refine gate_callee (f := 9) rfl ?_); refine goesL_ (some 10) rfl rfl Try.func9 (by kernel_rfl) rfl #[] rfl (by (try simp only [List.map_toArray, List.map_cons, List.map_nil]); first | done | rfl | (simp only [List.length_drop, List.length_take]; rfl)) ?_; (with_reducible refine (nautiluslaw13_shown.calls k  true _ A3.out).mono ?_); rintro e w12 ⟨rfl, hb⟩; refine ⟨_, rfl, ?_⟩; have n0_ := Aside0.mk (below_step (by repeat (first | (with_reducible first | exact HB.out | apply below_alloc | apply pw_below_drewN | apply below_drew1) | exact HB.out)) hb); clear HB; have HB := n0_; clear n0_; (try clear hb); (try clear hb2); (try clear hk); (try clear hi)) | ((with_reducible refine gate_callee (f := 10) rfl ?_); refine goesL_ (some 14) rfl rfl Try.func10 (by kernel_rfl) rfl #[.int .u32 a0, .int .i64 a1] rfl (by (try simp only [List.map_toArray, List.map_cons, List.map_nil]); first | done | rfl | (simp only [List.length_drop, List.length_take]; rfl)) ?_; (with_reducible refine (bmap_Way.calls k a0 a1 t190 t191 _ A4.out).mono ?_); rintro e w13 ⟨v192, rfl, ho0, hb⟩; refine ⟨_, rfl, ?_⟩; have n0_ := Aside0.mk (Kd.R_lower ho0 (below_size (by repeat (first | (with_reducible first | exact HB.out | apply below_alloc | apply pw_below_drewN | apply below_drew1) | exact HB.out)))); have n1_ := Aside0.mk (below_step (by repeat (first | (with_reducible first | exact HB.out | apply below_alloc | apply pw_below_drewN | apply below_drew1) | exact HB.out)) hb); clear HB; have HO193 := n0_; have HB := n1_; clear n0_ n1_; (try clear hb); (try clear hb2); (try clear hk); (try clear hi); (try clear ho0)) | ((with_reducible refine gate_callee (f := 11) rfl ?_); refine goesL_ (some 20) rfl rfl Try.func11 (by kernel_rfl) rfl #[.int .u32 a0, .int .i64 a1] rfl (by (try simp only [List.map_toArray, List.map_cons, List.map_nil]); first | done | rfl | (simp only [List.length_drop, List.length_take]; rfl)) ?_; (with_reducible refine (nautilusref13_Way.calls k a0 a1 t194 t195 _ A5.out).mono ?_); rintro e w14 ⟨v196, rfl, ho0, hb⟩; refine ⟨_, rfl, ?_⟩; have n0_ := Aside0.mk (Kd.R_elder' (by (with_reducible repeat (first | apply Kd.R_alloc | apply Kd.R_drewN | apply Kd.R_drew)); exact HO193.out) (Kd.R_base ho0) hb); have n1_ := Aside0.mk (Kd.R_lower (Kd.R_new' ho0 (Kd.R_lt (by (with_reducible repeat (first | apply Kd.R_alloc | apply Kd.R_drewN | apply Kd.R_drew)); exact HO193.out))) (below_size (by repeat (first | (with_reducible first | exact HB.out | apply below_alloc | apply pw_below_drewN | apply below_drew1) | exact HB.out)))); have n2_ := Aside0.mk (below_step (by repeat (first | (with_reducible first | exact HB.out | apply below_alloc | apply pw_below_drewN | apply below_drew1) | exact HB.out)) hb); clear HO193; clear HB; have HO193 := n0_; have HO197 := n1_; have HB := n2_; clear n0_ n1_ n2_; (try clear hb); (try clear hb2); (try clear hk); (try clear hi); (try clear ho0)) | (go_at_call 12; (with_reducible refine (bmap_Count.calls a0 t198 _ A7.out).mono ?_); rintro e w' ⟨rfl, ⟨nd, rfl⟩⟩) | (go_at_call 13; (with_reducible refine (nautilusref13_Count.calls a0 t199 _ A8.out).mono ?_); rintro e w' ⟨rfl, ⟨nd, rfl⟩⟩; obtain ⟨Ao15, co15, eo15⟩ := Kd.R_slice HO193.out; subst eo15; obtain ⟨Ao16, co16, eo16⟩ := Kd.R_slice HO197.out; subst eo16) | (go_at_call 14; (with_reducible refine (nautilusref13_SameInts.calls k _ _ t190 _ _ t194 true _ ?side1 ?side2 ?side3 ?side4 A10.out).mono ?_); (case side1 => repeat (first | exact (Kd.R_reads' HO193.out).2.2 | (with_reducible refine Kd.C_alloc ?_ _) | (with_reducible refine Kd.C_drewN ?_ _) | (with_reducible refine Kd.C_drew ?_))); (case side2 => exact (Kd.R_reads' HO193.out).2.1); (case side3 => repeat (first | exact (Kd.R_reads' HO197.out).2.2 | (with_reducible refine Kd.C_alloc ?_ _) | (with_reducible refine Kd.C_drewN ?_ _) | (with_reducible refine Kd.C_drew ?_))); (case side4 => exact (Kd.R_reads' HO197.out).2.1); rintro e w' ⟨rfl, ⟨nd, rfl⟩⟩))
        go_ret
        exact ⟨by first | rfl | (simp [errW_none, errW_some] <;> rfl) | (simp [*, errW_none, errW_some] <;> rfl) | (simp [show IntKind.u64.wrap 0 = 0 from rfl, Int.zero_tdiv]; done), by repeat (first | (with_reducible first | exact HB.out | apply below_alloc | apply pw_below_drewN | apply below_drew1) | exact HB.out)⟩
      · replace c11 := Bool.eq_false_iff.mpr c11
        subst c11
        have H1 : (none) = some r := by rw [if_neg (show ¬ (false = true) by decide)] at H; exact H
        clear H
        have H := H1
        clear H1
        exact absurd H (by simp)
    · rw [if_neg c9] at H
      exact absurd H (by simp)
  · replace c6 := Bool.eq_false_iff.mpr c6
    subst c6
    have H1 : (none) = some r := by rw [if_neg (show ¬ (false = true) by decide)] at H; exact H
    clear H
    have H := H1
    clear H1
    exact absurd H (by simp)

/-- THE ONE PURE STATEMENT of nautiluslaw13_BmapWays: yours. -/
def nautiluslaw13_BmapWays.Pure : Prop := ∀ (a0 : Int) (a1 : Int), (Lit.int .u32 a0).wf = true → (Lit.int .i64 a1).wf = true → ∃ k, nautiluslaw13_BmapWays.f k a0 a1 = some true
theorem nautiluslaw13_BmapWays.walk (P : nautiluslaw13_BmapWays.Pure) (a0 : Int) (a1 : Int) (w : World) (w0 : (Lit.int .u32 a0).wf = true) (w1 : (Lit.int .i64 a1).wf = true) :
    Calls Try.prog 3 #[.int .u32 a0, .int .i64 a1] w fun e w' => e = .returned (.bool true) ∧ Below w.heap.size w w' := by
  obtain ⟨k, h⟩ := P a0 a1 w0 w1
  refine (nautiluslaw13_BmapWays.calls k a0 a1 true w h).mono ?_
  rintro e w' ⟨rfl, hd⟩
  exact ⟨rfl, hd⟩

end Go.Proofs.Ytpgdcpbbfphbiaa.Q
