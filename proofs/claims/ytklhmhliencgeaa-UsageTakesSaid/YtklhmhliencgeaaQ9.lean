/- Functions of the translation as plain Lean functions, and that the translation computes them: printed by this session's driver of the print. -/
import Derived.Test.YtklhmhliencgeaaQ0
import Derived.Test.YtklhmhliencgeaaQ8
import Derived.Test.YtklhmhliencgeaaHChoose
namespace Go.Proofs.Ytklhmhliencgeaa.Q
open Go.Proofs.Ytklhmhliencgeaa.H
open Go.RowKit Go.Proofs.YtklhmhliencgeaaW.PrintWords Go.Proofs.YtklhmhliencgeaaW.PrintLast Go.Proofs.YtklhmhliencgeaaW.PrintMore
attribute [local go_sem] max2_int min2_int max_two min_two max_three min_three max_four min_four   -- for this text's walks alone
set_option linter.unusedVariables false
set_option linter.unusedSimpArgs false

/-! ### nautiluslaw06_shown: function 8 -/
def nautiluslaw06_shown.f (k : Nat)  : Option (Bool) := (nautiluslaw06_few.f).bind fun t125 => ((usage_Choose.f t125 0 10).bind fun bt128 => ((nautiluslaw06_few.f).bind fun t131 => ((usage_Choose.f t131 1 10).bind fun bt134 => ((nautiluslaw06_few.f).bind fun t137 => ((usage_Choose.f t137 2 10).bind fun bt140 => ((nautiluslaw06_few.f).bind fun t143 => ((usage_Next.f k t143 4).bind fun bt146 => (if bt128.2.2 = 0 then (if bt134.2.2 = 0 then (if bt140.2.2 = 0 then (if bt128.2.1 = true then (if bt134.2.1 = true then (if bt140.2.1 = true then (if bt128.1 = 1 then (if bt134.1 = 2 then (if bt140.1 = 1 then (if bt146.1 = 6 then (if bt146.2 = true then ((nautiluslaw06_few.f).bind fun t148 => ((usage_CleanOnes.f k t148).bind fun t151 => (some (t151 == 3)))) else (none)) else (none)) else (none)) else (none)) else (none)) else (none)) else (none)) else (none)) else (none)) else (none)) else (none)))))))))
theorem nautiluslaw06_shown.mono : ∀ k, LeO (nautiluslaw06_shown.f k ) (nautiluslaw06_shown.f (k + 1) ) := by
  intro  k
  unfold nautiluslaw06_shown.f
  repeat' first
      | (with_reducible exact usage_CleanOnes.mono _ _)
      | (with_reducible exact usage_Next.mono _ _ _)
      | (with_reducible exact LeO.refl _)
      | (with_reducible exact LeO.none _)
      | (with_reducible refine LeO.ite ?_ ?_)
      | (with_reducible refine LeO.bind ?_ (fun _ => ?_))
      | exact usage_CleanOnes.mono _ _
      | exact usage_Next.mono _ _ _
      | exact LeO.none _
      | refine LeO.ite ?_ ?_
      | refine LeO.bind ?_ (fun _ => ?_)
set_option maxHeartbeats 8000000 in
set_option maxRecDepth 100000 in
theorem nautiluslaw06_shown.calls (k : Nat)  (r : Bool) (w : World) (h : nautiluslaw06_shown.f k  = some r) :
    Calls Try.prog 8 #[] w fun e w' => e = .returned (.bool r) ∧ Below w.heap.size w w' := by
  have HB := Aside0.mk (Below.refl w.heap.size w)
  have H : ((nautiluslaw06_few.f).bind fun t125 => ((usage_Choose.f t125 0 10).bind fun bt128 => ((nautiluslaw06_few.f).bind fun t131 => ((usage_Choose.f t131 1 10).bind fun bt134 => ((nautiluslaw06_few.f).bind fun t137 => ((usage_Choose.f t137 2 10).bind fun bt140 => ((nautiluslaw06_few.f).bind fun t143 => ((usage_Next.f k t143 4).bind fun bt146 => (if bt128.2.2 = 0 then (if bt134.2.2 = 0 then (if bt140.2.2 = 0 then (if bt128.2.1 = true then (if bt134.2.1 = true then (if bt140.2.1 = true then (if bt128.1 = 1 then (if bt134.1 = 2 then (if bt140.1 = 1 then (if bt146.1 = 6 then (if bt146.2 = true then ((nautiluslaw06_few.f).bind fun t148 => ((usage_CleanOnes.f k t148).bind fun t151 => (some (t151 == 3)))) else (none)) else (none)) else (none)) else (none)) else (none)) else (none)) else (none)) else (none)) else (none)) else (none)) else (none)))))))))) = some r := h
  clear h
  replace H := Option.bind_eq_some_iff.mp H
  obtain ⟨t125, A10, H⟩ := H
  replace H : ((usage_Choose.f t125 0 10).bind fun bt128 => ((nautiluslaw06_few.f).bind fun t131 => ((usage_Choose.f t131 1 10).bind fun bt134 => ((nautiluslaw06_few.f).bind fun t137 => ((usage_Choose.f t137 2 10).bind fun bt140 => ((nautiluslaw06_few.f).bind fun t143 => ((usage_Next.f k t143 4).bind fun bt146 => (if bt128.2.2 = 0 then (if bt134.2.2 = 0 then (if bt140.2.2 = 0 then (if bt128.2.1 = true then (if bt134.2.1 = true then (if bt140.2.1 = true then (if bt128.1 = 1 then (if bt134.1 = 2 then (if bt140.1 = 1 then (if bt146.1 = 6 then (if bt146.2 = true then ((nautiluslaw06_few.f).bind fun t148 => ((usage_CleanOnes.f k t148).bind fun t151 => (some (t151 == 3)))) else (none)) else (none)) else (none)) else (none)) else (none)) else (none)) else (none)) else (none)) else (none)) else (none)) else (none))))))))) = some r := H
  have A1 := Aside0.mk A10
  clear A10
  replace H := Option.bind_eq_some_iff.mp H
  obtain ⟨⟨t128, t129, t130⟩, A20, H⟩ := H
  replace H : ((nautiluslaw06_few.f).bind fun t131 => ((usage_Choose.f t131 1 10).bind fun bt134 => ((nautiluslaw06_few.f).bind fun t137 => ((usage_Choose.f t137 2 10).bind fun bt140 => ((nautiluslaw06_few.f).bind fun t143 => ((usage_Next.f k t143 4).bind fun bt146 => (if t130 = 0 then (if bt134.2.2 = 0 then (if bt140.2.2 = 0 then (if t129 = true then (if bt134.2.1 = true then (if bt140.2.1 = true then (if t128 = 1 then (if bt134.1 = 2 then (if bt140.1 = 1 then (if bt146.1 = 6 then (if bt146.2 = true then ((nautiluslaw06_few.f).bind fun t148 => ((usage_CleanOnes.f k t148).bind fun t151 => (some (t151 == 3)))) else (none)) else (none)) else (none)) else (none)) else (none)) else (none)) else (none)) else (none)) else (none)) else (none)) else (none)))))))) = some r := H
  have A2 := Aside0.mk A20
  clear A20
  replace H := Option.bind_eq_some_iff.mp H
  obtain ⟨t131, A30, H⟩ := H
  replace H : ((usage_Choose.f t131 1 10).bind fun bt134 => ((nautiluslaw06_few.f).bind fun t137 => ((usage_Choose.f t137 2 10).bind fun bt140 => ((nautiluslaw06_few.f).bind fun t143 => ((usage_Next.f k t143 4).bind fun bt146 => (if t130 = 0 then (if bt134.2.2 = 0 then (if bt140.2.2 = 0 then (if t129 = true then (if bt134.2.1 = true then (if bt140.2.1 = true then (if t128 = 1 then (if bt134.1 = 2 then (if bt140.1 = 1 then (if bt146.1 = 6 then (if bt146.2 = true then ((nautiluslaw06_few.f).bind fun t148 => ((usage_CleanOnes.f k t148).bind fun t151 => (some (t151 == 3)))) else (none)) else (none)) else (none)) else (none)) else (none)) else (none)) else (none)) else (none)) else (none)) else (none)) else (none))))))) = some r := H
  have A3 := Aside0.mk A30
  clear A30
  replace H := Option.bind_eq_some_iff.mp H
  obtain ⟨⟨t134, t135, t136⟩, A40, H⟩ := H
  replace H : ((nautiluslaw06_few.f).bind fun t137 => ((usage_Choose.f t137 2 10).bind fun bt140 => ((nautiluslaw06_few.f).bind fun t143 => ((usage_Next.f k t143 4).bind fun bt146 => (if t130 = 0 then (if t136 = 0 then (if bt140.2.2 = 0 then (if t129 = true then (if t135 = true then (if bt140.2.1 = true then (if t128 = 1 then (if t134 = 2 then (if bt140.1 = 1 then (if bt146.1 = 6 then (if bt146.2 = true then ((nautiluslaw06_few.f).bind fun t148 => ((usage_CleanOnes.f k t148).bind fun t151 => (some (t151 == 3)))) else (none)) else (none)) else (none)) else (none)) else (none)) else (none)) else (none)) else (none)) else (none)) else (none)) else (none)))))) = some r := H
  have A4 := Aside0.mk A40
  clear A40
  replace H := Option.bind_eq_some_iff.mp H
  obtain ⟨t137, A50, H⟩ := H
  replace H : ((usage_Choose.f t137 2 10).bind fun bt140 => ((nautiluslaw06_few.f).bind fun t143 => ((usage_Next.f k t143 4).bind fun bt146 => (if t130 = 0 then (if t136 = 0 then (if bt140.2.2 = 0 then (if t129 = true then (if t135 = true then (if bt140.2.1 = true then (if t128 = 1 then (if t134 = 2 then (if bt140.1 = 1 then (if bt146.1 = 6 then (if bt146.2 = true then ((nautiluslaw06_few.f).bind fun t148 => ((usage_CleanOnes.f k t148).bind fun t151 => (some (t151 == 3)))) else (none)) else (none)) else (none)) else (none)) else (none)) else (none)) else (none)) else (none)) else (none)) else (none)) else (none))))) = some r := H
  have A5 := Aside0.mk A50
  clear A50
  replace H := Option.bind_eq_some_iff.mp H
  obtain ⟨⟨t140, t141, t142⟩, A60, H⟩ := H
  replace H : ((nautiluslaw06_few.f).bind fun t143 => ((usage_Next.f k t143 4).bind fun bt146 => (if t130 = 0 then (if t136 = 0 then (if t142 = 0 then (if t129 = true then (if t135 = true then (if t141 = true then (if t128 = 1 then (if t134 = 2 then (if t140 = 1 then (if bt146.1 = 6 then (if bt146.2 = true then ((nautiluslaw06_few.f).bind fun t148 => ((usage_CleanOnes.f k t148).bind fun t151 => (some (t151 == 3)))) else (none)) else (none)) else (none)) else (none)) else (none)) else (none)) else (none)) else (none)) else (none)) else (none)) else (none)))) = some r := H
  have A6 := Aside0.mk A60
  clear A60
  replace H := Option.bind_eq_some_iff.mp H
  obtain ⟨t143, A70, H⟩ := H
  replace H : ((usage_Next.f k t143 4).bind fun bt146 => (if t130 = 0 then (if t136 = 0 then (if t142 = 0 then (if t129 = true then (if t135 = true then (if t141 = true then (if t128 = 1 then (if t134 = 2 then (if t140 = 1 then (if bt146.1 = 6 then (if bt146.2 = true then ((nautiluslaw06_few.f).bind fun t148 => ((usage_CleanOnes.f k t148).bind fun t151 => (some (t151 == 3)))) else (none)) else (none)) else (none)) else (none)) else (none)) else (none)) else (none)) else (none)) else (none)) else (none)) else (none))) = some r := H
  have A7 := Aside0.mk A70
  clear A70
  replace H := Option.bind_eq_some_iff.mp H
  obtain ⟨⟨t146, t147⟩, A80, H⟩ := H
  replace H : (if t130 = 0 then (if t136 = 0 then (if t142 = 0 then (if t129 = true then (if t135 = true then (if t141 = true then (if t128 = 1 then (if t134 = 2 then (if t140 = 1 then (if t146 = 6 then (if t147 = true then ((nautiluslaw06_few.f).bind fun t148 => ((usage_CleanOnes.f k t148).bind fun t151 => (some (t151 == 3)))) else (none)) else (none)) else (none)) else (none)) else (none)) else (none)) else (none)) else (none)) else (none)) else (none)) else (none)) = some r := H
  have A8 := Aside0.mk A80
  clear A80
  by_cases c9 : t130 = 0
  · rw [if_pos c9] at H
    have c9b0 : (t130 == 0) = true := beq_iff_eq.mpr c9
    have c9b1 : (t130 != 0) = false := bne_eq_false_iff_eq.mpr c9
    clear c9
    by_cases c10 : t136 = 0
    · rw [if_pos c10] at H
      have c10b0 : (t136 == 0) = true := beq_iff_eq.mpr c10
      have c10b1 : (t136 != 0) = false := bne_eq_false_iff_eq.mpr c10
      clear c10
      by_cases c11 : t142 = 0
      · rw [if_pos c11] at H
        have c11b0 : (t142 == 0) = true := beq_iff_eq.mpr c11
        have c11b1 : (t142 != 0) = false := bne_eq_false_iff_eq.mpr c11
        clear c11
        by_cases c12 : t129 = true
        · subst c12
          have H1 : (if t135 = true then (if t141 = true then (if t128 = 1 then (if t134 = 2 then (if t140 = 1 then (if t146 = 6 then (if t147 = true then ((nautiluslaw06_few.f).bind fun t148 => ((usage_CleanOnes.f k t148).bind fun t151 => (some (t151 == 3)))) else (none)) else (none)) else (none)) else (none)) else (none)) else (none)) else (none)) = some r := by rw [if_pos rfl] at H; exact H
          clear H
          have H := H1
          clear H1
          by_cases c13 : t135 = true
          · subst c13
            have H1 : (if t141 = true then (if t128 = 1 then (if t134 = 2 then (if t140 = 1 then (if t146 = 6 then (if t147 = true then ((nautiluslaw06_few.f).bind fun t148 => ((usage_CleanOnes.f k t148).bind fun t151 => (some (t151 == 3)))) else (none)) else (none)) else (none)) else (none)) else (none)) else (none)) = some r := by rw [if_pos rfl] at H; exact H
            clear H
            have H := H1
            clear H1
            by_cases c14 : t141 = true
            · subst c14
              have H1 : (if t128 = 1 then (if t134 = 2 then (if t140 = 1 then (if t146 = 6 then (if t147 = true then ((nautiluslaw06_few.f).bind fun t148 => ((usage_CleanOnes.f k t148).bind fun t151 => (some (t151 == 3)))) else (none)) else (none)) else (none)) else (none)) else (none)) = some r := by rw [if_pos rfl] at H; exact H
              clear H
              have H := H1
              clear H1
              by_cases c15 : t128 = 1
              · rw [if_pos c15] at H
                have c15b0 : (t128 == 1) = true := beq_iff_eq.mpr c15
                have c15b1 : (t128 != 1) = false := bne_eq_false_iff_eq.mpr c15
                clear c15
                by_cases c16 : t134 = 2
                · rw [if_pos c16] at H
                  have c16b0 : (t134 == 2) = true := beq_iff_eq.mpr c16
                  have c16b1 : (t134 != 2) = false := bne_eq_false_iff_eq.mpr c16
                  clear c16
                  by_cases c17 : t140 = 1
                  · rw [if_pos c17] at H
                    have c17b0 : (t140 == 1) = true := beq_iff_eq.mpr c17
                    have c17b1 : (t140 != 1) = false := bne_eq_false_iff_eq.mpr c17
                    clear c17
                    by_cases c18 : t146 = 6
                    · rw [if_pos c18] at H
                      have c18b0 : (t146 == 6) = true := beq_iff_eq.mpr c18
                      have c18b1 : (t146 != 6) = false := bne_eq_false_iff_eq.mpr c18
                      clear c18
                      by_cases c19 : t147 = true
                      · subst c19
                        have H1 : ((nautiluslaw06_few.f).bind fun t148 => ((usage_CleanOnes.f k t148).bind fun t151 => (some (t151 == 3)))) = some r := by rw [if_pos rfl] at H; exact H
                        clear H
                        have H := H1
                        clear H1
                        replace H := Option.bind_eq_some_iff.mp H
                        obtain ⟨t148, A200, H⟩ := H
                        replace H : ((usage_CleanOnes.f k t148).bind fun t151 => (some (t151 == 3))) = some r := H
                        have A20 := Aside0.mk A200
                        clear A200
                        replace H := Option.bind_eq_some_iff.mp H
                        obtain ⟨t151, A210, H⟩ := H
                        replace H : (some (t151 == 3)) = some r := H
                        have A21 := Aside0.mk A210
                        clear A210
                        obtain rfl := Option.some.inj H
                        go_enter Try.func8, Try.ntmps8
                        go_wp2_with (first | ((with_reducible refine gate_callee (f := 17) rfl ?_); refine goesL_ (some 13) rfl rfl Try.func17 (by kernel_rfl) rfl #[] rfl (by (try simp only [List.map_toArray, List.map_cons, List.map_nil]); first | done | rfl | (simp only [List.length_drop, List.length_take]; rfl)) ?_; (with_reducible refine (nautiluslaw06_few.calls  t125 _ A1.out).mono ?_); rintro e w22 ⟨v126, rfl, ho0, hb⟩; refine ⟨_, rfl, ?_⟩; have n0_ := Aside0.mk (Kd.R_lower ho0 (below_size (by repeat (first | (with_reducible first | exact HB.out | apply below_alloc | apply pw_below_drewN | apply below_drew1) | exact HB.out)))); have n1_ := Aside0.mk (below_step (by repeat (first | (with_reducible first | exact HB.out | apply below_alloc | apply pw_below_drewN | apply below_drew1) | exact HB.out)) hb); clear HB; have HO127 := n0_; have HB := n1_; clear n0_ n1_; (try clear hb); (try clear hb2); (try clear hk); (try clear hi); (try clear ho0); obtain ⟨Ao23, co23, eo23⟩ := Kd.R_slice HO127.out; subst eo23) | ((with_reducible refine gate_callee (f := 9) rfl ?_); refine goesL_ (some 14) rfl rfl Try.func9 (by kernel_rfl) rfl #[.slice Ao23 t125.length co23, .int .i64 0, .int .u64 10] rfl (by (try simp only [List.map_toArray, List.map_cons, List.map_nil]); first | done | rfl | (simp only [List.length_drop, List.length_take]; rfl)) ?_; (with_reducible refine (usage_Choose.calls _ _ t125 0 10 t128 true t130 _ ?side1 ?side2 A2.out).mono ?_); (case side1 => repeat (first | exact (Kd.R_reads' HO127.out).2.2 | (with_reducible refine Kd.C_alloc ?_ _) | (with_reducible refine Kd.C_drewN ?_ _) | (with_reducible refine Kd.C_drew ?_))); (case side2 => exact (Kd.R_reads' HO127.out).2.1); rintro e w24 ⟨rfl, hb⟩; refine ⟨_, rfl, ?_⟩; have n0_ := Aside0.mk (Kd.R_below (by (with_reducible repeat (first | apply Kd.R_alloc | apply Kd.R_drewN | apply Kd.R_drew)); exact HO127.out) hb); have n1_ := Aside0.mk (below_step (by repeat (first | (with_reducible first | exact HB.out | apply below_alloc | apply pw_below_drewN | apply below_drew1) | exact HB.out)) hb); clear HO127; clear HB; have HO127 := n0_; have HB := n1_; clear n0_ n1_; (try clear hb); (try clear hb2); (try clear hk); (try clear hi)) | ((with_reducible refine gate_callee (f := 17) rfl ?_); refine goesL_ (some 19) rfl rfl Try.func17 (by kernel_rfl) rfl #[] rfl (by (try simp only [List.map_toArray, List.map_cons, List.map_nil]); first | done | rfl | (simp only [List.length_drop, List.length_take]; rfl)) ?_; (with_reducible refine (nautiluslaw06_few.calls  t131 _ A3.out).mono ?_); rintro e w25 ⟨v132, rfl, ho0, hb⟩; refine ⟨_, rfl, ?_⟩; have n0_ := Aside0.mk (Kd.R_elder' (by (with_reducible repeat (first | apply Kd.R_alloc | apply Kd.R_drewN | apply Kd.R_drew)); exact HO127.out) (Kd.R_base ho0) hb); have n1_ := Aside0.mk (Kd.R_lower (Kd.R_new' ho0 (Kd.R_lt (by (with_reducible repeat (first | apply Kd.R_alloc | apply Kd.R_drewN | apply Kd.R_drew)); exact HO127.out))) (below_size (by repeat (first | (with_reducible first | exact HB.out | apply below_alloc | apply pw_below_drewN | apply below_drew1) | exact HB.out)))); have n2_ := Aside0.mk (below_step (by repeat (first | (with_reducible first | exact HB.out | apply below_alloc | apply pw_below_drewN | apply below_drew1) | exact HB.out)) hb); clear HO127; clear HB; have HO127 := n0_; have HO133 := n1_; have HB := n2_; clear n0_ n1_ n2_; (try clear hb); (try clear hb2); (try clear hk); (try clear hi); (try clear ho0); obtain ⟨Ao26, co26, eo26⟩ := Kd.R_slice HO133.out; subst eo26) | ((with_reducible refine gate_callee (f := 9) rfl ?_); refine goesL_ (some 20) rfl rfl Try.func9 (by kernel_rfl) rfl #[.slice Ao26 t131.length co26, .int .i64 1, .int .u64 10] rfl (by (try simp only [List.map_toArray, List.map_cons, List.map_nil]); first | done | rfl | (simp only [List.length_drop, List.length_take]; rfl)) ?_; (with_reducible refine (usage_Choose.calls _ _ t131 1 10 t134 true t136 _ ?side1 ?side2 A4.out).mono ?_); (case side1 => repeat (first | exact (Kd.R_reads' HO133.out).2.2 | (with_reducible refine Kd.C_alloc ?_ _) | (with_reducible refine Kd.C_drewN ?_ _) | (with_reducible refine Kd.C_drew ?_))); (case side2 => exact (Kd.R_reads' HO133.out).2.1); rintro e w27 ⟨rfl, hb⟩; refine ⟨_, rfl, ?_⟩; have n0_ := Aside0.mk (Kd.R_below (by (with_reducible repeat (first | apply Kd.R_alloc | apply Kd.R_drewN | apply Kd.R_drew)); exact HO127.out) hb); have n1_ := Aside0.mk (Kd.R_below (by (with_reducible repeat (first | apply Kd.R_alloc | apply Kd.R_drewN | apply Kd.R_drew)); exact HO133.out) hb); have n2_ := Aside0.mk (below_step (by repeat (first | (with_reducible first | exact HB.out | apply below_alloc | apply pw_below_drewN | apply below_drew1) | exact HB.out)) hb); clear HO127; clear HO133; clear HB; have HO127 := n0_; have HO133 := n1_; have HB := n2_; clear n0_ n1_ n2_; (try clear hb); (try clear hb2); (try clear hk); (try clear hi)) | ((with_reducible refine gate_callee (f := 17) rfl ?_); refine goesL_ (some 25) rfl rfl Try.func17 (by kernel_rfl) rfl #[] rfl (by (try simp only [List.map_toArray, List.map_cons, List.map_nil]); first | done | rfl | (simp only [List.length_drop, List.length_take]; rfl)) ?_; (with_reducible refine (nautiluslaw06_few.calls  t137 _ A5.out).mono ?_); rintro e w28 ⟨v138, rfl, ho0, hb⟩; refine ⟨_, rfl, ?_⟩; have n0_ := Aside0.mk (Kd.R_elder' (by (with_reducible repeat (first | apply Kd.R_alloc | apply Kd.R_drewN | apply Kd.R_drew)); exact HO127.out) (Kd.R_base ho0) hb); have n1_ := Aside0.mk (Kd.R_elder' (by (with_reducible repeat (first | apply Kd.R_alloc | apply Kd.R_drewN | apply Kd.R_drew)); exact HO133.out) (Kd.R_base ho0) hb); have n2_ := Aside0.mk (Kd.R_lower (Kd.R_new' (Kd.R_new' ho0 (Kd.R_lt (by (with_reducible repeat (first | apply Kd.R_alloc | apply Kd.R_drewN | apply Kd.R_drew)); exact HO127.out))) (Kd.R_lt (by (with_reducible repeat (first | apply Kd.R_alloc | apply Kd.R_drewN | apply Kd.R_drew)); exact HO133.out))) (below_size (by repeat (first | (with_reducible first | exact HB.out | apply below_alloc | apply pw_below_drewN | apply below_drew1) | exact HB.out)))); have n3_ := Aside0.mk (below_step (by repeat (first | (with_reducible first | exact HB.out | apply below_alloc | apply pw_below_drewN | apply below_drew1) | exact HB.out)) hb); clear HO127; clear HO133; clear HB; have HO127 := n0_; have HO133 := n1_; have HO139 := n2_; have HB := n3_; clear n0_ n1_ n2_ n3_; (try clear hb); (try clear hb2); (try clear hk); (try clear hi); (try clear ho0); obtain ⟨Ao29, co29, eo29⟩ := Kd.R_slice HO139.out; subst eo29) | ((with_reducible refine gate_callee (f := 9) rfl ?_); refine goesL_ (some 26) rfl rfl Try.func9 (by kernel_rfl) rfl #[.slice Ao29 t137.length co29, .int .i64 2, .int .u64 10] rfl (by (try simp only [List.map_toArray, List.map_cons, List.map_nil]); first | done | rfl | (simp only [List.length_drop, List.length_take]; rfl)) ?_; (with_reducible refine (usage_Choose.calls _ _ t137 2 10 t140 true t142 _ ?side1 ?side2 A6.out).mono ?_); (case side1 => repeat (first | exact (Kd.R_reads' HO139.out).2.2 | (with_reducible refine Kd.C_alloc ?_ _) | (with_reducible refine Kd.C_drewN ?_ _) | (with_reducible refine Kd.C_drew ?_))); (case side2 => exact (Kd.R_reads' HO139.out).2.1); rintro e w30 ⟨rfl, hb⟩; refine ⟨_, rfl, ?_⟩; have n0_ := Aside0.mk (Kd.R_below (by (with_reducible repeat (first | apply Kd.R_alloc | apply Kd.R_drewN | apply Kd.R_drew)); exact HO127.out) hb); have n1_ := Aside0.mk (Kd.R_below (by (with_reducible repeat (first | apply Kd.R_alloc | apply Kd.R_drewN | apply Kd.R_drew)); exact HO133.out) hb); have n2_ := Aside0.mk (Kd.R_below (by (with_reducible repeat (first | apply Kd.R_alloc | apply Kd.R_drewN | apply Kd.R_drew)); exact HO139.out) hb); have n3_ := Aside0.mk (below_step (by repeat (first | (with_reducible first | exact HB.out | apply below_alloc | apply pw_below_drewN | apply below_drew1) | exact HB.out)) hb); clear HO127; clear HO133; clear HO139; clear HB; have HO127 := n0_; have HO133 := n1_; have HO139 := n2_; have HB := n3_; clear n0_ n1_ n2_ n3_; (try clear hb); (try clear hb2); (try clear hk); (try clear hi)) | ((with_reducible refine gate_callee (f := 17) rfl ?_); refine goesL_ (some 31) rfl rfl Try.func17 (by kernel_rfl) rfl #[] rfl (by (try simp only [List.map_toArray, List.map_cons, List.map_nil]); first | done | rfl | (simp only [List.length_drop, List.length_take]; rfl)) ?_; (with_reducible refine (nautiluslaw06_few.calls  t143 _ A7.out).mono ?_); rintro e w31 ⟨v144, rfl, ho0, hb⟩; refine ⟨_, rfl, ?_⟩; have n0_ := Aside0.mk (Kd.R_elder' (by (with_reducible repeat (first | apply Kd.R_alloc | apply Kd.R_drewN | apply Kd.R_drew)); exact HO127.out) (Kd.R_base ho0) hb); have n1_ := Aside0.mk (Kd.R_elder' (by (with_reducible repeat (first | apply Kd.R_alloc | apply Kd.R_drewN | apply Kd.R_drew)); exact HO133.out) (Kd.R_base ho0) hb); have n2_ := Aside0.mk (Kd.R_elder' (by (with_reducible repeat (first | apply Kd.R_alloc | apply Kd.R_drewN | apply Kd.R_drew)); exact HO139.out) (Kd.R_base ho0) hb); have n3_ := Aside0.mk (Kd.R_lower (Kd.R_new' (Kd.R_new' (Kd.R_new' ho0 (Kd.R_lt (by (with_reducible repeat (first | apply Kd.R_alloc | apply Kd.R_drewN | apply Kd.R_drew)); exact HO127.out))) (Kd.R_lt (by (with_reducible repeat (first | apply Kd.R_alloc | apply Kd.R_drewN | apply Kd.R_drew)); exact HO133.out))) (Kd.R_lt (by (with_reducible repeat (first | apply Kd.R_alloc | apply Kd.R_drewN | apply Kd.R_drew)); exact HO139.out))) (below_size (by repeat (first | (with_reducible first | exact HB.out | apply below_alloc | apply pw_below_drewN | apply below_drew1) | exact HB.out)))); have n4_ := Aside0.mk (below_step (by repeat (first | (with_reducible first | exact HB.out | apply below_alloc | apply pw_below_drewN | apply below_drew1) | exact HB.out)) hb); clear HO127; clear HO133; clear HO139; clear HB; have HO127 := n0_; have HO133 := n1_; have HO139 := n2_; have HO145 := n3_; have HB := n4_; clear n0_ n1_ n2_ n3_ n4_; (try clear hb); (try clear hb2); (try clear hk); (try clear hi); (try clear ho0); obtain ⟨Ao32, co32, eo32⟩ := Kd.R_slice HO145.out; subst eo32) | ((with_reducible refine gate_callee (f := 16) rfl ?_); refine goesL_ (some 32) rfl rfl Try.func16 (by kernel_rfl) rfl #[.slice Ao32 t143.length co32, .int .i64 4] rfl (by (try simp only [List.map_toArray, List.map_cons, List.map_nil]); first | done | rfl | (simp only [List.length_drop, List.length_take]; rfl)) ?_; (with_reducible refine (usage_Next.calls k _ _ t143 4 t146 true _ ?side1 ?side2 A8.out).mono ?_); (case side1 => repeat (first | exact (Kd.R_reads' HO145.out).2.2 | (with_reducible refine Kd.C_alloc ?_ _) | (with_reducible refine Kd.C_drewN ?_ _) | (with_reducible refine Kd.C_drew ?_))); (case side2 => exact (Kd.R_reads' HO145.out).2.1); rintro e w33 ⟨rfl, hb⟩; refine ⟨_, rfl, ?_⟩; have n0_ := Aside0.mk (Kd.R_below (by (with_reducible repeat (first | apply Kd.R_alloc | apply Kd.R_drewN | apply Kd.R_drew)); exact HO127.out) hb); have n1_ := Aside0.mk (Kd.R_below (by (with_reducible repeat (first | apply Kd.R_alloc | apply Kd.R_drewN | apply Kd.R_drew)); exact HO133.out) hb); have n2_ := Aside0.mk (Kd.R_below (by (with_reducible repeat (first | apply Kd.R_alloc | apply Kd.R_drewN | apply Kd.R_drew)); exact HO139.out) hb); have n3_ := Aside0.mk (Kd.R_below (by (with_reducible repeat (first | apply Kd.R_alloc | apply Kd.R_drewN | apply Kd.R_drew)); exact HO145.out) hb); have n4_ := Aside0.mk (below_step (by repeat (first | (with_reducible first | exact HB.out | apply below_alloc | apply pw_below_drewN | apply below_drew1) | exact HB.out)) hb); clear HO127; clear HO133; clear HO139; clear HO145; clear HB; have HO127 := n0_; have HO133 := n1_; have HO139 := n2_; have HO145 := n3_; have HB := n4_; clear n0_ n1_ n2_ n3_ n4_; (try clear hb); (try clear hb2); (try clear hk); (try clear hi)) | (go_at_call 17; (with_reducible refine (nautiluslaw06_few.calls  t148 _ A20.out).mono ?_); rintro e w34 ⟨v149, rfl, ho0, hb⟩; have n0_ := Aside0.mk (Kd.R_elder' (by (with_reducible repeat (first | apply Kd.R_alloc | apply Kd.R_drewN | apply Kd.R_drew)); exact HO127.out) (Kd.R_base ho0) hb); have n1_ := Aside0.mk (Kd.R_elder' (by (with_reducible repeat (first | apply Kd.R_alloc | apply Kd.R_drewN | apply Kd.R_drew)); exact HO133.out) (Kd.R_base ho0) hb); have n2_ := Aside0.mk (Kd.R_elder' (by (with_reducible repeat (first | apply Kd.R_alloc | apply Kd.R_drewN | apply Kd.R_drew)); exact HO139.out) (Kd.R_base ho0) hb); have n3_ := Aside0.mk (Kd.R_elder' (by (with_reducible repeat (first | apply Kd.R_alloc | apply Kd.R_drewN | apply Kd.R_drew)); exact HO145.out) (Kd.R_base ho0) hb); have n4_ := Aside0.mk (Kd.R_lower (Kd.R_new' (Kd.R_new' (Kd.R_new' (Kd.R_new' ho0 (Kd.R_lt (by (with_reducible repeat (first | apply Kd.R_alloc | apply Kd.R_drewN | apply Kd.R_drew)); exact HO127.out))) (Kd.R_lt (by (with_reducible repeat (first | apply Kd.R_alloc | apply Kd.R_drewN | apply Kd.R_drew)); exact HO133.out))) (Kd.R_lt (by (with_reducible repeat (first | apply Kd.R_alloc | apply Kd.R_drewN | apply Kd.R_drew)); exact HO139.out))) (Kd.R_lt (by (with_reducible repeat (first | apply Kd.R_alloc | apply Kd.R_drewN | apply Kd.R_drew)); exact HO145.out))) (below_size (by repeat (first | (with_reducible first | exact HB.out | apply below_alloc | apply pw_below_drewN | apply below_drew1) | exact HB.out)))); have n5_ := Aside0.mk (below_step (by repeat (first | (with_reducible first | exact HB.out | apply below_alloc | apply pw_below_drewN | apply below_drew1) | exact HB.out)) hb); clear HO127; clear HO133; clear HO139; clear HO145; clear HB; have HO127 := n0_; have HO133 := n1_; have HO139 := n2_; have HO145 := n3_; have HO150 := n4_; have HB := n5_; clear n0_ n1_ n2_ n3_ n4_ n5_; (try clear hb); (try clear hb2); (try clear hk); (try clear hi); (try clear ho0); obtain ⟨Ao35, co35, eo35⟩ := Kd.R_slice HO150.out; subst eo35) | (go_at_call 15; (with_reducible refine (usage_CleanOnes.calls k _ _ t148 t151 _ ?side1 ?side2 A21.out).mono ?_); (case side1 => repeat (first | exact (Kd.R_reads' HO150.out).2.2 | (with_reducible refine Kd.C_alloc ?_ _) | (with_reducible refine Kd.C_drewN ?_ _) | (with_reducible refine Kd.C_drew ?_))); (case side2 => exact (Kd.R_reads' HO150.out).2.1); rintro e w36 ⟨rfl, hb⟩; have n0_ := Aside0.mk (Kd.R_below (by (with_reducible repeat (first | apply Kd.R_alloc | apply Kd.R_drewN | apply Kd.R_drew)); exact HO127.out) hb); have n1_ := Aside0.mk (Kd.R_below (by (with_reducible repeat (first | apply Kd.R_alloc | apply Kd.R_drewN | apply Kd.R_drew)); exact HO133.out) hb); have n2_ := Aside0.mk (Kd.R_below (by (with_reducible repeat (first | apply Kd.R_alloc | apply Kd.R_drewN | apply Kd.R_drew)); exact HO139.out) hb); have n3_ := Aside0.mk (Kd.R_below (by (with_reducible repeat (first | apply Kd.R_alloc | apply Kd.R_drewN | apply Kd.R_drew)); exact HO145.out) hb); have n4_ := Aside0.mk (Kd.R_below (by (with_reducible repeat (first | apply Kd.R_alloc | apply Kd.R_drewN | apply Kd.R_drew)); exact HO150.out) hb); have n5_ := Aside0.mk (below_step (by repeat (first | (with_reducible first | exact HB.out | apply below_alloc | apply pw_below_drewN | apply below_drew1) | exact HB.out)) hb); clear HO127; clear HO133; clear HO139; clear HO145; clear HO150; clear HB; have HO127 := n0_; have HO133 := n1_; have HO139 := n2_; have HO145 := n3_; have HO150 := n4_; have HB := n5_; clear n0_ n1_ n2_ n3_ n4_ n5_; (try clear hb); (try clear hb2); (try clear hk); (try clear hi)))
                        go_ret
                        exact ⟨by first | rfl | (simp [errW_none, errW_some] <;> rfl) | (simp [*, errW_none, errW_some] <;> rfl) | (simp [show IntKind.u64.wrap 0 = 0 from rfl, Int.zero_tdiv]; done), by repeat (first | (with_reducible first | exact HB.out | apply below_alloc | apply pw_below_drewN | apply below_drew1) | exact HB.out)⟩
                      · replace c19 := Bool.eq_false_iff.mpr c19
                        subst c19
                        have H1 : (none) = some r := by rw [if_neg (show ¬ (false = true) by decide)] at H; exact H
                        clear H
                        have H := H1
                        clear H1
                        exact absurd H (by simp)
                    · rw [if_neg c18] at H
                      exact absurd H (by simp)
                  · rw [if_neg c17] at H
                    exact absurd H (by simp)
                · rw [if_neg c16] at H
                  exact absurd H (by simp)
              · rw [if_neg c15] at H
                exact absurd H (by simp)
            · replace c14 := Bool.eq_false_iff.mpr c14
              subst c14
              have H1 : (none) = some r := by rw [if_neg (show ¬ (false = true) by decide)] at H; exact H
              clear H
              have H := H1
              clear H1
              exact absurd H (by simp)
          · replace c13 := Bool.eq_false_iff.mpr c13
            subst c13
            have H1 : (none) = some r := by rw [if_neg (show ¬ (false = true) by decide)] at H; exact H
            clear H
            have H := H1
            clear H1
            exact absurd H (by simp)
        · replace c12 := Bool.eq_false_iff.mpr c12
          subst c12
          have H1 : (none) = some r := by rw [if_neg (show ¬ (false = true) by decide)] at H; exact H
          clear H
          have H := H1
          clear H1
          exact absurd H (by simp)
      · rw [if_neg c11] at H
        exact absurd H (by simp)
    · rw [if_neg c10] at H
      exact absurd H (by simp)
  · rw [if_neg c9] at H
    exact absurd H (by simp)

end Go.Proofs.Ytklhmhliencgeaa.Q
