/- Functions of the translation as plain Lean functions, and that the translation computes them: printed by this session's driver of the print. -/
import Derived.Test.YtigpedehlpdagaaQ0
import Derived.Test.YtigpedehlpdagaaQ1
namespace Go.Proofs.Ytigpedehlpdagaa.Q
open Go.Proofs.Ytigpedehlpdagaa.H
open Go.RowKit Go.Proofs.YtigpedehlpdagaaW.PrintWords Go.Proofs.YtigpedehlpdagaaW.PrintLast Go.Proofs.YtigpedehlpdagaaW.PrintMore
attribute [local go_sem] max2_int min2_int max_two min_two max_three min_three max_four min_four   -- for this text's walks alone
set_option linter.unusedVariables false
set_option linter.unusedSimpArgs false

/-! ### nautiluslaw01_NumBares: function 9 -/
def nautiluslaw01_NumBares.j0 : Nat → ByteArray → ByteArray → Bool → Bool → Option (Bool)
  | 0, _, _, _, _ => none
  | k + 1, x0, x1, x7, x56 => if x56 = true then (some false) else (if x7 = true then (if x0.size + x1.size ≤ 9223372036854775807 then ((num_Bare.f (x0 ++ x1) 0).bind fun t180 => ((num_Bare.f x0 0).bind fun t181 => (if t181 = true then ((num_Bare.f x1 0).bind fun t182 => (if (t180 == t182) = true then ((num_Bare.f x0 (x0.size : Int)).bind fun t183 => (some t183)) else (some false))) else (if (t180 == false) = true then ((num_Bare.f x0 (x0.size : Int)).bind fun t184 => (some t184)) else (some false))))) else (none)) else (some false))
def nautiluslaw01_NumBares.f (k : Nat) (a0 : ByteArray) (a1 : ByteArray) (a2 : Int) : Option (Bool) := (nautiluslaw01_shown.f).bind fun t174 => ((num_Fit.f a0 a2).bind fun bt175 => ((num_Fit.f bt175.1 a2).bind fun bt177 => (if bt175.2 = 0 then (if bt177.2 = 0 then (if bt177.1.toList = bt175.1.toList then (if (bt175.1.size : Int) = a2 then ((num_Bare.f bt175.1 (a0.size : Int)).bind fun t179 => (if t179 = true then (if 0 ≤ (a0.size : Int) then (if (a0.size : Int) ≤ (bt175.1.size : Int) then (nautiluslaw01_NumBares.j0 k a0 a1 t174 ((bt175.1.extract 0 ((a0.size : Int) : Int).toNat).toList != a0.toList)) else (none)) else (none)) else (nautiluslaw01_NumBares.j0 k a0 a1 t174 true))) else (nautiluslaw01_NumBares.j0 k a0 a1 t174 true)) else (nautiluslaw01_NumBares.j0 k a0 a1 t174 true)) else (nautiluslaw01_NumBares.j0 k a0 a1 t174 true)) else (nautiluslaw01_NumBares.j0 k a0 a1 t174 false))))
theorem nautiluslaw01_NumBares.mono_l : ∀ k, (∀ y0 y1 y2 y3, LeO (nautiluslaw01_NumBares.j0 k y0 y1 y2 y3) (nautiluslaw01_NumBares.j0 (k + 1) y0 y1 y2 y3))
  | 0 => fun _ _ _ _ r h => by simp [nautiluslaw01_NumBares.j0] at h
  | k + 1 => by
    have ih0 := nautiluslaw01_NumBares.mono_l k
    · intro y0 y1 y2 y3
      unfold nautiluslaw01_NumBares.j0
      repeat' first
      | (with_reducible exact ih0 _ _ _ _)
      | (with_reducible exact LeO.refl _)
      | (with_reducible exact LeO.none _)
      | (with_reducible refine LeO.ite ?_ ?_)
      | (with_reducible refine LeO.bind ?_ (fun _ => ?_))
      | exact ih0 _ _ _ _
      | exact LeO.none _
      | refine LeO.ite ?_ ?_
      | refine LeO.bind ?_ (fun _ => ?_)
theorem nautiluslaw01_NumBares.mono : ∀ a0 a1 a2 k, LeO (nautiluslaw01_NumBares.f k a0 a1 a2) (nautiluslaw01_NumBares.f (k + 1) a0 a1 a2) := by
  intro a0 a1 a2 k
  have ih0 := nautiluslaw01_NumBares.mono_l k
  unfold nautiluslaw01_NumBares.f
  repeat' first
      | (with_reducible exact ih0 _ _ _ _)
      | (with_reducible exact LeO.refl _)
      | (with_reducible exact LeO.none _)
      | (with_reducible refine LeO.ite ?_ ?_)
      | (with_reducible refine LeO.bind ?_ (fun _ => ?_))
      | exact ih0 _ _ _ _
      | exact LeO.none _
      | refine LeO.ite ?_ ?_
      | refine LeO.bind ?_ (fun _ => ?_)
set_option maxHeartbeats 8000000 in
set_option maxRecDepth 100000 in
theorem nautiluslaw01_NumBares.calls (k : Nat) (a0 : ByteArray) (a1 : ByteArray) (a2 : Int) (r : Bool) (w : World) (h : nautiluslaw01_NumBares.f k a0 a1 a2 = some r) :
    Calls Try.prog 9 #[.string a0, .string a1, .int .i64 a2] w fun e w' => e = .returned (.bool r) ∧ Below w.heap.size w w' := by
  have HB := Aside0.mk (Below.refl w.heap.size w)
  have H : ((nautiluslaw01_shown.f).bind fun t174 => ((num_Fit.f a0 a2).bind fun bt175 => ((num_Fit.f bt175.1 a2).bind fun bt177 => (if bt175.2 = 0 then (if bt177.2 = 0 then (if bt177.1.toList = bt175.1.toList then (if (bt175.1.size : Int) = a2 then ((num_Bare.f bt175.1 (a0.size : Int)).bind fun t179 => (if t179 = true then (if 0 ≤ (a0.size : Int) then (if (a0.size : Int) ≤ (bt175.1.size : Int) then (nautiluslaw01_NumBares.j0 k a0 a1 t174 ((bt175.1.extract 0 ((a0.size : Int) : Int).toNat).toList != a0.toList)) else (none)) else (none)) else (nautiluslaw01_NumBares.j0 k a0 a1 t174 true))) else (nautiluslaw01_NumBares.j0 k a0 a1 t174 true)) else (nautiluslaw01_NumBares.j0 k a0 a1 t174 true)) else (nautiluslaw01_NumBares.j0 k a0 a1 t174 true)) else (nautiluslaw01_NumBares.j0 k a0 a1 t174 false))))) = some r := h
  clear h
  replace H := Option.bind_eq_some_iff.mp H
  obtain ⟨t174, A40, H⟩ := H
  replace H : ((num_Fit.f a0 a2).bind fun bt175 => ((num_Fit.f bt175.1 a2).bind fun bt177 => (if bt175.2 = 0 then (if bt177.2 = 0 then (if bt177.1.toList = bt175.1.toList then (if (bt175.1.size : Int) = a2 then ((num_Bare.f bt175.1 (a0.size : Int)).bind fun t179 => (if t179 = true then (if 0 ≤ (a0.size : Int) then (if (a0.size : Int) ≤ (bt175.1.size : Int) then (nautiluslaw01_NumBares.j0 k a0 a1 t174 ((bt175.1.extract 0 ((a0.size : Int) : Int).toNat).toList != a0.toList)) else (none)) else (none)) else (nautiluslaw01_NumBares.j0 k a0 a1 t174 true))) else (nautiluslaw01_NumBares.j0 k a0 a1 t174 true)) else (nautiluslaw01_NumBares.j0 k a0 a1 t174 true)) else (nautiluslaw01_NumBares.j0 k a0 a1 t174 true)) else (nautiluslaw01_NumBares.j0 k a0 a1 t174 false)))) = some r := H
  have A4 := Aside0.mk A40
  clear A40
  replace H := Option.bind_eq_some_iff.mp H
  obtain ⟨⟨t175, t176⟩, A50, H⟩ := H
  replace H : ((num_Fit.f t175 a2).bind fun bt177 => (if t176 = 0 then (if bt177.2 = 0 then (if bt177.1.toList = t175.toList then (if (t175.size : Int) = a2 then ((num_Bare.f t175 (a0.size : Int)).bind fun t179 => (if t179 = true then (if 0 ≤ (a0.size : Int) then (if (a0.size : Int) ≤ (t175.size : Int) then (nautiluslaw01_NumBares.j0 k a0 a1 t174 ((t175.extract 0 ((a0.size : Int) : Int).toNat).toList != a0.toList)) else (none)) else (none)) else (nautiluslaw01_NumBares.j0 k a0 a1 t174 true))) else (nautiluslaw01_NumBares.j0 k a0 a1 t174 true)) else (nautiluslaw01_NumBares.j0 k a0 a1 t174 true)) else (nautiluslaw01_NumBares.j0 k a0 a1 t174 true)) else (nautiluslaw01_NumBares.j0 k a0 a1 t174 false))) = some r := H
  have A5 := Aside0.mk A50
  clear A50
  replace H := Option.bind_eq_some_iff.mp H
  obtain ⟨⟨t177, t178⟩, A60, H⟩ := H
  replace H : (if t176 = 0 then (if t178 = 0 then (if t177.toList = t175.toList then (if (t175.size : Int) = a2 then ((num_Bare.f t175 (a0.size : Int)).bind fun t179 => (if t179 = true then (if 0 ≤ (a0.size : Int) then (if (a0.size : Int) ≤ (t175.size : Int) then (nautiluslaw01_NumBares.j0 k a0 a1 t174 ((t175.extract 0 ((a0.size : Int) : Int).toNat).toList != a0.toList)) else (none)) else (none)) else (nautiluslaw01_NumBares.j0 k a0 a1 t174 true))) else (nautiluslaw01_NumBares.j0 k a0 a1 t174 true)) else (nautiluslaw01_NumBares.j0 k a0 a1 t174 true)) else (nautiluslaw01_NumBares.j0 k a0 a1 t174 true)) else (nautiluslaw01_NumBares.j0 k a0 a1 t174 false)) = some r := H
  have A6 := Aside0.mk A60
  clear A60
  have HC7 := Aside0.mk H
  clear H
  go_enter Try.func9, Try.ntmps9
  go_upto_region 4 with (first | ((with_reducible refine gate_callee (f := 10) rfl ?_); refine goesL_ (some 12) rfl rfl Try.func10 (by kernel_rfl) rfl #[] rfl (by (try simp only [List.map_toArray, List.map_cons, List.map_nil]); first | done | rfl | (simp only [List.length_drop, List.length_take]; rfl)) ?_; (with_reducible refine (nautiluslaw01_shown.calls  t174 _ A4.out).mono ?_); rintro e w8 ⟨rfl, hb⟩; refine ⟨_, rfl, ?_⟩; have n0_ := Aside0.mk (below_step (by repeat (first | (with_reducible first | exact HB.out | apply below_alloc | apply pw_below_drewN | apply below_drew1) | exact HB.out)) hb); clear HB; have HB := n0_; clear n0_; (try clear hb); (try clear hb2); (try clear hk); (try clear hi)) | ((with_reducible refine gate_callee (f := 19) rfl ?_); refine goesL_ (some 16) rfl rfl Try.func19 (by kernel_rfl) rfl #[.string a0, .int .i64 a2] rfl (by (try simp only [List.map_toArray, List.map_cons, List.map_nil]); first | done | rfl | (simp only [List.length_drop, List.length_take]; rfl)) ?_; (with_reducible refine (num_Fit.calls a0 a2 t175 t176 _ A5.out).mono ?_); rintro e w9 ⟨rfl, hb⟩; refine ⟨_, rfl, ?_⟩; have n0_ := Aside0.mk (below_step (by repeat (first | (with_reducible first | exact HB.out | apply below_alloc | apply pw_below_drewN | apply below_drew1) | exact HB.out)) hb); clear HB; have HB := n0_; clear n0_; (try clear hb); (try clear hb2); (try clear hk); (try clear hi)) | ((with_reducible refine gate_callee (f := 19) rfl ?_); refine goesL_ (some 22) rfl rfl Try.func19 (by kernel_rfl) rfl #[.string t175, .int .i64 a2] rfl (by (try simp only [List.map_toArray, List.map_cons, List.map_nil]); first | done | rfl | (simp only [List.length_drop, List.length_take]; rfl)) ?_; (with_reducible refine (num_Fit.calls t175 a2 t177 t178 _ A6.out).mono ?_); rintro e w10 ⟨rfl, hb⟩; refine ⟨_, rfl, ?_⟩; have n0_ := Aside0.mk (below_step (by repeat (first | (with_reducible first | exact HB.out | apply below_alloc | apply pw_below_drewN | apply below_drew1) | exact HB.out)) hb); clear HB; have HB := n0_; clear n0_; (try clear hb); (try clear hb2); (try clear hk); (try clear hi)))
  (try simp only [Act.put, List.setIfInBounds_toArray, List.set_cons_zero, List.set_cons_succ])
  go_cut [56] (fun v56 wc => ∃ (kq : Nat) (x56_6 : Bool), v56 = .bool x56_6 ∧ Aside0 (nautiluslaw01_NumBares.j0 kq a0 a1 t174 x56_6 = some r) ∧ Aside0 (kq ≤ k) ∧ Aside0 (Below w.heap.size w wc))
  case first =>
    have H := HC7.out
    clear HC7
    by_cases c11 : t176 = 0
    · rw [if_pos c11] at H
      have c11b0 : (t176 == 0) = true := beq_iff_eq.mpr c11
      have c11b1 : (t176 != 0) = false := bne_eq_false_iff_eq.mpr c11
      clear c11
      (first | rw [c11b0] | (simp only [i64_w, i32_w]; rw [c11b0]) | skip)
      by_cases c12 : t178 = 0
      · rw [if_pos c12] at H
        have c12b0 : (t178 == 0) = true := beq_iff_eq.mpr c12
        have c12b1 : (t178 != 0) = false := bne_eq_false_iff_eq.mpr c12
        clear c12
        by_cases c13 : t177.toList = t175.toList
        · rw [if_pos c13] at H
          have c13b0 : (t177.toList == t175.toList) = true := beq_iff_eq.mpr c13
          have c13b1 : (t177.toList != t175.toList) = false := bne_eq_false_iff_eq.mpr c13
          clear c13
          by_cases c14 : (t175.size : Int) = a2
          · rw [if_pos c14] at H
            have c14b0 : ((t175.size : Int) == a2) = true := beq_iff_eq.mpr c14
            have c14b1 : ((t175.size : Int) != a2) = false := bne_eq_false_iff_eq.mpr c14
            clear c14
            replace H := Option.bind_eq_some_iff.mp H
            obtain ⟨t179, A150, H⟩ := H
            replace H : (if t179 = true then (if 0 ≤ (a0.size : Int) then (if (a0.size : Int) ≤ (t175.size : Int) then (nautiluslaw01_NumBares.j0 k a0 a1 t174 ((t175.extract 0 ((a0.size : Int) : Int).toNat).toList != a0.toList)) else (none)) else (none)) else (nautiluslaw01_NumBares.j0 k a0 a1 t174 true)) = some r := H
            have A15 := Aside0.mk A150
            clear A150
            by_cases c16 : t179 = true
            · subst c16
              have H1 : (if 0 ≤ (a0.size : Int) then (if (a0.size : Int) ≤ (t175.size : Int) then (nautiluslaw01_NumBares.j0 k a0 a1 t174 ((t175.extract 0 ((a0.size : Int) : Int).toNat).toList != a0.toList)) else (none)) else (none)) = some r := by rw [if_pos rfl] at H; exact H
              clear H
              have H := H1
              clear H1
              by_cases c17 : 0 ≤ (a0.size : Int)
              · rw [if_pos c17] at H
                have c17b0 := eq_true c17
                have c17b1 : decide (0 ≤ (a0.size : Int)) = true := decide_eq_true c17
                clear c17
                by_cases c18 : (a0.size : Int) ≤ (t175.size : Int)
                · rw [if_pos c18] at H
                  have c18b0 := eq_true c18
                  have c18b1 : decide ((a0.size : Int) ≤ (t175.size : Int)) = true := decide_eq_true c18
                  clear c18
                  have H' := Aside0.mk H
                  clear H
                  go_wp2_with (first | (go_at_call 21; (with_reducible refine (num_Bare.calls t175 (a0.size : Int) true _ A15.out).mono ?_); rintro e w19 ⟨rfl, hb⟩; have n0_ := Aside0.mk (below_step (by repeat (first | (with_reducible first | exact HB.out | apply below_alloc | apply pw_below_drewN | apply below_drew1) | exact HB.out)) hb); clear HB; have HB := n0_; clear n0_; (try clear hb); (try clear hb2); (try clear hk); (try clear hi)))
                  go_meet
                  case rel => exact ⟨_, (((t175.extract 0 ((a0.size : Int) : Int).toNat).toList != a0.toList)), (by first | rfl | (simp; done) | (simp [*]; done)), H', ⟨by first | omega | exact Nat.le_refl _⟩, ⟨by repeat (first | (with_reducible first | exact HB.out | apply below_alloc | apply pw_below_drewN | apply below_drew1) | exact HB.out)⟩⟩
                · rw [if_neg c18] at H
                  exact absurd H (by simp)
              · rw [if_neg c17] at H
                exact absurd H (by simp)
            · replace c16 := Bool.eq_false_iff.mpr c16
              subst c16
              have H1 : (nautiluslaw01_NumBares.j0 k a0 a1 t174 true) = some r := by rw [if_neg (show ¬ (false = true) by decide)] at H; exact H
              clear H
              have H := H1
              clear H1
              have H' := Aside0.mk H
              clear H
              go_wp2_with (first | (go_at_call 21; (with_reducible refine (num_Bare.calls t175 (a0.size : Int) false _ A15.out).mono ?_); rintro e w20 ⟨rfl, hb⟩; have n0_ := Aside0.mk (below_step (by repeat (first | (with_reducible first | exact HB.out | apply below_alloc | apply pw_below_drewN | apply below_drew1) | exact HB.out)) hb); clear HB; have HB := n0_; clear n0_; (try clear hb); (try clear hb2); (try clear hk); (try clear hi)))
              go_meet
              case rel => exact ⟨_, (true), (by first | rfl | (simp; done) | (simp [*]; done)), H', ⟨by first | omega | exact Nat.le_refl _⟩, ⟨by repeat (first | (with_reducible first | exact HB.out | apply below_alloc | apply pw_below_drewN | apply below_drew1) | exact HB.out)⟩⟩
          · rw [if_neg c14] at H
            have c14b0 : ((t175.size : Int) == a2) = false := beq_eq_false_iff_ne.mpr c14
            have c14b1 : ((t175.size : Int) != a2) = true := bne_iff_ne.mpr c14
            have H' := Aside0.mk H
            clear H
            go_wp2
            go_meet
            case rel => exact ⟨_, (true), (by first | rfl | (simp; done) | (simp [*]; done)), H', ⟨by first | omega | exact Nat.le_refl _⟩, ⟨by repeat (first | (with_reducible first | exact HB.out | apply below_alloc | apply pw_below_drewN | apply below_drew1) | exact HB.out)⟩⟩
        · rw [if_neg c13] at H
          have c13b0 : (t177.toList == t175.toList) = false := beq_eq_false_iff_ne.mpr c13
          have c13b1 : (t177.toList != t175.toList) = true := bne_iff_ne.mpr c13
          have H' := Aside0.mk H
          clear H
          go_wp2
          go_meet
          case rel => exact ⟨_, (true), (by first | rfl | (simp; done) | (simp [*]; done)), H', ⟨by first | omega | exact Nat.le_refl _⟩, ⟨by repeat (first | (with_reducible first | exact HB.out | apply below_alloc | apply pw_below_drewN | apply below_drew1) | exact HB.out)⟩⟩
      · rw [if_neg c12] at H
        have c12b0 : (t178 == 0) = false := beq_eq_false_iff_ne.mpr c12
        have c12b1 : (t178 != 0) = true := bne_iff_ne.mpr c12
        have H' := Aside0.mk H
        clear H
        go_wp2
        go_meet
        case rel => exact ⟨_, (true), (by first | rfl | (simp; done) | (simp [*]; done)), H', ⟨by first | omega | exact Nat.le_refl _⟩, ⟨by repeat (first | (with_reducible first | exact HB.out | apply below_alloc | apply pw_below_drewN | apply below_drew1) | exact HB.out)⟩⟩
    · rw [if_neg c11] at H
      have c11b0 : (t176 == 0) = false := beq_eq_false_iff_ne.mpr c11
      have c11b1 : (t176 != 0) = true := bne_iff_ne.mpr c11
      (first | rw [c11b0] | (simp only [i64_w, i32_w]; rw [c11b0]) | skip)
      have H' := Aside0.mk H
      clear H
      go_wp2
      go_meet
      case rel => exact ⟨_, (false), (by first | rfl | (simp; done) | (simp [*]; done)), H', ⟨by first | omega | exact Nat.le_refl _⟩, ⟨by repeat (first | (with_reducible first | exact HB.out | apply below_alloc | apply pw_below_drewN | apply below_drew1) | exact HB.out)⟩⟩
  case rest =>
    clear HC7
    try clear c1
    try clear p2
    try clear c9
    try clear c10
    try clear c11
    try clear c11b0
    try clear c11b1
    try clear c12
    try clear c12b0
    try clear c12b1
    try clear c13
    try clear c13b0
    try clear c13b1
    try clear c14
    try clear c14b0
    try clear c14b1
    try clear c16
    try clear c17
    try clear c17b0
    try clear c17b1
    try clear c18
    try clear c18b0
    try clear c18b1
    try clear c19
    obtain ⟨kq, x56_6, rfl, HA, HJ6, HB⟩ := hcut
    cases kq with
    | zero => exact absurd HA.out (by simp [nautiluslaw01_NumBares.j0])
    | succ kj6 =>
      have H := HA.out
      clear HA
      simp only [nautiluslaw01_NumBares.j0] at H
      by_cases c21 : x56_6 = true
      · subst c21
        have H1 : (some false) = some r := by rw [if_pos rfl] at H; exact H
        clear H
        have H := H1
        clear H1
        obtain rfl := Option.some.inj H
        go_wp2
        go_ret
        exact ⟨by first | rfl | (simp [errW_none, errW_some] <;> rfl) | (simp [*, errW_none, errW_some] <;> rfl), by repeat (first | (with_reducible first | exact HB.out | apply below_alloc | apply pw_below_drewN | apply below_drew1) | exact HB.out)⟩
      · replace c21 := Bool.eq_false_iff.mpr c21
        subst c21
        have H1 : (if t174 = true then (if a0.size + a1.size ≤ 9223372036854775807 then ((num_Bare.f (a0 ++ a1) 0).bind fun t180 => ((num_Bare.f a0 0).bind fun t181 => (if t181 = true then ((num_Bare.f a1 0).bind fun t182 => (if (t180 == t182) = true then ((num_Bare.f a0 (a0.size : Int)).bind fun t183 => (some t183)) else (some false))) else (if (t180 == false) = true then ((num_Bare.f a0 (a0.size : Int)).bind fun t184 => (some t184)) else (some false))))) else (none)) else (some false)) = some r := by rw [if_neg (show ¬ (false = true) by decide)] at H; exact H
        clear H
        have H := H1
        clear H1
        by_cases c22 : t174 = true
        · subst c22
          have H1 : (if a0.size + a1.size ≤ 9223372036854775807 then ((num_Bare.f (a0 ++ a1) 0).bind fun t180 => ((num_Bare.f a0 0).bind fun t181 => (if t181 = true then ((num_Bare.f a1 0).bind fun t182 => (if (t180 == t182) = true then ((num_Bare.f a0 (a0.size : Int)).bind fun t183 => (some t183)) else (some false))) else (if (t180 == false) = true then ((num_Bare.f a0 (a0.size : Int)).bind fun t184 => (some t184)) else (some false))))) else (none)) = some r := by rw [if_pos rfl] at H; exact H
          clear H
          have H := H1
          clear H1
          by_cases c23 : a0.size + a1.size ≤ 9223372036854775807
          · rw [if_pos c23] at H
            have c23b0 := eq_true c23
            have c23b1 : decide (a0.size + a1.size ≤ 9223372036854775807) = true := decide_eq_true c23
            try have c23b2 : (9223372036854775807 < a0.size + a1.size) = False := eq_false (Nat.not_lt.2 c23)
            replace H := Option.bind_eq_some_iff.mp H
            obtain ⟨t180, A240, H⟩ := H
            replace H : ((num_Bare.f a0 0).bind fun t181 => (if t181 = true then ((num_Bare.f a1 0).bind fun t182 => (if (t180 == t182) = true then ((num_Bare.f a0 (a0.size : Int)).bind fun t183 => (some t183)) else (some false))) else (if (t180 == false) = true then ((num_Bare.f a0 (a0.size : Int)).bind fun t184 => (some t184)) else (some false)))) = some r := H
            have A24 := Aside0.mk A240
            clear A240
            replace H := Option.bind_eq_some_iff.mp H
            obtain ⟨t181, A250, H⟩ := H
            replace H : (if t181 = true then ((num_Bare.f a1 0).bind fun t182 => (if (t180 == t182) = true then ((num_Bare.f a0 (a0.size : Int)).bind fun t183 => (some t183)) else (some false))) else (if (t180 == false) = true then ((num_Bare.f a0 (a0.size : Int)).bind fun t184 => (some t184)) else (some false))) = some r := H
            have A25 := Aside0.mk A250
            clear A250
            by_cases c26 : t181 = true
            · subst c26
              have H1 : ((num_Bare.f a1 0).bind fun t182 => (if (t180 == t182) = true then ((num_Bare.f a0 (a0.size : Int)).bind fun t183 => (some t183)) else (some false))) = some r := by rw [if_pos rfl] at H; exact H
              clear H
              have H := H1
              clear H1
              replace H := Option.bind_eq_some_iff.mp H
              obtain ⟨t182, A270, H⟩ := H
              replace H : (if (t180 == t182) = true then ((num_Bare.f a0 (a0.size : Int)).bind fun t183 => (some t183)) else (some false)) = some r := H
              have A27 := Aside0.mk A270
              clear A270
              by_cases c28 : (t180 == t182) = true
              · rw [if_pos c28] at H
                have c28b0 : (t180 == t182) = true := c28
                (try (have c28b1 : decide (t180 = t182) = true := by simpa using c28))
                (try (have c28b2 : (t180 == t182) = true := by simpa using c28))
                clear c28
                replace H := Option.bind_eq_some_iff.mp H
                obtain ⟨t183, A290, H⟩ := H
                replace H : (some t183) = some r := H
                have A29 := Aside0.mk A290
                clear A290
                obtain rfl := Option.some.inj H
                go_wp2_with (first | (go_at_call 21; (with_reducible refine (num_Bare.calls (a0 ++ a1) 0 t180 _ A24.out).mono ?_); rintro e w30 ⟨rfl, hb⟩; have n0_ := Aside0.mk (below_step (by repeat (first | (with_reducible first | exact HB.out | apply below_alloc | apply pw_below_drewN | apply below_drew1) | exact HB.out)) hb); clear HB; have HB := n0_; clear n0_; (try clear hb); (try clear hb2); (try clear hk); (try clear hi)) | (go_at_call 21; (with_reducible refine (num_Bare.calls a0 0 true _ A25.out).mono ?_); rintro e w31 ⟨rfl, hb⟩; have n0_ := Aside0.mk (below_step (by repeat (first | (with_reducible first | exact HB.out | apply below_alloc | apply pw_below_drewN | apply below_drew1) | exact HB.out)) hb); clear HB; have HB := n0_; clear n0_; (try clear hb); (try clear hb2); (try clear hk); (try clear hi)) | (go_at_call 21; (with_reducible refine (num_Bare.calls a1 0 t182 _ A27.out).mono ?_); rintro e w32 ⟨rfl, hb⟩; have n0_ := Aside0.mk (below_step (by repeat (first | (with_reducible first | exact HB.out | apply below_alloc | apply pw_below_drewN | apply below_drew1) | exact HB.out)) hb); clear HB; have HB := n0_; clear n0_; (try clear hb); (try clear hb2); (try clear hk); (try clear hi)) | (go_at_call 21; (with_reducible refine (num_Bare.calls a0 (a0.size : Int) t183 _ A29.out).mono ?_); rintro e w33 ⟨rfl, hb⟩; have n0_ := Aside0.mk (below_step (by repeat (first | (with_reducible first | exact HB.out | apply below_alloc | apply pw_below_drewN | apply below_drew1) | exact HB.out)) hb); clear HB; have HB := n0_; clear n0_; (try clear hb); (try clear hb2); (try clear hk); (try clear hi)))
                go_ret
                exact ⟨by first | rfl | (simp [errW_none, errW_some] <;> rfl) | (simp [*, errW_none, errW_some] <;> rfl), by repeat (first | (with_reducible first | exact HB.out | apply below_alloc | apply pw_below_drewN | apply below_drew1) | exact HB.out)⟩
              · rw [if_neg c28] at H
                have c28b0 : (t180 == t182) = false := by simpa using c28
                (try (have c28b1 : decide (t180 = t182) = false := by simpa using c28))
                (try (have c28b2 : (t180 == t182) = false := by simpa using c28))
                (try (have c28b3 : ¬ (t180 = t182) := by simpa using c28))
                clear c28
                obtain rfl := Option.some.inj H
                go_wp2_with (first | (go_at_call 21; (with_reducible refine (num_Bare.calls (a0 ++ a1) 0 t180 _ A24.out).mono ?_); rintro e w34 ⟨rfl, hb⟩; have n0_ := Aside0.mk (below_step (by repeat (first | (with_reducible first | exact HB.out | apply below_alloc | apply pw_below_drewN | apply below_drew1) | exact HB.out)) hb); clear HB; have HB := n0_; clear n0_; (try clear hb); (try clear hb2); (try clear hk); (try clear hi)) | (go_at_call 21; (with_reducible refine (num_Bare.calls a0 0 true _ A25.out).mono ?_); rintro e w35 ⟨rfl, hb⟩; have n0_ := Aside0.mk (below_step (by repeat (first | (with_reducible first | exact HB.out | apply below_alloc | apply pw_below_drewN | apply below_drew1) | exact HB.out)) hb); clear HB; have HB := n0_; clear n0_; (try clear hb); (try clear hb2); (try clear hk); (try clear hi)) | (go_at_call 21; (with_reducible refine (num_Bare.calls a1 0 t182 _ A27.out).mono ?_); rintro e w36 ⟨rfl, hb⟩; have n0_ := Aside0.mk (below_step (by repeat (first | (with_reducible first | exact HB.out | apply below_alloc | apply pw_below_drewN | apply below_drew1) | exact HB.out)) hb); clear HB; have HB := n0_; clear n0_; (try clear hb); (try clear hb2); (try clear hk); (try clear hi)))
                go_ret
                exact ⟨by first | rfl | (simp [errW_none, errW_some] <;> rfl) | (simp [*, errW_none, errW_some] <;> rfl), by repeat (first | (with_reducible first | exact HB.out | apply below_alloc | apply pw_below_drewN | apply below_drew1) | exact HB.out)⟩
            · replace c26 := Bool.eq_false_iff.mpr c26
              subst c26
              have H1 : (if (t180 == false) = true then ((num_Bare.f a0 (a0.size : Int)).bind fun t184 => (some t184)) else (some false)) = some r := by rw [if_neg (show ¬ (false = true) by decide)] at H; exact H
              clear H
              have H := H1
              clear H1
              by_cases c37 : (t180 == false) = true
              · rw [if_pos c37] at H
                have c37b0 : (t180 == false) = true := c37
                (try (have c37b1 : decide (t180 = false) = true := by simpa using c37))
                (try (have c37b2 : (t180 == false) = true := by simpa using c37))
                clear c37
                replace H := Option.bind_eq_some_iff.mp H
                obtain ⟨t184, A380, H⟩ := H
                replace H : (some t184) = some r := H
                have A38 := Aside0.mk A380
                clear A380
                obtain rfl := Option.some.inj H
                go_wp2_with (first | (go_at_call 21; (with_reducible refine (num_Bare.calls (a0 ++ a1) 0 t180 _ A24.out).mono ?_); rintro e w39 ⟨rfl, hb⟩; have n0_ := Aside0.mk (below_step (by repeat (first | (with_reducible first | exact HB.out | apply below_alloc | apply pw_below_drewN | apply below_drew1) | exact HB.out)) hb); clear HB; have HB := n0_; clear n0_; (try clear hb); (try clear hb2); (try clear hk); (try clear hi)) | (go_at_call 21; (with_reducible refine (num_Bare.calls a0 0 false _ A25.out).mono ?_); rintro e w40 ⟨rfl, hb⟩; have n0_ := Aside0.mk (below_step (by repeat (first | (with_reducible first | exact HB.out | apply below_alloc | apply pw_below_drewN | apply below_drew1) | exact HB.out)) hb); clear HB; have HB := n0_; clear n0_; (try clear hb); (try clear hb2); (try clear hk); (try clear hi)) | (go_at_call 21; (with_reducible refine (num_Bare.calls a0 (a0.size : Int) t184 _ A38.out).mono ?_); rintro e w41 ⟨rfl, hb⟩; have n0_ := Aside0.mk (below_step (by repeat (first | (with_reducible first | exact HB.out | apply below_alloc | apply pw_below_drewN | apply below_drew1) | exact HB.out)) hb); clear HB; have HB := n0_; clear n0_; (try clear hb); (try clear hb2); (try clear hk); (try clear hi)))
                go_ret
                exact ⟨by first | rfl | (simp [errW_none, errW_some] <;> rfl) | (simp [*, errW_none, errW_some] <;> rfl), by repeat (first | (with_reducible first | exact HB.out | apply below_alloc | apply pw_below_drewN | apply below_drew1) | exact HB.out)⟩
              · rw [if_neg c37] at H
                have c37b0 : (t180 == false) = false := by simpa using c37
                (try (have c37b1 : decide (t180 = false) = false := by simpa using c37))
                (try (have c37b2 : (t180 == false) = false := by simpa using c37))
                (try (have c37b3 : ¬ (t180 = false) := by simpa using c37))
                clear c37
                obtain rfl := Option.some.inj H
                go_wp2_with (first | (go_at_call 21; (with_reducible refine (num_Bare.calls (a0 ++ a1) 0 t180 _ A24.out).mono ?_); rintro e w42 ⟨rfl, hb⟩; have n0_ := Aside0.mk (below_step (by repeat (first | (with_reducible first | exact HB.out | apply below_alloc | apply pw_below_drewN | apply below_drew1) | exact HB.out)) hb); clear HB; have HB := n0_; clear n0_; (try clear hb); (try clear hb2); (try clear hk); (try clear hi)) | (go_at_call 21; (with_reducible refine (num_Bare.calls a0 0 false _ A25.out).mono ?_); rintro e w43 ⟨rfl, hb⟩; have n0_ := Aside0.mk (below_step (by repeat (first | (with_reducible first | exact HB.out | apply below_alloc | apply pw_below_drewN | apply below_drew1) | exact HB.out)) hb); clear HB; have HB := n0_; clear n0_; (try clear hb); (try clear hb2); (try clear hk); (try clear hi)))
                go_ret
                exact ⟨by first | rfl | (simp [errW_none, errW_some] <;> rfl) | (simp [*, errW_none, errW_some] <;> rfl), by repeat (first | (with_reducible first | exact HB.out | apply below_alloc | apply pw_below_drewN | apply below_drew1) | exact HB.out)⟩
          · rw [if_neg c23] at H
            exact absurd H (by simp)
        · replace c22 := Bool.eq_false_iff.mpr c22
          subst c22
          have H1 : (some false) = some r := by rw [if_neg (show ¬ (false = true) by decide)] at H; exact H
          clear H
          have H := H1
          clear H1
          obtain rfl := Option.some.inj H
          go_wp2
          go_ret
          exact ⟨by first | rfl | (simp [errW_none, errW_some] <;> rfl) | (simp [*, errW_none, errW_some] <;> rfl), by repeat (first | (with_reducible first | exact HB.out | apply below_alloc | apply pw_below_drewN | apply below_drew1) | exact HB.out)⟩

/-- THE ONE PURE STATEMENT of nautiluslaw01_NumBares: yours. -/
def nautiluslaw01_NumBares.Pure : Prop := ∀ (a0 : ByteArray) (a1 : ByteArray) (a2 : Int), a0.size ≤ 140737488351232 → a1.size ≤ 140737488351232 → (Lit.int .i64 a2).wf = true → ∃ k, nautiluslaw01_NumBares.f k a0 a1 a2 = some true
theorem nautiluslaw01_NumBares.walk (P : nautiluslaw01_NumBares.Pure) (a0 : ByteArray) (a1 : ByteArray) (a2 : Int) (w : World) (w0 : a0.size ≤ 140737488351232) (w1 : a1.size ≤ 140737488351232) (w2 : (Lit.int .i64 a2).wf = true) :
    Calls Try.prog 9 #[.string a0, .string a1, .int .i64 a2] w fun e w' => e = .returned (.bool true) ∧ Below w.heap.size w w' := by
  obtain ⟨k, h⟩ := P a0 a1 a2 w0 w1 w2
  refine (nautiluslaw01_NumBares.calls k a0 a1 a2 true w h).mono ?_
  rintro e w' ⟨rfl, hd⟩
  exact ⟨rfl, hd⟩

end Go.Proofs.Ytigpedehlpdagaa.Q
