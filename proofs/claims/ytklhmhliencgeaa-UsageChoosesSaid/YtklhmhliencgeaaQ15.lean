/- Functions of the translation as plain Lean functions, and that the translation computes them: printed by this session's driver of the print. -/
import Derived.Test.YtklhmhliencgeaaQ0
import Derived.Test.YtklhmhliencgeaaQ9
import Derived.Test.YtklhmhliencgeaaQ12
import Derived.Test.YtklhmhliencgeaaHChoose
namespace Go.Proofs.Ytklhmhliencgeaa.Q
open Go.Proofs.Ytklhmhliencgeaa.H
open Go.RowKit Go.Proofs.YtklhmhliencgeaaW.PrintWords Go.Proofs.YtklhmhliencgeaaW.PrintLast Go.Proofs.YtklhmhliencgeaaW.PrintMore
attribute [local go_sem] max2_int min2_int max_two min_two max_three min_three max_four min_four   -- for this text's walks alone
set_option linter.unusedVariables false
set_option linter.unusedSimpArgs false

/-! ### nautiluslaw06_UsageChooses: function 3 -/
def nautiluslaw06_UsageChooses.f (k : Nat) (l0 : List (S30)) (a1 : Int) (a2 : Int) : Option (Bool) := (nautiluslaw06_shown.f k).bind fun t169 => (if 0 ≤ (mn (l0.length : Int) 300) then (if (mn (l0.length : Int) 300) ≤ (l0.length : Int) then ((some (l0.take ((mn (l0.length : Int) 300) : Int).toNat : List (S30))).bind fun y170 => ((usage_Choose.f y170 a1 a2).bind fun bt174 => ((nautilusref06_Choose.f k y170 a1 a2).bind fun bt177 => (if t169 = true then (if bt174.1 = bt177.1 then (if (bt174.2.1 == bt177.2.1) = true then (some (bt174.2.2 == bt177.2.2)) else (some false)) else (some false)) else (some false))))) else (none)) else (none))
theorem nautiluslaw06_UsageChooses.mono : ∀ a0 a1 a2 k, LeO (nautiluslaw06_UsageChooses.f k a0 a1 a2) (nautiluslaw06_UsageChooses.f (k + 1) a0 a1 a2) := by
  intro a0 a1 a2 k
  unfold nautiluslaw06_UsageChooses.f
  repeat' first
      | (with_reducible exact nautiluslaw06_shown.mono _)
      | (with_reducible exact nautilusref06_Choose.mono _ _ _ _)
      | (with_reducible exact LeO.refl _)
      | (with_reducible exact LeO.none _)
      | (with_reducible refine LeO.ite ?_ ?_)
      | (with_reducible refine LeO.bind ?_ (fun _ => ?_))
      | exact nautiluslaw06_shown.mono _
      | exact nautilusref06_Choose.mono _ _ _ _
      | exact LeO.none _
      | refine LeO.ite ?_ ?_
      | refine LeO.bind ?_ (fun _ => ?_)
set_option maxHeartbeats 8000000 in
set_option maxRecDepth 100000 in
theorem nautiluslaw06_UsageChooses.calls (k : Nat) (A0 : Option Addr) (c0 : Nat) (l0 : List (S30)) (a1 : Int) (a2 : Int) (r : Bool) (w : World) (hr0 : Kd.C k30 w A0 l0.length l0) (hc0 : l0.length ≤ c0) (h : nautiluslaw06_UsageChooses.f k l0 a1 a2 = some r) :
    Calls Try.prog 3 #[.slice A0 l0.length c0, .int .i64 a1, .int .u64 a2] w fun e w' => e = .returned (.bool r) ∧ Below w.heap.size w w' := by
  have HR0 := Aside0.mk hr0
  have HC0 := Aside0.mk hc0
  clear hr0 hc0
  have HB := Aside0.mk (Below.refl w.heap.size w)
  have H : ((nautiluslaw06_shown.f k).bind fun t169 => (if 0 ≤ (mn (l0.length : Int) 300) then (if (mn (l0.length : Int) 300) ≤ (l0.length : Int) then ((some (l0.take ((mn (l0.length : Int) 300) : Int).toNat : List (S30))).bind fun y170 => ((usage_Choose.f y170 a1 a2).bind fun bt174 => ((nautilusref06_Choose.f k y170 a1 a2).bind fun bt177 => (if t169 = true then (if bt174.1 = bt177.1 then (if (bt174.2.1 == bt177.2.1) = true then (some (bt174.2.2 == bt177.2.2)) else (some false)) else (some false)) else (some false))))) else (none)) else (none))) = some r := h
  clear h
  replace H := Option.bind_eq_some_iff.mp H
  obtain ⟨t169, A40, H⟩ := H
  replace H : (if 0 ≤ (mn (l0.length : Int) 300) then (if (mn (l0.length : Int) 300) ≤ (l0.length : Int) then ((some (l0.take ((mn (l0.length : Int) 300) : Int).toNat : List (S30))).bind fun y170 => ((usage_Choose.f y170 a1 a2).bind fun bt174 => ((nautilusref06_Choose.f k y170 a1 a2).bind fun bt177 => (if t169 = true then (if bt174.1 = bt177.1 then (if (bt174.2.1 == bt177.2.1) = true then (some (bt174.2.2 == bt177.2.2)) else (some false)) else (some false)) else (some false))))) else (none)) else (none)) = some r := H
  have A4 := Aside0.mk A40
  clear A40
  obtain ⟨ji5, hji5⟩ : ∃ j_ : Int, (mn (l0.length : Int) 300) = j_ := ⟨_, rfl⟩
  replace H : (if 0 ≤ (ji5) then (if (ji5) ≤ (l0.length : Int) then ((some (l0.take ((ji5) : Int).toNat : List (S30))).bind fun y170 => ((usage_Choose.f y170 a1 a2).bind fun bt174 => ((nautilusref06_Choose.f k y170 a1 a2).bind fun bt177 => (if t169 = true then (if bt174.1 = bt177.1 then (if (bt174.2.1 == bt177.2.1) = true then (some (bt174.2.2 == bt177.2.2)) else (some false)) else (some false)) else (some false))))) else (none)) else (none)) = some r := by first | (rw [hji5] at H; exact H) | (simp only [hji5] at H ⊢; exact H)
  (try rw [hji5] at A4)
  (try (have hji5h : ji5 ≤ 300 := by (rw [← hji5]; unfold mn; (repeat' split) <;> omega)))
  (try (have hji5g : ji5 ≤ 64 := by omega))
  (try (have hji5l : 0 ≤ ji5 := by (rw [← hji5]; unfold mn; (repeat' split) <;> omega)))
  (try (have hji5m : 0 ≤ ji5 := by omega))
  have hji5_ : (if 300 < (l0.length : Int) then 300 else (l0.length : Int)) = ji5 := hji5
  by_cases c6 : 0 ≤ (ji5)
  · rw [if_pos c6] at H
    have c6b0 := eq_true c6
    have c6b1 : decide (0 ≤ (ji5)) = true := decide_eq_true c6
    clear c6
    by_cases c7 : (ji5) ≤ (l0.length : Int)
    · rw [if_pos c7] at H
      have c7b0 := eq_true c7
      have c7b1 : decide ((ji5) ≤ (l0.length : Int)) = true := decide_eq_true c7
      clear c7
      obtain ⟨y170, hy170⟩ : ∃ y_ : List (S30), y_ = (l0.take ((ji5) : Int).toNat) := ⟨_, rfl⟩
      replace H : ((usage_Choose.f y170 a1 a2).bind fun bt174 => ((nautilusref06_Choose.f k y170 a1 a2).bind fun bt177 => (if t169 = true then (if bt174.1 = bt177.1 then (if (bt174.2.1 == bt177.2.1) = true then (some (bt174.2.2 == bt177.2.2)) else (some false)) else (some false)) else (some false)))) = some r := by first | (rw [hy170]; with_reducible exact H) | (have H2_ := (Option.bind_some _ _).symm.trans H; rw [hy170]; with_reducible exact H2_) | (have H2_ := (Option.bind_some _ _).symm.trans H; with_reducible exact H2_) | with_reducible exact H | (rw [hy170]; exact H) | exact H
      have Ny170 := Aside0.mk hy170
      clear hy170
      replace H := Option.bind_eq_some_iff.mp H
      obtain ⟨⟨t174, t175, t176⟩, A80, H⟩ := H
      replace H : ((nautilusref06_Choose.f k y170 a1 a2).bind fun bt177 => (if t169 = true then (if t174 = bt177.1 then (if (t175 == bt177.2.1) = true then (some (t176 == bt177.2.2)) else (some false)) else (some false)) else (some false))) = some r := H
      have A8 := Aside0.mk A80
      clear A80
      replace H := Option.bind_eq_some_iff.mp H
      obtain ⟨⟨t177, t178, t179⟩, A90, H⟩ := H
      replace H : (if t169 = true then (if t174 = t177 then (if (t175 == t178) = true then (some (t176 == t179)) else (some false)) else (some false)) else (some false)) = some r := H
      have A9 := Aside0.mk A90
      clear A90
      by_cases c10 : t169 = true
      · subst c10
        have H1 : (if t174 = t177 then (if (t175 == t178) = true then (some (t176 == t179)) else (some false)) else (some false)) = some r := by rw [if_pos rfl] at H; exact H
        clear H
        have H := H1
        clear H1
        by_cases c11 : t174 = t177
        · rw [if_pos c11] at H
          have c11b0 : (t174 == t177) = true := beq_iff_eq.mpr c11
          have c11b1 : (t174 != t177) = false := bne_eq_false_iff_eq.mpr c11
          clear c11
          by_cases c12 : (t175 == t178) = true
          · rw [if_pos c12] at H
            have c12b0 : (t175 == t178) = true := c12
            (try (have c12b1 : decide (t175 = t178) = true := by simpa using c12))
            (try (have c12b2 : (t175 == t178) = true := by simpa using c12))
            clear c12
            obtain rfl := Option.some.inj H
            go_enter Try.func3, Try.ntmps3
            go_wp2_with (first | ((with_reducible refine gate_callee (f := 8) rfl ?_); refine goesL_ (some 14) rfl rfl Try.func8 (by kernel_rfl) rfl #[] rfl (by (try simp only [List.map_toArray, List.map_cons, List.map_nil]); first | done | rfl | (simp only [List.length_drop, List.length_take]; rfl)) ?_; (with_reducible refine (nautiluslaw06_shown.calls k  true _ A4.out).mono ?_); rintro e w13 ⟨rfl, hb⟩; refine ⟨_, rfl, ?_⟩; have n0_ := Aside0.mk (below_step (by repeat (first | (with_reducible first | exact HB.out | apply below_alloc | apply pw_below_drewN | apply below_drew1) | exact HB.out)) hb); clear HB; have HB := n0_; clear n0_; (try clear hb); (try clear hb2); (try clear hk); (try clear hi); have q14 : ((ji5) : Int) ≤ ((l0.length : Int) : Int) := of_decide_eq_true (by first | (with_reducible assumption) | assumption); obtain ⟨i014, hi014, _, hsz14, _⟩ := info_parts info30; have hroom14 : l0.length ≤ c0 := HC0.out; have hC14 : Kd.C k30 _ A0 l0.length l0 := HR0.out; have hcut14 := cut_to (P := Try.prog) 22 30 .i64 Try.underlying22 hi014 A0 l0.length c0 (ji5) (of_decide_eq_true (by first | (with_reducible assumption) | assumption)) q14 hroom14; have hr14 := Kd.C_take (m := ((ji5) : Int).toNat) hC14 (by omega); have hy14 : y170.length = ((ji5) : Int).toNat := (by rw [Ny170.out, List.length_take]; omega); rw [← Ny170.out] at hr14; rw [← hy14] at hcut14; have HR173 := Aside0.mk hr14; have HC173 := Aside0.mk (show y170.length ≤ c0 from by omega); clear hr14 hC14 hroom14 hi014 hsz14; have KY14 := Aside0.mk hy14; clear hy14; replace q14 := eq_true q14) | ((with_reducible refine gate_callee (f := 9) rfl ?_); refine goesL_ (some 24) rfl rfl Try.func9 (by kernel_rfl) rfl #[.slice A0 y170.length c0, .int .i64 a1, .int .u64 a2] rfl (by (try simp only [List.map_toArray, List.map_cons, List.map_nil]); first | done | rfl | (simp only [List.length_drop, List.length_take]; rfl)) ?_; (with_reducible refine (usage_Choose.calls _ _ y170 a1 a2 t174 t175 t176 _ ?side1 ?side2 A8.out).mono ?_); (case side1 => repeat (first | exact (Kd.C_below HR173.out HB.out) | (with_reducible refine Kd.C_alloc ?_ _) | (with_reducible refine Kd.C_drewN ?_ _) | (with_reducible refine Kd.C_drew ?_))); (case side2 => exact HC173.out); rintro e w15 ⟨rfl, hb⟩; refine ⟨_, rfl, ?_⟩; have n0_ := Aside0.mk (below_step (by repeat (first | (with_reducible first | exact HB.out | apply below_alloc | apply pw_below_drewN | apply below_drew1) | exact HB.out)) hb); clear HB; have HB := n0_; clear n0_; (try clear hb); (try clear hb2); (try clear hk); (try clear hi)) | ((with_reducible refine gate_callee (f := 10) rfl ?_); refine goesL_ (some 32) rfl rfl Try.func10 (by kernel_rfl) rfl #[.slice A0 y170.length c0, .int .i64 a1, .int .u64 a2] rfl (by (try simp only [List.map_toArray, List.map_cons, List.map_nil]); first | done | rfl | (simp only [List.length_drop, List.length_take]; rfl)) ?_; (with_reducible refine (nautilusref06_Choose.calls k _ _ y170 a1 a2 t177 t178 t179 _ ?side1 ?side2 A9.out).mono ?_); (case side1 => repeat (first | exact (Kd.C_below HR173.out HB.out) | (with_reducible refine Kd.C_alloc ?_ _) | (with_reducible refine Kd.C_drewN ?_ _) | (with_reducible refine Kd.C_drew ?_))); (case side2 => exact HC173.out); rintro e w16 ⟨rfl, hb⟩; refine ⟨_, rfl, ?_⟩; have n0_ := Aside0.mk (below_step (by repeat (first | (with_reducible first | exact HB.out | apply below_alloc | apply pw_below_drewN | apply below_drew1) | exact HB.out)) hb); clear HB; have HB := n0_; clear n0_; (try clear hb); (try clear hb2); (try clear hk); (try clear hi)))
            go_ret
            exact ⟨by first | rfl | (simp [errW_none, errW_some] <;> rfl) | (simp only [← hji5]; first | rfl | (simp [errW_none, errW_some] <;> rfl)) | (simp [*, errW_none, errW_some] <;> rfl) | (simp [show IntKind.u64.wrap 0 = 0 from rfl, Int.zero_tdiv]; done), by repeat (first | (with_reducible first | exact HB.out | apply below_alloc | apply pw_below_drewN | apply below_drew1) | exact HB.out)⟩
          · rw [if_neg c12] at H
            have c12b0 : (t175 == t178) = false := by simpa using c12
            (try (have c12b1 : decide (t175 = t178) = false := by simpa using c12))
            (try (have c12b2 : (t175 == t178) = false := by simpa using c12))
            (try (have c12b3 : ¬ (t175 = t178) := by simpa using c12))
            clear c12
            obtain rfl := Option.some.inj H
            go_enter Try.func3, Try.ntmps3
            go_wp2_with (first | ((with_reducible refine gate_callee (f := 8) rfl ?_); refine goesL_ (some 14) rfl rfl Try.func8 (by kernel_rfl) rfl #[] rfl (by (try simp only [List.map_toArray, List.map_cons, List.map_nil]); first | done | rfl | (simp only [List.length_drop, List.length_take]; rfl)) ?_; (with_reducible refine (nautiluslaw06_shown.calls k  true _ A4.out).mono ?_); rintro e w17 ⟨rfl, hb⟩; refine ⟨_, rfl, ?_⟩; have n0_ := Aside0.mk (below_step (by repeat (first | (with_reducible first | exact HB.out | apply below_alloc | apply pw_below_drewN | apply below_drew1) | exact HB.out)) hb); clear HB; have HB := n0_; clear n0_; (try clear hb); (try clear hb2); (try clear hk); (try clear hi); have q18 : ((ji5) : Int) ≤ ((l0.length : Int) : Int) := of_decide_eq_true (by first | (with_reducible assumption) | assumption); obtain ⟨i018, hi018, _, hsz18, _⟩ := info_parts info30; have hroom18 : l0.length ≤ c0 := HC0.out; have hC18 : Kd.C k30 _ A0 l0.length l0 := HR0.out; have hcut18 := cut_to (P := Try.prog) 22 30 .i64 Try.underlying22 hi018 A0 l0.length c0 (ji5) (of_decide_eq_true (by first | (with_reducible assumption) | assumption)) q18 hroom18; have hr18 := Kd.C_take (m := ((ji5) : Int).toNat) hC18 (by omega); have hy18 : y170.length = ((ji5) : Int).toNat := (by rw [Ny170.out, List.length_take]; omega); rw [← Ny170.out] at hr18; rw [← hy18] at hcut18; have HR173 := Aside0.mk hr18; have HC173 := Aside0.mk (show y170.length ≤ c0 from by omega); clear hr18 hC18 hroom18 hi018 hsz18; have KY18 := Aside0.mk hy18; clear hy18; replace q18 := eq_true q18) | ((with_reducible refine gate_callee (f := 9) rfl ?_); refine goesL_ (some 24) rfl rfl Try.func9 (by kernel_rfl) rfl #[.slice A0 y170.length c0, .int .i64 a1, .int .u64 a2] rfl (by (try simp only [List.map_toArray, List.map_cons, List.map_nil]); first | done | rfl | (simp only [List.length_drop, List.length_take]; rfl)) ?_; (with_reducible refine (usage_Choose.calls _ _ y170 a1 a2 t174 t175 t176 _ ?side1 ?side2 A8.out).mono ?_); (case side1 => repeat (first | exact (Kd.C_below HR173.out HB.out) | (with_reducible refine Kd.C_alloc ?_ _) | (with_reducible refine Kd.C_drewN ?_ _) | (with_reducible refine Kd.C_drew ?_))); (case side2 => exact HC173.out); rintro e w19 ⟨rfl, hb⟩; refine ⟨_, rfl, ?_⟩; have n0_ := Aside0.mk (below_step (by repeat (first | (with_reducible first | exact HB.out | apply below_alloc | apply pw_below_drewN | apply below_drew1) | exact HB.out)) hb); clear HB; have HB := n0_; clear n0_; (try clear hb); (try clear hb2); (try clear hk); (try clear hi)) | ((with_reducible refine gate_callee (f := 10) rfl ?_); refine goesL_ (some 32) rfl rfl Try.func10 (by kernel_rfl) rfl #[.slice A0 y170.length c0, .int .i64 a1, .int .u64 a2] rfl (by (try simp only [List.map_toArray, List.map_cons, List.map_nil]); first | done | rfl | (simp only [List.length_drop, List.length_take]; rfl)) ?_; (with_reducible refine (nautilusref06_Choose.calls k _ _ y170 a1 a2 t177 t178 t179 _ ?side1 ?side2 A9.out).mono ?_); (case side1 => repeat (first | exact (Kd.C_below HR173.out HB.out) | (with_reducible refine Kd.C_alloc ?_ _) | (with_reducible refine Kd.C_drewN ?_ _) | (with_reducible refine Kd.C_drew ?_))); (case side2 => exact HC173.out); rintro e w20 ⟨rfl, hb⟩; refine ⟨_, rfl, ?_⟩; have n0_ := Aside0.mk (below_step (by repeat (first | (with_reducible first | exact HB.out | apply below_alloc | apply pw_below_drewN | apply below_drew1) | exact HB.out)) hb); clear HB; have HB := n0_; clear n0_; (try clear hb); (try clear hb2); (try clear hk); (try clear hi)))
            go_ret
            exact ⟨by first | rfl | (simp [errW_none, errW_some] <;> rfl) | (simp only [← hji5]; first | rfl | (simp [errW_none, errW_some] <;> rfl)) | (simp [*, errW_none, errW_some] <;> rfl) | (simp [show IntKind.u64.wrap 0 = 0 from rfl, Int.zero_tdiv]; done), by repeat (first | (with_reducible first | exact HB.out | apply below_alloc | apply pw_below_drewN | apply below_drew1) | exact HB.out)⟩
        · rw [if_neg c11] at H
          have c11b0 : (t174 == t177) = false := beq_eq_false_iff_ne.mpr c11
          have c11b1 : (t174 != t177) = true := bne_iff_ne.mpr c11
          obtain rfl := Option.some.inj H
          go_enter Try.func3, Try.ntmps3
          go_wp2_with (first | ((with_reducible refine gate_callee (f := 8) rfl ?_); refine goesL_ (some 14) rfl rfl Try.func8 (by kernel_rfl) rfl #[] rfl (by (try simp only [List.map_toArray, List.map_cons, List.map_nil]); first | done | rfl | (simp only [List.length_drop, List.length_take]; rfl)) ?_; (with_reducible refine (nautiluslaw06_shown.calls k  true _ A4.out).mono ?_); rintro e w21 ⟨rfl, hb⟩; refine ⟨_, rfl, ?_⟩; have n0_ := Aside0.mk (below_step (by repeat (first | (with_reducible first | exact HB.out | apply below_alloc | apply pw_below_drewN | apply below_drew1) | exact HB.out)) hb); clear HB; have HB := n0_; clear n0_; (try clear hb); (try clear hb2); (try clear hk); (try clear hi); have q22 : ((ji5) : Int) ≤ ((l0.length : Int) : Int) := of_decide_eq_true (by first | (with_reducible assumption) | assumption); obtain ⟨i022, hi022, _, hsz22, _⟩ := info_parts info30; have hroom22 : l0.length ≤ c0 := HC0.out; have hC22 : Kd.C k30 _ A0 l0.length l0 := HR0.out; have hcut22 := cut_to (P := Try.prog) 22 30 .i64 Try.underlying22 hi022 A0 l0.length c0 (ji5) (of_decide_eq_true (by first | (with_reducible assumption) | assumption)) q22 hroom22; have hr22 := Kd.C_take (m := ((ji5) : Int).toNat) hC22 (by omega); have hy22 : y170.length = ((ji5) : Int).toNat := (by rw [Ny170.out, List.length_take]; omega); rw [← Ny170.out] at hr22; rw [← hy22] at hcut22; have HR173 := Aside0.mk hr22; have HC173 := Aside0.mk (show y170.length ≤ c0 from by omega); clear hr22 hC22 hroom22 hi022 hsz22; have KY22 := Aside0.mk hy22; clear hy22; replace q22 := eq_true q22) | ((with_reducible refine gate_callee (f := 9) rfl ?_); refine goesL_ (some 24) rfl rfl Try.func9 (by kernel_rfl) rfl #[.slice A0 y170.length c0, .int .i64 a1, .int .u64 a2] rfl (by (try simp only [List.map_toArray, List.map_cons, List.map_nil]); first | done | rfl | (simp only [List.length_drop, List.length_take]; rfl)) ?_; (with_reducible refine (usage_Choose.calls _ _ y170 a1 a2 t174 t175 t176 _ ?side1 ?side2 A8.out).mono ?_); (case side1 => repeat (first | exact (Kd.C_below HR173.out HB.out) | (with_reducible refine Kd.C_alloc ?_ _) | (with_reducible refine Kd.C_drewN ?_ _) | (with_reducible refine Kd.C_drew ?_))); (case side2 => exact HC173.out); rintro e w23 ⟨rfl, hb⟩; refine ⟨_, rfl, ?_⟩; have n0_ := Aside0.mk (below_step (by repeat (first | (with_reducible first | exact HB.out | apply below_alloc | apply pw_below_drewN | apply below_drew1) | exact HB.out)) hb); clear HB; have HB := n0_; clear n0_; (try clear hb); (try clear hb2); (try clear hk); (try clear hi)) | ((with_reducible refine gate_callee (f := 10) rfl ?_); refine goesL_ (some 32) rfl rfl Try.func10 (by kernel_rfl) rfl #[.slice A0 y170.length c0, .int .i64 a1, .int .u64 a2] rfl (by (try simp only [List.map_toArray, List.map_cons, List.map_nil]); first | done | rfl | (simp only [List.length_drop, List.length_take]; rfl)) ?_; (with_reducible refine (nautilusref06_Choose.calls k _ _ y170 a1 a2 t177 t178 t179 _ ?side1 ?side2 A9.out).mono ?_); (case side1 => repeat (first | exact (Kd.C_below HR173.out HB.out) | (with_reducible refine Kd.C_alloc ?_ _) | (with_reducible refine Kd.C_drewN ?_ _) | (with_reducible refine Kd.C_drew ?_))); (case side2 => exact HC173.out); rintro e w24 ⟨rfl, hb⟩; refine ⟨_, rfl, ?_⟩; have n0_ := Aside0.mk (below_step (by repeat (first | (with_reducible first | exact HB.out | apply below_alloc | apply pw_below_drewN | apply below_drew1) | exact HB.out)) hb); clear HB; have HB := n0_; clear n0_; (try clear hb); (try clear hb2); (try clear hk); (try clear hi)))
          go_ret
          exact ⟨by first | rfl | (simp [errW_none, errW_some] <;> rfl) | (simp only [← hji5]; first | rfl | (simp [errW_none, errW_some] <;> rfl)) | (simp [*, errW_none, errW_some] <;> rfl) | (simp [show IntKind.u64.wrap 0 = 0 from rfl, Int.zero_tdiv]; done), by repeat (first | (with_reducible first | exact HB.out | apply below_alloc | apply pw_below_drewN | apply below_drew1) | exact HB.out)⟩
      · replace c10 := Bool.eq_false_iff.mpr c10
        subst c10
        have H1 : (some false) = some r := by rw [if_neg (show ¬ (false = true) by decide)] at H; exact H
        clear H
        have H := H1
        clear H1
        obtain rfl := Option.some.inj H
        go_enter Try.func3, Try.ntmps3
        go_wp2_with (first | ((with_reducible refine gate_callee (f := 8) rfl ?_); refine goesL_ (some 14) rfl rfl Try.func8 (by kernel_rfl) rfl #[] rfl (by (try simp only [List.map_toArray, List.map_cons, List.map_nil]); first | done | rfl | (simp only [List.length_drop, List.length_take]; rfl)) ?_; (with_reducible refine (nautiluslaw06_shown.calls k  false _ A4.out).mono ?_); rintro e w25 ⟨rfl, hb⟩; refine ⟨_, rfl, ?_⟩; have n0_ := Aside0.mk (below_step (by repeat (first | (with_reducible first | exact HB.out | apply below_alloc | apply pw_below_drewN | apply below_drew1) | exact HB.out)) hb); clear HB; have HB := n0_; clear n0_; (try clear hb); (try clear hb2); (try clear hk); (try clear hi); have q26 : ((ji5) : Int) ≤ ((l0.length : Int) : Int) := of_decide_eq_true (by first | (with_reducible assumption) | assumption); obtain ⟨i026, hi026, _, hsz26, _⟩ := info_parts info30; have hroom26 : l0.length ≤ c0 := HC0.out; have hC26 : Kd.C k30 _ A0 l0.length l0 := HR0.out; have hcut26 := cut_to (P := Try.prog) 22 30 .i64 Try.underlying22 hi026 A0 l0.length c0 (ji5) (of_decide_eq_true (by first | (with_reducible assumption) | assumption)) q26 hroom26; have hr26 := Kd.C_take (m := ((ji5) : Int).toNat) hC26 (by omega); have hy26 : y170.length = ((ji5) : Int).toNat := (by rw [Ny170.out, List.length_take]; omega); rw [← Ny170.out] at hr26; rw [← hy26] at hcut26; have HR173 := Aside0.mk hr26; have HC173 := Aside0.mk (show y170.length ≤ c0 from by omega); clear hr26 hC26 hroom26 hi026 hsz26; have KY26 := Aside0.mk hy26; clear hy26; replace q26 := eq_true q26) | ((with_reducible refine gate_callee (f := 9) rfl ?_); refine goesL_ (some 24) rfl rfl Try.func9 (by kernel_rfl) rfl #[.slice A0 y170.length c0, .int .i64 a1, .int .u64 a2] rfl (by (try simp only [List.map_toArray, List.map_cons, List.map_nil]); first | done | rfl | (simp only [List.length_drop, List.length_take]; rfl)) ?_; (with_reducible refine (usage_Choose.calls _ _ y170 a1 a2 t174 t175 t176 _ ?side1 ?side2 A8.out).mono ?_); (case side1 => repeat (first | exact (Kd.C_below HR173.out HB.out) | (with_reducible refine Kd.C_alloc ?_ _) | (with_reducible refine Kd.C_drewN ?_ _) | (with_reducible refine Kd.C_drew ?_))); (case side2 => exact HC173.out); rintro e w27 ⟨rfl, hb⟩; refine ⟨_, rfl, ?_⟩; have n0_ := Aside0.mk (below_step (by repeat (first | (with_reducible first | exact HB.out | apply below_alloc | apply pw_below_drewN | apply below_drew1) | exact HB.out)) hb); clear HB; have HB := n0_; clear n0_; (try clear hb); (try clear hb2); (try clear hk); (try clear hi)) | ((with_reducible refine gate_callee (f := 10) rfl ?_); refine goesL_ (some 32) rfl rfl Try.func10 (by kernel_rfl) rfl #[.slice A0 y170.length c0, .int .i64 a1, .int .u64 a2] rfl (by (try simp only [List.map_toArray, List.map_cons, List.map_nil]); first | done | rfl | (simp only [List.length_drop, List.length_take]; rfl)) ?_; (with_reducible refine (nautilusref06_Choose.calls k _ _ y170 a1 a2 t177 t178 t179 _ ?side1 ?side2 A9.out).mono ?_); (case side1 => repeat (first | exact (Kd.C_below HR173.out HB.out) | (with_reducible refine Kd.C_alloc ?_ _) | (with_reducible refine Kd.C_drewN ?_ _) | (with_reducible refine Kd.C_drew ?_))); (case side2 => exact HC173.out); rintro e w28 ⟨rfl, hb⟩; refine ⟨_, rfl, ?_⟩; have n0_ := Aside0.mk (below_step (by repeat (first | (with_reducible first | exact HB.out | apply below_alloc | apply pw_below_drewN | apply below_drew1) | exact HB.out)) hb); clear HB; have HB := n0_; clear n0_; (try clear hb); (try clear hb2); (try clear hk); (try clear hi)))
        go_ret
        exact ⟨by first | rfl | (simp [errW_none, errW_some] <;> rfl) | (simp only [← hji5]; first | rfl | (simp [errW_none, errW_some] <;> rfl)) | (simp [*, errW_none, errW_some] <;> rfl) | (simp [show IntKind.u64.wrap 0 = 0 from rfl, Int.zero_tdiv]; done), by repeat (first | (with_reducible first | exact HB.out | apply below_alloc | apply pw_below_drewN | apply below_drew1) | exact HB.out)⟩
    · rw [if_neg c7] at H
      exact absurd H (by simp)
  · rw [if_neg c6] at H
    exact absurd H (by simp)

/-- THE ONE PURE STATEMENT of nautiluslaw06_UsageChooses: yours. -/
def nautiluslaw06_UsageChooses.Pure : Prop := ∀ (l0 : List (S30)) (a1 : Int) (a2 : Int), l0.length ≤ maxLen → (∀ x ∈ l0, (Lit.int .i64 x.f0).wf = true ∧ (Lit.int .u64 x.f1).wf = true ∧ (Lit.int .i64 x.f2).wf = true) → (Lit.int .i64 a1).wf = true → (Lit.int .u64 a2).wf = true → ∃ k, nautiluslaw06_UsageChooses.f k l0 a1 a2 = some true
theorem nautiluslaw06_UsageChooses.walk (P : nautiluslaw06_UsageChooses.Pure) (a0 : Option Addr) (len0 cap0 : Nat) (z0 : List (S30)) (a1 : Int) (a2 : Int) (w : World) (w0 : z0.length = len0 ∧ len0 ≤ cap0 ∧ len0 ≤ maxLen ∧ Kd.C k30 w a0 len0 z0 ∧ ∀ x ∈ z0, (Lit.int .i64 x.f0).wf = true ∧ (Lit.int .u64 x.f1).wf = true ∧ (Lit.int .i64 x.f2).wf = true) (w1 : (Lit.int .i64 a1).wf = true) (w2 : (Lit.int .u64 a2).wf = true) :
    Calls Try.prog 3 #[.slice a0 len0 cap0, .int .i64 a1, .int .u64 a2] w fun e w' => e = .returned (.bool true) ∧ Below w.heap.size w w' := by
  obtain ⟨hl0, hc0, hm0, hC0, hw0⟩ := w0
  subst hl0
  obtain ⟨k, h⟩ := P z0 a1 a2 hm0 hw0 w1 w2
  refine (nautiluslaw06_UsageChooses.calls k _ _ z0 a1 a2 true w hC0 hc0 h).mono ?_
  rintro e w' ⟨rfl, hd⟩
  exact ⟨rfl, hd⟩

end Go.Proofs.Ytklhmhliencgeaa.Q
