/- Functions of the translation as plain Lean functions, and that the translation computes them: printed by this session's driver of the print. -/
import Derived.Test.YtklhmhliencgeaaQ0
import Derived.Test.YtklhmhliencgeaaQ9
import Derived.Test.YtklhmhliencgeaaHChoose
namespace Go.Proofs.Ytklhmhliencgeaa.Q
open Go.Proofs.Ytklhmhliencgeaa.H
open Go.RowKit Go.Proofs.YtklhmhliencgeaaW.PrintWords Go.Proofs.YtklhmhliencgeaaW.PrintLast Go.Proofs.YtklhmhliencgeaaW.PrintMore
attribute [local go_sem] max2_int min2_int max_two min_two max_three min_three max_four min_four   -- for this text's walks alone
set_option linter.unusedVariables false
set_option linter.unusedSimpArgs false

/-! ### nautiluslaw06_UsageBest: function 4 -/
mutual
def nautiluslaw06_UsageBest.j0 : Nat → List (S30) → Bool → Int → Bool → Int → Int → Int → Bool → Option (Bool)
  | 0, _, _, _, _, _, _, _, _ => none
  | k + 1, x0, x5, x6, x7, x8, x9, x12, x60 => if x60 = true then (some false) else (if x8 = 0 then (nautiluslaw06_UsageBest.j1 k x0 x5 x6 x8 x9 x12 (!x7)) else (nautiluslaw06_UsageBest.j1 k x0 x5 x6 x8 x9 x12 true))
def nautiluslaw06_UsageBest.j1 : Nat → List (S30) → Bool → Int → Int → Int → Int → Bool → Option (Bool)
  | 0, _, _, _, _, _, _, _ => none
  | k + 1, x0, x5, x6, x8, x9, x12, x66 => if x66 = true then (if x5 = true then (if x8 = 0 then (some true) else (some (x8 == 60))) else (some false)) else (if x6 < 1 then (nautiluslaw06_UsageBest.j2 k x0 x5 x6 x9 x12 true) else (if x6 ≥ (x0.length : Int) then (nautiluslaw06_UsageBest.j2 k x0 x5 x6 x9 x12 true) else (if x9 < 1 then (nautiluslaw06_UsageBest.j2 k x0 x5 x6 x9 x12 true) else (if x9 ≥ (x0.length : Int) then (nautiluslaw06_UsageBest.j2 k x0 x5 x6 x9 x12 true) else (if x12 < 1 then (nautiluslaw06_UsageBest.j2 k x0 x5 x6 x9 x12 true) else (nautiluslaw06_UsageBest.j2 k x0 x5 x6 x9 x12 (decide (x12 ≥ (x0.length : Int)))))))))
def nautiluslaw06_UsageBest.j2 : Nat → List (S30) → Bool → Int → Int → Int → Bool → Option (Bool)
  | 0, _, _, _, _, _, _ => none
  | k + 1, x0, x5, x6, x9, x12, x103 => if x103 = true then (some false) else (nautiluslaw06_UsageBest.l0 k x0 x5 x6 x9 x12 1)
def nautiluslaw06_UsageBest.l0 : Nat → List (S30) → Bool → Int → Int → Int → Int → Option (Bool)
  | 0, _, _, _, _, _, _ => none
  | k + 1, x0, x5, x6, x9, x12, x15 => if x15 < (x0.length : Int) then (if 0 ≤ x15 then (if ((rd_T30 x0 x15).f2) = 1 then (if ((rd_T30 x0 x15).f0) < 16 then (if 0 ≤ x6 then (if x6 < (x0.length : Int) then (if ((rd_T30 x0 x15).f1) < ((rd_T30 x0 x6).f1) then (nautiluslaw06_UsageBest.j4 k x0 x5 x6 x9 x12 x15 true) else (if 0 ≤ x9 then (if x9 < (x0.length : Int) then (nautiluslaw06_UsageBest.j4 k x0 x5 x6 x9 x12 x15 (decide (((rd_T30 x0 x15).f0) < ((rd_T30 x0 x9).f0)))) else (none)) else (none))) else (none)) else (none)) else (nautiluslaw06_UsageBest.j4 k x0 x5 x6 x9 x12 x15 false)) else (nautiluslaw06_UsageBest.j4 k x0 x5 x6 x9 x12 x15 false)) else (none)) else (if x5 = true then (if 0 ≤ x6 then (if x6 < (x0.length : Int) then (if ((rd_T30 x0 x6).f2) = 1 then (if 0 ≤ x9 then (if x9 < (x0.length : Int) then (if ((rd_T30 x0 x9).f2) = 1 then (if 0 ≤ x12 then (if x12 < (x0.length : Int) then (if ((rd_T30 x0 x12).f2) = 1 then (if ((rd_T30 x0 x6).f0) < 16 then (some (decide (((rd_T30 x0 x12).f0) < 16))) else (some false)) else (some false)) else (none)) else (none)) else (some false)) else (none)) else (none)) else (some false)) else (none)) else (none)) else (some false))
def nautiluslaw06_UsageBest.j4 : Nat → List (S30) → Bool → Int → Int → Int → Int → Bool → Option (Bool)
  | 0, _, _, _, _, _, _, _ => none
  | k + 1, x0, x5, x6, x9, x12, x15, x149 => if x149 = true then (some false) else (nautiluslaw06_UsageBest.l0 k x0 x5 x6 x9 x12 (wrap64 (x15 + 1)))
end
def nautiluslaw06_UsageBest.f (k : Nat) (l0 : List (S30)) (a1 : Int) : Option (Bool) := (nautiluslaw06_shown.f k).bind fun t180 => (if 0 ≤ (mn (l0.length : Int) 300) then (if (mn (l0.length : Int) 300) ≤ (l0.length : Int) then ((some (l0.take ((mn (l0.length : Int) 300) : Int).toNat : List (S30))).bind fun y181 => ((usage_Choose.f y181 0 a1).bind fun bt185 => ((usage_Choose.f y181 1 a1).bind fun bt188 => ((usage_Choose.f y181 2 a1).bind fun bt191 => (if bt185.2.2 = bt188.2.2 then (if bt188.2.2 = bt191.2.2 then (if (bt185.2.1 != bt188.2.1) = true then (nautiluslaw06_UsageBest.j0 k y181 t180 bt185.1 bt185.2.1 bt185.2.2 bt188.1 bt191.1 true) else (nautiluslaw06_UsageBest.j0 k y181 t180 bt185.1 bt185.2.1 bt185.2.2 bt188.1 bt191.1 (bt188.2.1 != bt191.2.1))) else (nautiluslaw06_UsageBest.j0 k y181 t180 bt185.1 bt185.2.1 bt185.2.2 bt188.1 bt191.1 true)) else (nautiluslaw06_UsageBest.j0 k y181 t180 bt185.1 bt185.2.1 bt185.2.2 bt188.1 bt191.1 true)))))) else (none)) else (none))
theorem nautiluslaw06_UsageBest.mono_l : ∀ k, (∀ y0 y1 y2 y3 y4 y5 y6 y7, LeO (nautiluslaw06_UsageBest.j0 k y0 y1 y2 y3 y4 y5 y6 y7) (nautiluslaw06_UsageBest.j0 (k + 1) y0 y1 y2 y3 y4 y5 y6 y7)) ∧ (∀ y0 y1 y2 y3 y4 y5 y6, LeO (nautiluslaw06_UsageBest.j1 k y0 y1 y2 y3 y4 y5 y6) (nautiluslaw06_UsageBest.j1 (k + 1) y0 y1 y2 y3 y4 y5 y6)) ∧ (∀ y0 y1 y2 y3 y4 y5, LeO (nautiluslaw06_UsageBest.j2 k y0 y1 y2 y3 y4 y5) (nautiluslaw06_UsageBest.j2 (k + 1) y0 y1 y2 y3 y4 y5)) ∧ (∀ y0 y1 y2 y3 y4 y5, LeO (nautiluslaw06_UsageBest.l0 k y0 y1 y2 y3 y4 y5) (nautiluslaw06_UsageBest.l0 (k + 1) y0 y1 y2 y3 y4 y5)) ∧ (∀ y0 y1 y2 y3 y4 y5 y6, LeO (nautiluslaw06_UsageBest.j4 k y0 y1 y2 y3 y4 y5 y6) (nautiluslaw06_UsageBest.j4 (k + 1) y0 y1 y2 y3 y4 y5 y6))
  | 0 => ⟨fun _ _ _ _ _ _ _ _ r h => by simp [nautiluslaw06_UsageBest.j0] at h, fun _ _ _ _ _ _ _ r h => by simp [nautiluslaw06_UsageBest.j1] at h, fun _ _ _ _ _ _ r h => by simp [nautiluslaw06_UsageBest.j2] at h, fun _ _ _ _ _ _ r h => by simp [nautiluslaw06_UsageBest.l0] at h, fun _ _ _ _ _ _ _ r h => by simp [nautiluslaw06_UsageBest.j4] at h⟩
  | k + 1 => by
    obtain ⟨ih0, ih1, ih2, ih3, ih4⟩ := nautiluslaw06_UsageBest.mono_l k
    refine ⟨?_, ?_, ?_, ?_, ?_⟩
    · intro y0 y1 y2 y3 y4 y5 y6 y7
      unfold nautiluslaw06_UsageBest.j0
      repeat' first
      | (with_reducible exact ih0 _ _ _ _ _ _ _ _)
      | (with_reducible exact ih1 _ _ _ _ _ _ _)
      | (with_reducible exact ih2 _ _ _ _ _ _)
      | (with_reducible exact ih3 _ _ _ _ _ _)
      | (with_reducible exact ih4 _ _ _ _ _ _ _)
      | (with_reducible exact nautiluslaw06_shown.mono _)
      | (with_reducible exact LeO.refl _)
      | (with_reducible exact LeO.none _)
      | (with_reducible refine LeO.ite ?_ ?_)
      | (with_reducible refine LeO.bind ?_ (fun _ => ?_))
      | exact ih0 _ _ _ _ _ _ _ _
      | exact ih1 _ _ _ _ _ _ _
      | exact ih2 _ _ _ _ _ _
      | exact ih3 _ _ _ _ _ _
      | exact ih4 _ _ _ _ _ _ _
      | exact nautiluslaw06_shown.mono _
      | exact LeO.none _
      | refine LeO.ite ?_ ?_
      | refine LeO.bind ?_ (fun _ => ?_)
    · intro y0 y1 y2 y3 y4 y5 y6
      unfold nautiluslaw06_UsageBest.j1
      repeat' first
      | (with_reducible exact ih0 _ _ _ _ _ _ _ _)
      | (with_reducible exact ih1 _ _ _ _ _ _ _)
      | (with_reducible exact ih2 _ _ _ _ _ _)
      | (with_reducible exact ih3 _ _ _ _ _ _)
      | (with_reducible exact ih4 _ _ _ _ _ _ _)
      | (with_reducible exact nautiluslaw06_shown.mono _)
      | (with_reducible exact LeO.refl _)
      | (with_reducible exact LeO.none _)
      | (with_reducible refine LeO.ite ?_ ?_)
      | (with_reducible refine LeO.bind ?_ (fun _ => ?_))
      | exact ih0 _ _ _ _ _ _ _ _
      | exact ih1 _ _ _ _ _ _ _
      | exact ih2 _ _ _ _ _ _
      | exact ih3 _ _ _ _ _ _
      | exact ih4 _ _ _ _ _ _ _
      | exact nautiluslaw06_shown.mono _
      | exact LeO.none _
      | refine LeO.ite ?_ ?_
      | refine LeO.bind ?_ (fun _ => ?_)
    · intro y0 y1 y2 y3 y4 y5
      unfold nautiluslaw06_UsageBest.j2
      repeat' first
      | (with_reducible exact ih0 _ _ _ _ _ _ _ _)
      | (with_reducible exact ih1 _ _ _ _ _ _ _)
      | (with_reducible exact ih2 _ _ _ _ _ _)
      | (with_reducible exact ih3 _ _ _ _ _ _)
      | (with_reducible exact ih4 _ _ _ _ _ _ _)
      | (with_reducible exact nautiluslaw06_shown.mono _)
      | (with_reducible exact LeO.refl _)
      | (with_reducible exact LeO.none _)
      | (with_reducible refine LeO.ite ?_ ?_)
      | (with_reducible refine LeO.bind ?_ (fun _ => ?_))
      | exact ih0 _ _ _ _ _ _ _ _
      | exact ih1 _ _ _ _ _ _ _
      | exact ih2 _ _ _ _ _ _
      | exact ih3 _ _ _ _ _ _
      | exact ih4 _ _ _ _ _ _ _
      | exact nautiluslaw06_shown.mono _
      | exact LeO.none _
      | refine LeO.ite ?_ ?_
      | refine LeO.bind ?_ (fun _ => ?_)
    · intro y0 y1 y2 y3 y4 y5
      unfold nautiluslaw06_UsageBest.l0
      repeat' first
      | (with_reducible exact ih0 _ _ _ _ _ _ _ _)
      | (with_reducible exact ih1 _ _ _ _ _ _ _)
      | (with_reducible exact ih2 _ _ _ _ _ _)
      | (with_reducible exact ih3 _ _ _ _ _ _)
      | (with_reducible exact ih4 _ _ _ _ _ _ _)
      | (with_reducible exact nautiluslaw06_shown.mono _)
      | (with_reducible exact LeO.refl _)
      | (with_reducible exact LeO.none _)
      | (with_reducible refine LeO.ite ?_ ?_)
      | (with_reducible refine LeO.bind ?_ (fun _ => ?_))
      | exact ih0 _ _ _ _ _ _ _ _
      | exact ih1 _ _ _ _ _ _ _
      | exact ih2 _ _ _ _ _ _
      | exact ih3 _ _ _ _ _ _
      | exact ih4 _ _ _ _ _ _ _
      | exact nautiluslaw06_shown.mono _
      | exact LeO.none _
      | refine LeO.ite ?_ ?_
      | refine LeO.bind ?_ (fun _ => ?_)
    · intro y0 y1 y2 y3 y4 y5 y6
      unfold nautiluslaw06_UsageBest.j4
      repeat' first
      | (with_reducible exact ih0 _ _ _ _ _ _ _ _)
      | (with_reducible exact ih1 _ _ _ _ _ _ _)
      | (with_reducible exact ih2 _ _ _ _ _ _)
      | (with_reducible exact ih3 _ _ _ _ _ _)
      | (with_reducible exact ih4 _ _ _ _ _ _ _)
      | (with_reducible exact nautiluslaw06_shown.mono _)
      | (with_reducible exact LeO.refl _)
      | (with_reducible exact LeO.none _)
      | (with_reducible refine LeO.ite ?_ ?_)
      | (with_reducible refine LeO.bind ?_ (fun _ => ?_))
      | exact ih0 _ _ _ _ _ _ _ _
      | exact ih1 _ _ _ _ _ _ _
      | exact ih2 _ _ _ _ _ _
      | exact ih3 _ _ _ _ _ _
      | exact ih4 _ _ _ _ _ _ _
      | exact nautiluslaw06_shown.mono _
      | exact LeO.none _
      | refine LeO.ite ?_ ?_
      | refine LeO.bind ?_ (fun _ => ?_)
theorem nautiluslaw06_UsageBest.mono : ∀ a0 a1 k, LeO (nautiluslaw06_UsageBest.f k a0 a1) (nautiluslaw06_UsageBest.f (k + 1) a0 a1) := by
  intro a0 a1 k
  obtain ⟨ih0, ih1, ih2, ih3, ih4⟩ := nautiluslaw06_UsageBest.mono_l k
  unfold nautiluslaw06_UsageBest.f
  repeat' first
      | (with_reducible exact ih0 _ _ _ _ _ _ _ _)
      | (with_reducible exact ih1 _ _ _ _ _ _ _)
      | (with_reducible exact ih2 _ _ _ _ _ _)
      | (with_reducible exact ih3 _ _ _ _ _ _)
      | (with_reducible exact ih4 _ _ _ _ _ _ _)
      | (with_reducible exact nautiluslaw06_shown.mono _)
      | (with_reducible exact LeO.refl _)
      | (with_reducible exact LeO.none _)
      | (with_reducible refine LeO.ite ?_ ?_)
      | (with_reducible refine LeO.bind ?_ (fun _ => ?_))
      | exact ih0 _ _ _ _ _ _ _ _
      | exact ih1 _ _ _ _ _ _ _
      | exact ih2 _ _ _ _ _ _
      | exact ih3 _ _ _ _ _ _
      | exact ih4 _ _ _ _ _ _ _
      | exact nautiluslaw06_shown.mono _
      | exact LeO.none _
      | refine LeO.ite ?_ ?_
      | refine LeO.bind ?_ (fun _ => ?_)
set_option maxHeartbeats 8000000 in
set_option maxRecDepth 100000 in
theorem nautiluslaw06_UsageBest.calls (k : Nat) (A0 : Option Addr) (c0 : Nat) (l0 : List (S30)) (a1 : Int) (r : Bool) (w : World) (hr0 : Kd.C k30 w A0 l0.length l0) (hc0 : l0.length ≤ c0) (h : nautiluslaw06_UsageBest.f k l0 a1 = some r) :
    Calls Try.prog 4 #[.slice A0 l0.length c0, .int .u64 a1] w fun e w' => e = .returned (.bool r) ∧ Below w.heap.size w w' := by
  have HR0 := Aside0.mk hr0
  have HC0 := Aside0.mk hc0
  clear hr0 hc0
  have HB := Aside0.mk (Below.refl w.heap.size w)
  have H : ((nautiluslaw06_shown.f k).bind fun t180 => (if 0 ≤ (mn (l0.length : Int) 300) then (if (mn (l0.length : Int) 300) ≤ (l0.length : Int) then ((some (l0.take ((mn (l0.length : Int) 300) : Int).toNat : List (S30))).bind fun y181 => ((usage_Choose.f y181 0 a1).bind fun bt185 => ((usage_Choose.f y181 1 a1).bind fun bt188 => ((usage_Choose.f y181 2 a1).bind fun bt191 => (if bt185.2.2 = bt188.2.2 then (if bt188.2.2 = bt191.2.2 then (if (bt185.2.1 != bt188.2.1) = true then (nautiluslaw06_UsageBest.j0 k y181 t180 bt185.1 bt185.2.1 bt185.2.2 bt188.1 bt191.1 true) else (nautiluslaw06_UsageBest.j0 k y181 t180 bt185.1 bt185.2.1 bt185.2.2 bt188.1 bt191.1 (bt188.2.1 != bt191.2.1))) else (nautiluslaw06_UsageBest.j0 k y181 t180 bt185.1 bt185.2.1 bt185.2.2 bt188.1 bt191.1 true)) else (nautiluslaw06_UsageBest.j0 k y181 t180 bt185.1 bt185.2.1 bt185.2.2 bt188.1 bt191.1 true)))))) else (none)) else (none))) = some r := h
  clear h
  replace H := Option.bind_eq_some_iff.mp H
  obtain ⟨t180, A30, H⟩ := H
  replace H : (if 0 ≤ (mn (l0.length : Int) 300) then (if (mn (l0.length : Int) 300) ≤ (l0.length : Int) then ((some (l0.take ((mn (l0.length : Int) 300) : Int).toNat : List (S30))).bind fun y181 => ((usage_Choose.f y181 0 a1).bind fun bt185 => ((usage_Choose.f y181 1 a1).bind fun bt188 => ((usage_Choose.f y181 2 a1).bind fun bt191 => (if bt185.2.2 = bt188.2.2 then (if bt188.2.2 = bt191.2.2 then (if (bt185.2.1 != bt188.2.1) = true then (nautiluslaw06_UsageBest.j0 k y181 t180 bt185.1 bt185.2.1 bt185.2.2 bt188.1 bt191.1 true) else (nautiluslaw06_UsageBest.j0 k y181 t180 bt185.1 bt185.2.1 bt185.2.2 bt188.1 bt191.1 (bt188.2.1 != bt191.2.1))) else (nautiluslaw06_UsageBest.j0 k y181 t180 bt185.1 bt185.2.1 bt185.2.2 bt188.1 bt191.1 true)) else (nautiluslaw06_UsageBest.j0 k y181 t180 bt185.1 bt185.2.1 bt185.2.2 bt188.1 bt191.1 true)))))) else (none)) else (none)) = some r := H
  have A3 := Aside0.mk A30
  clear A30
  obtain ⟨ji4, hji4⟩ : ∃ j_ : Int, (mn (l0.length : Int) 300) = j_ := ⟨_, rfl⟩
  replace H : (if 0 ≤ (ji4) then (if (ji4) ≤ (l0.length : Int) then ((some (l0.take ((ji4) : Int).toNat : List (S30))).bind fun y181 => ((usage_Choose.f y181 0 a1).bind fun bt185 => ((usage_Choose.f y181 1 a1).bind fun bt188 => ((usage_Choose.f y181 2 a1).bind fun bt191 => (if bt185.2.2 = bt188.2.2 then (if bt188.2.2 = bt191.2.2 then (if (bt185.2.1 != bt188.2.1) = true then (nautiluslaw06_UsageBest.j0 k y181 t180 bt185.1 bt185.2.1 bt185.2.2 bt188.1 bt191.1 true) else (nautiluslaw06_UsageBest.j0 k y181 t180 bt185.1 bt185.2.1 bt185.2.2 bt188.1 bt191.1 (bt188.2.1 != bt191.2.1))) else (nautiluslaw06_UsageBest.j0 k y181 t180 bt185.1 bt185.2.1 bt185.2.2 bt188.1 bt191.1 true)) else (nautiluslaw06_UsageBest.j0 k y181 t180 bt185.1 bt185.2.1 bt185.2.2 bt188.1 bt191.1 true)))))) else (none)) else (none)) = some r := by first | (rw [hji4] at H; exact H) | (simp only [hji4] at H ⊢; exact H)
  (try rw [hji4] at A3)
  (try (have hji4h : ji4 ≤ 300 := by (rw [← hji4]; unfold mn; (repeat' split) <;> omega)))
  (try (have hji4g : ji4 ≤ 64 := by omega))
  (try (have hji4l : 0 ≤ ji4 := by (rw [← hji4]; unfold mn; (repeat' split) <;> omega)))
  (try (have hji4m : 0 ≤ ji4 := by omega))
  have hji4_ : (if 300 < (l0.length : Int) then 300 else (l0.length : Int)) = ji4 := hji4
  by_cases c5 : 0 ≤ (ji4)
  · rw [if_pos c5] at H
    have c5b0 := eq_true c5
    have c5b1 : decide (0 ≤ (ji4)) = true := decide_eq_true c5
    clear c5
    by_cases c6 : (ji4) ≤ (l0.length : Int)
    · rw [if_pos c6] at H
      have c6b0 := eq_true c6
      have c6b1 : decide ((ji4) ≤ (l0.length : Int)) = true := decide_eq_true c6
      clear c6
      obtain ⟨y181, hy181⟩ : ∃ y_ : List (S30), y_ = (l0.take ((ji4) : Int).toNat) := ⟨_, rfl⟩
      replace H : ((usage_Choose.f y181 0 a1).bind fun bt185 => ((usage_Choose.f y181 1 a1).bind fun bt188 => ((usage_Choose.f y181 2 a1).bind fun bt191 => (if bt185.2.2 = bt188.2.2 then (if bt188.2.2 = bt191.2.2 then (if (bt185.2.1 != bt188.2.1) = true then (nautiluslaw06_UsageBest.j0 k y181 t180 bt185.1 bt185.2.1 bt185.2.2 bt188.1 bt191.1 true) else (nautiluslaw06_UsageBest.j0 k y181 t180 bt185.1 bt185.2.1 bt185.2.2 bt188.1 bt191.1 (bt188.2.1 != bt191.2.1))) else (nautiluslaw06_UsageBest.j0 k y181 t180 bt185.1 bt185.2.1 bt185.2.2 bt188.1 bt191.1 true)) else (nautiluslaw06_UsageBest.j0 k y181 t180 bt185.1 bt185.2.1 bt185.2.2 bt188.1 bt191.1 true))))) = some r := by first | (rw [hy181]; with_reducible exact H) | (have H2_ := (Option.bind_some _ _).symm.trans H; rw [hy181]; with_reducible exact H2_) | (have H2_ := (Option.bind_some _ _).symm.trans H; with_reducible exact H2_) | with_reducible exact H | (rw [hy181]; exact H) | exact H
      have Ny181 := Aside0.mk hy181
      clear hy181
      replace H := Option.bind_eq_some_iff.mp H
      obtain ⟨⟨t185, t186, t187⟩, A70, H⟩ := H
      replace H : ((usage_Choose.f y181 1 a1).bind fun bt188 => ((usage_Choose.f y181 2 a1).bind fun bt191 => (if t187 = bt188.2.2 then (if bt188.2.2 = bt191.2.2 then (if (t186 != bt188.2.1) = true then (nautiluslaw06_UsageBest.j0 k y181 t180 t185 t186 t187 bt188.1 bt191.1 true) else (nautiluslaw06_UsageBest.j0 k y181 t180 t185 t186 t187 bt188.1 bt191.1 (bt188.2.1 != bt191.2.1))) else (nautiluslaw06_UsageBest.j0 k y181 t180 t185 t186 t187 bt188.1 bt191.1 true)) else (nautiluslaw06_UsageBest.j0 k y181 t180 t185 t186 t187 bt188.1 bt191.1 true)))) = some r := H
      have A7 := Aside0.mk A70
      clear A70
      replace H := Option.bind_eq_some_iff.mp H
      obtain ⟨⟨t188, t189, t190⟩, A80, H⟩ := H
      replace H : ((usage_Choose.f y181 2 a1).bind fun bt191 => (if t187 = t190 then (if t190 = bt191.2.2 then (if (t186 != t189) = true then (nautiluslaw06_UsageBest.j0 k y181 t180 t185 t186 t187 t188 bt191.1 true) else (nautiluslaw06_UsageBest.j0 k y181 t180 t185 t186 t187 t188 bt191.1 (t189 != bt191.2.1))) else (nautiluslaw06_UsageBest.j0 k y181 t180 t185 t186 t187 t188 bt191.1 true)) else (nautiluslaw06_UsageBest.j0 k y181 t180 t185 t186 t187 t188 bt191.1 true))) = some r := H
      have A8 := Aside0.mk A80
      clear A80
      replace H := Option.bind_eq_some_iff.mp H
      obtain ⟨⟨t191, t192, t193⟩, A90, H⟩ := H
      replace H : (if t187 = t190 then (if t190 = t193 then (if (t186 != t189) = true then (nautiluslaw06_UsageBest.j0 k y181 t180 t185 t186 t187 t188 t191 true) else (nautiluslaw06_UsageBest.j0 k y181 t180 t185 t186 t187 t188 t191 (t189 != t192))) else (nautiluslaw06_UsageBest.j0 k y181 t180 t185 t186 t187 t188 t191 true)) else (nautiluslaw06_UsageBest.j0 k y181 t180 t185 t186 t187 t188 t191 true)) = some r := H
      have A9 := Aside0.mk A90
      clear A90
      have HC10 := Aside0.mk H
      clear H
      go_enter Try.func4, Try.ntmps4
      go_upto_region 6 with (first | (go_at_call 8; (with_reducible refine (nautiluslaw06_shown.calls k  t180 _ A3.out).mono ?_); rintro e w11 ⟨rfl, hb⟩; have n0_ := Aside0.mk (below_step (by repeat (first | (with_reducible first | exact HB.out | apply below_alloc | apply pw_below_drewN | apply below_drew1) | exact HB.out)) hb); clear HB; have HB := n0_; clear n0_; (try clear hb); (try clear hb2); (try clear hk); (try clear hi); have q12 : ((ji4) : Int) ≤ ((l0.length : Int) : Int) := of_decide_eq_true (by first | (with_reducible assumption) | assumption); obtain ⟨i012, hi012, _, hsz12, _⟩ := info_parts info30; have hroom12 : l0.length ≤ c0 := HC0.out; have hC12 : Kd.C k30 _ A0 l0.length l0 := HR0.out; have hcut12 := cut_to (P := Try.prog) 22 30 .i64 Try.underlying22 hi012 A0 l0.length c0 (ji4) (of_decide_eq_true (by first | (with_reducible assumption) | assumption)) q12 hroom12; have hr12 := Kd.C_take (m := ((ji4) : Int).toNat) hC12 (by omega); have hy12 : y181.length = ((ji4) : Int).toNat := (by rw [Ny181.out, List.length_take]; omega); rw [← Ny181.out] at hr12; rw [← hy12] at hcut12; have HR184 := Aside0.mk hr12; have HC184 := Aside0.mk (show y181.length ≤ c0 from by omega); clear hr12 hC12 hroom12 hi012 hsz12; have KY12 := Aside0.mk hy12; clear hy12; replace q12 := eq_true q12) | (go_at_call 9; (with_reducible refine (usage_Choose.calls _ _ y181 0 a1 t185 t186 t187 _ ?side1 ?side2 A7.out).mono ?_); (case side1 => repeat (first | exact (Kd.C_below HR184.out HB.out) | (with_reducible refine Kd.C_alloc ?_ _) | (with_reducible refine Kd.C_drewN ?_ _) | (with_reducible refine Kd.C_drew ?_))); (case side2 => exact HC184.out); rintro e w13 ⟨rfl, hb⟩; have n0_ := Aside0.mk (below_step (by repeat (first | (with_reducible first | exact HB.out | apply below_alloc | apply pw_below_drewN | apply below_drew1) | exact HB.out)) hb); clear HB; have HB := n0_; clear n0_; (try clear hb); (try clear hb2); (try clear hk); (try clear hi)) | (go_at_call 9; (with_reducible refine (usage_Choose.calls _ _ y181 1 a1 t188 t189 t190 _ ?side1 ?side2 A8.out).mono ?_); (case side1 => repeat (first | exact (Kd.C_below HR184.out HB.out) | (with_reducible refine Kd.C_alloc ?_ _) | (with_reducible refine Kd.C_drewN ?_ _) | (with_reducible refine Kd.C_drew ?_))); (case side2 => exact HC184.out); rintro e w14 ⟨rfl, hb⟩; have n0_ := Aside0.mk (below_step (by repeat (first | (with_reducible first | exact HB.out | apply below_alloc | apply pw_below_drewN | apply below_drew1) | exact HB.out)) hb); clear HB; have HB := n0_; clear n0_; (try clear hb); (try clear hb2); (try clear hk); (try clear hi)) | (go_at_call 9; (with_reducible refine (usage_Choose.calls _ _ y181 2 a1 t191 t192 t193 _ ?side1 ?side2 A9.out).mono ?_); (case side1 => repeat (first | exact (Kd.C_below HR184.out HB.out) | (with_reducible refine Kd.C_alloc ?_ _) | (with_reducible refine Kd.C_drewN ?_ _) | (with_reducible refine Kd.C_drew ?_))); (case side2 => exact HC184.out); rintro e w15 ⟨rfl, hb⟩; have n0_ := Aside0.mk (below_step (by repeat (first | (with_reducible first | exact HB.out | apply below_alloc | apply pw_below_drewN | apply below_drew1) | exact HB.out)) hb); clear HB; have HB := n0_; clear n0_; (try clear hb); (try clear hb2); (try clear hk); (try clear hi)))
      repeat (go_quiet (first | (go_at_call 8; (with_reducible refine (nautiluslaw06_shown.calls k  t180 _ A3.out).mono ?_); rintro e w11 ⟨rfl, hb⟩; have n0_ := Aside0.mk (below_step (by repeat (first | (with_reducible first | exact HB.out | apply below_alloc | apply pw_below_drewN | apply below_drew1) | exact HB.out)) hb); clear HB; have HB := n0_; clear n0_; (try clear hb); (try clear hb2); (try clear hk); (try clear hi); have q12 : ((ji4) : Int) ≤ ((l0.length : Int) : Int) := of_decide_eq_true (by first | (with_reducible assumption) | assumption); obtain ⟨i012, hi012, _, hsz12, _⟩ := info_parts info30; have hroom12 : l0.length ≤ c0 := HC0.out; have hC12 : Kd.C k30 _ A0 l0.length l0 := HR0.out; have hcut12 := cut_to (P := Try.prog) 22 30 .i64 Try.underlying22 hi012 A0 l0.length c0 (ji4) (of_decide_eq_true (by first | (with_reducible assumption) | assumption)) q12 hroom12; have hr12 := Kd.C_take (m := ((ji4) : Int).toNat) hC12 (by omega); have hy12 : y181.length = ((ji4) : Int).toNat := (by rw [Ny181.out, List.length_take]; omega); rw [← Ny181.out] at hr12; rw [← hy12] at hcut12; have HR184 := Aside0.mk hr12; have HC184 := Aside0.mk (show y181.length ≤ c0 from by omega); clear hr12 hC12 hroom12 hi012 hsz12; have KY12 := Aside0.mk hy12; clear hy12; replace q12 := eq_true q12) | (go_at_call 9; (with_reducible refine (usage_Choose.calls _ _ y181 0 a1 t185 t186 t187 _ ?side1 ?side2 A7.out).mono ?_); (case side1 => repeat (first | exact (Kd.C_below HR184.out HB.out) | (with_reducible refine Kd.C_alloc ?_ _) | (with_reducible refine Kd.C_drewN ?_ _) | (with_reducible refine Kd.C_drew ?_))); (case side2 => exact HC184.out); rintro e w13 ⟨rfl, hb⟩; have n0_ := Aside0.mk (below_step (by repeat (first | (with_reducible first | exact HB.out | apply below_alloc | apply pw_below_drewN | apply below_drew1) | exact HB.out)) hb); clear HB; have HB := n0_; clear n0_; (try clear hb); (try clear hb2); (try clear hk); (try clear hi)) | (go_at_call 9; (with_reducible refine (usage_Choose.calls _ _ y181 1 a1 t188 t189 t190 _ ?side1 ?side2 A8.out).mono ?_); (case side1 => repeat (first | exact (Kd.C_below HR184.out HB.out) | (with_reducible refine Kd.C_alloc ?_ _) | (with_reducible refine Kd.C_drewN ?_ _) | (with_reducible refine Kd.C_drew ?_))); (case side2 => exact HC184.out); rintro e w14 ⟨rfl, hb⟩; have n0_ := Aside0.mk (below_step (by repeat (first | (with_reducible first | exact HB.out | apply below_alloc | apply pw_below_drewN | apply below_drew1) | exact HB.out)) hb); clear HB; have HB := n0_; clear n0_; (try clear hb); (try clear hb2); (try clear hk); (try clear hi)) | (go_at_call 9; (with_reducible refine (usage_Choose.calls _ _ y181 2 a1 t191 t192 t193 _ ?side1 ?side2 A9.out).mono ?_); (case side1 => repeat (first | exact (Kd.C_below HR184.out HB.out) | (with_reducible refine Kd.C_alloc ?_ _) | (with_reducible refine Kd.C_drewN ?_ _) | (with_reducible refine Kd.C_drew ?_))); (case side2 => exact HC184.out); rintro e w15 ⟨rfl, hb⟩; have n0_ := Aside0.mk (below_step (by repeat (first | (with_reducible first | exact HB.out | apply below_alloc | apply pw_below_drewN | apply below_drew1) | exact HB.out)) hb); clear HB; have HB := n0_; clear n0_; (try clear hb); (try clear hb2); (try clear hk); (try clear hi))); go_upto_region 6 with (first | (go_at_call 8; (with_reducible refine (nautiluslaw06_shown.calls k  t180 _ A3.out).mono ?_); rintro e w11 ⟨rfl, hb⟩; have n0_ := Aside0.mk (below_step (by repeat (first | (with_reducible first | exact HB.out | apply below_alloc | apply pw_below_drewN | apply below_drew1) | exact HB.out)) hb); clear HB; have HB := n0_; clear n0_; (try clear hb); (try clear hb2); (try clear hk); (try clear hi); have q12 : ((ji4) : Int) ≤ ((l0.length : Int) : Int) := of_decide_eq_true (by first | (with_reducible assumption) | assumption); obtain ⟨i012, hi012, _, hsz12, _⟩ := info_parts info30; have hroom12 : l0.length ≤ c0 := HC0.out; have hC12 : Kd.C k30 _ A0 l0.length l0 := HR0.out; have hcut12 := cut_to (P := Try.prog) 22 30 .i64 Try.underlying22 hi012 A0 l0.length c0 (ji4) (of_decide_eq_true (by first | (with_reducible assumption) | assumption)) q12 hroom12; have hr12 := Kd.C_take (m := ((ji4) : Int).toNat) hC12 (by omega); have hy12 : y181.length = ((ji4) : Int).toNat := (by rw [Ny181.out, List.length_take]; omega); rw [← Ny181.out] at hr12; rw [← hy12] at hcut12; have HR184 := Aside0.mk hr12; have HC184 := Aside0.mk (show y181.length ≤ c0 from by omega); clear hr12 hC12 hroom12 hi012 hsz12; have KY12 := Aside0.mk hy12; clear hy12; replace q12 := eq_true q12) | (go_at_call 9; (with_reducible refine (usage_Choose.calls _ _ y181 0 a1 t185 t186 t187 _ ?side1 ?side2 A7.out).mono ?_); (case side1 => repeat (first | exact (Kd.C_below HR184.out HB.out) | (with_reducible refine Kd.C_alloc ?_ _) | (with_reducible refine Kd.C_drewN ?_ _) | (with_reducible refine Kd.C_drew ?_))); (case side2 => exact HC184.out); rintro e w13 ⟨rfl, hb⟩; have n0_ := Aside0.mk (below_step (by repeat (first | (with_reducible first | exact HB.out | apply below_alloc | apply pw_below_drewN | apply below_drew1) | exact HB.out)) hb); clear HB; have HB := n0_; clear n0_; (try clear hb); (try clear hb2); (try clear hk); (try clear hi)) | (go_at_call 9; (with_reducible refine (usage_Choose.calls _ _ y181 1 a1 t188 t189 t190 _ ?side1 ?side2 A8.out).mono ?_); (case side1 => repeat (first | exact (Kd.C_below HR184.out HB.out) | (with_reducible refine Kd.C_alloc ?_ _) | (with_reducible refine Kd.C_drewN ?_ _) | (with_reducible refine Kd.C_drew ?_))); (case side2 => exact HC184.out); rintro e w14 ⟨rfl, hb⟩; have n0_ := Aside0.mk (below_step (by repeat (first | (with_reducible first | exact HB.out | apply below_alloc | apply pw_below_drewN | apply below_drew1) | exact HB.out)) hb); clear HB; have HB := n0_; clear n0_; (try clear hb); (try clear hb2); (try clear hk); (try clear hi)) | (go_at_call 9; (with_reducible refine (usage_Choose.calls _ _ y181 2 a1 t191 t192 t193 _ ?side1 ?side2 A9.out).mono ?_); (case side1 => repeat (first | exact (Kd.C_below HR184.out HB.out) | (with_reducible refine Kd.C_alloc ?_ _) | (with_reducible refine Kd.C_drewN ?_ _) | (with_reducible refine Kd.C_drew ?_))); (case side2 => exact HC184.out); rintro e w15 ⟨rfl, hb⟩; have n0_ := Aside0.mk (below_step (by repeat (first | (with_reducible first | exact HB.out | apply below_alloc | apply pw_below_drewN | apply below_drew1) | exact HB.out)) hb); clear HB; have HB := n0_; clear n0_; (try clear hb); (try clear hb2); (try clear hk); (try clear hi))))
      (try simp only [Act.put, List.setIfInBounds_toArray, List.set_cons_zero, List.set_cons_succ])
      go_cut [60] (fun v60 wc => ∃ (kq : Nat) (x60_9 : Bool), v60 = .bool x60_9 ∧ Aside0 (nautiluslaw06_UsageBest.j0 kq y181 t180 t185 t186 t187 t188 t191 x60_9 = some r) ∧ Aside0 (kq ≤ k) ∧ Aside0 (Below w.heap.size w wc))
      case first =>
        have H := HC10.out
        clear HC10
        by_cases c16 : t187 = t190
        · rw [if_pos c16] at H
          have c16b0 : (t187 == t190) = true := beq_iff_eq.mpr c16
          have c16b1 : (t187 != t190) = false := bne_eq_false_iff_eq.mpr c16
          clear c16
          (first | rw [c16b0] | (simp only [i64_w, i32_w]; rw [c16b0]) | skip)
          by_cases c17 : t190 = t193
          · rw [if_pos c17] at H
            have c17b0 : (t190 == t193) = true := beq_iff_eq.mpr c17
            have c17b1 : (t190 != t193) = false := bne_eq_false_iff_eq.mpr c17
            clear c17
            by_cases c18 : (t186 != t189) = true
            · rw [if_pos c18] at H
              have c18b0 : (t186 != t189) = true := c18
              (try (have c18b1 : decide (t186 = t189) = false := by simpa using c18))
              (try (have c18b2 : (t186 == t189) = false := by simpa using c18))
              (try (have c18b3 : ¬ (t186 = t189) := by simpa using c18))
              clear c18
              have H' := Aside0.mk H
              clear H
              go_wp2
              repeat (go_quiet (fail); try go_wp2)
              go_meet
              case rel => exact ⟨_, (true), (by first | rfl | (simp; done) | (simp [*]; done)), H', ⟨by first | omega | exact Nat.le_refl _⟩, ⟨by repeat (first | (with_reducible first | exact HB.out | apply below_alloc | apply pw_below_drewN | apply below_drew1) | exact HB.out)⟩⟩
            · rw [if_neg c18] at H
              have c18b0 : (t186 != t189) = false := by simpa using c18
              (try (have c18b1 : decide (t186 = t189) = true := by simpa using c18))
              (try (have c18b2 : (t186 == t189) = true := by simpa using c18))
              clear c18
              have H' := Aside0.mk H
              clear H
              go_wp2
              repeat (go_quiet (fail); try go_wp2)
              go_meet
              case rel => exact ⟨_, ((t189 != t192)), (by first | rfl | (simp; done) | (simp [*]; done)), H', ⟨by first | omega | exact Nat.le_refl _⟩, ⟨by repeat (first | (with_reducible first | exact HB.out | apply below_alloc | apply pw_below_drewN | apply below_drew1) | exact HB.out)⟩⟩
          · rw [if_neg c17] at H
            have c17b0 : (t190 == t193) = false := beq_eq_false_iff_ne.mpr c17
            have c17b1 : (t190 != t193) = true := bne_iff_ne.mpr c17
            have H' := Aside0.mk H
            clear H
            go_wp2
            repeat (go_quiet (fail); try go_wp2)
            go_meet
            case rel => exact ⟨_, (true), (by first | rfl | (simp; done) | (simp [*]; done)), H', ⟨by first | omega | exact Nat.le_refl _⟩, ⟨by repeat (first | (with_reducible first | exact HB.out | apply below_alloc | apply pw_below_drewN | apply below_drew1) | exact HB.out)⟩⟩
        · rw [if_neg c16] at H
          have c16b0 : (t187 == t190) = false := beq_eq_false_iff_ne.mpr c16
          have c16b1 : (t187 != t190) = true := bne_iff_ne.mpr c16
          (first | rw [c16b0] | (simp only [i64_w, i32_w]; rw [c16b0]) | skip)
          have H' := Aside0.mk H
          clear H
          go_wp2
          repeat (go_quiet (fail); try go_wp2)
          go_meet
          case rel => exact ⟨_, (true), (by first | rfl | (simp; done) | (simp [*]; done)), H', ⟨by first | omega | exact Nat.le_refl _⟩, ⟨by repeat (first | (with_reducible first | exact HB.out | apply below_alloc | apply pw_below_drewN | apply below_drew1) | exact HB.out)⟩⟩
      case rest =>
        clear HC10
        try clear c1
        try clear q1
        try clear p2
        try clear c4
        try clear c5
        try clear c5b0
        try clear c5b1
        try clear c6
        try clear c6b0
        try clear c6b1
        try clear q12
        try clear c16
        try clear c16b0
        try clear c16b1
        try clear c17
        try clear c17b0
        try clear c17b1
        try clear c18
        try clear c18b0
        try clear c18b1
        try clear c18b2
        try clear q12
        obtain ⟨kq, x60_9, rfl, HA, HJ9, HB⟩ := hcut
        cases kq with
        | zero => exact absurd HA.out (by simp [nautiluslaw06_UsageBest.j0])
        | succ kj9 =>
          have H := HA.out
          clear HA
          simp only [nautiluslaw06_UsageBest.j0] at H
          by_cases c19 : x60_9 = true
          · subst c19
            have H1 : (some false) = some r := by rw [if_pos rfl] at H; exact H
            clear H
            have H := H1
            clear H1
            obtain rfl := Option.some.inj H
            go_wp2
            repeat (go_quiet (fail); try go_wp2)
            go_ret
            exact ⟨by first | rfl | (simp [errW_none, errW_some] <;> rfl) | (simp only [← hji4]; first | rfl | (simp [errW_none, errW_some] <;> rfl)) | (simp [*, errW_none, errW_some] <;> rfl) | (simp [show IntKind.u64.wrap 0 = 0 from rfl, Int.zero_tdiv]; done), by repeat (first | (with_reducible first | exact HB.out | apply below_alloc | apply pw_below_drewN | apply below_drew1) | exact HB.out)⟩
          · replace c19 := Bool.eq_false_iff.mpr c19
            subst c19
            have H1 : (if t187 = 0 then (nautiluslaw06_UsageBest.j1 kj9 y181 t180 t185 t187 t188 t191 (!t186)) else (nautiluslaw06_UsageBest.j1 kj9 y181 t180 t185 t187 t188 t191 true)) = some r := by rw [if_neg (show ¬ (false = true) by decide)] at H; exact H
            clear H
            have H := H1
            clear H1
            have HC20 := Aside0.mk H
            clear H
            go_upto_region 8 with (fail)
            repeat (go_quiet (fail); go_upto_region 8 with (fail))
            go_cut [66] (fun v66 wc => ∃ (kq : Nat) (x66_19 : Bool), v66 = .bool x66_19 ∧ Aside0 (nautiluslaw06_UsageBest.j1 kq y181 t180 t185 t187 t188 t191 x66_19 = some r) ∧ Aside0 (kq ≤ kj9) ∧ Aside0 (Below w.heap.size w wc))
            case first =>
              have H := HC20.out
              clear HC20
              by_cases c21 : t187 = 0
              · rw [if_pos c21] at H
                have c21b0 : (t187 == 0) = true := beq_iff_eq.mpr c21
                have c21b1 : (t187 != 0) = false := bne_eq_false_iff_eq.mpr c21
                clear c21
                (first | rw [c21b0] | (simp only [i64_w, i32_w]; rw [c21b0]) | skip)
                have H' := Aside0.mk H
                clear H
                go_wp2
                repeat (go_quiet (fail); try go_wp2)
                go_meet
                case rel => exact ⟨_, (!t186), (by first | rfl | (simp; done) | (simp [*]; done)), H', ⟨by have := HJ9.out; first | omega | exact Nat.le_refl _⟩, ⟨by repeat (first | (with_reducible first | exact HB.out | apply below_alloc | apply pw_below_drewN | apply below_drew1) | exact HB.out)⟩⟩
              · rw [if_neg c21] at H
                have c21b0 : (t187 == 0) = false := beq_eq_false_iff_ne.mpr c21
                have c21b1 : (t187 != 0) = true := bne_iff_ne.mpr c21
                (first | rw [c21b0] | (simp only [i64_w, i32_w]; rw [c21b0]) | skip)
                have H' := Aside0.mk H
                clear H
                go_wp2
                repeat (go_quiet (fail); try go_wp2)
                go_meet
                case rel => exact ⟨_, (true), (by first | rfl | (simp; done) | (simp [*]; done)), H', ⟨by have := HJ9.out; first | omega | exact Nat.le_refl _⟩, ⟨by repeat (first | (with_reducible first | exact HB.out | apply below_alloc | apply pw_below_drewN | apply below_drew1) | exact HB.out)⟩⟩
            case rest =>
              clear HC20
              try clear c1
              try clear q1
              try clear c2
              try clear p2
              try clear c4
              try clear c5
              try clear c5b0
              try clear c5b1
              try clear c6
              try clear c6b0
              try clear c6b1
              try clear q12
              try clear c16
              try clear c16b0
              try clear c16b1
              try clear c17
              try clear c17b0
              try clear c17b1
              try clear c18
              try clear c18b0
              try clear c18b1
              try clear c18b2
              try clear c19
              try clear c21
              try clear c21b0
              try clear c21b1
              try clear p2
              try clear q1
              try clear q12
              obtain ⟨kq, x66_19, rfl, HA, HJ19, HB⟩ := hcut
              cases kq with
              | zero => exact absurd HA.out (by simp [nautiluslaw06_UsageBest.j1])
              | succ kj19 =>
                have H := HA.out
                clear HA
                simp only [nautiluslaw06_UsageBest.j1] at H
                by_cases c22 : x66_19 = true
                · subst c22
                  have H1 : (if t180 = true then (if t187 = 0 then (some true) else (some (t187 == 60))) else (some false)) = some r := by rw [if_pos rfl] at H; exact H
                  clear H
                  have H := H1
                  clear H1
                  by_cases c23 : t180 = true
                  · subst c23
                    have H1 : (if t187 = 0 then (some true) else (some (t187 == 60))) = some r := by rw [if_pos rfl] at H; exact H
                    clear H
                    have H := H1
                    clear H1
                    by_cases c24 : t187 = 0
                    · rw [if_pos c24] at H
                      have c24b0 : (t187 == 0) = true := beq_iff_eq.mpr c24
                      have c24b1 : (t187 != 0) = false := bne_eq_false_iff_eq.mpr c24
                      clear c24
                      obtain rfl := Option.some.inj H
                      go_wp2
                      repeat (go_quiet (fail); try go_wp2)
                      go_ret
                      exact ⟨by first | rfl | (simp [errW_none, errW_some] <;> rfl) | (simp only [← hji4]; first | rfl | (simp [errW_none, errW_some] <;> rfl)) | (simp [*, errW_none, errW_some] <;> rfl) | (simp [show IntKind.u64.wrap 0 = 0 from rfl, Int.zero_tdiv]; done), by repeat (first | (with_reducible first | exact HB.out | apply below_alloc | apply pw_below_drewN | apply below_drew1) | exact HB.out)⟩
                    · rw [if_neg c24] at H
                      have c24b0 : (t187 == 0) = false := beq_eq_false_iff_ne.mpr c24
                      have c24b1 : (t187 != 0) = true := bne_iff_ne.mpr c24
                      obtain rfl := Option.some.inj H
                      go_wp2
                      repeat (go_quiet (fail); try go_wp2)
                      go_ret
                      exact ⟨by first | rfl | (simp [errW_none, errW_some] <;> rfl) | (simp only [← hji4]; first | rfl | (simp [errW_none, errW_some] <;> rfl)) | (simp [*, errW_none, errW_some] <;> rfl) | (simp [show IntKind.u64.wrap 0 = 0 from rfl, Int.zero_tdiv]; done), by repeat (first | (with_reducible first | exact HB.out | apply below_alloc | apply pw_below_drewN | apply below_drew1) | exact HB.out)⟩
                  · replace c23 := Bool.eq_false_iff.mpr c23
                    subst c23
                    have H1 : (some false) = some r := by rw [if_neg (show ¬ (false = true) by decide)] at H; exact H
                    clear H
                    have H := H1
                    clear H1
                    obtain rfl := Option.some.inj H
                    go_wp2
                    repeat (go_quiet (fail); try go_wp2)
                    go_ret
                    exact ⟨by first | rfl | (simp [errW_none, errW_some] <;> rfl) | (simp only [← hji4]; first | rfl | (simp [errW_none, errW_some] <;> rfl)) | (simp [*, errW_none, errW_some] <;> rfl) | (simp [show IntKind.u64.wrap 0 = 0 from rfl, Int.zero_tdiv]; done), by repeat (first | (with_reducible first | exact HB.out | apply below_alloc | apply pw_below_drewN | apply below_drew1) | exact HB.out)⟩
                · replace c22 := Bool.eq_false_iff.mpr c22
                  subst c22
                  have H1 : (if t185 < 1 then (nautiluslaw06_UsageBest.j2 kj19 y181 t180 t185 t188 t191 true) else (if t185 ≥ (y181.length : Int) then (nautiluslaw06_UsageBest.j2 kj19 y181 t180 t185 t188 t191 true) else (if t188 < 1 then (nautiluslaw06_UsageBest.j2 kj19 y181 t180 t185 t188 t191 true) else (if t188 ≥ (y181.length : Int) then (nautiluslaw06_UsageBest.j2 kj19 y181 t180 t185 t188 t191 true) else (if t191 < 1 then (nautiluslaw06_UsageBest.j2 kj19 y181 t180 t185 t188 t191 true) else (nautiluslaw06_UsageBest.j2 kj19 y181 t180 t185 t188 t191 (decide (t191 ≥ (y181.length : Int))))))))) = some r := by rw [if_neg (show ¬ (false = true) by decide)] at H; exact H
                  clear H
                  have H := H1
                  clear H1
                  have HC25 := Aside0.mk H
                  clear H
                  go_upto_region 10 with (fail)
                  repeat (go_quiet (fail); go_upto_region 10 with (fail))
                  go_cut [103] (fun v103 wc => ∃ (kq : Nat) (x103_24 : Bool), v103 = .bool x103_24 ∧ Aside0 (nautiluslaw06_UsageBest.j2 kq y181 t180 t185 t188 t191 x103_24 = some r) ∧ Aside0 (kq ≤ kj19) ∧ Aside0 (Below w.heap.size w wc))
                  case first =>
                    have H := HC25.out
                    clear HC25
                    by_cases c26 : t185 < 1
                    · rw [if_pos c26] at H
                      have c26b0 : decide (t185 < 1) = true := decide_eq_true c26
                      clear c26
                      (first | rw [c26b0] | (simp only [i64_w, i32_w]; rw [c26b0]) | skip)
                      have H' := Aside0.mk H
                      clear H
                      go_wp2
                      repeat (go_quiet (fail); try go_wp2)
                      go_meet
                      case rel => exact ⟨_, (true), (by first | rfl | (simp; done) | (simp [*]; done)), H', ⟨by have := HJ9.out; have := HJ19.out; first | omega | exact Nat.le_refl _⟩, ⟨by repeat (first | (with_reducible first | exact HB.out | apply below_alloc | apply pw_below_drewN | apply below_drew1) | exact HB.out)⟩⟩
                    · rw [if_neg c26] at H
                      have c26b0 : decide (t185 < 1) = false := decide_eq_false c26
                      clear c26
                      (first | rw [c26b0] | (simp only [i64_w, i32_w]; rw [c26b0]) | skip)
                      by_cases c27 : t185 ≥ (y181.length : Int)
                      · rw [if_pos c27] at H
                        have c27b0 : decide ((y181.length : Int) ≤ t185) = true := decide_eq_true c27
                        clear c27
                        have H' := Aside0.mk H
                        clear H
                        go_wp2
                        repeat (go_quiet (fail); try go_wp2)
                        go_meet
                        case rel => exact ⟨_, (true), (by first | rfl | (simp; done) | (simp [*]; done)), H', ⟨by have := HJ9.out; have := HJ19.out; first | omega | exact Nat.le_refl _⟩, ⟨by repeat (first | (with_reducible first | exact HB.out | apply below_alloc | apply pw_below_drewN | apply below_drew1) | exact HB.out)⟩⟩
                      · rw [if_neg c27] at H
                        have c27b0 : decide ((y181.length : Int) ≤ t185) = false := decide_eq_false c27
                        clear c27
                        by_cases c28 : t188 < 1
                        · rw [if_pos c28] at H
                          have c28b0 : decide (t188 < 1) = true := decide_eq_true c28
                          clear c28
                          have H' := Aside0.mk H
                          clear H
                          go_wp2
                          repeat (go_quiet (fail); try go_wp2)
                          go_meet
                          case rel => exact ⟨_, (true), (by first | rfl | (simp; done) | (simp [*]; done)), H', ⟨by have := HJ9.out; have := HJ19.out; first | omega | exact Nat.le_refl _⟩, ⟨by repeat (first | (with_reducible first | exact HB.out | apply below_alloc | apply pw_below_drewN | apply below_drew1) | exact HB.out)⟩⟩
                        · rw [if_neg c28] at H
                          have c28b0 : decide (t188 < 1) = false := decide_eq_false c28
                          clear c28
                          by_cases c29 : t188 ≥ (y181.length : Int)
                          · rw [if_pos c29] at H
                            have c29b0 : decide ((y181.length : Int) ≤ t188) = true := decide_eq_true c29
                            clear c29
                            have H' := Aside0.mk H
                            clear H
                            go_wp2
                            repeat (go_quiet (fail); try go_wp2)
                            go_meet
                            case rel => exact ⟨_, (true), (by first | rfl | (simp; done) | (simp [*]; done)), H', ⟨by have := HJ9.out; have := HJ19.out; first | omega | exact Nat.le_refl _⟩, ⟨by repeat (first | (with_reducible first | exact HB.out | apply below_alloc | apply pw_below_drewN | apply below_drew1) | exact HB.out)⟩⟩
                          · rw [if_neg c29] at H
                            have c29b0 : decide ((y181.length : Int) ≤ t188) = false := decide_eq_false c29
                            clear c29
                            by_cases c30 : t191 < 1
                            · rw [if_pos c30] at H
                              have c30b0 : decide (t191 < 1) = true := decide_eq_true c30
                              clear c30
                              have H' := Aside0.mk H
                              clear H
                              go_wp2
                              repeat (go_quiet (fail); try go_wp2)
                              go_meet
                              case rel => exact ⟨_, (true), (by first | rfl | (simp; done) | (simp [*]; done)), H', ⟨by have := HJ9.out; have := HJ19.out; first | omega | exact Nat.le_refl _⟩, ⟨by repeat (first | (with_reducible first | exact HB.out | apply below_alloc | apply pw_below_drewN | apply below_drew1) | exact HB.out)⟩⟩
                            · rw [if_neg c30] at H
                              have c30b0 : decide (t191 < 1) = false := decide_eq_false c30
                              clear c30
                              have H' := Aside0.mk H
                              clear H
                              go_wp2
                              repeat (go_quiet (fail); try go_wp2)
                              go_meet
                              case rel => exact ⟨_, (decide (t191 ≥ (y181.length : Int))), (by first | rfl | (simp; done) | (simp [*]; done)), H', ⟨by have := HJ9.out; have := HJ19.out; first | omega | exact Nat.le_refl _⟩, ⟨by repeat (first | (with_reducible first | exact HB.out | apply below_alloc | apply pw_below_drewN | apply below_drew1) | exact HB.out)⟩⟩
                  case rest =>
                    clear HC25
                    try clear c1
                    try clear q1
                    try clear c2
                    try clear p2
                    try clear c3
                    try clear c4
                    try clear c5
                    try clear c5b0
                    try clear c5b1
                    try clear c6
                    try clear c6b0
                    try clear c6b1
                    try clear q12
                    try clear c16
                    try clear c16b0
                    try clear c16b1
                    try clear c17
                    try clear c17b0
                    try clear c17b1
                    try clear c18
                    try clear c18b0
                    try clear c18b1
                    try clear c18b2
                    try clear c19
                    try clear c21
                    try clear c21b0
                    try clear c21b1
                    try clear c22
                    try clear c23
                    try clear c24
                    try clear c24b0
                    try clear c24b1
                    try clear c26
                    try clear c26b0
                    try clear c27
                    try clear c27b0
                    try clear c28
                    try clear c28b0
                    try clear c29
                    try clear c29b0
                    try clear c30
                    try clear c30b0
                    try clear p2
                    try clear q1
                    try clear q12
                    obtain ⟨kq, x103_24, rfl, HA, HJ24, HB⟩ := hcut
                    cases kq with
                    | zero => exact absurd HA.out (by simp [nautiluslaw06_UsageBest.j2])
                    | succ kj24 =>
                      have H := HA.out
                      clear HA
                      simp only [nautiluslaw06_UsageBest.j2] at H
                      by_cases c31 : x103_24 = true
                      · subst c31
                        have H1 : (some false) = some r := by rw [if_pos rfl] at H; exact H
                        clear H
                        have H := H1
                        clear H1
                        obtain rfl := Option.some.inj H
                        go_wp2
                        repeat (go_quiet (fail); try go_wp2)
                        go_ret
                        exact ⟨by first | rfl | (simp [errW_none, errW_some] <;> rfl) | (simp only [← hji4]; first | rfl | (simp [errW_none, errW_some] <;> rfl)) | (simp [*, errW_none, errW_some] <;> rfl) | (simp [show IntKind.u64.wrap 0 = 0 from rfl, Int.zero_tdiv]; done), by repeat (first | (with_reducible first | exact HB.out | apply below_alloc | apply pw_below_drewN | apply below_drew1) | exact HB.out)⟩
                      · replace c31 := Bool.eq_false_iff.mpr c31
                        subst c31
                        have H1 : (nautiluslaw06_UsageBest.l0 kj24 y181 t180 t185 t188 t191 1) = some r := by rw [if_neg (show ¬ (false = true) by decide)] at H; exact H
                        clear H
                        have H := H1
                        clear H1
                        have H' := Aside0.mk H
                        clear H
                        go_wp2
                        repeat (go_quiet (fail); try go_wp2)
                        go_loopg [15] kj24 (fun kq v15 w' => ∃ (x15_4 : Int), v15 = .int .i64 x15_4 ∧ Aside0 (nautiluslaw06_UsageBest.l0 kq y181 t180 t185 t188 t191 x15_4 = some r) ∧ Aside0 (kq ≤ kj24) ∧ Aside0 (Below w.heap.size w w'))
                        case atStart => exact ⟨(1), (by first | rfl | (simp; done) | (simp [*]; done)), H', ⟨Nat.le_refl _⟩, ⟨by repeat (first | (with_reducible first | exact HB.out | apply below_alloc | apply pw_below_drewN | apply below_drew1) | exact HB.out)⟩⟩
                        case round =>
                          clear H'
                          try clear c1
                          try clear q1
                          try clear c2
                          try clear p2
                          try clear c3
                          try clear c4
                          try clear c5
                          try clear c5b0
                          try clear c5b1
                          try clear c6
                          try clear c6b0
                          try clear c6b1
                          try clear q12
                          try clear c16
                          try clear c16b0
                          try clear c16b1
                          try clear c17
                          try clear c17b0
                          try clear c17b1
                          try clear c18
                          try clear c18b0
                          try clear c18b1
                          try clear c18b2
                          try clear c19
                          try clear c21
                          try clear c21b0
                          try clear c21b1
                          try clear c22
                          try clear c23
                          try clear c24
                          try clear c24b0
                          try clear c24b1
                          try clear c26
                          try clear c26b0
                          try clear c27
                          try clear c27b0
                          try clear c28
                          try clear c28b0
                          try clear c29
                          try clear c29b0
                          try clear c30
                          try clear c30b0
                          try clear c31
                          try clear p2
                          try clear q1
                          try clear q12
                          obtain ⟨x15_4, rfl, HA, HK4, HB⟩ := hrel
                          cases gk with
                          | zero => exact absurd HA.out (by simp [nautiluslaw06_UsageBest.l0])
                          | succ k4 =>
                            have H := HA.out
                            clear HA
                            simp only [nautiluslaw06_UsageBest.l0] at H
                            by_cases c32 : x15_4 < (y181.length : Int)
                            · rw [if_pos c32] at H
                              have c32b0 : decide (x15_4 < (y181.length : Int)) = true := decide_eq_true c32
                              clear c32
                              have HC33 := Aside0.mk H
                              clear H
                              go_upto_region 15 with (fail)
                              repeat (go_quiet (fail); go_upto_region 15 with (fail))
                              go_cut [149] (fun v149 wc => ∃ (kq : Nat) (x149_32 : Bool), v149 = .bool x149_32 ∧ Aside0 (nautiluslaw06_UsageBest.j4 kq y181 t180 t185 t188 t191 x15_4 x149_32 = some r) ∧ Aside0 (kq ≤ k4) ∧ Aside0 (Below w.heap.size w wc))
                              case first =>
                                have H := HC33.out
                                clear HC33
                                by_cases c34 : 0 ≤ x15_4
                                · rw [if_pos c34] at H
                                  have c34b0 : decide (0 ≤ x15_4) = true := decide_eq_true c34
                                  clear c34
                                  (first | rw [c34b0] | (simp only [i64_w, i32_w]; rw [c34b0]) | skip)
                                  by_cases c35 : ((rd_T30 y181 x15_4).f2) = 1
                                  · rw [if_pos c35] at H
                                    have c35b0 : (((rd_T30 y181 x15_4).f2) == 1) = true := beq_iff_eq.mpr c35
                                    have c35b1 : (((rd_T30 y181 x15_4).f2) != 1) = false := bne_eq_false_iff_eq.mpr c35
                                    clear c35
                                    by_cases c36 : ((rd_T30 y181 x15_4).f0) < 16
                                    · rw [if_pos c36] at H
                                      have c36b0 : decide (((rd_T30 y181 x15_4).f0) < 16) = true := decide_eq_true c36
                                      clear c36
                                      by_cases c37 : 0 ≤ t185
                                      · rw [if_pos c37] at H
                                        have c37b0 : decide (0 ≤ t185) = true := decide_eq_true c37
                                        clear c37
                                        by_cases c38 : t185 < (y181.length : Int)
                                        · rw [if_pos c38] at H
                                          have c38b0 : decide (t185 < (y181.length : Int)) = true := decide_eq_true c38
                                          clear c38
                                          by_cases c39 : ((rd_T30 y181 x15_4).f1) < ((rd_T30 y181 t185).f1)
                                          · rw [if_pos c39] at H
                                            have c39b0 : decide (((rd_T30 y181 x15_4).f1) < ((rd_T30 y181 t185).f1)) = true := decide_eq_true c39
                                            clear c39
                                            have H' := Aside0.mk H
                                            clear H
                                            have p199 : 0 ≤ (x15_4 : Int) := of_decide_eq_true (by first | (with_reducible assumption) | assumption)
                                            have q199 : x15_4 < (y181.length : Int) := of_decide_eq_true (by first | (with_reducible assumption) | assumption)
                                            obtain ⟨ad199, e199, hx199_0, hx199_1, hx199_2⟩ := at_T30 HR184.out x15_4 p199 q199
                                            cases e199
                                            replace hx199_0 := (HB.out.cell (World.block_lt_of_cell? w _ hx199_0)).trans hx199_0
                                            replace hx199_1 := (HB.out.cell (World.block_lt_of_cell? w _ hx199_1)).trans hx199_1
                                            replace hx199_2 := (HB.out.cell (World.block_lt_of_cell? w _ hx199_2)).trans hx199_2
                                            replace p199 := eq_true p199
                                            replace q199 := eq_true q199
                                            have p200 : 0 ≤ (x15_4 : Int) := of_decide_eq_true (by first | (with_reducible assumption) | assumption)
                                            have q200 : x15_4 < (y181.length : Int) := of_decide_eq_true (by first | (with_reducible assumption) | assumption)
                                            obtain ⟨ad200, e200, hx200_0, hx200_1, hx200_2⟩ := at_T30 HR184.out x15_4 p200 q200
                                            obtain rfl : ad199 = ad200 := (by injection e200)
                                            replace hx200_0 := (HB.out.cell (World.block_lt_of_cell? w _ hx200_0)).trans hx200_0
                                            replace hx200_1 := (HB.out.cell (World.block_lt_of_cell? w _ hx200_1)).trans hx200_1
                                            replace hx200_2 := (HB.out.cell (World.block_lt_of_cell? w _ hx200_2)).trans hx200_2
                                            replace p200 := eq_true p200
                                            replace q200 := eq_true q200
                                            have p201 : 0 ≤ (x15_4 : Int) := of_decide_eq_true (by first | (with_reducible assumption) | assumption)
                                            have q201 : x15_4 < (y181.length : Int) := of_decide_eq_true (by first | (with_reducible assumption) | assumption)
                                            obtain ⟨ad201, e201, hx201_0, hx201_1, hx201_2⟩ := at_T30 HR184.out x15_4 p201 q201
                                            obtain rfl : ad199 = ad201 := (by injection e201)
                                            replace hx201_0 := (HB.out.cell (World.block_lt_of_cell? w _ hx201_0)).trans hx201_0
                                            replace hx201_1 := (HB.out.cell (World.block_lt_of_cell? w _ hx201_1)).trans hx201_1
                                            replace hx201_2 := (HB.out.cell (World.block_lt_of_cell? w _ hx201_2)).trans hx201_2
                                            replace p201 := eq_true p201
                                            replace q201 := eq_true q201
                                            have p202 : 0 ≤ (t185 : Int) := of_decide_eq_true (by first | (with_reducible assumption) | assumption)
                                            have q202 : t185 < (y181.length : Int) := of_decide_eq_true (by first | (with_reducible assumption) | assumption)
                                            obtain ⟨ad202, e202, hx202_0, hx202_1, hx202_2⟩ := at_T30 HR184.out t185 p202 q202
                                            obtain rfl : ad199 = ad202 := (by injection e202)
                                            replace hx202_0 := (HB.out.cell (World.block_lt_of_cell? w _ hx202_0)).trans hx202_0
                                            replace hx202_1 := (HB.out.cell (World.block_lt_of_cell? w _ hx202_1)).trans hx202_1
                                            replace hx202_2 := (HB.out.cell (World.block_lt_of_cell? w _ hx202_2)).trans hx202_2
                                            replace p202 := eq_true p202
                                            replace q202 := eq_true q202
                                            go_wp2
                                            repeat (go_quiet (fail); try go_wp2)
                                            go_meet
                                            case rel => exact ⟨_, (true), (by first | rfl | (simp; done) | (simp [*]; done)), H', ⟨by have := HJ9.out; have := HJ19.out; have := HJ24.out; have := HK4.out; first | omega | exact Nat.le_refl _⟩, ⟨by repeat (first | (with_reducible first | exact HB.out | apply below_alloc | apply pw_below_drewN | apply below_drew1) | exact HB.out)⟩⟩
                                          · rw [if_neg c39] at H
                                            have c39b0 : decide (((rd_T30 y181 x15_4).f1) < ((rd_T30 y181 t185).f1)) = false := decide_eq_false c39
                                            clear c39
                                            by_cases c40 : 0 ≤ t188
                                            · rw [if_pos c40] at H
                                              have c40b0 : decide (0 ≤ t188) = true := decide_eq_true c40
                                              clear c40
                                              by_cases c41 : t188 < (y181.length : Int)
                                              · rw [if_pos c41] at H
                                                have c41b0 : decide (t188 < (y181.length : Int)) = true := decide_eq_true c41
                                                clear c41
                                                have H' := Aside0.mk H
                                                clear H
                                                have p199 : 0 ≤ (x15_4 : Int) := of_decide_eq_true (by first | (with_reducible assumption) | assumption)
                                                have q199 : x15_4 < (y181.length : Int) := of_decide_eq_true (by first | (with_reducible assumption) | assumption)
                                                obtain ⟨ad199, e199, hx199_0, hx199_1, hx199_2⟩ := at_T30 HR184.out x15_4 p199 q199
                                                cases e199
                                                replace hx199_0 := (HB.out.cell (World.block_lt_of_cell? w _ hx199_0)).trans hx199_0
                                                replace hx199_1 := (HB.out.cell (World.block_lt_of_cell? w _ hx199_1)).trans hx199_1
                                                replace hx199_2 := (HB.out.cell (World.block_lt_of_cell? w _ hx199_2)).trans hx199_2
                                                replace p199 := eq_true p199
                                                replace q199 := eq_true q199
                                                have p200 : 0 ≤ (x15_4 : Int) := of_decide_eq_true (by first | (with_reducible assumption) | assumption)
                                                have q200 : x15_4 < (y181.length : Int) := of_decide_eq_true (by first | (with_reducible assumption) | assumption)
                                                obtain ⟨ad200, e200, hx200_0, hx200_1, hx200_2⟩ := at_T30 HR184.out x15_4 p200 q200
                                                obtain rfl : ad199 = ad200 := (by injection e200)
                                                replace hx200_0 := (HB.out.cell (World.block_lt_of_cell? w _ hx200_0)).trans hx200_0
                                                replace hx200_1 := (HB.out.cell (World.block_lt_of_cell? w _ hx200_1)).trans hx200_1
                                                replace hx200_2 := (HB.out.cell (World.block_lt_of_cell? w _ hx200_2)).trans hx200_2
                                                replace p200 := eq_true p200
                                                replace q200 := eq_true q200
                                                have p201 : 0 ≤ (x15_4 : Int) := of_decide_eq_true (by first | (with_reducible assumption) | assumption)
                                                have q201 : x15_4 < (y181.length : Int) := of_decide_eq_true (by first | (with_reducible assumption) | assumption)
                                                obtain ⟨ad201, e201, hx201_0, hx201_1, hx201_2⟩ := at_T30 HR184.out x15_4 p201 q201
                                                obtain rfl : ad199 = ad201 := (by injection e201)
                                                replace hx201_0 := (HB.out.cell (World.block_lt_of_cell? w _ hx201_0)).trans hx201_0
                                                replace hx201_1 := (HB.out.cell (World.block_lt_of_cell? w _ hx201_1)).trans hx201_1
                                                replace hx201_2 := (HB.out.cell (World.block_lt_of_cell? w _ hx201_2)).trans hx201_2
                                                replace p201 := eq_true p201
                                                replace q201 := eq_true q201
                                                have p202 : 0 ≤ (t185 : Int) := of_decide_eq_true (by first | (with_reducible assumption) | assumption)
                                                have q202 : t185 < (y181.length : Int) := of_decide_eq_true (by first | (with_reducible assumption) | assumption)
                                                obtain ⟨ad202, e202, hx202_0, hx202_1, hx202_2⟩ := at_T30 HR184.out t185 p202 q202
                                                obtain rfl : ad199 = ad202 := (by injection e202)
                                                replace hx202_0 := (HB.out.cell (World.block_lt_of_cell? w _ hx202_0)).trans hx202_0
                                                replace hx202_1 := (HB.out.cell (World.block_lt_of_cell? w _ hx202_1)).trans hx202_1
                                                replace hx202_2 := (HB.out.cell (World.block_lt_of_cell? w _ hx202_2)).trans hx202_2
                                                replace p202 := eq_true p202
                                                replace q202 := eq_true q202
                                                have p203 : 0 ≤ (x15_4 : Int) := of_decide_eq_true (by first | (with_reducible assumption) | assumption)
                                                have q203 : x15_4 < (y181.length : Int) := of_decide_eq_true (by first | (with_reducible assumption) | assumption)
                                                obtain ⟨ad203, e203, hx203_0, hx203_1, hx203_2⟩ := at_T30 HR184.out x15_4 p203 q203
                                                obtain rfl : ad199 = ad203 := (by injection e203)
                                                replace hx203_0 := (HB.out.cell (World.block_lt_of_cell? w _ hx203_0)).trans hx203_0
                                                replace hx203_1 := (HB.out.cell (World.block_lt_of_cell? w _ hx203_1)).trans hx203_1
                                                replace hx203_2 := (HB.out.cell (World.block_lt_of_cell? w _ hx203_2)).trans hx203_2
                                                replace p203 := eq_true p203
                                                replace q203 := eq_true q203
                                                have p204 : 0 ≤ (t188 : Int) := of_decide_eq_true (by first | (with_reducible assumption) | assumption)
                                                have q204 : t188 < (y181.length : Int) := of_decide_eq_true (by first | (with_reducible assumption) | assumption)
                                                obtain ⟨ad204, e204, hx204_0, hx204_1, hx204_2⟩ := at_T30 HR184.out t188 p204 q204
                                                obtain rfl : ad199 = ad204 := (by injection e204)
                                                replace hx204_0 := (HB.out.cell (World.block_lt_of_cell? w _ hx204_0)).trans hx204_0
                                                replace hx204_1 := (HB.out.cell (World.block_lt_of_cell? w _ hx204_1)).trans hx204_1
                                                replace hx204_2 := (HB.out.cell (World.block_lt_of_cell? w _ hx204_2)).trans hx204_2
                                                replace p204 := eq_true p204
                                                replace q204 := eq_true q204
                                                go_wp2
                                                repeat (go_quiet (fail); try go_wp2)
                                                go_meet
                                                case rel => exact ⟨_, (decide (((rd_T30 y181 x15_4).f0) < ((rd_T30 y181 t188).f0))), (by first | rfl | (simp; done) | (simp [*]; done)), H', ⟨by have := HJ9.out; have := HJ19.out; have := HJ24.out; have := HK4.out; first | omega | exact Nat.le_refl _⟩, ⟨by repeat (first | (with_reducible first | exact HB.out | apply below_alloc | apply pw_below_drewN | apply below_drew1) | exact HB.out)⟩⟩
                                              · rw [if_neg c41] at H
                                                exact absurd H (by simp)
                                            · rw [if_neg c40] at H
                                              exact absurd H (by simp)
                                        · rw [if_neg c38] at H
                                          exact absurd H (by simp)
                                      · rw [if_neg c37] at H
                                        exact absurd H (by simp)
                                    · rw [if_neg c36] at H
                                      have c36b0 : decide (((rd_T30 y181 x15_4).f0) < 16) = false := decide_eq_false c36
                                      clear c36
                                      have H' := Aside0.mk H
                                      clear H
                                      have p199 : 0 ≤ (x15_4 : Int) := of_decide_eq_true (by first | (with_reducible assumption) | assumption)
                                      have q199 : x15_4 < (y181.length : Int) := of_decide_eq_true (by first | (with_reducible assumption) | assumption)
                                      obtain ⟨ad199, e199, hx199_0, hx199_1, hx199_2⟩ := at_T30 HR184.out x15_4 p199 q199
                                      cases e199
                                      replace hx199_0 := (HB.out.cell (World.block_lt_of_cell? w _ hx199_0)).trans hx199_0
                                      replace hx199_1 := (HB.out.cell (World.block_lt_of_cell? w _ hx199_1)).trans hx199_1
                                      replace hx199_2 := (HB.out.cell (World.block_lt_of_cell? w _ hx199_2)).trans hx199_2
                                      replace p199 := eq_true p199
                                      replace q199 := eq_true q199
                                      have p200 : 0 ≤ (x15_4 : Int) := of_decide_eq_true (by first | (with_reducible assumption) | assumption)
                                      have q200 : x15_4 < (y181.length : Int) := of_decide_eq_true (by first | (with_reducible assumption) | assumption)
                                      obtain ⟨ad200, e200, hx200_0, hx200_1, hx200_2⟩ := at_T30 HR184.out x15_4 p200 q200
                                      obtain rfl : ad199 = ad200 := (by injection e200)
                                      replace hx200_0 := (HB.out.cell (World.block_lt_of_cell? w _ hx200_0)).trans hx200_0
                                      replace hx200_1 := (HB.out.cell (World.block_lt_of_cell? w _ hx200_1)).trans hx200_1
                                      replace hx200_2 := (HB.out.cell (World.block_lt_of_cell? w _ hx200_2)).trans hx200_2
                                      replace p200 := eq_true p200
                                      replace q200 := eq_true q200
                                      go_wp2
                                      repeat (go_quiet (fail); try go_wp2)
                                      go_meet
                                      case rel => exact ⟨_, (false), (by first | rfl | (simp; done) | (simp [*]; done)), H', ⟨by have := HJ9.out; have := HJ19.out; have := HJ24.out; have := HK4.out; first | omega | exact Nat.le_refl _⟩, ⟨by repeat (first | (with_reducible first | exact HB.out | apply below_alloc | apply pw_below_drewN | apply below_drew1) | exact HB.out)⟩⟩
                                  · rw [if_neg c35] at H
                                    have c35b0 : (((rd_T30 y181 x15_4).f2) == 1) = false := beq_eq_false_iff_ne.mpr c35
                                    have c35b1 : (((rd_T30 y181 x15_4).f2) != 1) = true := bne_iff_ne.mpr c35
                                    have H' := Aside0.mk H
                                    clear H
                                    have p199 : 0 ≤ (x15_4 : Int) := of_decide_eq_true (by first | (with_reducible assumption) | assumption)
                                    have q199 : x15_4 < (y181.length : Int) := of_decide_eq_true (by first | (with_reducible assumption) | assumption)
                                    obtain ⟨ad199, e199, hx199_0, hx199_1, hx199_2⟩ := at_T30 HR184.out x15_4 p199 q199
                                    cases e199
                                    replace hx199_0 := (HB.out.cell (World.block_lt_of_cell? w _ hx199_0)).trans hx199_0
                                    replace hx199_1 := (HB.out.cell (World.block_lt_of_cell? w _ hx199_1)).trans hx199_1
                                    replace hx199_2 := (HB.out.cell (World.block_lt_of_cell? w _ hx199_2)).trans hx199_2
                                    replace p199 := eq_true p199
                                    replace q199 := eq_true q199
                                    go_wp2
                                    repeat (go_quiet (fail); try go_wp2)
                                    go_meet
                                    case rel => exact ⟨_, (false), (by first | rfl | (simp; done) | (simp [*]; done)), H', ⟨by have := HJ9.out; have := HJ19.out; have := HJ24.out; have := HK4.out; first | omega | exact Nat.le_refl _⟩, ⟨by repeat (first | (with_reducible first | exact HB.out | apply below_alloc | apply pw_below_drewN | apply below_drew1) | exact HB.out)⟩⟩
                                · rw [if_neg c34] at H
                                  exact absurd H (by simp)
                              case rest =>
                                clear HC33
                                try clear c1
                                try clear p1
                                try clear q1
                                try clear hx1
                                try clear c2
                                try clear p2
                                try clear q2
                                try clear hx2
                                try clear c3
                                try clear c4
                                try clear c5
                                try clear c5b0
                                try clear c5b1
                                try clear c6
                                try clear c6b0
                                try clear c6b1
                                try clear q12
                                try clear c16
                                try clear c16b0
                                try clear c16b1
                                try clear c17
                                try clear c17b0
                                try clear c17b1
                                try clear c18
                                try clear c18b0
                                try clear c18b1
                                try clear c18b2
                                try clear c19
                                try clear p19
                                try clear q19
                                try clear hx19
                                try clear p20
                                try clear q20
                                try clear hx20
                                try clear c21
                                try clear c21b0
                                try clear c21b1
                                try clear c22
                                try clear c23
                                try clear c24
                                try clear c24b0
                                try clear c24b1
                                try clear c26
                                try clear c26b0
                                try clear c27
                                try clear c27b0
                                try clear c28
                                try clear c28b0
                                try clear c29
                                try clear c29b0
                                try clear c30
                                try clear c30b0
                                try clear c31
                                try clear c32
                                try clear c32b0
                                try clear c34
                                try clear c34b0
                                try clear c35
                                try clear c35b0
                                try clear c35b1
                                try clear c36
                                try clear c36b0
                                try clear c37
                                try clear c37b0
                                try clear c38
                                try clear c38b0
                                try clear c39
                                try clear c39b0
                                try clear c40
                                try clear c40b0
                                try clear c41
                                try clear c41b0
                                try clear hx199_0
                                try clear hx199_1
                                try clear hx199_2
                                try clear hx200_0
                                try clear hx200_1
                                try clear hx200_2
                                try clear hx201_0
                                try clear hx201_1
                                try clear hx201_2
                                try clear hx202_0
                                try clear hx202_1
                                try clear hx202_2
                                try clear hx203_0
                                try clear hx203_1
                                try clear hx203_2
                                try clear hx204_0
                                try clear hx204_1
                                try clear hx204_2
                                try clear p199
                                try clear p2
                                try clear p200
                                try clear p201
                                try clear p202
                                try clear p203
                                try clear p204
                                try clear q1
                                try clear q12
                                try clear q199
                                try clear q200
                                try clear q201
                                try clear q202
                                try clear q203
                                try clear q204
                                obtain ⟨kq, x149_32, rfl, HA, HJ32, HB⟩ := hcut
                                cases kq with
                                | zero => exact absurd HA.out (by simp [nautiluslaw06_UsageBest.j4])
                                | succ kj32 =>
                                  have H := HA.out
                                  clear HA
                                  simp only [nautiluslaw06_UsageBest.j4] at H
                                  by_cases c42 : x149_32 = true
                                  · subst c42
                                    have H1 : (some false) = some r := by rw [if_pos rfl] at H; exact H
                                    clear H
                                    have H := H1
                                    clear H1
                                    obtain rfl := Option.some.inj H
                                    go_wp2
                                    repeat (go_quiet (fail); try go_wp2)
                                    go_ret
                                    exact ⟨by first | rfl | (simp [errW_none, errW_some] <;> rfl) | (simp only [← hji4]; first | rfl | (simp [errW_none, errW_some] <;> rfl)) | (simp [*, errW_none, errW_some] <;> rfl) | (simp [show IntKind.u64.wrap 0 = 0 from rfl, Int.zero_tdiv]; done), by repeat (first | (with_reducible first | exact HB.out | apply below_alloc | apply pw_below_drewN | apply below_drew1) | exact HB.out)⟩
                                  · replace c42 := Bool.eq_false_iff.mpr c42
                                    subst c42
                                    have H1 : (nautiluslaw06_UsageBest.l0 kj32 y181 t180 t185 t188 t191 (wrap64 (x15_4 + 1))) = some r := by rw [if_neg (show ¬ (false = true) by decide)] at H; exact H
                                    clear H
                                    have H := H1
                                    clear H1
                                    have H' := Aside0.mk H
                                    clear H
                                    go_wp2
                                    repeat (go_quiet (fail); try go_wp2)
                                    go_roundg kj32
                                    case measure => have := HJ9.out; have := HJ19.out; have := HJ24.out; have := HK4.out; have := HJ32.out; omega
                                    case rel => exact ⟨(wrap64 (x15_4 + 1)), (by first | rfl | (simp; done) | (simp [*]; done)), H', ⟨by have := HJ9.out; have := HJ19.out; have := HJ24.out; have := HK4.out; have := HJ32.out; omega⟩, ⟨by repeat (first | (with_reducible first | exact HB.out | apply below_alloc | apply pw_below_drewN | apply below_drew1) | exact HB.out)⟩⟩
                            · rw [if_neg c32] at H
                              have c32b0 : decide (x15_4 < (y181.length : Int)) = false := decide_eq_false c32
                              clear c32
                              as_aux_lemma =>
                                by_cases c43 : t180 = true
                                · subst c43
                                  have H1 : (if 0 ≤ t185 then (if t185 < (y181.length : Int) then (if ((rd_T30 y181 t185).f2) = 1 then (if 0 ≤ t188 then (if t188 < (y181.length : Int) then (if ((rd_T30 y181 t188).f2) = 1 then (if 0 ≤ t191 then (if t191 < (y181.length : Int) then (if ((rd_T30 y181 t191).f2) = 1 then (if ((rd_T30 y181 t185).f0) < 16 then (some (decide (((rd_T30 y181 t191).f0) < 16))) else (some false)) else (some false)) else (none)) else (none)) else (some false)) else (none)) else (none)) else (some false)) else (none)) else (none)) = some r := by rw [if_pos rfl] at H; exact H
                                  clear H
                                  have H := H1
                                  clear H1
                                  by_cases c44 : 0 ≤ t185
                                  · rw [if_pos c44] at H
                                    have c44b0 : decide (0 ≤ t185) = true := decide_eq_true c44
                                    clear c44
                                    by_cases c45 : t185 < (y181.length : Int)
                                    · rw [if_pos c45] at H
                                      have c45b0 : decide (t185 < (y181.length : Int)) = true := decide_eq_true c45
                                      clear c45
                                      by_cases c46 : ((rd_T30 y181 t185).f2) = 1
                                      · rw [if_pos c46] at H
                                        have c46b0 : (((rd_T30 y181 t185).f2) == 1) = true := beq_iff_eq.mpr c46
                                        have c46b1 : (((rd_T30 y181 t185).f2) != 1) = false := bne_eq_false_iff_eq.mpr c46
                                        clear c46
                                        by_cases c47 : 0 ≤ t188
                                        · rw [if_pos c47] at H
                                          have c47b0 : decide (0 ≤ t188) = true := decide_eq_true c47
                                          clear c47
                                          by_cases c48 : t188 < (y181.length : Int)
                                          · rw [if_pos c48] at H
                                            have c48b0 : decide (t188 < (y181.length : Int)) = true := decide_eq_true c48
                                            clear c48
                                            by_cases c49 : ((rd_T30 y181 t188).f2) = 1
                                            · rw [if_pos c49] at H
                                              have c49b0 : (((rd_T30 y181 t188).f2) == 1) = true := beq_iff_eq.mpr c49
                                              have c49b1 : (((rd_T30 y181 t188).f2) != 1) = false := bne_eq_false_iff_eq.mpr c49
                                              clear c49
                                              by_cases c50 : 0 ≤ t191
                                              · rw [if_pos c50] at H
                                                have c50b0 : decide (0 ≤ t191) = true := decide_eq_true c50
                                                clear c50
                                                by_cases c51 : t191 < (y181.length : Int)
                                                · rw [if_pos c51] at H
                                                  have c51b0 : decide (t191 < (y181.length : Int)) = true := decide_eq_true c51
                                                  clear c51
                                                  by_cases c52 : ((rd_T30 y181 t191).f2) = 1
                                                  · rw [if_pos c52] at H
                                                    have c52b0 : (((rd_T30 y181 t191).f2) == 1) = true := beq_iff_eq.mpr c52
                                                    have c52b1 : (((rd_T30 y181 t191).f2) != 1) = false := bne_eq_false_iff_eq.mpr c52
                                                    clear c52
                                                    by_cases c53 : ((rd_T30 y181 t185).f0) < 16
                                                    · rw [if_pos c53] at H
                                                      have c53b0 : decide (((rd_T30 y181 t185).f0) < 16) = true := decide_eq_true c53
                                                      clear c53
                                                      obtain rfl := Option.some.inj H
                                                      have p194 : 0 ≤ (t185 : Int) := of_decide_eq_true (by first | (with_reducible assumption) | assumption)
                                                      have q194 : t185 < (y181.length : Int) := of_decide_eq_true (by first | (with_reducible assumption) | assumption)
                                                      obtain ⟨ad194, e194, hx194_0, hx194_1, hx194_2⟩ := at_T30 HR184.out t185 p194 q194
                                                      cases e194
                                                      replace hx194_0 := (HB.out.cell (World.block_lt_of_cell? w _ hx194_0)).trans hx194_0
                                                      replace hx194_1 := (HB.out.cell (World.block_lt_of_cell? w _ hx194_1)).trans hx194_1
                                                      replace hx194_2 := (HB.out.cell (World.block_lt_of_cell? w _ hx194_2)).trans hx194_2
                                                      replace p194 := eq_true p194
                                                      replace q194 := eq_true q194
                                                      have p195 : 0 ≤ (t188 : Int) := of_decide_eq_true (by first | (with_reducible assumption) | assumption)
                                                      have q195 : t188 < (y181.length : Int) := of_decide_eq_true (by first | (with_reducible assumption) | assumption)
                                                      obtain ⟨ad195, e195, hx195_0, hx195_1, hx195_2⟩ := at_T30 HR184.out t188 p195 q195
                                                      obtain rfl : ad194 = ad195 := (by injection e195)
                                                      replace hx195_0 := (HB.out.cell (World.block_lt_of_cell? w _ hx195_0)).trans hx195_0
                                                      replace hx195_1 := (HB.out.cell (World.block_lt_of_cell? w _ hx195_1)).trans hx195_1
                                                      replace hx195_2 := (HB.out.cell (World.block_lt_of_cell? w _ hx195_2)).trans hx195_2
                                                      replace p195 := eq_true p195
                                                      replace q195 := eq_true q195
                                                      have p196 : 0 ≤ (t191 : Int) := of_decide_eq_true (by first | (with_reducible assumption) | assumption)
                                                      have q196 : t191 < (y181.length : Int) := of_decide_eq_true (by first | (with_reducible assumption) | assumption)
                                                      obtain ⟨ad196, e196, hx196_0, hx196_1, hx196_2⟩ := at_T30 HR184.out t191 p196 q196
                                                      obtain rfl : ad194 = ad196 := (by injection e196)
                                                      replace hx196_0 := (HB.out.cell (World.block_lt_of_cell? w _ hx196_0)).trans hx196_0
                                                      replace hx196_1 := (HB.out.cell (World.block_lt_of_cell? w _ hx196_1)).trans hx196_1
                                                      replace hx196_2 := (HB.out.cell (World.block_lt_of_cell? w _ hx196_2)).trans hx196_2
                                                      replace p196 := eq_true p196
                                                      replace q196 := eq_true q196
                                                      have p197 : 0 ≤ (t185 : Int) := of_decide_eq_true (by first | (with_reducible assumption) | assumption)
                                                      have q197 : t185 < (y181.length : Int) := of_decide_eq_true (by first | (with_reducible assumption) | assumption)
                                                      obtain ⟨ad197, e197, hx197_0, hx197_1, hx197_2⟩ := at_T30 HR184.out t185 p197 q197
                                                      obtain rfl : ad194 = ad197 := (by injection e197)
                                                      replace hx197_0 := (HB.out.cell (World.block_lt_of_cell? w _ hx197_0)).trans hx197_0
                                                      replace hx197_1 := (HB.out.cell (World.block_lt_of_cell? w _ hx197_1)).trans hx197_1
                                                      replace hx197_2 := (HB.out.cell (World.block_lt_of_cell? w _ hx197_2)).trans hx197_2
                                                      replace p197 := eq_true p197
                                                      replace q197 := eq_true q197
                                                      have p198 : 0 ≤ (t191 : Int) := of_decide_eq_true (by first | (with_reducible assumption) | assumption)
                                                      have q198 : t191 < (y181.length : Int) := of_decide_eq_true (by first | (with_reducible assumption) | assumption)
                                                      obtain ⟨ad198, e198, hx198_0, hx198_1, hx198_2⟩ := at_T30 HR184.out t191 p198 q198
                                                      obtain rfl : ad194 = ad198 := (by injection e198)
                                                      replace hx198_0 := (HB.out.cell (World.block_lt_of_cell? w _ hx198_0)).trans hx198_0
                                                      replace hx198_1 := (HB.out.cell (World.block_lt_of_cell? w _ hx198_1)).trans hx198_1
                                                      replace hx198_2 := (HB.out.cell (World.block_lt_of_cell? w _ hx198_2)).trans hx198_2
                                                      replace p198 := eq_true p198
                                                      replace q198 := eq_true q198
                                                      go_wp2
                                                      repeat (go_quiet (fail); try go_wp2)
                                                      go_ret
                                                      exact ⟨by first | rfl | (simp [errW_none, errW_some] <;> rfl) | (simp only [← hji4]; first | rfl | (simp [errW_none, errW_some] <;> rfl)) | (simp [*, errW_none, errW_some] <;> rfl) | (simp [show IntKind.u64.wrap 0 = 0 from rfl, Int.zero_tdiv]; done), by repeat (first | (with_reducible first | exact HB.out | apply below_alloc | apply pw_below_drewN | apply below_drew1) | exact HB.out)⟩
                                                    · rw [if_neg c53] at H
                                                      have c53b0 : decide (((rd_T30 y181 t185).f0) < 16) = false := decide_eq_false c53
                                                      clear c53
                                                      obtain rfl := Option.some.inj H
                                                      have p194 : 0 ≤ (t185 : Int) := of_decide_eq_true (by first | (with_reducible assumption) | assumption)
                                                      have q194 : t185 < (y181.length : Int) := of_decide_eq_true (by first | (with_reducible assumption) | assumption)
                                                      obtain ⟨ad194, e194, hx194_0, hx194_1, hx194_2⟩ := at_T30 HR184.out t185 p194 q194
                                                      cases e194
                                                      replace hx194_0 := (HB.out.cell (World.block_lt_of_cell? w _ hx194_0)).trans hx194_0
                                                      replace hx194_1 := (HB.out.cell (World.block_lt_of_cell? w _ hx194_1)).trans hx194_1
                                                      replace hx194_2 := (HB.out.cell (World.block_lt_of_cell? w _ hx194_2)).trans hx194_2
                                                      replace p194 := eq_true p194
                                                      replace q194 := eq_true q194
                                                      have p195 : 0 ≤ (t188 : Int) := of_decide_eq_true (by first | (with_reducible assumption) | assumption)
                                                      have q195 : t188 < (y181.length : Int) := of_decide_eq_true (by first | (with_reducible assumption) | assumption)
                                                      obtain ⟨ad195, e195, hx195_0, hx195_1, hx195_2⟩ := at_T30 HR184.out t188 p195 q195
                                                      obtain rfl : ad194 = ad195 := (by injection e195)
                                                      replace hx195_0 := (HB.out.cell (World.block_lt_of_cell? w _ hx195_0)).trans hx195_0
                                                      replace hx195_1 := (HB.out.cell (World.block_lt_of_cell? w _ hx195_1)).trans hx195_1
                                                      replace hx195_2 := (HB.out.cell (World.block_lt_of_cell? w _ hx195_2)).trans hx195_2
                                                      replace p195 := eq_true p195
                                                      replace q195 := eq_true q195
                                                      have p196 : 0 ≤ (t191 : Int) := of_decide_eq_true (by first | (with_reducible assumption) | assumption)
                                                      have q196 : t191 < (y181.length : Int) := of_decide_eq_true (by first | (with_reducible assumption) | assumption)
                                                      obtain ⟨ad196, e196, hx196_0, hx196_1, hx196_2⟩ := at_T30 HR184.out t191 p196 q196
                                                      obtain rfl : ad194 = ad196 := (by injection e196)
                                                      replace hx196_0 := (HB.out.cell (World.block_lt_of_cell? w _ hx196_0)).trans hx196_0
                                                      replace hx196_1 := (HB.out.cell (World.block_lt_of_cell? w _ hx196_1)).trans hx196_1
                                                      replace hx196_2 := (HB.out.cell (World.block_lt_of_cell? w _ hx196_2)).trans hx196_2
                                                      replace p196 := eq_true p196
                                                      replace q196 := eq_true q196
                                                      have p197 : 0 ≤ (t185 : Int) := of_decide_eq_true (by first | (with_reducible assumption) | assumption)
                                                      have q197 : t185 < (y181.length : Int) := of_decide_eq_true (by first | (with_reducible assumption) | assumption)
                                                      obtain ⟨ad197, e197, hx197_0, hx197_1, hx197_2⟩ := at_T30 HR184.out t185 p197 q197
                                                      obtain rfl : ad194 = ad197 := (by injection e197)
                                                      replace hx197_0 := (HB.out.cell (World.block_lt_of_cell? w _ hx197_0)).trans hx197_0
                                                      replace hx197_1 := (HB.out.cell (World.block_lt_of_cell? w _ hx197_1)).trans hx197_1
                                                      replace hx197_2 := (HB.out.cell (World.block_lt_of_cell? w _ hx197_2)).trans hx197_2
                                                      replace p197 := eq_true p197
                                                      replace q197 := eq_true q197
                                                      go_wp2
                                                      repeat (go_quiet (fail); try go_wp2)
                                                      go_ret
                                                      exact ⟨by first | rfl | (simp [errW_none, errW_some] <;> rfl) | (simp only [← hji4]; first | rfl | (simp [errW_none, errW_some] <;> rfl)) | (simp [*, errW_none, errW_some] <;> rfl) | (simp [show IntKind.u64.wrap 0 = 0 from rfl, Int.zero_tdiv]; done), by repeat (first | (with_reducible first | exact HB.out | apply below_alloc | apply pw_below_drewN | apply below_drew1) | exact HB.out)⟩
                                                  · rw [if_neg c52] at H
                                                    have c52b0 : (((rd_T30 y181 t191).f2) == 1) = false := beq_eq_false_iff_ne.mpr c52
                                                    have c52b1 : (((rd_T30 y181 t191).f2) != 1) = true := bne_iff_ne.mpr c52
                                                    obtain rfl := Option.some.inj H
                                                    have p194 : 0 ≤ (t185 : Int) := of_decide_eq_true (by first | (with_reducible assumption) | assumption)
                                                    have q194 : t185 < (y181.length : Int) := of_decide_eq_true (by first | (with_reducible assumption) | assumption)
                                                    obtain ⟨ad194, e194, hx194_0, hx194_1, hx194_2⟩ := at_T30 HR184.out t185 p194 q194
                                                    cases e194
                                                    replace hx194_0 := (HB.out.cell (World.block_lt_of_cell? w _ hx194_0)).trans hx194_0
                                                    replace hx194_1 := (HB.out.cell (World.block_lt_of_cell? w _ hx194_1)).trans hx194_1
                                                    replace hx194_2 := (HB.out.cell (World.block_lt_of_cell? w _ hx194_2)).trans hx194_2
                                                    replace p194 := eq_true p194
                                                    replace q194 := eq_true q194
                                                    have p195 : 0 ≤ (t188 : Int) := of_decide_eq_true (by first | (with_reducible assumption) | assumption)
                                                    have q195 : t188 < (y181.length : Int) := of_decide_eq_true (by first | (with_reducible assumption) | assumption)
                                                    obtain ⟨ad195, e195, hx195_0, hx195_1, hx195_2⟩ := at_T30 HR184.out t188 p195 q195
                                                    obtain rfl : ad194 = ad195 := (by injection e195)
                                                    replace hx195_0 := (HB.out.cell (World.block_lt_of_cell? w _ hx195_0)).trans hx195_0
                                                    replace hx195_1 := (HB.out.cell (World.block_lt_of_cell? w _ hx195_1)).trans hx195_1
                                                    replace hx195_2 := (HB.out.cell (World.block_lt_of_cell? w _ hx195_2)).trans hx195_2
                                                    replace p195 := eq_true p195
                                                    replace q195 := eq_true q195
                                                    have p196 : 0 ≤ (t191 : Int) := of_decide_eq_true (by first | (with_reducible assumption) | assumption)
                                                    have q196 : t191 < (y181.length : Int) := of_decide_eq_true (by first | (with_reducible assumption) | assumption)
                                                    obtain ⟨ad196, e196, hx196_0, hx196_1, hx196_2⟩ := at_T30 HR184.out t191 p196 q196
                                                    obtain rfl : ad194 = ad196 := (by injection e196)
                                                    replace hx196_0 := (HB.out.cell (World.block_lt_of_cell? w _ hx196_0)).trans hx196_0
                                                    replace hx196_1 := (HB.out.cell (World.block_lt_of_cell? w _ hx196_1)).trans hx196_1
                                                    replace hx196_2 := (HB.out.cell (World.block_lt_of_cell? w _ hx196_2)).trans hx196_2
                                                    replace p196 := eq_true p196
                                                    replace q196 := eq_true q196
                                                    go_wp2
                                                    repeat (go_quiet (fail); try go_wp2)
                                                    go_ret
                                                    exact ⟨by first | rfl | (simp [errW_none, errW_some] <;> rfl) | (simp only [← hji4]; first | rfl | (simp [errW_none, errW_some] <;> rfl)) | (simp [*, errW_none, errW_some] <;> rfl) | (simp [show IntKind.u64.wrap 0 = 0 from rfl, Int.zero_tdiv]; done), by repeat (first | (with_reducible first | exact HB.out | apply below_alloc | apply pw_below_drewN | apply below_drew1) | exact HB.out)⟩
                                                · rw [if_neg c51] at H
                                                  exact absurd H (by simp)
                                              · rw [if_neg c50] at H
                                                exact absurd H (by simp)
                                            · rw [if_neg c49] at H
                                              have c49b0 : (((rd_T30 y181 t188).f2) == 1) = false := beq_eq_false_iff_ne.mpr c49
                                              have c49b1 : (((rd_T30 y181 t188).f2) != 1) = true := bne_iff_ne.mpr c49
                                              obtain rfl := Option.some.inj H
                                              have p194 : 0 ≤ (t185 : Int) := of_decide_eq_true (by first | (with_reducible assumption) | assumption)
                                              have q194 : t185 < (y181.length : Int) := of_decide_eq_true (by first | (with_reducible assumption) | assumption)
                                              obtain ⟨ad194, e194, hx194_0, hx194_1, hx194_2⟩ := at_T30 HR184.out t185 p194 q194
                                              cases e194
                                              replace hx194_0 := (HB.out.cell (World.block_lt_of_cell? w _ hx194_0)).trans hx194_0
                                              replace hx194_1 := (HB.out.cell (World.block_lt_of_cell? w _ hx194_1)).trans hx194_1
                                              replace hx194_2 := (HB.out.cell (World.block_lt_of_cell? w _ hx194_2)).trans hx194_2
                                              replace p194 := eq_true p194
                                              replace q194 := eq_true q194
                                              have p195 : 0 ≤ (t188 : Int) := of_decide_eq_true (by first | (with_reducible assumption) | assumption)
                                              have q195 : t188 < (y181.length : Int) := of_decide_eq_true (by first | (with_reducible assumption) | assumption)
                                              obtain ⟨ad195, e195, hx195_0, hx195_1, hx195_2⟩ := at_T30 HR184.out t188 p195 q195
                                              obtain rfl : ad194 = ad195 := (by injection e195)
                                              replace hx195_0 := (HB.out.cell (World.block_lt_of_cell? w _ hx195_0)).trans hx195_0
                                              replace hx195_1 := (HB.out.cell (World.block_lt_of_cell? w _ hx195_1)).trans hx195_1
                                              replace hx195_2 := (HB.out.cell (World.block_lt_of_cell? w _ hx195_2)).trans hx195_2
                                              replace p195 := eq_true p195
                                              replace q195 := eq_true q195
                                              go_wp2
                                              repeat (go_quiet (fail); try go_wp2)
                                              go_ret
                                              exact ⟨by first | rfl | (simp [errW_none, errW_some] <;> rfl) | (simp only [← hji4]; first | rfl | (simp [errW_none, errW_some] <;> rfl)) | (simp [*, errW_none, errW_some] <;> rfl) | (simp [show IntKind.u64.wrap 0 = 0 from rfl, Int.zero_tdiv]; done), by repeat (first | (with_reducible first | exact HB.out | apply below_alloc | apply pw_below_drewN | apply below_drew1) | exact HB.out)⟩
                                          · rw [if_neg c48] at H
                                            exact absurd H (by simp)
                                        · rw [if_neg c47] at H
                                          exact absurd H (by simp)
                                      · rw [if_neg c46] at H
                                        have c46b0 : (((rd_T30 y181 t185).f2) == 1) = false := beq_eq_false_iff_ne.mpr c46
                                        have c46b1 : (((rd_T30 y181 t185).f2) != 1) = true := bne_iff_ne.mpr c46
                                        obtain rfl := Option.some.inj H
                                        have p194 : 0 ≤ (t185 : Int) := of_decide_eq_true (by first | (with_reducible assumption) | assumption)
                                        have q194 : t185 < (y181.length : Int) := of_decide_eq_true (by first | (with_reducible assumption) | assumption)
                                        obtain ⟨ad194, e194, hx194_0, hx194_1, hx194_2⟩ := at_T30 HR184.out t185 p194 q194
                                        cases e194
                                        replace hx194_0 := (HB.out.cell (World.block_lt_of_cell? w _ hx194_0)).trans hx194_0
                                        replace hx194_1 := (HB.out.cell (World.block_lt_of_cell? w _ hx194_1)).trans hx194_1
                                        replace hx194_2 := (HB.out.cell (World.block_lt_of_cell? w _ hx194_2)).trans hx194_2
                                        replace p194 := eq_true p194
                                        replace q194 := eq_true q194
                                        go_wp2
                                        repeat (go_quiet (fail); try go_wp2)
                                        go_ret
                                        exact ⟨by first | rfl | (simp [errW_none, errW_some] <;> rfl) | (simp only [← hji4]; first | rfl | (simp [errW_none, errW_some] <;> rfl)) | (simp [*, errW_none, errW_some] <;> rfl) | (simp [show IntKind.u64.wrap 0 = 0 from rfl, Int.zero_tdiv]; done), by repeat (first | (with_reducible first | exact HB.out | apply below_alloc | apply pw_below_drewN | apply below_drew1) | exact HB.out)⟩
                                    · rw [if_neg c45] at H
                                      exact absurd H (by simp)
                                  · rw [if_neg c44] at H
                                    exact absurd H (by simp)
                                · replace c43 := Bool.eq_false_iff.mpr c43
                                  subst c43
                                  have H1 : (some false) = some r := by rw [if_neg (show ¬ (false = true) by decide)] at H; exact H
                                  clear H
                                  have H := H1
                                  clear H1
                                  obtain rfl := Option.some.inj H
                                  go_wp2
                                  repeat (go_quiet (fail); try go_wp2)
                                  go_ret
                                  exact ⟨by first | rfl | (simp [errW_none, errW_some] <;> rfl) | (simp only [← hji4]; first | rfl | (simp [errW_none, errW_some] <;> rfl)) | (simp [*, errW_none, errW_some] <;> rfl) | (simp [show IntKind.u64.wrap 0 = 0 from rfl, Int.zero_tdiv]; done), by repeat (first | (with_reducible first | exact HB.out | apply below_alloc | apply pw_below_drewN | apply below_drew1) | exact HB.out)⟩
    · rw [if_neg c6] at H
      exact absurd H (by simp)
  · rw [if_neg c5] at H
    exact absurd H (by simp)

/-- THE ONE PURE STATEMENT of nautiluslaw06_UsageBest: yours. -/
def nautiluslaw06_UsageBest.Pure : Prop := ∀ (l0 : List (S30)) (a1 : Int), l0.length ≤ maxLen → (∀ x ∈ l0, (Lit.int .i64 x.f0).wf = true ∧ (Lit.int .u64 x.f1).wf = true ∧ (Lit.int .i64 x.f2).wf = true) → (Lit.int .u64 a1).wf = true → ∃ k, nautiluslaw06_UsageBest.f k l0 a1 = some true
theorem nautiluslaw06_UsageBest.walk (P : nautiluslaw06_UsageBest.Pure) (a0 : Option Addr) (len0 cap0 : Nat) (z0 : List (S30)) (a1 : Int) (w : World) (w0 : z0.length = len0 ∧ len0 ≤ cap0 ∧ len0 ≤ maxLen ∧ Kd.C k30 w a0 len0 z0 ∧ ∀ x ∈ z0, (Lit.int .i64 x.f0).wf = true ∧ (Lit.int .u64 x.f1).wf = true ∧ (Lit.int .i64 x.f2).wf = true) (w1 : (Lit.int .u64 a1).wf = true) :
    Calls Try.prog 4 #[.slice a0 len0 cap0, .int .u64 a1] w fun e w' => e = .returned (.bool true) ∧ Below w.heap.size w w' := by
  obtain ⟨hl0, hc0, hm0, hC0, hw0⟩ := w0
  subst hl0
  obtain ⟨k, h⟩ := P z0 a1 hm0 hw0 w1
  refine (nautiluslaw06_UsageBest.calls k _ _ z0 a1 true w hC0 hc0 h).mono ?_
  rintro e w' ⟨rfl, hd⟩
  exact ⟨rfl, hd⟩

end Go.Proofs.Ytklhmhliencgeaa.Q
