/- Functions of the translation as plain Lean functions, and that the translation computes them: printed by this session's driver of the print. -/
import Derived.Test.YtpcokafalmafgaaQ0
import Derived.Test.YtpcokafalmafgaaQ1
import Derived.Test.YtpcokafalmafgaaQ2
import Derived.Test.YtpcokafalmafgaaQ3
import Derived.Test.YtpcokafalmafgaaHTrim
import Derived.Test.YtpcokafalmafgaaHVolK
namespace Go.Proofs.Ytpcokafalmafgaa.Q
open Go.Proofs.Ytpcokafalmafgaa.H
open Go.RowKit Go.Proofs.YtpcokafalmafgaaW.PrintWords Go.Proofs.YtpcokafalmafgaaW.PrintLast Go.Proofs.YtpcokafalmafgaaW.PrintMore
attribute [local go_sem] max2_int min2_int max_two min_two max_three min_three max_four min_four   -- for this text's walks alone
set_option linter.unusedVariables false
set_option linter.unusedSimpArgs false

attribute [local go_sem high] eqA35
/-! ### nautiluslaw17_VolJoins: function 4 -/
def nautiluslaw17_VolJoins.l0 : Nat → ByteArray → ByteArray → List (S35) → Bool → List ByteArray → List (S35) → List (S35) → Int → Option (Bool)
  | 0, _, _, _, _, _, _, _, _ => none
  | k + 1, x0, x1, x2, x7, x10, x11, x12, x13 => if x13 < (x2.length : Int) then (if 0 ≤ x13 then (if (!(((rd_T35 x2 x13).f0) == 0) || (!(((rd_T35 x2 x13).f1) == 0) || (!(((rd_T35 x2 x13).f2) == 0) || (!(((rd_T35 x2 x13).f3) == 0) || (!((((rd_T35 x2 x13).f4).toList) == ([] : List UInt8))))))) = true then (some false) else (nautiluslaw17_VolJoins.l0 k x0 x1 x2 x7 x10 x11 x12 (wrap64 (x13 + 1)))) else (none)) else (if x7 = true then (if x0.size + x1.size ≤ 9223372036854775807 then ((vol_Cut.f (x0 ++ x1)).bind fun t163 => ((nautilusref17_SameTexts.f k t163 x10).bind fun t166 => (if t166 = true then (if (x11.length : Int) ≤ (x2.length : Int) then (if 0 ≤ (x11.length : Int) then ((nautilusref14_Same.f k x11 (x2.take ((x11.length : Int) : Int).toNat)).bind fun t171 => (if t171 = true then ((nautilusref14_Same.f k x12 x11).bind fun t172 => (some t172)) else (some false))) else (none)) else (some false)) else (some false)))) else (none)) else (some false))
def nautiluslaw17_VolJoins.f (k : Nat) (a0 : ByteArray) (a1 : ByteArray) (l2 : List (S35)) : Option (Bool) := (nautiluslaw17_shown.f k).bind fun t134 => (if 0 ≤ (mn (a0.size : Int) 5000) then (if (mn (a0.size : Int) 5000) ≤ (a0.size : Int) then (if 0 ≤ (mn (a1.size : Int) 5000) then (if (mn (a1.size : Int) 5000) ≤ (a1.size : Int) then (if 0 ≤ (mn (l2.length : Int) 100) then (if (mn (l2.length : Int) 100) ≤ (l2.length : Int) then ((some (l2.take ((mn (l2.length : Int) 100) : Int).toNat : List (S35))).bind fun y135 => (if 0 ≤ (wrap64 ((wrap64 (((a0.extract 0 ((mn (a0.size : Int) 5000) : Int).toNat).size : Int) / 508)) * 508)) then (if (wrap64 ((wrap64 (((a0.extract 0 ((mn (a0.size : Int) 5000) : Int).toNat).size : Int) / 508)) * 508)) ≤ ((a0.extract 0 ((mn (a0.size : Int) 5000) : Int).toNat).size : Int) then ((vol_Cut.f ((a0.extract 0 ((mn (a0.size : Int) 5000) : Int).toNat).extract 0 ((wrap64 ((wrap64 (((a0.extract 0 ((mn (a0.size : Int) 5000) : Int).toNat).size : Int) / 508)) * 508)) : Int).toNat)).bind fun t139 => ((vol_Cut.f (a1.extract 0 ((mn (a1.size : Int) 5000) : Int).toNat)).bind fun t142 => (if 0 ≤ (wrap64 ((t139.length : Int) + (t142.length : Int))) then (if (wrap64 ((t139.length : Int) + (t142.length : Int)) : Int).toNat ≤ 17592186044416 then ((some (List.replicate 0 (⟨#[]⟩ : ByteArray) : List ByteArray)).bind fun y145 => (if y145.length + t139.length < 8796093022208 then ((some (y145 ++ t139 : List ByteArray)).bind fun y148 => (if y148.length + t142.length < 8796093022208 then (if 0 ≤ (vol_Trim.n y135) then (if (vol_Trim.n y135) ≤ (y135.length : Int) then ((some (y135.take (vol_Trim.n y135 : Int).toNat : List (S35))).bind fun y154 => (if 0 ≤ (vol_Trim.n y154) then (if (vol_Trim.n y154) ≤ (y154.length : Int) then (nautiluslaw17_VolJoins.l0 k ((a0.extract 0 ((mn (a0.size : Int) 5000) : Int).toNat).extract 0 ((wrap64 ((wrap64 (((a0.extract 0 ((mn (a0.size : Int) 5000) : Int).toNat).size : Int) / 508)) * 508)) : Int).toNat) (a1.extract 0 ((mn (a1.size : Int) 5000) : Int).toNat) y135 t134 (y148 ++ t142) y154 (y154.take (vol_Trim.n y154 : Int).toNat) (y154.length : Int)) else (none)) else (none))) else (none)) else (none)) else (none))) else (none))) else (none)) else (none)))) else (none)) else (none))) else (none)) else (none)) else (none)) else (none)) else (none)) else (none))
theorem nautiluslaw17_VolJoins.mono_l : ∀ k, (∀ y0 y1 y2 y3 y4 y5 y6 y7, LeO (nautiluslaw17_VolJoins.l0 k y0 y1 y2 y3 y4 y5 y6 y7) (nautiluslaw17_VolJoins.l0 (k + 1) y0 y1 y2 y3 y4 y5 y6 y7))
  | 0 => fun _ _ _ _ _ _ _ _ r h => by simp [nautiluslaw17_VolJoins.l0] at h
  | k + 1 => by
    have ih0 := nautiluslaw17_VolJoins.mono_l k
    · intro y0 y1 y2 y3 y4 y5 y6 y7
      unfold nautiluslaw17_VolJoins.l0
      repeat' first
      | (with_reducible exact ih0 _ _ _ _ _ _ _ _)
      | (with_reducible exact nautiluslaw17_shown.mono _)
      | (with_reducible exact nautilusref14_Same.mono _ _ _)
      | (with_reducible exact nautilusref17_SameTexts.mono _ _ _)
      | (with_reducible exact LeO.refl _)
      | (with_reducible exact LeO.none _)
      | (with_reducible refine LeO.ite ?_ ?_)
      | (with_reducible refine LeO.bind ?_ (fun _ => ?_))
      | exact ih0 _ _ _ _ _ _ _ _
      | exact nautiluslaw17_shown.mono _
      | exact nautilusref14_Same.mono _ _ _
      | exact nautilusref17_SameTexts.mono _ _ _
      | exact LeO.none _
      | refine LeO.ite ?_ ?_
      | refine LeO.bind ?_ (fun _ => ?_)
theorem nautiluslaw17_VolJoins.mono : ∀ a0 a1 a2 k, LeO (nautiluslaw17_VolJoins.f k a0 a1 a2) (nautiluslaw17_VolJoins.f (k + 1) a0 a1 a2) := by
  intro a0 a1 a2 k
  have ih0 := nautiluslaw17_VolJoins.mono_l k
  unfold nautiluslaw17_VolJoins.f
  repeat' first
      | (with_reducible exact ih0 _ _ _ _ _ _ _ _)
      | (with_reducible exact nautiluslaw17_shown.mono _)
      | (with_reducible exact nautilusref14_Same.mono _ _ _)
      | (with_reducible exact nautilusref17_SameTexts.mono _ _ _)
      | (with_reducible exact LeO.refl _)
      | (with_reducible exact LeO.none _)
      | (with_reducible refine LeO.ite ?_ ?_)
      | (with_reducible refine LeO.bind ?_ (fun _ => ?_))
      | exact ih0 _ _ _ _ _ _ _ _
      | exact nautiluslaw17_shown.mono _
      | exact nautilusref14_Same.mono _ _ _
      | exact nautilusref17_SameTexts.mono _ _ _
      | exact LeO.none _
      | refine LeO.ite ?_ ?_
      | refine LeO.bind ?_ (fun _ => ?_)
set_option maxHeartbeats 8000000 in
set_option maxRecDepth 100000 in
theorem nautiluslaw17_VolJoins.calls (k : Nat) (a0 : ByteArray) (a1 : ByteArray) (A2 : Option Addr) (c2 : Nat) (l2 : List (S35)) (r : Bool) (w : World) (hr2 : Kd.C k35 w A2 l2.length l2) (hc2 : l2.length ≤ c2) (h : nautiluslaw17_VolJoins.f k a0 a1 l2 = some r) :
    Calls Try.prog 4 #[.string a0, .string a1, .slice A2 l2.length c2] w fun e w' => e = .returned (.bool r) ∧ Below w.heap.size w w' := by
  have hu35 := Try.underlying35
  have HR2 := Aside0.mk hr2
  have HC2 := Aside0.mk hc2
  clear hr2 hc2
  have HB := Aside0.mk (Below.refl w.heap.size w)
  have H : ((nautiluslaw17_shown.f k).bind fun t134 => (if 0 ≤ (mn (a0.size : Int) 5000) then (if (mn (a0.size : Int) 5000) ≤ (a0.size : Int) then (if 0 ≤ (mn (a1.size : Int) 5000) then (if (mn (a1.size : Int) 5000) ≤ (a1.size : Int) then (if 0 ≤ (mn (l2.length : Int) 100) then (if (mn (l2.length : Int) 100) ≤ (l2.length : Int) then ((some (l2.take ((mn (l2.length : Int) 100) : Int).toNat : List (S35))).bind fun y135 => (if 0 ≤ (wrap64 ((wrap64 (((a0.extract 0 ((mn (a0.size : Int) 5000) : Int).toNat).size : Int) / 508)) * 508)) then (if (wrap64 ((wrap64 (((a0.extract 0 ((mn (a0.size : Int) 5000) : Int).toNat).size : Int) / 508)) * 508)) ≤ ((a0.extract 0 ((mn (a0.size : Int) 5000) : Int).toNat).size : Int) then ((vol_Cut.f ((a0.extract 0 ((mn (a0.size : Int) 5000) : Int).toNat).extract 0 ((wrap64 ((wrap64 (((a0.extract 0 ((mn (a0.size : Int) 5000) : Int).toNat).size : Int) / 508)) * 508)) : Int).toNat)).bind fun t139 => ((vol_Cut.f (a1.extract 0 ((mn (a1.size : Int) 5000) : Int).toNat)).bind fun t142 => (if 0 ≤ (wrap64 ((t139.length : Int) + (t142.length : Int))) then (if (wrap64 ((t139.length : Int) + (t142.length : Int)) : Int).toNat ≤ 17592186044416 then ((some (List.replicate 0 (⟨#[]⟩ : ByteArray) : List ByteArray)).bind fun y145 => (if y145.length + t139.length < 8796093022208 then ((some (y145 ++ t139 : List ByteArray)).bind fun y148 => (if y148.length + t142.length < 8796093022208 then (if 0 ≤ (vol_Trim.n y135) then (if (vol_Trim.n y135) ≤ (y135.length : Int) then ((some (y135.take (vol_Trim.n y135 : Int).toNat : List (S35))).bind fun y154 => (if 0 ≤ (vol_Trim.n y154) then (if (vol_Trim.n y154) ≤ (y154.length : Int) then (nautiluslaw17_VolJoins.l0 k ((a0.extract 0 ((mn (a0.size : Int) 5000) : Int).toNat).extract 0 ((wrap64 ((wrap64 (((a0.extract 0 ((mn (a0.size : Int) 5000) : Int).toNat).size : Int) / 508)) * 508)) : Int).toNat) (a1.extract 0 ((mn (a1.size : Int) 5000) : Int).toNat) y135 t134 (y148 ++ t142) y154 (y154.take (vol_Trim.n y154 : Int).toNat) (y154.length : Int)) else (none)) else (none))) else (none)) else (none)) else (none))) else (none))) else (none)) else (none)))) else (none)) else (none))) else (none)) else (none)) else (none)) else (none)) else (none)) else (none))) = some r := h
  clear h
  replace H := Option.bind_eq_some_iff.mp H
  obtain ⟨t134, A40, H⟩ := H
  replace H : (if 0 ≤ (mn (a0.size : Int) 5000) then (if (mn (a0.size : Int) 5000) ≤ (a0.size : Int) then (if 0 ≤ (mn (a1.size : Int) 5000) then (if (mn (a1.size : Int) 5000) ≤ (a1.size : Int) then (if 0 ≤ (mn (l2.length : Int) 100) then (if (mn (l2.length : Int) 100) ≤ (l2.length : Int) then ((some (l2.take ((mn (l2.length : Int) 100) : Int).toNat : List (S35))).bind fun y135 => (if 0 ≤ (wrap64 ((wrap64 (((a0.extract 0 ((mn (a0.size : Int) 5000) : Int).toNat).size : Int) / 508)) * 508)) then (if (wrap64 ((wrap64 (((a0.extract 0 ((mn (a0.size : Int) 5000) : Int).toNat).size : Int) / 508)) * 508)) ≤ ((a0.extract 0 ((mn (a0.size : Int) 5000) : Int).toNat).size : Int) then ((vol_Cut.f ((a0.extract 0 ((mn (a0.size : Int) 5000) : Int).toNat).extract 0 ((wrap64 ((wrap64 (((a0.extract 0 ((mn (a0.size : Int) 5000) : Int).toNat).size : Int) / 508)) * 508)) : Int).toNat)).bind fun t139 => ((vol_Cut.f (a1.extract 0 ((mn (a1.size : Int) 5000) : Int).toNat)).bind fun t142 => (if 0 ≤ (wrap64 ((t139.length : Int) + (t142.length : Int))) then (if (wrap64 ((t139.length : Int) + (t142.length : Int)) : Int).toNat ≤ 17592186044416 then ((some (List.replicate 0 (⟨#[]⟩ : ByteArray) : List ByteArray)).bind fun y145 => (if y145.length + t139.length < 8796093022208 then ((some (y145 ++ t139 : List ByteArray)).bind fun y148 => (if y148.length + t142.length < 8796093022208 then (if 0 ≤ (vol_Trim.n y135) then (if (vol_Trim.n y135) ≤ (y135.length : Int) then ((some (y135.take (vol_Trim.n y135 : Int).toNat : List (S35))).bind fun y154 => (if 0 ≤ (vol_Trim.n y154) then (if (vol_Trim.n y154) ≤ (y154.length : Int) then (nautiluslaw17_VolJoins.l0 k ((a0.extract 0 ((mn (a0.size : Int) 5000) : Int).toNat).extract 0 ((wrap64 ((wrap64 (((a0.extract 0 ((mn (a0.size : Int) 5000) : Int).toNat).size : Int) / 508)) * 508)) : Int).toNat) (a1.extract 0 ((mn (a1.size : Int) 5000) : Int).toNat) y135 t134 (y148 ++ t142) y154 (y154.take (vol_Trim.n y154 : Int).toNat) (y154.length : Int)) else (none)) else (none))) else (none)) else (none)) else (none))) else (none))) else (none)) else (none)))) else (none)) else (none))) else (none)) else (none)) else (none)) else (none)) else (none)) else (none)) = some r := H
  have A4 := Aside0.mk A40
  clear A40
  obtain ⟨ji5, hji5⟩ : ∃ j_ : Int, (mn (a0.size : Int) 5000) = j_ := ⟨_, rfl⟩
  replace H : (if 0 ≤ (ji5) then (if (ji5) ≤ (a0.size : Int) then (if 0 ≤ (mn (a1.size : Int) 5000) then (if (mn (a1.size : Int) 5000) ≤ (a1.size : Int) then (if 0 ≤ (mn (l2.length : Int) 100) then (if (mn (l2.length : Int) 100) ≤ (l2.length : Int) then ((some (l2.take ((mn (l2.length : Int) 100) : Int).toNat : List (S35))).bind fun y135 => (if 0 ≤ (wrap64 ((wrap64 (((a0.extract 0 ((ji5) : Int).toNat).size : Int) / 508)) * 508)) then (if (wrap64 ((wrap64 (((a0.extract 0 ((ji5) : Int).toNat).size : Int) / 508)) * 508)) ≤ ((a0.extract 0 ((ji5) : Int).toNat).size : Int) then ((vol_Cut.f ((a0.extract 0 ((ji5) : Int).toNat).extract 0 ((wrap64 ((wrap64 (((a0.extract 0 ((ji5) : Int).toNat).size : Int) / 508)) * 508)) : Int).toNat)).bind fun t139 => ((vol_Cut.f (a1.extract 0 ((mn (a1.size : Int) 5000) : Int).toNat)).bind fun t142 => (if 0 ≤ (wrap64 ((t139.length : Int) + (t142.length : Int))) then (if (wrap64 ((t139.length : Int) + (t142.length : Int)) : Int).toNat ≤ 17592186044416 then ((some (List.replicate 0 (⟨#[]⟩ : ByteArray) : List ByteArray)).bind fun y145 => (if y145.length + t139.length < 8796093022208 then ((some (y145 ++ t139 : List ByteArray)).bind fun y148 => (if y148.length + t142.length < 8796093022208 then (if 0 ≤ (vol_Trim.n y135) then (if (vol_Trim.n y135) ≤ (y135.length : Int) then ((some (y135.take (vol_Trim.n y135 : Int).toNat : List (S35))).bind fun y154 => (if 0 ≤ (vol_Trim.n y154) then (if (vol_Trim.n y154) ≤ (y154.length : Int) then (nautiluslaw17_VolJoins.l0 k ((a0.extract 0 ((ji5) : Int).toNat).extract 0 ((wrap64 ((wrap64 (((a0.extract 0 ((ji5) : Int).toNat).size : Int) / 508)) * 508)) : Int).toNat) (a1.extract 0 ((mn (a1.size : Int) 5000) : Int).toNat) y135 t134 (y148 ++ t142) y154 (y154.take (vol_Trim.n y154 : Int).toNat) (y154.length : Int)) else (none)) else (none))) else (none)) else (none)) else (none))) else (none))) else (none)) else (none)))) else (none)) else (none))) else (none)) else (none)) else (none)) else (none)) else (none)) else (none)) = some r := by first | (rw [hji5] at H; exact H) | (simp only [hji5] at H ⊢; exact H)
  (try rw [hji5] at A4)
  (try (have hji5h : ji5 ≤ 5000 := by (rw [← hji5]; unfold mn; (repeat' split) <;> omega)))
  (try (have hji5g : ji5 ≤ 64 := by omega))
  (try (have hji5l : 0 ≤ ji5 := by (rw [← hji5]; unfold mn; (repeat' split) <;> omega)))
  (try (have hji5m : 0 ≤ ji5 := by omega))
  have hji5_ : (if 5000 < (a0.size : Int) then 5000 else (a0.size : Int)) = ji5 := hji5
  obtain ⟨sx5, hsx5⟩ : ∃ s_ : ByteArray, a0.extract 0 ((ji5) : Int).toNat = s_ := ⟨_, rfl⟩
  rw [hsx5] at H
  by_cases c6 : 0 ≤ (ji5)
  · rw [if_pos c6] at H
    have c6b0 := eq_true c6
    have c6b1 : decide (0 ≤ (ji5)) = true := decide_eq_true c6
    clear c6
    by_cases c7 : (ji5) ≤ (a0.size : Int)
    · rw [if_pos c7] at H
      have c7b0 := eq_true c7
      have c7b1 : decide ((ji5) ≤ (a0.size : Int)) = true := decide_eq_true c7
      clear c7
      obtain ⟨ji8, hji8⟩ : ∃ j_ : Int, (mn (a1.size : Int) 5000) = j_ := ⟨_, rfl⟩
      replace H : (if 0 ≤ (ji8) then (if (ji8) ≤ (a1.size : Int) then (if 0 ≤ (mn (l2.length : Int) 100) then (if (mn (l2.length : Int) 100) ≤ (l2.length : Int) then ((some (l2.take ((mn (l2.length : Int) 100) : Int).toNat : List (S35))).bind fun y135 => (if 0 ≤ (wrap64 ((wrap64 ((sx5.size : Int) / 508)) * 508)) then (if (wrap64 ((wrap64 ((sx5.size : Int) / 508)) * 508)) ≤ (sx5.size : Int) then ((vol_Cut.f (sx5.extract 0 ((wrap64 ((wrap64 ((sx5.size : Int) / 508)) * 508)) : Int).toNat)).bind fun t139 => ((vol_Cut.f (a1.extract 0 ((ji8) : Int).toNat)).bind fun t142 => (if 0 ≤ (wrap64 ((t139.length : Int) + (t142.length : Int))) then (if (wrap64 ((t139.length : Int) + (t142.length : Int)) : Int).toNat ≤ 17592186044416 then ((some (List.replicate 0 (⟨#[]⟩ : ByteArray) : List ByteArray)).bind fun y145 => (if y145.length + t139.length < 8796093022208 then ((some (y145 ++ t139 : List ByteArray)).bind fun y148 => (if y148.length + t142.length < 8796093022208 then (if 0 ≤ (vol_Trim.n y135) then (if (vol_Trim.n y135) ≤ (y135.length : Int) then ((some (y135.take (vol_Trim.n y135 : Int).toNat : List (S35))).bind fun y154 => (if 0 ≤ (vol_Trim.n y154) then (if (vol_Trim.n y154) ≤ (y154.length : Int) then (nautiluslaw17_VolJoins.l0 k (sx5.extract 0 ((wrap64 ((wrap64 ((sx5.size : Int) / 508)) * 508)) : Int).toNat) (a1.extract 0 ((ji8) : Int).toNat) y135 t134 (y148 ++ t142) y154 (y154.take (vol_Trim.n y154 : Int).toNat) (y154.length : Int)) else (none)) else (none))) else (none)) else (none)) else (none))) else (none))) else (none)) else (none)))) else (none)) else (none))) else (none)) else (none)) else (none)) else (none)) = some r := by first | (rw [hji8] at H; exact H) | (simp only [hji8] at H ⊢; exact H)
      (try rw [hji8] at A4)
      (try (have hji8h : ji8 ≤ 5000 := by (rw [← hji8]; unfold mn; (repeat' split) <;> omega)))
      (try (have hji8g : ji8 ≤ 64 := by omega))
      (try (have hji8l : 0 ≤ ji8 := by (rw [← hji8]; unfold mn; (repeat' split) <;> omega)))
      (try (have hji8m : 0 ≤ ji8 := by omega))
      have hji8_ : (if 5000 < (a1.size : Int) then 5000 else (a1.size : Int)) = ji8 := hji8
      obtain ⟨sx8, hsx8⟩ : ∃ s_ : ByteArray, a1.extract 0 ((ji8) : Int).toNat = s_ := ⟨_, rfl⟩
      rw [hsx8] at H
      by_cases c9 : 0 ≤ (ji8)
      · rw [if_pos c9] at H
        have c9b0 := eq_true c9
        have c9b1 : decide (0 ≤ (ji8)) = true := decide_eq_true c9
        clear c9
        by_cases c10 : (ji8) ≤ (a1.size : Int)
        · rw [if_pos c10] at H
          have c10b0 := eq_true c10
          have c10b1 : decide ((ji8) ≤ (a1.size : Int)) = true := decide_eq_true c10
          clear c10
          obtain ⟨ji11, hji11⟩ : ∃ j_ : Int, (mn (l2.length : Int) 100) = j_ := ⟨_, rfl⟩
          replace H : (if 0 ≤ (ji11) then (if (ji11) ≤ (l2.length : Int) then ((some (l2.take ((ji11) : Int).toNat : List (S35))).bind fun y135 => (if 0 ≤ (wrap64 ((wrap64 ((sx5.size : Int) / 508)) * 508)) then (if (wrap64 ((wrap64 ((sx5.size : Int) / 508)) * 508)) ≤ (sx5.size : Int) then ((vol_Cut.f (sx5.extract 0 ((wrap64 ((wrap64 ((sx5.size : Int) / 508)) * 508)) : Int).toNat)).bind fun t139 => ((vol_Cut.f sx8).bind fun t142 => (if 0 ≤ (wrap64 ((t139.length : Int) + (t142.length : Int))) then (if (wrap64 ((t139.length : Int) + (t142.length : Int)) : Int).toNat ≤ 17592186044416 then ((some (List.replicate 0 (⟨#[]⟩ : ByteArray) : List ByteArray)).bind fun y145 => (if y145.length + t139.length < 8796093022208 then ((some (y145 ++ t139 : List ByteArray)).bind fun y148 => (if y148.length + t142.length < 8796093022208 then (if 0 ≤ (vol_Trim.n y135) then (if (vol_Trim.n y135) ≤ (y135.length : Int) then ((some (y135.take (vol_Trim.n y135 : Int).toNat : List (S35))).bind fun y154 => (if 0 ≤ (vol_Trim.n y154) then (if (vol_Trim.n y154) ≤ (y154.length : Int) then (nautiluslaw17_VolJoins.l0 k (sx5.extract 0 ((wrap64 ((wrap64 ((sx5.size : Int) / 508)) * 508)) : Int).toNat) sx8 y135 t134 (y148 ++ t142) y154 (y154.take (vol_Trim.n y154 : Int).toNat) (y154.length : Int)) else (none)) else (none))) else (none)) else (none)) else (none))) else (none))) else (none)) else (none)))) else (none)) else (none))) else (none)) else (none)) = some r := by first | (rw [hji11] at H; exact H) | (simp only [hji11] at H ⊢; exact H)
          (try rw [hji11] at A4)
          (try (have hji11h : ji11 ≤ 100 := by (rw [← hji11]; unfold mn; (repeat' split) <;> omega)))
          (try (have hji11g : ji11 ≤ 64 := by omega))
          (try (have hji11l : 0 ≤ ji11 := by (rw [← hji11]; unfold mn; (repeat' split) <;> omega)))
          (try (have hji11m : 0 ≤ ji11 := by omega))
          have hji11_ : (if 100 < (l2.length : Int) then 100 else (l2.length : Int)) = ji11 := hji11
          by_cases c12 : 0 ≤ (ji11)
          · rw [if_pos c12] at H
            have c12b0 := eq_true c12
            have c12b1 : decide (0 ≤ (ji11)) = true := decide_eq_true c12
            clear c12
            by_cases c13 : (ji11) ≤ (l2.length : Int)
            · rw [if_pos c13] at H
              have c13b0 := eq_true c13
              have c13b1 : decide ((ji11) ≤ (l2.length : Int)) = true := decide_eq_true c13
              clear c13
              obtain ⟨y135, hy135⟩ : ∃ y_ : List (S35), y_ = (l2.take ((ji11) : Int).toNat) := ⟨_, rfl⟩
              replace H : (if 0 ≤ (wrap64 ((wrap64 ((sx5.size : Int) / 508)) * 508)) then (if (wrap64 ((wrap64 ((sx5.size : Int) / 508)) * 508)) ≤ (sx5.size : Int) then ((vol_Cut.f (sx5.extract 0 ((wrap64 ((wrap64 ((sx5.size : Int) / 508)) * 508)) : Int).toNat)).bind fun t139 => ((vol_Cut.f sx8).bind fun t142 => (if 0 ≤ (wrap64 ((t139.length : Int) + (t142.length : Int))) then (if (wrap64 ((t139.length : Int) + (t142.length : Int)) : Int).toNat ≤ 17592186044416 then ((some (List.replicate 0 (⟨#[]⟩ : ByteArray) : List ByteArray)).bind fun y145 => (if y145.length + t139.length < 8796093022208 then ((some (y145 ++ t139 : List ByteArray)).bind fun y148 => (if y148.length + t142.length < 8796093022208 then (if 0 ≤ (vol_Trim.n y135) then (if (vol_Trim.n y135) ≤ (y135.length : Int) then ((some (y135.take (vol_Trim.n y135 : Int).toNat : List (S35))).bind fun y154 => (if 0 ≤ (vol_Trim.n y154) then (if (vol_Trim.n y154) ≤ (y154.length : Int) then (nautiluslaw17_VolJoins.l0 k (sx5.extract 0 ((wrap64 ((wrap64 ((sx5.size : Int) / 508)) * 508)) : Int).toNat) sx8 y135 t134 (y148 ++ t142) y154 (y154.take (vol_Trim.n y154 : Int).toNat) (y154.length : Int)) else (none)) else (none))) else (none)) else (none)) else (none))) else (none))) else (none)) else (none)))) else (none)) else (none)) = some r := by first | (rw [hy135]; with_reducible exact H) | (have H2_ := (Option.bind_some _ _).symm.trans H; rw [hy135]; with_reducible exact H2_) | (have H2_ := (Option.bind_some _ _).symm.trans H; with_reducible exact H2_) | with_reducible exact H | (rw [hy135]; exact H) | exact H
              have Ny135 := Aside0.mk hy135
              clear hy135
              obtain ⟨ji14, hji14⟩ : ∃ j_ : Int, (wrap64 ((wrap64 ((sx5.size : Int) / 508)) * 508)) = j_ := ⟨_, rfl⟩
              replace H : (if 0 ≤ (ji14) then (if (ji14) ≤ (sx5.size : Int) then ((vol_Cut.f (sx5.extract 0 ((ji14) : Int).toNat)).bind fun t139 => ((vol_Cut.f sx8).bind fun t142 => (if 0 ≤ (wrap64 ((t139.length : Int) + (t142.length : Int))) then (if (wrap64 ((t139.length : Int) + (t142.length : Int)) : Int).toNat ≤ 17592186044416 then ((some (List.replicate 0 (⟨#[]⟩ : ByteArray) : List ByteArray)).bind fun y145 => (if y145.length + t139.length < 8796093022208 then ((some (y145 ++ t139 : List ByteArray)).bind fun y148 => (if y148.length + t142.length < 8796093022208 then (if 0 ≤ (vol_Trim.n y135) then (if (vol_Trim.n y135) ≤ (y135.length : Int) then ((some (y135.take (vol_Trim.n y135 : Int).toNat : List (S35))).bind fun y154 => (if 0 ≤ (vol_Trim.n y154) then (if (vol_Trim.n y154) ≤ (y154.length : Int) then (nautiluslaw17_VolJoins.l0 k (sx5.extract 0 ((ji14) : Int).toNat) sx8 y135 t134 (y148 ++ t142) y154 (y154.take (vol_Trim.n y154 : Int).toNat) (y154.length : Int)) else (none)) else (none))) else (none)) else (none)) else (none))) else (none))) else (none)) else (none)))) else (none)) else (none)) = some r := by first | (rw [hji14] at H; exact H) | (simp only [hji14] at H ⊢; exact H)
              (try rw [hji14] at A4)
              have hji14w : (IntKind.i64.wrap ((wrap64 ((sx5.size : Int) / 508)) * 508)) = ji14 := (i64_w _).trans hji14
              by_cases c15 : 0 ≤ (ji14)
              · rw [if_pos c15] at H
                have c15b0 := eq_true c15
                have c15b1 : decide (0 ≤ (ji14)) = true := decide_eq_true c15
                clear c15
                by_cases c16 : (ji14) ≤ (sx5.size : Int)
                · rw [if_pos c16] at H
                  have c16b0 := eq_true c16
                  have c16b1 : decide ((ji14) ≤ (sx5.size : Int)) = true := decide_eq_true c16
                  clear c16
                  replace H := Option.bind_eq_some_iff.mp H
                  obtain ⟨t139, A170, H⟩ := H
                  replace H : ((vol_Cut.f sx8).bind fun t142 => (if 0 ≤ (wrap64 ((t139.length : Int) + (t142.length : Int))) then (if (wrap64 ((t139.length : Int) + (t142.length : Int)) : Int).toNat ≤ 17592186044416 then ((some (List.replicate 0 (⟨#[]⟩ : ByteArray) : List ByteArray)).bind fun y145 => (if y145.length + t139.length < 8796093022208 then ((some (y145 ++ t139 : List ByteArray)).bind fun y148 => (if y148.length + t142.length < 8796093022208 then (if 0 ≤ (vol_Trim.n y135) then (if (vol_Trim.n y135) ≤ (y135.length : Int) then ((some (y135.take (vol_Trim.n y135 : Int).toNat : List (S35))).bind fun y154 => (if 0 ≤ (vol_Trim.n y154) then (if (vol_Trim.n y154) ≤ (y154.length : Int) then (nautiluslaw17_VolJoins.l0 k (sx5.extract 0 ((ji14) : Int).toNat) sx8 y135 t134 (y148 ++ t142) y154 (y154.take (vol_Trim.n y154 : Int).toNat) (y154.length : Int)) else (none)) else (none))) else (none)) else (none)) else (none))) else (none))) else (none)) else (none))) = some r := H
                  have A17 := Aside0.mk A170
                  clear A170
                  replace H := Option.bind_eq_some_iff.mp H
                  obtain ⟨t142, A180, H⟩ := H
                  replace H : (if 0 ≤ (wrap64 ((t139.length : Int) + (t142.length : Int))) then (if (wrap64 ((t139.length : Int) + (t142.length : Int)) : Int).toNat ≤ 17592186044416 then ((some (List.replicate 0 (⟨#[]⟩ : ByteArray) : List ByteArray)).bind fun y145 => (if y145.length + t139.length < 8796093022208 then ((some (y145 ++ t139 : List ByteArray)).bind fun y148 => (if y148.length + t142.length < 8796093022208 then (if 0 ≤ (vol_Trim.n y135) then (if (vol_Trim.n y135) ≤ (y135.length : Int) then ((some (y135.take (vol_Trim.n y135 : Int).toNat : List (S35))).bind fun y154 => (if 0 ≤ (vol_Trim.n y154) then (if (vol_Trim.n y154) ≤ (y154.length : Int) then (nautiluslaw17_VolJoins.l0 k (sx5.extract 0 ((ji14) : Int).toNat) sx8 y135 t134 (y148 ++ t142) y154 (y154.take (vol_Trim.n y154 : Int).toNat) (y154.length : Int)) else (none)) else (none))) else (none)) else (none)) else (none))) else (none))) else (none)) else (none)) = some r := H
                  have A18 := Aside0.mk A180
                  clear A180
                  obtain ⟨ji19, hji19⟩ : ∃ j_ : Int, (wrap64 ((t139.length : Int) + (t142.length : Int))) = j_ := ⟨_, rfl⟩
                  replace H : (if 0 ≤ (ji19) then (if (ji19 : Int).toNat ≤ 17592186044416 then ((some (List.replicate 0 (⟨#[]⟩ : ByteArray) : List ByteArray)).bind fun y145 => (if y145.length + t139.length < 8796093022208 then ((some (y145 ++ t139 : List ByteArray)).bind fun y148 => (if y148.length + t142.length < 8796093022208 then (if 0 ≤ (vol_Trim.n y135) then (if (vol_Trim.n y135) ≤ (y135.length : Int) then ((some (y135.take (vol_Trim.n y135 : Int).toNat : List (S35))).bind fun y154 => (if 0 ≤ (vol_Trim.n y154) then (if (vol_Trim.n y154) ≤ (y154.length : Int) then (nautiluslaw17_VolJoins.l0 k (sx5.extract 0 ((ji14) : Int).toNat) sx8 y135 t134 (y148 ++ t142) y154 (y154.take (vol_Trim.n y154 : Int).toNat) (y154.length : Int)) else (none)) else (none))) else (none)) else (none)) else (none))) else (none))) else (none)) else (none)) = some r := by first | (rw [hji19] at H; exact H) | (simp only [hji19] at H ⊢; exact H)
                  (try rw [hji19] at A4)
                  (try rw [hji19] at A17)
                  (try rw [hji19] at A18)
                  have hji19w : (IntKind.i64.wrap ((t139.length : Int) + (t142.length : Int))) = ji19 := (i64_w _).trans hji19
                  by_cases c20 : 0 ≤ (ji19)
                  · rw [if_pos c20] at H
                    have c20b0 := eq_true c20
                    have c20b1 : decide (0 ≤ (ji19)) = true := decide_eq_true c20
                    clear c20
                    by_cases c21 : (ji19 : Int).toNat ≤ 17592186044416
                    · rw [if_pos c21] at H
                      have c21b0 := eq_true c21
                      have c21b1 : decide ((ji19 : Int).toNat ≤ 17592186044416) = true := decide_eq_true c21
                      clear c21
                      obtain ⟨y145, hy145⟩ : ∃ y_ : List ByteArray, y_ = (List.replicate 0 (⟨#[]⟩ : ByteArray)) := ⟨_, rfl⟩
                      replace H : (if y145.length + t139.length < 8796093022208 then ((some (y145 ++ t139 : List ByteArray)).bind fun y148 => (if y148.length + t142.length < 8796093022208 then (if 0 ≤ (vol_Trim.n y135) then (if (vol_Trim.n y135) ≤ (y135.length : Int) then ((some (y135.take (vol_Trim.n y135 : Int).toNat : List (S35))).bind fun y154 => (if 0 ≤ (vol_Trim.n y154) then (if (vol_Trim.n y154) ≤ (y154.length : Int) then (nautiluslaw17_VolJoins.l0 k (sx5.extract 0 ((ji14) : Int).toNat) sx8 y135 t134 (y148 ++ t142) y154 (y154.take (vol_Trim.n y154 : Int).toNat) (y154.length : Int)) else (none)) else (none))) else (none)) else (none)) else (none))) else (none)) = some r := by first | (rw [hy145]; with_reducible exact H) | (have H2_ := (Option.bind_some _ _).symm.trans H; rw [hy145]; with_reducible exact H2_) | (have H2_ := (Option.bind_some _ _).symm.trans H; with_reducible exact H2_) | with_reducible exact H | (rw [hy145]; exact H) | exact H
                      have Ny145 := Aside0.mk hy145
                      clear hy145
                      by_cases c22 : y145.length + t139.length < 8796093022208
                      · rw [if_pos c22] at H
                        have LMc22 := Aside0.mk c22
                        clear c22
                        obtain ⟨y148, hy148⟩ : ∃ y_ : List ByteArray, y_ = (y145 ++ t139) := ⟨_, rfl⟩
                        replace H : (if y148.length + t142.length < 8796093022208 then (if 0 ≤ (vol_Trim.n y135) then (if (vol_Trim.n y135) ≤ (y135.length : Int) then ((some (y135.take (vol_Trim.n y135 : Int).toNat : List (S35))).bind fun y154 => (if 0 ≤ (vol_Trim.n y154) then (if (vol_Trim.n y154) ≤ (y154.length : Int) then (nautiluslaw17_VolJoins.l0 k (sx5.extract 0 ((ji14) : Int).toNat) sx8 y135 t134 (y148 ++ t142) y154 (y154.take (vol_Trim.n y154 : Int).toNat) (y154.length : Int)) else (none)) else (none))) else (none)) else (none)) else (none)) = some r := by first | (rw [hy148]; with_reducible exact H) | (have H2_ := (Option.bind_some _ _).symm.trans H; rw [hy148]; with_reducible exact H2_) | (have H2_ := (Option.bind_some _ _).symm.trans H; with_reducible exact H2_) | with_reducible exact H | (rw [hy148]; exact H) | exact H
                        have Ny148 := Aside0.mk hy148
                        clear hy148
                        by_cases c23 : y148.length + t142.length < 8796093022208
                        · rw [if_pos c23] at H
                          have LMc23 := Aside0.mk c23
                          clear c23
                          obtain ⟨y151, hy151⟩ : ∃ y_ : List ByteArray, y_ = (y148 ++ t142) := ⟨_, rfl⟩
                          replace H : (if 0 ≤ (vol_Trim.n y135) then (if (vol_Trim.n y135) ≤ (y135.length : Int) then ((some (y135.take (vol_Trim.n y135 : Int).toNat : List (S35))).bind fun y154 => (if 0 ≤ (vol_Trim.n y154) then (if (vol_Trim.n y154) ≤ (y154.length : Int) then (nautiluslaw17_VolJoins.l0 k (sx5.extract 0 ((ji14) : Int).toNat) sx8 y135 t134 y151 y154 (y154.take (vol_Trim.n y154 : Int).toNat) (y154.length : Int)) else (none)) else (none))) else (none)) else (none)) = some r := by first | (rw [hy151]; with_reducible exact H) | (have H2_ := (Option.bind_some _ _).symm.trans H; rw [hy151]; with_reducible exact H2_) | (have H2_ := (Option.bind_some _ _).symm.trans H; with_reducible exact H2_) | with_reducible exact H | (rw [hy151]; exact H) | exact H
                          have Ny151 := Aside0.mk hy151
                          clear hy151
                          by_cases c24 : 0 ≤ (vol_Trim.n y135)
                          · rw [if_pos c24] at H
                            have c24b0 := eq_true c24
                            have c24b1 : decide (0 ≤ (vol_Trim.n y135)) = true := decide_eq_true c24
                            clear c24
                            by_cases c25 : (vol_Trim.n y135) ≤ (y135.length : Int)
                            · rw [if_pos c25] at H
                              have c25b0 := eq_true c25
                              have c25b1 : decide ((vol_Trim.n y135) ≤ (y135.length : Int)) = true := decide_eq_true c25
                              clear c25
                              obtain ⟨y154, hy154⟩ : ∃ y_ : List (S35), y_ = (y135.take (vol_Trim.n y135 : Int).toNat) := ⟨_, rfl⟩
                              replace H : (if 0 ≤ (vol_Trim.n y154) then (if (vol_Trim.n y154) ≤ (y154.length : Int) then (nautiluslaw17_VolJoins.l0 k (sx5.extract 0 ((ji14) : Int).toNat) sx8 y135 t134 y151 y154 (y154.take (vol_Trim.n y154 : Int).toNat) (y154.length : Int)) else (none)) else (none)) = some r := by first | (rw [hy154]; with_reducible exact H) | (have H2_ := (Option.bind_some _ _).symm.trans H; rw [hy154]; with_reducible exact H2_) | (have H2_ := (Option.bind_some _ _).symm.trans H; with_reducible exact H2_) | with_reducible exact H | (rw [hy154]; exact H) | exact H
                              have Ny154 := Aside0.mk hy154
                              clear hy154
                              by_cases c26 : 0 ≤ (vol_Trim.n y154)
                              · rw [if_pos c26] at H
                                have c26b0 := eq_true c26
                                have c26b1 : decide (0 ≤ (vol_Trim.n y154)) = true := decide_eq_true c26
                                clear c26
                                by_cases c27 : (vol_Trim.n y154) ≤ (y154.length : Int)
                                · rw [if_pos c27] at H
                                  have c27b0 := eq_true c27
                                  have c27b1 : decide ((vol_Trim.n y154) ≤ (y154.length : Int)) = true := decide_eq_true c27
                                  clear c27
                                  obtain ⟨y158, hy158⟩ : ∃ y_ : List (S35), y_ = (y154.take (vol_Trim.n y154 : Int).toNat) := ⟨_, rfl⟩
                                  replace H : (nautiluslaw17_VolJoins.l0 k (sx5.extract 0 ((ji14) : Int).toNat) sx8 y135 t134 y151 y154 y158 (y154.length : Int)) = some r := by first | (rw [hy158]; with_reducible exact H) | (have H2_ := (Option.bind_some _ _).symm.trans H; rw [hy158]; with_reducible exact H2_) | (have H2_ := (Option.bind_some _ _).symm.trans H; with_reducible exact H2_) | with_reducible exact H | (rw [hy158]; exact H) | exact H
                                  have Ny158 := Aside0.mk hy158
                                  clear hy158
                                  have H' := Aside0.mk H
                                  clear H
                                  go_enter Try.func4, Try.ntmps4
                                  go_wp2_with (first | ((with_reducible refine gate_callee (f := 10) rfl ?_); refine goesL_ (some 14) rfl rfl Try.func10 (by kernel_rfl) rfl #[] rfl (by (try simp only [List.map_toArray, List.map_cons, List.map_nil]); first | done | rfl | (simp only [List.length_drop, List.length_take]; rfl)) ?_; (with_reducible refine (nautiluslaw17_shown.calls k  t134 _ A4.out).mono ?_); rintro e w28 ⟨rfl, hb⟩; refine ⟨_, rfl, ?_⟩; have n0_ := Aside0.mk (below_step (by repeat (first | (with_reducible first | exact HB.out | apply below_alloc | apply pw_below_drewN | apply below_drew1) | exact HB.out)) hb); clear HB; have HB := n0_; clear n0_; (try clear hb); (try clear hb2); (try clear hk); (try clear hi); have q29 : ((ji11) : Int) ≤ ((l2.length : Int) : Int) := of_decide_eq_true (by first | (with_reducible assumption) | assumption); obtain ⟨i029, hi029, _, hsz29, _⟩ := info_parts info35; have hroom29 : l2.length ≤ c2 := HC2.out; have hC29 : Kd.C k35 _ A2 l2.length l2 := HR2.out; have hcut29 := cut_to (P := Try.prog) 28 35 .i64 Try.underlying28 hi029 A2 l2.length c2 (ji11) (of_decide_eq_true (by first | (with_reducible assumption) | assumption)) q29 hroom29; have hr29 := Kd.C_take (m := ((ji11) : Int).toNat) hC29 (by omega); have hy29 : y135.length = ((ji11) : Int).toNat := (by rw [Ny135.out, List.length_take]; omega); rw [← Ny135.out] at hr29; rw [← hy29] at hcut29; have HR138 := Aside0.mk hr29; have HC138 := Aside0.mk (show y135.length ≤ c2 from by omega); clear hr29 hC29 hroom29 hi029 hsz29; have KY29 := Aside0.mk hy29; clear hy29; replace q29 := eq_true q29) | ((with_reducible refine gate_callee (f := 13) rfl ?_); refine goesL_ (some 37) rfl rfl Try.func13 (by kernel_rfl) rfl #[.string (sx5.extract 0 ((ji14) : Int).toNat)] rfl (by (try simp only [List.map_toArray, List.map_cons, List.map_nil]); first | done | (simp only [hji14, hji5]; rfl) | rfl | (simp only [List.length_drop, List.length_take]; rfl)) ?_; (with_reducible refine (vol_Cut.calls (sx5.extract 0 ((ji14) : Int).toNat) t139 _ A17.out).mono ?_); rintro e w30 ⟨v140, rfl, ho0, hb⟩; refine ⟨_, rfl, ?_⟩; have n0_ := Aside0.mk (Kd.R_lower ho0 (below_size (by repeat (first | (with_reducible first | exact HB.out | apply below_alloc | apply pw_below_drewN | apply below_drew1) | exact HB.out)))); have n1_ := Aside0.mk (below_step (by repeat (first | (with_reducible first | exact HB.out | apply below_alloc | apply pw_below_drewN | apply below_drew1) | exact HB.out)) hb); clear HB; have HO141 := n0_; have HB := n1_; clear n0_ n1_; (try clear hb); (try clear hb2); (try clear hk); (try clear hi); (try clear ho0)) | ((with_reducible refine gate_callee (f := 13) rfl ?_); refine goesL_ (some 39) rfl rfl Try.func13 (by kernel_rfl) rfl #[.string sx8] rfl (by (try simp only [List.map_toArray, List.map_cons, List.map_nil]); first | done | (simp only [hji8]; rfl) | rfl | (simp only [List.length_drop, List.length_take]; rfl)) ?_; (with_reducible refine (vol_Cut.calls sx8 t142 _ A18.out).mono ?_); rintro e w31 ⟨v143, rfl, ho0, hb⟩; refine ⟨_, rfl, ?_⟩; have n0_ := Aside0.mk (Kd.R_elder' (by (with_reducible repeat (first | apply Kd.R_alloc | apply Kd.R_drewN | apply Kd.R_drew)); exact HO141.out) (Kd.R_base ho0) hb); have n1_ := Aside0.mk (Kd.R_lower (Kd.R_new' ho0 (Kd.R_lt (by (with_reducible repeat (first | apply Kd.R_alloc | apply Kd.R_drewN | apply Kd.R_drew)); exact HO141.out))) (below_size (by repeat (first | (with_reducible first | exact HB.out | apply below_alloc | apply pw_below_drewN | apply below_drew1) | exact HB.out)))); have n2_ := Aside0.mk (below_step (by repeat (first | (with_reducible first | exact HB.out | apply below_alloc | apply pw_below_drewN | apply below_drew1) | exact HB.out)) hb); clear HO141; clear HB; have HO141 := n0_; have HO144 := n1_; have HB := n2_; clear n0_ n1_ n2_; (try clear hb); (try clear hb2); (try clear hk); (try clear hi); (try clear ho0); obtain ⟨Ao32, co32, eo32⟩ := Kd.R_slice HO141.out; subst eo32; obtain ⟨Ao33, co33, eo33⟩ := Kd.R_slice HO144.out; subst eo33) | ((with_reducible refine gate_dst (N := 45) rfl ?_); (try (refine gate_guard (by rfl) ?_; dsimp only)); refine R_make0 Kd.string _ 9 rfl (N := 45) rfl 29 _ _ rfl ji19 rfl rfl Try.underlying29 (.string ⟨#[]⟩) 16 info9 rfl (by decide) (by omega) (⟨#[]⟩ : ByteArray) (ok := fun _ => True) (okp := fun _ => True) rfl (fun _ hk => hk) trivial (of_decide_eq_true (by first | (with_reducible assumption) | assumption)) (Nat.le_trans (Nat.mul_le_mul_right _ (of_decide_eq_true (by first | (with_reducible assumption) | assumption) : ji19.toNat ≤ 17592186044416)) (by omega)) (Below.refl _ _) (Nat.le_refl _) ?_; intro v146 w34 ho35 hb hg_ hnew_; clear hg_ hnew_; (first | rw [← Ny145.out] at ho35 | (simp only [Int.reduceToNat] at ho35; rw [← Ny145.out] at ho35)); have n0_ := Aside0.mk (Kd.R_elder' (by (with_reducible repeat (first | apply Kd.R_alloc | apply Kd.R_drewN | apply Kd.R_drew)); exact HO141.out) (Kd.R_base ho35) hb); have n1_ := Aside0.mk (Kd.R_elder' (by (with_reducible repeat (first | apply Kd.R_alloc | apply Kd.R_drewN | apply Kd.R_drew)); exact HO144.out) (Kd.R_base ho35) hb); have n2_ := Aside0.mk (Kd.R_lower (Kd.R_new' (Kd.R_new' ho35 (Kd.R_lt (by (with_reducible repeat (first | apply Kd.R_alloc | apply Kd.R_drewN | apply Kd.R_drew)); exact HO141.out))) (Kd.R_lt (by (with_reducible repeat (first | apply Kd.R_alloc | apply Kd.R_drewN | apply Kd.R_drew)); exact HO144.out))) (below_size (by repeat (first | (with_reducible first | exact HB.out | apply below_alloc | apply pw_below_drewN | apply below_drew1) | exact HB.out)))); have n3_ := Aside0.mk (below_step (by repeat (first | (with_reducible first | exact HB.out | apply below_alloc | apply pw_below_drewN | apply below_drew1) | exact HB.out)) hb); clear HO141; clear HO144; clear HB; have HO141 := n0_; have HO144 := n1_; have HO147 := n2_; have HB := n3_; clear n0_ n1_ n2_ n3_; clear hb ho35) | ((with_reducible refine gate_builtin (b := .append) (xs := #[.tmp 45, .tmp 46]) rfl ?_); (try (refine gate_guard (by rfl) ?_; dsimp only)); at_builtin; refine Kd.R_append_rows Kd.string (w0 := w) w.heap.size rfl (.tmp 45) (.tmp 46) 29 9 (.string ⟨#[]⟩) 16 rfl Try.underlying29 info9 rfl (by decide) (by omega) v146 y145 t139 _ _ _ (fun k_ => some k_ ≠ (.slice Ao32 t139.length co32 : Value).ownBlock ∧ some k_ ≠ (.slice Ao33 t142.length co33 : Value).ownBlock) (fun _ => False) rfl rfl ?aO ?aR (fun _ _ h => h) (fun _ h => h.elim) ?aF ?aB ?aS ?aL ?_; (case aR => repeat (first | exact (Kd.R_reads' HO141.out).2.2 | (with_reducible refine Kd.C_alloc ?_ _) | (with_reducible refine Kd.C_drewN ?_ _) | (with_reducible refine Kd.C_drew ?_))); (case aB => exact (by repeat (first | (with_reducible first | exact HB.out | apply below_alloc | apply pw_below_drewN | apply below_drew1) | exact HB.out))); (case aF => exact (fun k_ hk => ⟨Kd.fresh' (Kd.R_lt (by (with_reducible repeat (first | apply Kd.R_alloc | apply Kd.R_drewN | apply Kd.R_drew)); exact HO141.out)) k_ hk, Kd.fresh' (Kd.R_lt (by (with_reducible repeat (first | apply Kd.R_alloc | apply Kd.R_drewN | apply Kd.R_drew)); exact HO144.out)) k_ hk⟩)); (case aO => exact (by (with_reducible repeat (first | apply Kd.R_alloc | apply Kd.R_drewN | apply Kd.R_drew)); exact Kd.R_mono HO147.out (fun _ hk => ⟨hk.1.2, hk.2⟩))); (case aS => exact (below_size (by repeat (first | (with_reducible first | exact HB.out | apply below_alloc | apply pw_below_drewN | apply below_drew1) | exact HB.out)))); (case aL => have := LMc22.out; omega); intro v149 w36 ho hb hg hat; rw [← Ny148.out] at ho; have n0_ := Aside0.mk (Kd.R_after (ok := (fun k_ => some k_ ≠ (.slice Ao33 t142.length co33 : Value).ownBlock)) (by (with_reducible repeat (first | apply Kd.R_alloc | apply Kd.R_drewN | apply Kd.R_drew)); exact Kd.R_mono HO141.out (fun _ hk => ⟨hk.1.2, hk.2⟩)) hg hat); have n1_ := Aside0.mk (Kd.R_after (ok := (fun k_ => some k_ ≠ (.slice Ao32 t139.length co32 : Value).ownBlock)) (by (with_reducible repeat (first | apply Kd.R_alloc | apply Kd.R_drewN | apply Kd.R_drew)); exact Kd.R_mono HO144.out (fun _ hk => ⟨hk.1.2, hk.2⟩)) hg hat); have n2_ := Aside0.mk (hb); have n3_ := Aside0.mk (ho); clear HO141; clear HO144; clear HB; clear HO147; have HO141 := n0_; have HO144 := n1_; have HB := n2_; have HO150 := n3_; clear n0_ n1_ n2_ n3_; clear ho hb hg hat) | ((with_reducible refine gate_builtin (b := .append) (xs := #[.tmp 47, .tmp 48]) rfl ?_); (try (refine gate_guard (by rfl) ?_; dsimp only)); at_builtin; refine Kd.R_append_rows Kd.string (w0 := w) w.heap.size rfl (.tmp 47) (.tmp 48) 29 9 (.string ⟨#[]⟩) 16 rfl Try.underlying29 info9 rfl (by decide) (by omega) v149 y148 t142 _ _ _ (fun k_ => some k_ ≠ (.slice Ao32 t139.length co32 : Value).ownBlock ∧ some k_ ≠ (.slice Ao33 t142.length co33 : Value).ownBlock) (fun _ => False) rfl rfl ?aO ?aR (fun _ _ h => h) (fun _ h => h.elim) ?aF ?aB ?aS ?aL ?_; (case aR => repeat (first | exact (Kd.R_reads' HO144.out).2.2 | (with_reducible refine Kd.C_alloc ?_ _) | (with_reducible refine Kd.C_drewN ?_ _) | (with_reducible refine Kd.C_drew ?_))); (case aB => exact (by repeat (first | (with_reducible first | exact HB.out | apply below_alloc | apply pw_below_drewN | apply below_drew1) | exact HB.out))); (case aF => exact (fun k_ hk => ⟨Kd.fresh' (Kd.R_lt (by (with_reducible repeat (first | apply Kd.R_alloc | apply Kd.R_drewN | apply Kd.R_drew)); exact HO141.out)) k_ hk, Kd.fresh' (Kd.R_lt (by (with_reducible repeat (first | apply Kd.R_alloc | apply Kd.R_drewN | apply Kd.R_drew)); exact HO144.out)) k_ hk⟩)); (case aO => exact (by (with_reducible repeat (first | apply Kd.R_alloc | apply Kd.R_drewN | apply Kd.R_drew)); exact HO150.out)); (case aS => exact (below_size (by repeat (first | (with_reducible first | exact HB.out | apply below_alloc | apply pw_below_drewN | apply below_drew1) | exact HB.out)))); (case aL => have := LMc23.out; omega); intro v152 w37 ho hb hg hat; rw [← Ny151.out] at ho; have n0_ := Aside0.mk (Kd.R_after (ok := (fun k_ => some k_ ≠ (.slice Ao33 t142.length co33 : Value).ownBlock)) (by (with_reducible repeat (first | apply Kd.R_alloc | apply Kd.R_drewN | apply Kd.R_drew)); exact HO141.out) hg hat); have n1_ := Aside0.mk (Kd.R_after (ok := (fun k_ => some k_ ≠ (.slice Ao32 t139.length co32 : Value).ownBlock)) (by (with_reducible repeat (first | apply Kd.R_alloc | apply Kd.R_drewN | apply Kd.R_drew)); exact HO144.out) hg hat); have n2_ := Aside0.mk (hb); have n3_ := Aside0.mk (ho); clear HO141; clear HO144; clear HB; clear HO150; have HO141 := n0_; have HO144 := n1_; have HB := n2_; have HO153 := n3_; clear n0_ n1_ n2_ n3_; clear ho hb hg hat; have q38 : ((vol_Trim.n y135) : Int) ≤ ((y135.length : Int) : Int) := of_decide_eq_true (by first | (with_reducible assumption) | assumption); obtain ⟨i038, hi038, _, hsz38, _⟩ := info_parts info35; have hroom38 : y135.length ≤ c2 := HC138.out; have hC38 : Kd.C k35 _ A2 y135.length y135 := HR138.out; have hcut38 := cut_to (P := Try.prog) 28 35 .i64 Try.underlying28 hi038 A2 y135.length c2 (vol_Trim.n y135) (of_decide_eq_true (by first | (with_reducible assumption) | assumption)) q38 hroom38; have hr38 := Kd.C_take (m := ((vol_Trim.n y135) : Int).toNat) hC38 (by omega); have hy38 : y154.length = ((vol_Trim.n y135) : Int).toNat := (by rw [Ny154.out, List.length_take]; omega); rw [← Ny154.out] at hr38; rw [← hy38] at hcut38; have HR157 := Aside0.mk hr38; have HC157 := Aside0.mk (show y154.length ≤ c2 from by omega); clear hr38 hC38 hroom38 hi038 hsz38; have KY38 := Aside0.mk hy38; clear hy38; clear hcut38; replace q38 := eq_true q38; have q39 : ((vol_Trim.n y154) : Int) ≤ ((y154.length : Int) : Int) := of_decide_eq_true (by first | (with_reducible assumption) | assumption); obtain ⟨i039, hi039, _, hsz39, _⟩ := info_parts info35; have hroom39 : y154.length ≤ c2 := HC157.out; have hC39 : Kd.C k35 _ A2 y154.length y154 := HR157.out; have hcut39 := cut_to (P := Try.prog) 28 35 .i64 Try.underlying28 hi039 A2 y154.length c2 (vol_Trim.n y154) (of_decide_eq_true (by first | (with_reducible assumption) | assumption)) q39 hroom39; have hr39 := Kd.C_take (m := ((vol_Trim.n y154) : Int).toNat) hC39 (by omega); have hy39 : y158.length = ((vol_Trim.n y154) : Int).toNat := (by rw [Ny158.out, List.length_take]; omega); rw [← Ny158.out] at hr39; rw [← hy39] at hcut39; have HR161 := Aside0.mk hr39; have HC161 := Aside0.mk (show y158.length ≤ c2 from by omega); clear hr39 hC39 hroom39 hi039 hsz39; have KY39 := Aside0.mk hy39; clear hy39; clear hcut39; replace q39 := eq_true q39) | ((with_reducible refine gate_callee (f := 14) rfl ?_); refine goesL_ (some 51) rfl rfl Try.func14 (by kernel_rfl) rfl #[.slice A2 y135.length c2] rfl (by (try simp only [List.map_toArray, List.map_cons, List.map_nil]); first | done | rfl | (simp only [List.length_drop, List.length_take]; rfl)) ?_; (refine (vol_Trim.calls A2 c2 y135 y154.length _ ?side1 ?side2 ?side3).mono ?_); (case side1 => first | exact HR138.out | exact Kd.C_below HR138.out HB.out | exact Kd.C_below HR138.out (by repeat (first | (with_reducible first | exact HB.out | apply below_alloc | apply pw_below_drewN | apply below_drew1) | exact HB.out))); (case side2 => exact HC138.out); (case side3 => exact KY38.out); rintro e w' ⟨rfl, rfl⟩; refine ⟨_, rfl, ?_⟩) | ((with_reducible refine gate_callee (f := 14) rfl ?_); refine goesL_ (some 53) rfl rfl Try.func14 (by kernel_rfl) rfl #[.slice A2 y154.length c2] rfl (by (try simp only [List.map_toArray, List.map_cons, List.map_nil]); first | done | rfl | (simp only [List.length_drop, List.length_take]; rfl)) ?_; (refine (vol_Trim.calls A2 c2 y154 y158.length _ ?side1 ?side2 ?side3).mono ?_); (case side1 => first | exact HR157.out | exact Kd.C_below HR157.out HB.out | exact Kd.C_below HR157.out (by repeat (first | (with_reducible first | exact HB.out | apply below_alloc | apply pw_below_drewN | apply below_drew1) | exact HB.out))); (case side2 => exact HC157.out); (case side3 => exact KY39.out); rintro e w' ⟨rfl, rfl⟩; refine ⟨_, rfl, ?_⟩))
                                  go_loopg [13] k (fun kq v13 w' => ∃ (x13_1 : Int), v13 = .int .i64 x13_1 ∧ Aside0 (nautiluslaw17_VolJoins.l0 kq (sx5.extract 0 ((ji14) : Int).toNat) sx8 y135 t134 y151 y154 y158 x13_1 = some r) ∧ Aside0 (kq ≤ k) ∧ Aside0 (Kd.R Kd.string 9 w' w.heap.size (fun _ => True) v152 y151) ∧ Aside0 (Below w.heap.size w w'))
                                  case atStart => exact ⟨((y154.length : Int)), (by first | rfl | (simp; done) | (simp [*]; done)), H', ⟨Nat.le_refl _⟩, ⟨by (with_reducible repeat (first | apply Kd.R_alloc | apply Kd.R_drewN | apply Kd.R_drew)); exact Kd.R_mono HO153.out (fun _ hk => trivial)⟩, ⟨by repeat (first | (with_reducible first | exact HB.out | apply below_alloc | apply pw_below_drewN | apply below_drew1) | exact HB.out)⟩⟩
                                  case round =>
                                    clear H'
                                    try clear c1
                                    try clear c2
                                    try clear p2
                                    try clear q2
                                    try clear q3
                                    try clear c4
                                    try clear c6
                                    try clear c6b0
                                    try clear c6b1
                                    try clear p6
                                    try clear c7
                                    try clear c7b0
                                    try clear c7b1
                                    try clear c9
                                    try clear c9b0
                                    try clear c9b1
                                    try clear c10
                                    try clear c10b0
                                    try clear c10b1
                                    try clear c12
                                    try clear c12b0
                                    try clear c12b1
                                    try clear c13
                                    try clear c13b0
                                    try clear c13b1
                                    try clear c14
                                    try clear c15
                                    try clear c15b0
                                    try clear c15b1
                                    try clear c16
                                    try clear c16b0
                                    try clear c16b1
                                    try clear c20
                                    try clear c20b0
                                    try clear c20b1
                                    try clear c21
                                    try clear c21b0
                                    try clear c21b1
                                    try clear c22
                                    try clear c23
                                    try clear c24
                                    try clear c24b0
                                    try clear c24b1
                                    try clear c25
                                    try clear c25b0
                                    try clear c25b1
                                    try clear c26
                                    try clear c26b0
                                    try clear c26b1
                                    try clear c27
                                    try clear c27b0
                                    try clear c27b1
                                    try clear q29
                                    try clear q38
                                    try clear q39
                                    try clear q29
                                    try clear q38
                                    try clear q39
                                    obtain ⟨x13_1, rfl, HA, HK1, HO_10, HB⟩ := hrel
                                    cases gk with
                                    | zero => exact absurd HA.out (by simp [nautiluslaw17_VolJoins.l0])
                                    | succ k1 =>
                                      have H := HA.out
                                      clear HA
                                      simp only [nautiluslaw17_VolJoins.l0] at H
                                      by_cases c40 : x13_1 < (y135.length : Int)
                                      · rw [if_pos c40] at H
                                        have c40b0 : decide (x13_1 < (y135.length : Int)) = true := decide_eq_true c40
                                        clear c40
                                        by_cases c41 : 0 ≤ x13_1
                                        · rw [if_pos c41] at H
                                          have c41b0 : decide (0 ≤ x13_1) = true := decide_eq_true c41
                                          clear c41
                                          by_cases c42 : (!(((rd_T35 y135 x13_1).f0) == 0) || (!(((rd_T35 y135 x13_1).f1) == 0) || (!(((rd_T35 y135 x13_1).f2) == 0) || (!(((rd_T35 y135 x13_1).f3) == 0) || (!((((rd_T35 y135 x13_1).f4).toList) == ([] : List UInt8))))))) = true
                                          · rw [if_pos c42] at H
                                            have c42b0 : (!(((rd_T35 y135 x13_1).f0) == 0) || (!(((rd_T35 y135 x13_1).f1) == 0) || (!(((rd_T35 y135 x13_1).f2) == 0) || (!(((rd_T35 y135 x13_1).f3) == 0) || (!((((rd_T35 y135 x13_1).f4).toList) == ([] : List UInt8))))))) = true := c42
                                            have c42b0e : (!(((rd_T35 y135 x13_1).f0) == 0) || (!(((rd_T35 y135 x13_1).f1) == 0) || (!(((rd_T35 y135 x13_1).f2) == 0) || (!(((rd_T35 y135 x13_1).f3) == 0) || (!((((rd_T35 y135 x13_1).f4).toList).isEmpty)))))) = true := (by rw [← beq_nil8]; exact c42b0)
                                            clear c42
                                            obtain rfl := Option.some.inj H
                                            have p162 : 0 ≤ (x13_1 : Int) := of_decide_eq_true (by first | (with_reducible assumption) | assumption)
                                            have q162 : x13_1 < (y135.length : Int) := of_decide_eq_true (by first | (with_reducible assumption) | assumption)
                                            obtain ⟨ad162, e162, hx162_0, hx162_1, hx162_2, hx162_3, hx162_4⟩ := at_T35 HR138.out x13_1 p162 q162
                                            cases e162
                                            replace hx162_0 := (HB.out.cell (World.block_lt_of_cell? w _ hx162_0)).trans hx162_0
                                            replace hx162_1 := (HB.out.cell (World.block_lt_of_cell? w _ hx162_1)).trans hx162_1
                                            replace hx162_2 := (HB.out.cell (World.block_lt_of_cell? w _ hx162_2)).trans hx162_2
                                            replace hx162_3 := (HB.out.cell (World.block_lt_of_cell? w _ hx162_3)).trans hx162_3
                                            replace hx162_4 := (HB.out.cell (World.block_lt_of_cell? w _ hx162_4)).trans hx162_4
                                            replace p162 := eq_true p162
                                            replace q162 := eq_true q162
                                            go_wp2
                                            go_ret
                                            exact ⟨by first | rfl | (simp [errW_none, errW_some] <;> rfl) | (simp only [← hji5, ← hji8, ← hji11, ← hji14, ← hji19]; first | rfl | (simp [errW_none, errW_some] <;> rfl)) | (simp [*, errW_none, errW_some] <;> rfl) | (simp [show IntKind.u64.wrap 0 = 0 from rfl, Int.zero_tdiv]; done), by repeat (first | (with_reducible first | exact HB.out | apply below_alloc | apply pw_below_drewN | apply below_drew1) | exact HB.out)⟩
                                          · rw [if_neg c42] at H
                                            have c42b0 : (!(((rd_T35 y135 x13_1).f0) == 0) || (!(((rd_T35 y135 x13_1).f1) == 0) || (!(((rd_T35 y135 x13_1).f2) == 0) || (!(((rd_T35 y135 x13_1).f3) == 0) || (!((((rd_T35 y135 x13_1).f4).toList) == ([] : List UInt8))))))) = false := by simpa using c42
                                            have c42b0e : (!(((rd_T35 y135 x13_1).f0) == 0) || (!(((rd_T35 y135 x13_1).f1) == 0) || (!(((rd_T35 y135 x13_1).f2) == 0) || (!(((rd_T35 y135 x13_1).f3) == 0) || (!((((rd_T35 y135 x13_1).f4).toList).isEmpty)))))) = false := (by rw [← beq_nil8]; exact c42b0)
                                            clear c42
                                            have H' := Aside0.mk H
                                            clear H
                                            have p162 : 0 ≤ (x13_1 : Int) := of_decide_eq_true (by first | (with_reducible assumption) | assumption)
                                            have q162 : x13_1 < (y135.length : Int) := of_decide_eq_true (by first | (with_reducible assumption) | assumption)
                                            obtain ⟨ad162, e162, hx162_0, hx162_1, hx162_2, hx162_3, hx162_4⟩ := at_T35 HR138.out x13_1 p162 q162
                                            cases e162
                                            replace hx162_0 := (HB.out.cell (World.block_lt_of_cell? w _ hx162_0)).trans hx162_0
                                            replace hx162_1 := (HB.out.cell (World.block_lt_of_cell? w _ hx162_1)).trans hx162_1
                                            replace hx162_2 := (HB.out.cell (World.block_lt_of_cell? w _ hx162_2)).trans hx162_2
                                            replace hx162_3 := (HB.out.cell (World.block_lt_of_cell? w _ hx162_3)).trans hx162_3
                                            replace hx162_4 := (HB.out.cell (World.block_lt_of_cell? w _ hx162_4)).trans hx162_4
                                            replace p162 := eq_true p162
                                            replace q162 := eq_true q162
                                            go_wp2
                                            go_roundg k1
                                            case measure => have := HK1.out; omega
                                            case rel => exact ⟨(wrap64 (x13_1 + 1)), (by first | rfl | (simp; done) | (simp [*]; done)), H', ⟨by have := HK1.out; omega⟩, ⟨by (with_reducible repeat (first | apply Kd.R_alloc | apply Kd.R_drewN | apply Kd.R_drew)); exact HO_10.out⟩, ⟨by repeat (first | (with_reducible first | exact HB.out | apply below_alloc | apply pw_below_drewN | apply below_drew1) | exact HB.out)⟩⟩
                                        · rw [if_neg c41] at H
                                          exact absurd H (by simp)
                                      · rw [if_neg c40] at H
                                        have c40b0 : decide (x13_1 < (y135.length : Int)) = false := decide_eq_false c40
                                        clear c40
                                        by_cases c43 : t134 = true
                                        · subst c43
                                          have H1 : (if (sx5.extract 0 ((ji14) : Int).toNat).size + sx8.size ≤ 9223372036854775807 then ((vol_Cut.f ((sx5.extract 0 ((ji14) : Int).toNat) ++ sx8)).bind fun t163 => ((nautilusref17_SameTexts.f k1 t163 y151).bind fun t166 => (if t166 = true then (if (y154.length : Int) ≤ (y135.length : Int) then (if 0 ≤ (y154.length : Int) then ((nautilusref14_Same.f k1 y154 (y135.take ((y154.length : Int) : Int).toNat)).bind fun t171 => (if t171 = true then ((nautilusref14_Same.f k1 y158 y154).bind fun t172 => (some t172)) else (some false))) else (none)) else (some false)) else (some false)))) else (none)) = some r := by rw [if_pos rfl] at H; exact H
                                          clear H
                                          have H := H1
                                          clear H1
                                          by_cases c44 : (sx5.extract 0 ((ji14) : Int).toNat).size + sx8.size ≤ 9223372036854775807
                                          · rw [if_pos c44] at H
                                            have c44b0 := eq_true c44
                                            have c44b1 : decide ((sx5.extract 0 ((ji14) : Int).toNat).size + sx8.size ≤ 9223372036854775807) = true := decide_eq_true c44
                                            try have c44b2 : (9223372036854775807 < (sx5.extract 0 ((ji14) : Int).toNat).size + sx8.size) = False := eq_false (Nat.not_lt.2 c44)
                                            replace H := Option.bind_eq_some_iff.mp H
                                            obtain ⟨t163, A450, H⟩ := H
                                            replace H : ((nautilusref17_SameTexts.f k1 t163 y151).bind fun t166 => (if t166 = true then (if (y154.length : Int) ≤ (y135.length : Int) then (if 0 ≤ (y154.length : Int) then ((nautilusref14_Same.f k1 y154 (y135.take ((y154.length : Int) : Int).toNat)).bind fun t171 => (if t171 = true then ((nautilusref14_Same.f k1 y158 y154).bind fun t172 => (some t172)) else (some false))) else (none)) else (some false)) else (some false))) = some r := H
                                            have A45 := Aside0.mk A450
                                            clear A450
                                            replace H := Option.bind_eq_some_iff.mp H
                                            obtain ⟨t166, A460, H⟩ := H
                                            replace H : (if t166 = true then (if (y154.length : Int) ≤ (y135.length : Int) then (if 0 ≤ (y154.length : Int) then ((nautilusref14_Same.f k1 y154 (y135.take ((y154.length : Int) : Int).toNat)).bind fun t171 => (if t171 = true then ((nautilusref14_Same.f k1 y158 y154).bind fun t172 => (some t172)) else (some false))) else (none)) else (some false)) else (some false)) = some r := H
                                            have A46 := Aside0.mk A460
                                            clear A460
                                            by_cases c47 : t166 = true
                                            · subst c47
                                              have H1 : (if (y154.length : Int) ≤ (y135.length : Int) then (if 0 ≤ (y154.length : Int) then ((nautilusref14_Same.f k1 y154 (y135.take ((y154.length : Int) : Int).toNat)).bind fun t171 => (if t171 = true then ((nautilusref14_Same.f k1 y158 y154).bind fun t172 => (some t172)) else (some false))) else (none)) else (some false)) = some r := by rw [if_pos rfl] at H; exact H
                                              clear H
                                              have H := H1
                                              clear H1
                                              by_cases c48 : (y154.length : Int) ≤ (y135.length : Int)
                                              · rw [if_pos c48] at H
                                                have c48b0 : decide ((y154.length : Int) ≤ (y135.length : Int)) = true := decide_eq_true c48
                                                have c48b1 : decide (y154.length ≤ y135.length) = true := decide_eq_true (Int.ofNat_le.mp c48)
                                                clear c48
                                                by_cases c49 : 0 ≤ (y154.length : Int)
                                                · rw [if_pos c49] at H
                                                  have c49b0 := eq_true c49
                                                  have c49b1 : decide (0 ≤ (y154.length : Int)) = true := decide_eq_true c49
                                                  clear c49
                                                  have c50b0 := eq_true (of_decide_eq_true (by first | (with_reducible assumption) | assumption) : (y154.length : Int) ≤ (y135.length : Int))
                                                  obtain ⟨y167, hy167⟩ : ∃ y_ : List (S35), y_ = (y135.take ((y154.length : Int) : Int).toNat) := ⟨_, rfl⟩
                                                  replace H : ((nautilusref14_Same.f k1 y154 y167).bind fun t171 => (if t171 = true then ((nautilusref14_Same.f k1 y158 y154).bind fun t172 => (some t172)) else (some false))) = some r := by first | (rw [hy167]; with_reducible exact H) | (have H2_ := (Option.bind_some _ _).symm.trans H; rw [hy167]; with_reducible exact H2_) | (have H2_ := (Option.bind_some _ _).symm.trans H; with_reducible exact H2_) | with_reducible exact H | (rw [hy167]; exact H) | exact H
                                                  have Ny167 := Aside0.mk hy167
                                                  clear hy167
                                                  replace H := Option.bind_eq_some_iff.mp H
                                                  obtain ⟨t171, A510, H⟩ := H
                                                  replace H : (if t171 = true then ((nautilusref14_Same.f k1 y158 y154).bind fun t172 => (some t172)) else (some false)) = some r := H
                                                  have A51 := Aside0.mk A510
                                                  clear A510
                                                  by_cases c52 : t171 = true
                                                  · subst c52
                                                    have H1 : ((nautilusref14_Same.f k1 y158 y154).bind fun t172 => (some t172)) = some r := by rw [if_pos rfl] at H; exact H
                                                    clear H
                                                    have H := H1
                                                    clear H1
                                                    replace H := Option.bind_eq_some_iff.mp H
                                                    obtain ⟨t172, A530, H⟩ := H
                                                    replace H : (some t172) = some r := H
                                                    have A53 := Aside0.mk A530
                                                    clear A530
                                                    obtain rfl := Option.some.inj H
                                                    go_wp2_with (first | (go_at_call 13; (with_reducible refine (vol_Cut.calls ((sx5.extract 0 ((ji14) : Int).toNat) ++ sx8) t163 _ A45.out).mono ?_); rintro e w54 ⟨v164, rfl, ho0, hb⟩; have n0_ := Aside0.mk (Kd.R_elder' (by (with_reducible repeat (first | apply Kd.R_alloc | apply Kd.R_drewN | apply Kd.R_drew)); exact HO_10.out) (Kd.R_base ho0) hb); have n1_ := Aside0.mk (Kd.R_lower (Kd.R_new' ho0 (Kd.R_lt (by (with_reducible repeat (first | apply Kd.R_alloc | apply Kd.R_drewN | apply Kd.R_drew)); exact HO_10.out))) (below_size (by repeat (first | (with_reducible first | exact HB.out | apply below_alloc | apply pw_below_drewN | apply below_drew1) | exact HB.out)))); have n2_ := Aside0.mk (below_step (by repeat (first | (with_reducible first | exact HB.out | apply below_alloc | apply pw_below_drewN | apply below_drew1) | exact HB.out)) hb); clear HO_10; clear HB; have HO_10 := n0_; have HO165 := n1_; have HB := n2_; clear n0_ n1_ n2_; (try clear hb); (try clear hb2); (try clear hk); (try clear hi); (try clear ho0); obtain ⟨Ao55, co55, eo55⟩ := Kd.R_slice HO165.out; subst eo55; obtain ⟨Ao56, co56, eo56⟩ := Kd.R_slice HO_10.out; subst eo56) | (go_at_call 15; (with_reducible refine (nautilusref17_SameTexts.calls k1 _ _ t163 _ _ y151 true _ ?side1 ?side2 ?side3 ?side4 A46.out).mono ?_); (case side1 => repeat (first | exact (Kd.R_reads' HO165.out).2.2 | (with_reducible refine Kd.C_alloc ?_ _) | (with_reducible refine Kd.C_drewN ?_ _) | (with_reducible refine Kd.C_drew ?_))); (case side2 => exact (Kd.R_reads' HO165.out).2.1); (case side3 => repeat (first | exact (Kd.R_reads' HO_10.out).2.2 | (with_reducible refine Kd.C_alloc ?_ _) | (with_reducible refine Kd.C_drewN ?_ _) | (with_reducible refine Kd.C_drew ?_))); (case side4 => exact (Kd.R_reads' HO_10.out).2.1); rintro e w' ⟨rfl, ⟨nd, rfl⟩⟩; have q57 : ((y154.length : Int) : Int) ≤ ((y135.length : Int) : Int) := of_decide_eq_true (by first | (with_reducible assumption) | assumption); obtain ⟨i057, hi057, _, hsz57, _⟩ := info_parts info35; have hroom57 : y135.length ≤ c2 := HC138.out; have hC57 : Kd.C k35 _ A2 y135.length y135 := HR138.out; have hcut57 := cut_to (P := Try.prog) 28 35 .i64 Try.underlying28 hi057 A2 y135.length c2 (y154.length : Int) (of_decide_eq_true (by first | (with_reducible assumption) | assumption)) q57 hroom57; have hr57 := Kd.C_take (m := ((y154.length : Int) : Int).toNat) hC57 (by omega); have hy57 : y167.length = ((y154.length : Int) : Int).toNat := (by rw [Ny167.out, List.length_take]; omega); rw [← Ny167.out] at hr57; rw [← hy57] at hcut57; have HR170 := Aside0.mk hr57; have HC170 := Aside0.mk (show y167.length ≤ c2 from by omega); clear hr57 hC57 hroom57 hi057 hsz57; have KY57 := Aside0.mk hy57; clear hy57; replace q57 := eq_true q57) | (go_at_call 16; (with_reducible refine (nautilusref14_Same.calls k1 _ _ y154 _ _ y167 true _ ?side1 ?side2 ?side3 ?side4 A51.out).mono ?_); (case side1 => repeat (first | exact (Kd.C_below HR157.out (by repeat (first | (with_reducible first | exact HB.out | apply below_alloc | apply pw_below_drewN | apply below_drew1) | exact HB.out))) | (with_reducible refine Kd.C_alloc ?_ _) | (with_reducible refine Kd.C_drewN ?_ _) | (with_reducible refine Kd.C_drew ?_))); (case side2 => exact HC157.out); (case side3 => repeat (first | exact (Kd.C_below HR170.out (by repeat (first | (with_reducible first | exact HB.out | apply below_alloc | apply pw_below_drewN | apply below_drew1) | exact HB.out))) | (with_reducible refine Kd.C_alloc ?_ _) | (with_reducible refine Kd.C_drewN ?_ _) | (with_reducible refine Kd.C_drew ?_))); (case side4 => exact HC170.out); rintro e w' ⟨rfl, ⟨nd, rfl⟩⟩) | (go_at_call 16; (with_reducible refine (nautilusref14_Same.calls k1 _ _ y158 _ _ y154 t172 _ ?side1 ?side2 ?side3 ?side4 A53.out).mono ?_); (case side1 => repeat (first | exact (Kd.C_below HR161.out (by repeat (first | (with_reducible first | exact HB.out | apply below_alloc | apply pw_below_drewN | apply below_drew1) | exact HB.out))) | (with_reducible refine Kd.C_alloc ?_ _) | (with_reducible refine Kd.C_drewN ?_ _) | (with_reducible refine Kd.C_drew ?_))); (case side2 => exact HC161.out); (case side3 => repeat (first | exact (Kd.C_below HR157.out (by repeat (first | (with_reducible first | exact HB.out | apply below_alloc | apply pw_below_drewN | apply below_drew1) | exact HB.out))) | (with_reducible refine Kd.C_alloc ?_ _) | (with_reducible refine Kd.C_drewN ?_ _) | (with_reducible refine Kd.C_drew ?_))); (case side4 => exact HC157.out); rintro e w' ⟨rfl, ⟨nd, rfl⟩⟩))
                                                    go_ret
                                                    exact ⟨by first | rfl | (simp [errW_none, errW_some] <;> rfl) | (simp only [← hji5, ← hji8, ← hji11, ← hji14, ← hji19]; first | rfl | (simp [errW_none, errW_some] <;> rfl)) | (simp [*, errW_none, errW_some] <;> rfl) | (simp [show IntKind.u64.wrap 0 = 0 from rfl, Int.zero_tdiv]; done), by repeat (first | (with_reducible first | exact HB.out | apply below_alloc | apply pw_below_drewN | apply below_drew1) | exact HB.out)⟩
                                                  · replace c52 := Bool.eq_false_iff.mpr c52
                                                    subst c52
                                                    have H1 : (some false) = some r := by rw [if_neg (show ¬ (false = true) by decide)] at H; exact H
                                                    clear H
                                                    have H := H1
                                                    clear H1
                                                    obtain rfl := Option.some.inj H
                                                    go_wp2_with (first | (go_at_call 13; (with_reducible refine (vol_Cut.calls ((sx5.extract 0 ((ji14) : Int).toNat) ++ sx8) t163 _ A45.out).mono ?_); rintro e w58 ⟨v164, rfl, ho0, hb⟩; have n0_ := Aside0.mk (Kd.R_elder' (by (with_reducible repeat (first | apply Kd.R_alloc | apply Kd.R_drewN | apply Kd.R_drew)); exact HO_10.out) (Kd.R_base ho0) hb); have n1_ := Aside0.mk (Kd.R_lower (Kd.R_new' ho0 (Kd.R_lt (by (with_reducible repeat (first | apply Kd.R_alloc | apply Kd.R_drewN | apply Kd.R_drew)); exact HO_10.out))) (below_size (by repeat (first | (with_reducible first | exact HB.out | apply below_alloc | apply pw_below_drewN | apply below_drew1) | exact HB.out)))); have n2_ := Aside0.mk (below_step (by repeat (first | (with_reducible first | exact HB.out | apply below_alloc | apply pw_below_drewN | apply below_drew1) | exact HB.out)) hb); clear HO_10; clear HB; have HO_10 := n0_; have HO165 := n1_; have HB := n2_; clear n0_ n1_ n2_; (try clear hb); (try clear hb2); (try clear hk); (try clear hi); (try clear ho0); obtain ⟨Ao59, co59, eo59⟩ := Kd.R_slice HO165.out; subst eo59; obtain ⟨Ao60, co60, eo60⟩ := Kd.R_slice HO_10.out; subst eo60) | (go_at_call 15; (with_reducible refine (nautilusref17_SameTexts.calls k1 _ _ t163 _ _ y151 true _ ?side1 ?side2 ?side3 ?side4 A46.out).mono ?_); (case side1 => repeat (first | exact (Kd.R_reads' HO165.out).2.2 | (with_reducible refine Kd.C_alloc ?_ _) | (with_reducible refine Kd.C_drewN ?_ _) | (with_reducible refine Kd.C_drew ?_))); (case side2 => exact (Kd.R_reads' HO165.out).2.1); (case side3 => repeat (first | exact (Kd.R_reads' HO_10.out).2.2 | (with_reducible refine Kd.C_alloc ?_ _) | (with_reducible refine Kd.C_drewN ?_ _) | (with_reducible refine Kd.C_drew ?_))); (case side4 => exact (Kd.R_reads' HO_10.out).2.1); rintro e w' ⟨rfl, ⟨nd, rfl⟩⟩; have q61 : ((y154.length : Int) : Int) ≤ ((y135.length : Int) : Int) := of_decide_eq_true (by first | (with_reducible assumption) | assumption); obtain ⟨i061, hi061, _, hsz61, _⟩ := info_parts info35; have hroom61 : y135.length ≤ c2 := HC138.out; have hC61 : Kd.C k35 _ A2 y135.length y135 := HR138.out; have hcut61 := cut_to (P := Try.prog) 28 35 .i64 Try.underlying28 hi061 A2 y135.length c2 (y154.length : Int) (of_decide_eq_true (by first | (with_reducible assumption) | assumption)) q61 hroom61; have hr61 := Kd.C_take (m := ((y154.length : Int) : Int).toNat) hC61 (by omega); have hy61 : y167.length = ((y154.length : Int) : Int).toNat := (by rw [Ny167.out, List.length_take]; omega); rw [← Ny167.out] at hr61; rw [← hy61] at hcut61; have HR170 := Aside0.mk hr61; have HC170 := Aside0.mk (show y167.length ≤ c2 from by omega); clear hr61 hC61 hroom61 hi061 hsz61; have KY61 := Aside0.mk hy61; clear hy61; replace q61 := eq_true q61) | (go_at_call 16; (with_reducible refine (nautilusref14_Same.calls k1 _ _ y154 _ _ y167 false _ ?side1 ?side2 ?side3 ?side4 A51.out).mono ?_); (case side1 => repeat (first | exact (Kd.C_below HR157.out (by repeat (first | (with_reducible first | exact HB.out | apply below_alloc | apply pw_below_drewN | apply below_drew1) | exact HB.out))) | (with_reducible refine Kd.C_alloc ?_ _) | (with_reducible refine Kd.C_drewN ?_ _) | (with_reducible refine Kd.C_drew ?_))); (case side2 => exact HC157.out); (case side3 => repeat (first | exact (Kd.C_below HR170.out (by repeat (first | (with_reducible first | exact HB.out | apply below_alloc | apply pw_below_drewN | apply below_drew1) | exact HB.out))) | (with_reducible refine Kd.C_alloc ?_ _) | (with_reducible refine Kd.C_drewN ?_ _) | (with_reducible refine Kd.C_drew ?_))); (case side4 => exact HC170.out); rintro e w' ⟨rfl, ⟨nd, rfl⟩⟩))
                                                    go_ret
                                                    exact ⟨by first | rfl | (simp [errW_none, errW_some] <;> rfl) | (simp only [← hji5, ← hji8, ← hji11, ← hji14, ← hji19]; first | rfl | (simp [errW_none, errW_some] <;> rfl)) | (simp [*, errW_none, errW_some] <;> rfl) | (simp [show IntKind.u64.wrap 0 = 0 from rfl, Int.zero_tdiv]; done), by repeat (first | (with_reducible first | exact HB.out | apply below_alloc | apply pw_below_drewN | apply below_drew1) | exact HB.out)⟩
                                                · rw [if_neg c49] at H
                                                  exact absurd H (by simp)
                                              · rw [if_neg c48] at H
                                                have c48b0 : decide ((y154.length : Int) ≤ (y135.length : Int)) = false := decide_eq_false c48
                                                have c48b1 : decide (y154.length ≤ y135.length) = false := decide_eq_false (fun h => c48 (Int.ofNat_le.mpr h))
                                                clear c48
                                                obtain rfl := Option.some.inj H
                                                go_wp2_with (first | (go_at_call 13; (with_reducible refine (vol_Cut.calls ((sx5.extract 0 ((ji14) : Int).toNat) ++ sx8) t163 _ A45.out).mono ?_); rintro e w62 ⟨v164, rfl, ho0, hb⟩; have n0_ := Aside0.mk (Kd.R_elder' (by (with_reducible repeat (first | apply Kd.R_alloc | apply Kd.R_drewN | apply Kd.R_drew)); exact HO_10.out) (Kd.R_base ho0) hb); have n1_ := Aside0.mk (Kd.R_lower (Kd.R_new' ho0 (Kd.R_lt (by (with_reducible repeat (first | apply Kd.R_alloc | apply Kd.R_drewN | apply Kd.R_drew)); exact HO_10.out))) (below_size (by repeat (first | (with_reducible first | exact HB.out | apply below_alloc | apply pw_below_drewN | apply below_drew1) | exact HB.out)))); have n2_ := Aside0.mk (below_step (by repeat (first | (with_reducible first | exact HB.out | apply below_alloc | apply pw_below_drewN | apply below_drew1) | exact HB.out)) hb); clear HO_10; clear HB; have HO_10 := n0_; have HO165 := n1_; have HB := n2_; clear n0_ n1_ n2_; (try clear hb); (try clear hb2); (try clear hk); (try clear hi); (try clear ho0); obtain ⟨Ao63, co63, eo63⟩ := Kd.R_slice HO165.out; subst eo63; obtain ⟨Ao64, co64, eo64⟩ := Kd.R_slice HO_10.out; subst eo64) | (go_at_call 15; (with_reducible refine (nautilusref17_SameTexts.calls k1 _ _ t163 _ _ y151 true _ ?side1 ?side2 ?side3 ?side4 A46.out).mono ?_); (case side1 => repeat (first | exact (Kd.R_reads' HO165.out).2.2 | (with_reducible refine Kd.C_alloc ?_ _) | (with_reducible refine Kd.C_drewN ?_ _) | (with_reducible refine Kd.C_drew ?_))); (case side2 => exact (Kd.R_reads' HO165.out).2.1); (case side3 => repeat (first | exact (Kd.R_reads' HO_10.out).2.2 | (with_reducible refine Kd.C_alloc ?_ _) | (with_reducible refine Kd.C_drewN ?_ _) | (with_reducible refine Kd.C_drew ?_))); (case side4 => exact (Kd.R_reads' HO_10.out).2.1); rintro e w' ⟨rfl, ⟨nd, rfl⟩⟩))
                                                go_ret
                                                exact ⟨by first | rfl | (simp [errW_none, errW_some] <;> rfl) | (simp only [← hji5, ← hji8, ← hji11, ← hji14, ← hji19]; first | rfl | (simp [errW_none, errW_some] <;> rfl)) | (simp [*, errW_none, errW_some] <;> rfl) | (simp [show IntKind.u64.wrap 0 = 0 from rfl, Int.zero_tdiv]; done), by repeat (first | (with_reducible first | exact HB.out | apply below_alloc | apply pw_below_drewN | apply below_drew1) | exact HB.out)⟩
                                            · replace c47 := Bool.eq_false_iff.mpr c47
                                              subst c47
                                              have H1 : (some false) = some r := by rw [if_neg (show ¬ (false = true) by decide)] at H; exact H
                                              clear H
                                              have H := H1
                                              clear H1
                                              obtain rfl := Option.some.inj H
                                              go_wp2_with (first | (go_at_call 13; (with_reducible refine (vol_Cut.calls ((sx5.extract 0 ((ji14) : Int).toNat) ++ sx8) t163 _ A45.out).mono ?_); rintro e w65 ⟨v164, rfl, ho0, hb⟩; have n0_ := Aside0.mk (Kd.R_elder' (by (with_reducible repeat (first | apply Kd.R_alloc | apply Kd.R_drewN | apply Kd.R_drew)); exact HO_10.out) (Kd.R_base ho0) hb); have n1_ := Aside0.mk (Kd.R_lower (Kd.R_new' ho0 (Kd.R_lt (by (with_reducible repeat (first | apply Kd.R_alloc | apply Kd.R_drewN | apply Kd.R_drew)); exact HO_10.out))) (below_size (by repeat (first | (with_reducible first | exact HB.out | apply below_alloc | apply pw_below_drewN | apply below_drew1) | exact HB.out)))); have n2_ := Aside0.mk (below_step (by repeat (first | (with_reducible first | exact HB.out | apply below_alloc | apply pw_below_drewN | apply below_drew1) | exact HB.out)) hb); clear HO_10; clear HB; have HO_10 := n0_; have HO165 := n1_; have HB := n2_; clear n0_ n1_ n2_; (try clear hb); (try clear hb2); (try clear hk); (try clear hi); (try clear ho0); obtain ⟨Ao66, co66, eo66⟩ := Kd.R_slice HO165.out; subst eo66; obtain ⟨Ao67, co67, eo67⟩ := Kd.R_slice HO_10.out; subst eo67) | (go_at_call 15; (with_reducible refine (nautilusref17_SameTexts.calls k1 _ _ t163 _ _ y151 false _ ?side1 ?side2 ?side3 ?side4 A46.out).mono ?_); (case side1 => repeat (first | exact (Kd.R_reads' HO165.out).2.2 | (with_reducible refine Kd.C_alloc ?_ _) | (with_reducible refine Kd.C_drewN ?_ _) | (with_reducible refine Kd.C_drew ?_))); (case side2 => exact (Kd.R_reads' HO165.out).2.1); (case side3 => repeat (first | exact (Kd.R_reads' HO_10.out).2.2 | (with_reducible refine Kd.C_alloc ?_ _) | (with_reducible refine Kd.C_drewN ?_ _) | (with_reducible refine Kd.C_drew ?_))); (case side4 => exact (Kd.R_reads' HO_10.out).2.1); rintro e w' ⟨rfl, ⟨nd, rfl⟩⟩))
                                              go_ret
                                              exact ⟨by first | rfl | (simp [errW_none, errW_some] <;> rfl) | (simp only [← hji5, ← hji8, ← hji11, ← hji14, ← hji19]; first | rfl | (simp [errW_none, errW_some] <;> rfl)) | (simp [*, errW_none, errW_some] <;> rfl) | (simp [show IntKind.u64.wrap 0 = 0 from rfl, Int.zero_tdiv]; done), by repeat (first | (with_reducible first | exact HB.out | apply below_alloc | apply pw_below_drewN | apply below_drew1) | exact HB.out)⟩
                                          · rw [if_neg c44] at H
                                            exact absurd H (by simp)
                                        · replace c43 := Bool.eq_false_iff.mpr c43
                                          subst c43
                                          have H1 : (some false) = some r := by rw [if_neg (show ¬ (false = true) by decide)] at H; exact H
                                          clear H
                                          have H := H1
                                          clear H1
                                          obtain rfl := Option.some.inj H
                                          go_wp2
                                          go_ret
                                          exact ⟨by first | rfl | (simp [errW_none, errW_some] <;> rfl) | (simp only [← hji5, ← hji8, ← hji11, ← hji14, ← hji19]; first | rfl | (simp [errW_none, errW_some] <;> rfl)) | (simp [*, errW_none, errW_some] <;> rfl) | (simp [show IntKind.u64.wrap 0 = 0 from rfl, Int.zero_tdiv]; done), by repeat (first | (with_reducible first | exact HB.out | apply below_alloc | apply pw_below_drewN | apply below_drew1) | exact HB.out)⟩
                                · rw [if_neg c27] at H
                                  exact absurd H (by simp)
                              · rw [if_neg c26] at H
                                exact absurd H (by simp)
                            · rw [if_neg c25] at H
                              exact absurd H (by simp)
                          · rw [if_neg c24] at H
                            exact absurd H (by simp)
                        · rw [if_neg c23] at H
                          exact absurd H (by simp)
                      · rw [if_neg c22] at H
                        exact absurd H (by simp)
                    · rw [if_neg c21] at H
                      exact absurd H (by simp)
                  · rw [if_neg c20] at H
                    exact absurd H (by simp)
                · rw [if_neg c16] at H
                  exact absurd H (by simp)
              · rw [if_neg c15] at H
                exact absurd H (by simp)
            · rw [if_neg c13] at H
              exact absurd H (by simp)
          · rw [if_neg c12] at H
            exact absurd H (by simp)
        · rw [if_neg c10] at H
          exact absurd H (by simp)
      · rw [if_neg c9] at H
        exact absurd H (by simp)
    · rw [if_neg c7] at H
      exact absurd H (by simp)
  · rw [if_neg c6] at H
    exact absurd H (by simp)

/-- THE ONE PURE STATEMENT of nautiluslaw17_VolJoins: yours. -/
def nautiluslaw17_VolJoins.Pure : Prop := ∀ (a0 : ByteArray) (a1 : ByteArray) (l2 : List (S35)), a0.size ≤ 140737488351232 → a1.size ≤ 140737488351232 → l2.length ≤ maxLen → (∀ x ∈ l2, (Lit.int .i64 x.f0).wf = true ∧ (Lit.int .u16 x.f1).wf = true ∧ (Lit.int .u16 x.f2).wf = true ∧ (Lit.int .u64 x.f3).wf = true ∧ x.f4.size ≤ maxLen) → ∃ k, nautiluslaw17_VolJoins.f k a0 a1 l2 = some true
theorem nautiluslaw17_VolJoins.walk (P : nautiluslaw17_VolJoins.Pure) (a0 : ByteArray) (a1 : ByteArray) (a2 : Option Addr) (len2 cap2 : Nat) (z2 : List (S35)) (w : World) (w0 : a0.size ≤ 140737488351232) (w1 : a1.size ≤ 140737488351232) (w2 : z2.length = len2 ∧ len2 ≤ cap2 ∧ len2 ≤ maxLen ∧ Kd.C k35 w a2 len2 z2 ∧ ∀ x ∈ z2, (Lit.int .i64 x.f0).wf = true ∧ (Lit.int .u16 x.f1).wf = true ∧ (Lit.int .u16 x.f2).wf = true ∧ (Lit.int .u64 x.f3).wf = true ∧ x.f4.size ≤ maxLen) :
    Calls Try.prog 4 #[.string a0, .string a1, .slice a2 len2 cap2] w fun e w' => e = .returned (.bool true) ∧ Below w.heap.size w w' := by
  obtain ⟨hl2, hc2, hm2, hC2, hw2⟩ := w2
  subst hl2
  obtain ⟨k, h⟩ := P a0 a1 z2 w0 w1 hm2 hw2
  refine (nautiluslaw17_VolJoins.calls k a0 a1 _ _ z2 true w hC2 hc2 h).mono ?_
  rintro e w' ⟨rfl, hd⟩
  exact ⟨rfl, hd⟩

end Go.Proofs.Ytpcokafalmafgaa.Q
