import Derived.Test.YtklhmhliencgeaaQ18
import Derived.Test.YtklhmhliencgeaaPSetsA
set_option linter.unusedVariables false
namespace Go.Proofs.Ytklhmhliencgeaa.Pure
open Go.RowKit Go.Proofs.Ytklhmhliencgeaa.P Go.Proofs.Ytklhmhliencgeaa.H Go.Proofs.Ytklhmhliencgeaa.Q Go.Proofs.YtklhmhliencgeaaW.PrintWords Go.Proofs.YtklhmhliencgeaaW.PrintLast

theorem atE_set (l : List E) (a i : Nat) (x : E) (ha : a < l.length) : atE (l.set a x) i = if i = a then x else atE l i := by
  unfold atE
  rw [List.getD_eq_getElem?_getD, List.getD_eq_getElem?_getD, List.getElem?_set]
  by_cases h : a = i
  · subst h; simp [ha]
  · rw [if_neg h, if_neg (fun e => h e.symm)]
theorem set_self (l : List E) (a : Nat) (ha : a < l.length) : l.set a (atE l a) = l := by
  have : atE l a = l[a] := by unfold atE; rw [List.getD_eq_getElem?_getD, List.getElem?_eq_getElem ha]; rfl
  rw [this]; exact List.set_getElem_self ha

/-- YOURS -/
theorem UsageSame : nautiluslaw06_UsageSame.Pure := by
  intro l0 a1 a2 x0 x1 x2 hl hx _ _ _ _ _
  suffices main : ∀ k, 400 ≤ k → nautiluslaw06_UsageSame.f (k + 2) l0 a1 a2 x0 x1 x2 = some true from ⟨_, main 400 (by omega)⟩
  intro k hk
  have e : mn (l0.length : Int) 300 = ((min l0.length 300 : Nat) : Int) := by unfold mn; split <;> omega
  unfold nautiluslaw06_UsageSame.f
  rw [shown_f _ (by omega), Option.bind_some, e, if_pos (by omega), if_pos (by omega), Option.bind_some]
  have hz : (List.take ((min l0.length 300 : Nat) : Int).toNat l0).length ≤ 300 := by rw [List.length_take]; omega
  generalize List.take ((min l0.length 300 : Nat) : Int).toNat l0 = l at hz ⊢
  rw [right_f, Option.bind_some]
  by_cases hr : rightV l = true
  · rw [if_pos hr]
    by_cases h1 : a1 < 0
    · rw [if_pos h1, nautiluslaw06_UsageSame.j0, if_pos rfl]
    rw [if_neg h1]
    by_cases h2 : a1 ≥ (l.length : Int)
    · rw [if_pos h2, nautiluslaw06_UsageSame.j0, if_pos rfl]
    rw [if_neg h2]
    by_cases h3 : a2 < 0
    · rw [if_pos h3, nautiluslaw06_UsageSame.j0, if_pos rfl]
    rw [if_neg h3, nautiluslaw06_UsageSame.j0]
    by_cases h4 : a2 ≥ (l.length : Int)
    · rw [if_pos (decide_eq_true h4)]
    rw [if_neg (show ¬ decide (a2 ≥ (l.length : Int)) = true by simp; omega)]
    obtain ⟨a, rfl⟩ : ∃ a : Nat, a1 = a := ⟨a1.toNat, by omega⟩
    obtain ⟨b, rfl⟩ : ∃ b : Nat, a2 = b := ⟨a2.toNat, by omega⟩
    have ha : a < l.length := by omega
    have hb : b < l.length := by omega
    rw [if_pos (by omega), if_pos (by omega), rd_at, set_f l a _ _ _ hz, Option.bind_some, set_f l a _ _ _ hz, Option.bind_some]
    have s1 : setV l a ⟨(atE l a).f0, (atE l a).f1, (atE l a).f2⟩ = (l, 0) := by
      unfold setV
      rw [if_neg (by omega)]
      have : l.set (a : Int).toNat ⟨(atE l a).f0, (atE l a).f1, (atE l a).f2⟩ = l := set_self l a ha
      rw [this, if_pos ⟨hr, hr⟩]
    rw [s1]
    have sm := same_f l hz (k + 1) (by omega)
    unfold setV
    rw [if_neg (show ¬ ((a : Int) < 0 ∨ (a : Int) ≥ (l.length : Int)) by omega)]
    by_cases hr2 : rightV l = true ∧ rightV (l.set (a : Int).toNat ⟨x0, x1, x2⟩) = true
    · rw [if_pos hr2]
      simp only [Int.toNat_natCast]
      have ea := atE_set l a a ⟨x0, x1, x2⟩ ha
      have eb := atE_set l a b ⟨x0, x1, x2⟩ ha
      rw [if_pos rfl] at ea
      simp only [rd_at, ea, eb, List.length_set]
      by_cases hab : b = a
      · subst hab; simp [ha, sm]
      · have : ¬ (b : Int) = (a : Int) := by omega
        simp [ha, hb, hab, this, sm]
    · rw [if_neg hr2]
      simp [sm]
  · rw [if_neg hr, nautiluslaw06_UsageSame.j0, if_pos rfl]
end Go.Proofs.Ytklhmhliencgeaa.Pure
