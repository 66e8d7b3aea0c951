/- The law CpsOnly, in plain words: of the newest checkpoint alone nothing expires, nor is it deleted; with another one behind it it does, and is. -/
import Derived.Test.YtllcmalgahnnhaaQ17
import Derived.Test.YtllcmalgahnnhaaPCpsA
import Derived.Test.YtllcmalgahnnhaaPCpsK
set_option linter.unusedVariables false
namespace Go.Proofs.Ytllcmalgahnnhaa.Pure
open Go.RowKit Go.Proofs.Ytllcmalgahnnhaa.P Go.Proofs.Ytllcmalgahnnhaa.H Go.Proofs.Ytllcmalgahnnhaa.Q Go.Proofs.YtllcmalgahnnhaaW.PrintWords Go.Proofs.YtllcmalgahnnhaaW.PrintLast

theorem add_code {l : List CkE} {c : CkE} (h : (addV l c).2 = 0) : addV l c = (l ++ [c], 0) ∧ rightB (l ++ [c]) = true := by
  unfold addV at h ⊢
  by_cases h1 : rightB l = true
  · rw [if_pos h1] at h ⊢
    by_cases h2 : (l.length : Int) = 108
    · rw [if_pos h2] at h; simp at h
    · rw [if_neg h2] at h ⊢
      by_cases h3 : rightB (l ++ [c]) = true
      · rw [if_pos h3]; exact ⟨rfl, h3⟩
      · rw [if_neg h3] at h; simp at h
  · rw [if_neg h1] at h; simp at h
theorem fnd_head (a : CkE) (xs : List CkE) : fnd (a :: xs) a.f0 = some 0 := by unfold fnd fndIn; rw [if_pos rfl]
theorem only_j1 (a b : CkE) (now keep : Int) (hr : rightB [a, b] = true) (k : Nat) :
    nautiluslaw09_CpsOnly.j1 (k + 1) now keep true [a, b] (decide (a.f1 < now) && decide (keep < IntKind.u64.wrap (now - a.f1))) a.f0 a.f1 a.f2 a.f3 b.f0 b.f1 b.f2 b.f3 = some true := by
  rw [nautiluslaw09_CpsOnly.j1, exp_f _ now keep (by simp), Option.bind_some, del_f _ _ (by simp), Option.bind_some, expV_right hr]
  have hd : delV [a, b] a.f0 = if a.f2 = true then ([], 93) else ([b], 0) := by
    unfold delV
    rw [if_pos hr, fnd_head]
    simp only []
    rw [if_neg (by simp)]
    rfl
  rw [hd]
  have hb : keepL now keep [a, b] = if stale now keep a = true then [b] else [a, b] := by
    rw [keepL]
    have : keepL now keep [b] = [b] := by rw [keepL, if_neg (by simp)]; rfl
    rw [this]; simp
  rw [hb]
  unfold stale
  cases h1 : a.f2 with
  | true => simp
  | false =>
    cases h2 : (decide (a.f1 < now) && decide (keep < IntKind.u64.wrap (now - a.f1))) with
    | true => simp [rd_T33, wrap64]
    | false => simp [rd_T33, wrap64]

/-- YOURS -/
theorem CpsOnly : nautiluslaw09_CpsOnly.Pure := by
  intro a0 a1 a2 a3 b0 b1 b2 b3 now keep _ _ _ _ _ _ _ _
  refine ⟨402, ?_⟩
  unfold nautiluslaw09_CpsOnly.f
  rw [shown_f _ (by omega), Option.bind_some, add_f [] a0 a1 a2 a3 402 (by simp) (by simp), Option.bind_some]
  by_cases h0 : (addV [] ⟨a0, a1, a2, a3⟩).2 = 0
  · obtain ⟨he, hr⟩ := add_code h0
    rw [if_pos h0, he]
    simp only [List.nil_append] at hr ⊢
    rw [exp_f _ now keep (by simp), Option.bind_some, del_f _ _ (by simp), Option.bind_some, expV_right hr]
    have hk : keepL now keep [(⟨a0, a1, a2, a3⟩ : CkE)] = [⟨a0, a1, a2, a3⟩] := by rw [keepL, if_neg (by simp)]; rfl
    have hd : delV [(⟨a0, a1, a2, a3⟩ : CkE)] a0 = ([], 94) := by
      unfold delV
      rw [if_pos hr, fnd_head ⟨a0, a1, a2, a3⟩ []]
      simp
    rw [hk, hd, if_pos rfl, if_pos (by simp), same_refl _ 402 (by simp) (by simp), Option.bind_some, if_pos rfl, nautiluslaw09_CpsOnly.j0, if_neg (by decide),
      add_f _ _ b1 b2 b3 401 (by simp) (by simp), Option.bind_some]
    by_cases h1 : (addV [(⟨a0, a1, a2, a3⟩ : CkE)] ⟨IntKind.u64.wrap (a0 + 1), b1, b2, b3⟩).2 = 0
    · obtain ⟨he2, hr2⟩ := add_code h1
      rw [if_pos h1, he2]
      have key := only_j1 ⟨a0, a1, a2, a3⟩ ⟨IntKind.u64.wrap (a0 + 1), b1, b2, b3⟩ now keep hr2 400
      by_cases h2 : now > a1
      · rw [if_pos h2]
        rw [decide_eq_true (show a1 < now from h2), Bool.true_and] at key
        exact key
      · rw [if_neg h2]
        rw [decide_eq_false (show ¬ a1 < now from h2), Bool.false_and] at key
        exact key
    · rw [if_neg h1]
  · rw [if_neg h0, if_pos rfl, right_f _ 402 (by simp) (by simp), Option.bind_some]
    unfold addV at h0
    rw [if_pos (show rightB [] = true from rfl), if_neg (by simp)] at h0
    simp only [List.nil_append] at h0
    cases hb : rightB [(⟨a0, a1, a2, a3⟩ : CkE)] with
    | false => rfl
    | true => rw [hb] at h0; simp at h0
end Go.Proofs.Ytllcmalgahnnhaa.Pure
