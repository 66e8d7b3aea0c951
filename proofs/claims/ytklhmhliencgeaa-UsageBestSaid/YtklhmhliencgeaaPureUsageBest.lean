import Derived.Test.YtklhmhliencgeaaQ16
import Derived.Test.YtklhmhliencgeaaPUsage
set_option linter.unusedVariables false
namespace Go.Proofs.Ytklhmhliencgeaa.Pure
open Go.RowKit Go.Proofs.Ytklhmhliencgeaa.P Go.Proofs.Ytklhmhliencgeaa.H Go.Proofs.Ytklhmhliencgeaa.Q Go.Proofs.YtklhmhliencgeaaW.PrintWords Go.Proofs.YtklhmhliencgeaaW.PrintLast

theorem bestN_yes (l : List E) (way now : Int) (i : Nat) (h : eligB l i = true) : bestN l way now (i + 1) = stepB l way now (bestN l way now i) i := by
  unfold bestN; rw [elig_yes l i h, List.foldl_append]; rfl
theorem bestN_no (l : List E) (way now : Int) (i : Nat) (h : eligB l i = false) : bestN l way now (i + 1) = bestN l way now i := by
  unfold bestN; rw [elig_no l i h]
theorem best_in (l : List E) (way now : Int) : ∀ i, (bestN l way now i = 0 ∧ ∀ j, j < i → eligB l j = false) ∨ (bestN l way now i < i ∧ 0 < bestN l way now i ∧ eligB l (bestN l way now i) = true)
  | 0 => .inl ⟨rfl, fun j h => by omega⟩
  | i + 1 => by
    have ih := best_in l way now i
    cases hb : eligB l i with
    | true =>
      have hp : 0 < i := by unfold eligB at hb; simp only [Bool.and_eq_true, decide_eq_true_eq] at hb; exact hb.1
      rw [bestN_yes l way now i hb]
      unfold stepB
      rcases ih with ⟨h0, hn⟩ | ⟨h1, h2, h3⟩
      · rw [if_pos h0]; exact .inr ⟨by omega, hp, hb⟩
      · rw [if_neg (by omega)]
        split
        · exact .inr ⟨by omega, hp, hb⟩
        · exact .inr ⟨by omega, h2, h3⟩
    | false =>
      rw [bestN_no l way now i hb]
      rcases ih with ⟨h0, hn⟩ | ⟨h1, h2, h3⟩
      · refine .inl ⟨h0, fun j hj => ?_⟩
        by_cases e : j = i
        · exact e ▸ hb
        · exact hn j (by omega)
      · exact .inr ⟨by omega, h2, h3⟩
theorem best_min (l : List E) (way now : Int) (key : E → Int) (hk : ∀ x y, aheadV way now x y = some (decide (key x < key y))) : ∀ i j, j < i → eligB l j = true → ¬ key (atE l j) < key (atE l (bestN l way now i))
  | 0, j, h, _ => by omega
  | i + 1, j, h, hj => by
    have ih := best_min l way now key hk i j
    have hin := best_in l way now i
    cases hb : eligB l i with
    | true =>
      rw [bestN_yes l way now i hb]
      unfold stepB
      rw [hk]
      rcases hin with ⟨h0, hn⟩ | ⟨h1, h2, h3⟩
      · rw [if_pos h0]
        by_cases e : j = i
        · subst e; omega
        · rw [hn j (by omega)] at hj; cases hj
      · rw [if_neg (by omega)]
        by_cases c : key (atE l i) < key (atE l (bestN l way now i))
        · rw [if_pos (by rw [decide_eq_true c])]
          by_cases e : j = i
          · subst e; omega
          · have := ih (by omega) hj; omega
        · rw [if_neg (by rw [decide_eq_false c]; simp)]
          by_cases e : j = i
          · subst e; exact c
          · exact ih (by omega) hj
    | false =>
      rw [bestN_no l way now i hb]
      by_cases e : j = i
      · subst e; rw [hb] at hj; cases hj
      · exact ih (by omega) hj
theorem elig_spec {l : List E} {i : Nat} (h : eligB l i = true) : (atE l i).f2 = 1 ∧ (atE l i).f0 < 16 := by
  unfold eligB dirtyB at h
  simp only [Bool.and_eq_true, decide_eq_true_eq] at h
  exact h.2
theorem best_loop (l : List E) (a b c : Nat) (hl : l.length ≤ 256) (ha : a < l.length) (hb : b < l.length) (hc : c < l.length) (ea : eligB l a = true) (eb : eligB l b = true) (ec : eligB l c = true)
    (ma : ∀ j, j < l.length → eligB l j = true → ¬ (atE l j).f1 < (atE l a).f1) (mb : ∀ j, j < l.length → eligB l j = true → ¬ (atE l j).f0 < (atE l b).f0) :
    ∀ d i k, 1 ≤ i → i + d = l.length → 2 * d < k → nautiluslaw06_UsageBest.l0 k l true a b c i = some true
  | 0, i, 0, _, _, h => by omega
  | 0, i, k + 1, _, hi, _ => by
    have sa := elig_spec ea
    have sb := elig_spec eb
    have sc := elig_spec ec
    rw [nautiluslaw06_UsageBest.l0, if_neg (by omega), if_pos rfl, if_pos (by omega), if_pos (by omega), rd_at, if_pos sa.1, if_pos (by omega), if_pos (by omega), rd_at, if_pos sb.1, if_pos (by omega), if_pos (by omega), rd_at, if_pos sc.1, if_pos sa.2, decide_eq_true sc.2]
  | d + 1, i, 0, _, _, h => by omega
  | d + 1, i, 1, _, _, h => by omega
  | d + 1, i, k + 2, h1i, hi, h => by
    have h1 : i < l.length := by omega
    have e3 : wrap64 ((i : Int) + 1) = ((i + 1 : Nat) : Int) := by rw [IntWalk.wrap64_in _ (by omega)]; omega
    have ih : nautiluslaw06_UsageBest.j4 (k + 1) l true a b c i false = some true := by
      rw [nautiluslaw06_UsageBest.j4, if_neg (by decide), e3]
      exact best_loop l a b c hl ha hb hc ea eb ec ma mb d (i + 1) k (by omega) (by omega) (by omega)
    rw [nautiluslaw06_UsageBest.l0, if_pos (by omega), if_pos (by omega), rd_at]
    by_cases c1 : (atE l i).f2 = 1
    · rw [if_pos c1]
      by_cases c2 : (atE l i).f0 < 16
      · rw [if_pos c2, if_pos (by omega), if_pos (by omega), rd_at]
        have hy : eligB l i = true := by unfold eligB dirtyB; rw [decide_eq_true c1, decide_eq_true c2, decide_eq_true (by omega : 0 < i)]; rfl
        rw [if_neg (ma i h1 hy), if_pos (by omega), if_pos (by omega), rd_at, decide_eq_false (mb i h1 hy)]
        exact ih
      · rw [if_neg c2]; exact ih
    · rw [if_neg c1]; exact ih

/-- YOURS -/
theorem UsageBest : nautiluslaw06_UsageBest.Pure := by
  intro l0 now hl hx hn
  suffices main : ∀ k, 600 ≤ k → nautiluslaw06_UsageBest.f (k + 3) l0 now = some true from ⟨_, main 600 (by omega)⟩
  intro k hk
  have e : mn (l0.length : Int) 300 = ((min l0.length 300 : Nat) : Int) := by unfold mn; split <;> omega
  unfold nautiluslaw06_UsageBest.f
  rw [shown_f _ (by omega), Option.bind_some, e, if_pos (by omega), if_pos (by omega), Option.bind_some, choose_f, Option.bind_some, choose_f, Option.bind_some, choose_f, Option.bind_some]
  generalize List.take ((min l0.length 300 : Nat) : Int).toNat l0 = l
  unfold chooseV
  by_cases hr : rightV l = true
  · obtain ⟨hr1, hr2, hr3⟩ := right_range hr
    simp only [hr, true_or, or_true, if_pos]
    have i0 := best_in l 0 now l.length
    have i1 := best_in l 1 now l.length
    have i2 := best_in l 2 now l.length
    have m0 := best_min l 0 now (fun x => x.f1) (fun x y => by unfold aheadV usage_Choose_1.f; simp) l.length
    have m1 := best_min l 1 now (fun x => x.f0) (fun x y => by unfold aheadV usage_Choose_2.f; simp) l.length
    generalize bestN l 0 now l.length = a at *
    generalize bestN l 1 now l.length = b at *
    generalize bestN l 2 now l.length = c at *
    have same : (a = 0 ∧ b = 0 ∧ c = 0) ∨ (0 < a ∧ 0 < b ∧ 0 < c) := by
      rcases i0 with ⟨a0, an⟩ | ⟨a1, a2, a3⟩
      · refine .inl ⟨a0, ?_, ?_⟩
        · rcases i1 with ⟨b0, _⟩ | ⟨b1, b2, b3⟩
          · exact b0
          · rw [an b b1] at b3; cases b3
        · rcases i2 with ⟨b0, _⟩ | ⟨b1, b2, b3⟩
          · exact b0
          · rw [an c b1] at b3; cases b3
      · refine .inr ⟨a2, ?_, ?_⟩
        · rcases i1 with ⟨b0, bn⟩ | ⟨b1, b2, b3⟩
          · rw [bn a a1] at a3; cases a3
          · exact b2
        · rcases i2 with ⟨b0, bn⟩ | ⟨b1, b2, b3⟩
          · rw [bn a a1] at a3; cases a3
          · exact b2
    rcases same with ⟨rfl, rfl, rfl⟩ | ⟨ha, hb, hc⟩
    · simp [nautiluslaw06_UsageBest.j0, nautiluslaw06_UsageBest.j1]
    · have xa : decide (0 < (a : Int)) = true := decide_eq_true (by omega)
      have xb : decide (0 < (b : Int)) = true := decide_eq_true (by omega)
      have xc : decide (0 < (c : Int)) = true := decide_eq_true (by omega)
      rw [xa, xb, xc]
      obtain ⟨a1, _, a3⟩ : a < l.length ∧ 0 < a ∧ eligB l a = true := by rcases i0 with ⟨h, _⟩ | h; omega; exact h
      obtain ⟨b1, _, b3⟩ : b < l.length ∧ 0 < b ∧ eligB l b = true := by rcases i1 with ⟨h, _⟩ | h; omega; exact h
      obtain ⟨c1, _, c3⟩ : c < l.length ∧ 0 < c ∧ eligB l c = true := by rcases i2 with ⟨h, _⟩ | h; omega; exact h
      have main := best_loop l a b c hr3 a1 b1 c1 a3 b3 c3 (fun j h1 h2 => m0 j h1 h2) (fun j h1 h2 => m1 j h1 h2) (l.length - 1) 1 k (by omega) (by omega) (by omega)
      have na : ¬ (a : Int) < 1 := by omega
      have nb : ¬ (b : Int) < 1 := by omega
      have nc : ¬ (c : Int) < 1 := by omega
      have oa : ¬ (a : Int) ≥ (l.length : Int) := by omega
      have ob : ¬ (b : Int) ≥ (l.length : Int) := by omega
      have oc : ¬ (c : Int) ≥ (l.length : Int) := by omega
      rw [if_neg (by decide), nautiluslaw06_UsageBest.j0, if_neg (by decide), if_pos rfl, nautiluslaw06_UsageBest.j1, if_neg (by decide), if_neg na, if_neg oa, if_neg nb, if_neg ob, if_neg nc, decide_eq_false oc, nautiluslaw06_UsageBest.j2]
      simpa using main
  · simp only [hr, if_false, Bool.false_eq_true]
    simp [nautiluslaw06_UsageBest.j0, nautiluslaw06_UsageBest.j1]
end Go.Proofs.Ytklhmhliencgeaa.Pure
