/- Segments, in plain words. -/
import Derived.Test.YtklhmhliencgeaaQ10
import Derived.Test.YtklhmhliencgeaaQ11
import Derived.Test.YtklhmhliencgeaaQ12
import Derived.Test.YtklhmhliencgeaaQ7
import Derived.Test.YtklhmhliencgeaaQ8
import Derived.Test.YtklhmhliencgeaaQ9
import Derived.Test.YtklhmhliencgeaaHChoose
import Derived.Test.YtklhmhliencgeaaHClone
import Derived.Test.YtklhmhliencgeaaPUsageA
import Derived.KernelRfl
set_option linter.unusedVariables false
namespace Go.Proofs.Ytklhmhliencgeaa.P
open Go.RowKit Go.Proofs.Ytklhmhliencgeaa.H Go.Proofs.Ytklhmhliencgeaa.Q Go.Proofs.YtklhmhliencgeaaW.PrintWords Go.Proofs.YtklhmhliencgeaaW.PrintLast Go.Proofs.YtklhmhliencgeaaW.PrintMore

theorem one_f (x : E) : nautilusref06_one.f x.f0 x.f1 x.f2 = some (oneB x) := by
  unfold nautilusref06_one.f oneB
  by_cases h1 : x.f2 ≥ 0
  · rw [if_pos h1, decide_eq_true h1]
    by_cases h2 : x.f2 ≤ 2
    · rw [if_pos h2, decide_eq_true h2]
      by_cases h3 : x.f0 ≥ 0
      · rw [if_pos h3, decide_eq_true h3]
        by_cases h4 : x.f0 ≤ 16
        · rw [if_pos h4, decide_eq_true h4]; simp
        · rw [if_neg h4, decide_eq_false h4]; rfl
      · rw [if_neg h3, decide_eq_false h3]; rfl
    · rw [if_neg h2, decide_eq_false h2]; rfl
  · rw [if_neg h1, decide_eq_false h1]; rfl
theorem refRight_loop (l : List E) (hl : l.length ≤ 256) : ∀ d i k, i + d = l.length → d < k → nautilusref06_Right.l0 k l i = some ((l.drop i).all oneB)
  | 0, i, 0, _, h => by omega
  | 0, i, k + 1, hi, _ => by
    rw [nautilusref06_Right.l0, if_neg (by omega), List.drop_of_length_le (by omega)]; rfl
  | d + 1, i, 0, _, h => by omega
  | d + 1, i, k + 1, hi, h => by
    have h1 : i < l.length := by omega
    rw [nautilusref06_Right.l0, if_pos (by omega), if_pos (by omega), rd_at, one_f, Option.bind_some]
    have e : atE l i = l[i] := by unfold atE; rw [List.getD_eq_getElem?_getD, List.getElem?_eq_getElem h1]; rfl
    have e3 : wrap64 ((i : Int) + 1) = ((i + 1 : Nat) : Int) := by rw [IntWalk.wrap64_in _ (by omega)]; omega
    have f1 : l.drop i = l[i] :: l.drop (i + 1) := List.drop_eq_getElem_cons h1
    rw [f1, List.all_cons, e, e3]
    cases oneB l[i] with
    | true => simp only [if_true, Bool.true_and]; exact refRight_loop l hl d (i + 1) k (by omega) (by omega)
    | false => simp
theorem refRight_f (l : List E) (k : Nat) (hk : 260 ≤ k) : nautilusref06_Right.f k l = some (rightV l) := by
  obtain ⟨k, rfl⟩ : ∃ m, k = m + 1 := ⟨k - 1, by omega⟩
  unfold nautilusref06_Right.f rightV
  by_cases h1 : 8 ≤ l.length
  · rw [if_neg (by omega), decide_eq_true h1]
    by_cases h2 : l.length ≤ 256
    · rw [if_neg (by omega), if_pos (by omega), decide_eq_true h2]
      have := rd_at l 0
      rw [show ((0 : Nat) : Int) = 0 from rfl] at this
      rw [this, nautilusref06_Right.j0]
      by_cases h3 : (atE l 0).f2 = 1
      · rw [if_neg (by simp [h3]), decide_eq_true h3]
        have := refRight_loop l h2 l.length 0 k (by omega) (by omega)
        simpa using this
      · rw [if_pos (by simpa using h3), decide_eq_false h3]; rfl
    · rw [if_pos (by omega), nautilusref06_Right.j0, if_pos rfl, decide_eq_false h2]; rfl
  · rw [if_pos (by omega), nautilusref06_Right.j0, if_pos rfl, decide_eq_false h1]; rfl

theorem benefit_eq (x : E) (now : Int) : nautilusref06_benefit.f x.f0 x.f1 x.f2 now = usage_benefit.f x.f0 x.f1 x.f2 now := by
  unfold nautilusref06_benefit.f nautilusref06_age.f usage_benefit.f
  by_cases h : now > x.f1
  · rw [if_neg (by omega), if_pos h, Option.bind_some]
  · rw [if_pos (by omega), if_neg h, Option.bind_some]
    have : mn 0 288230376151711744 = 0 := by unfold mn; rfl
    rw [this]
theorem better_eq (x y : E) (way now : Int) (h : way = 0 ∨ way = 1 ∨ way = 2) : nautilusref06_better.f x.f0 x.f1 x.f2 y.f0 y.f1 y.f2 way now = aheadV way now x y := by
  unfold nautilusref06_better.f aheadV ahead3 usage_Choose_1.f usage_Choose_2.f
  rw [benefit_eq, benefit_eq]

def bestN (l : List E) (way now : Int) (i : Nat) : Nat := (elig l i).foldl (stepB l way now) 0
theorem bestN_all (l : List E) (way now : Int) : bestJ l way now (elig l l.length).length = bestN l way now l.length := by
  unfold bestJ bestN; rw [List.take_length]
theorem bestN_lt (l : List E) (way now : Int) : ∀ i, bestN l way now i = 0 ∨ bestN l way now i < i
  | 0 => .inl rfl
  | i + 1 => by
    unfold bestN
    cases hb : eligB l i with
    | true =>
      rw [elig_yes l i hb, List.foldl_append]
      show stepB l way now (bestN l way now i) i = 0 ∨ stepB l way now (bestN l way now i) i < i + 1
      have := bestN_lt l way now i
      unfold stepB
      split
      · exact .inr (by omega)
      · split
        · exact .inr (by omega)
        · omega
    | false =>
      rw [elig_no l i hb]
      have := bestN_lt l way now i
      unfold bestN at this; omega
theorem refChoose_loop (l : List E) (way now : Int) (hw : way = 0 ∨ way = 1 ∨ way = 2) (hl : l.length ≤ 256) (ha : l.all rangeB = true) : ∀ d i k, 1 ≤ i → i + d = l.length → d < k →
    nautilusref06_Choose.l0 k l way now ((bestN l way now i : Nat) : Int) i = some (((bestN l way now l.length : Nat) : Int), decide (((bestN l way now l.length : Nat) : Int) > 0), 0)
  | 0, i, 0, _, _, h => by omega
  | 0, i, k + 1, _, hi, _ => by
    have : i = l.length := by omega
    subst this
    rw [nautilusref06_Choose.l0, if_neg (by omega)]
  | d + 1, i, 0, _, _, h => by omega
  | d + 1, i, k + 1, h1i, hi, h => by
    have h1 : i < l.length := by omega
    have e3 : wrap64 ((i : Int) + 1) = ((i + 1 : Nat) : Int) := by rw [IntWalk.wrap64_in _ (by omega)]; omega
    have ih := refChoose_loop l way now hw hl ha d (i + 1) k (by omega) (by omega) (by omega)
    have hr : ∀ j, j < l.length → 0 ≤ (atE l j).f0 ∧ (atE l j).f0 ≤ 16 := fun j hj => by
      have := List.all_eq_true.1 ha _ (atE_mem hj)
      unfold rangeB at this; simpa using this
    rw [nautilusref06_Choose.l0, if_pos (by omega), if_pos (by omega), rd_at, e3]
    have hel : eligB l i = (decide ((atE l i).f2 = 1) && decide ((atE l i).f0 < 16)) := by unfold eligB dirtyB; rw [decide_eq_true (by omega : 0 < i)]; rfl
    by_cases c1 : (atE l i).f2 = 1
    · rw [if_pos c1]
      by_cases c2 : (atE l i).f0 < 16
      · rw [if_pos c2]
        have hy : eligB l i = true := by rw [hel, decide_eq_true c1, decide_eq_true c2]; rfl
        have hs : bestN l way now (i + 1) = stepB l way now (bestN l way now i) i := by
          unfold bestN; rw [elig_yes l i hy, List.foldl_append]; rfl
        have hb := bestN_lt l way now i
        rw [hs] at ih
        unfold stepB at ih
        by_cases c3 : bestN l way now i = 0
        · rw [if_pos c3] at ih
          rw [if_pos (by omega)]; exact ih
        · rw [if_neg c3] at ih
          rw [if_neg (by omega), if_pos (by omega), if_pos (by omega), rd_at, better_eq _ _ _ _ hw]
          obtain ⟨r, hr2⟩ := ahead_some way now (atE l i) (atE l (bestN l way now i)) (hr _ h1) (hr _ (by omega))
          rw [hr2] at ih ⊢
          rw [Option.bind_some]
          cases r with
          | true => rw [if_pos rfl] at ih ⊢; exact ih
          | false => rw [if_neg (by decide)] at ih; rw [if_neg (by decide)]; exact ih
      · rw [if_neg c2]
        have hn : bestN l way now (i + 1) = bestN l way now i := by
          unfold bestN; rw [elig_no l i (by rw [hel, decide_eq_false c2]; simp)]
        rw [hn] at ih; exact ih
    · rw [if_neg c1]
      have hn : bestN l way now (i + 1) = bestN l way now i := by
        unfold bestN; rw [elig_no l i (by rw [hel, decide_eq_false c1]; rfl)]
      rw [hn] at ih; exact ih
def chooseV (l : List E) (way now : Int) : Int × Bool × Int :=
  if rightV l = true then (if way = 0 ∨ way = 1 ∨ way = 2 then (((bestN l way now l.length : Nat) : Int), decide (0 < ((bestN l way now l.length : Nat) : Int)), 0) else (0, false, 2)) else (0, false, 60)
theorem right_range {l : List E} (h : rightV l = true) : l.all rangeB = true ∧ 8 ≤ l.length ∧ l.length ≤ 256 := by
  unfold rightV at h
  simp only [Bool.and_eq_true, decide_eq_true_eq] at h
  refine ⟨List.all_eq_true.2 fun x hx => ?_, h.1, h.2.1⟩
  have := List.all_eq_true.1 h.2.2.2 x hx
  unfold oneB at this
  unfold rangeB
  simp only [Bool.and_eq_true, decide_eq_true_eq] at this ⊢
  omega
theorem choose_f (l : List E) (way now : Int) : usage_Choose.f l way now = some (chooseV l way now) := by
  unfold usage_Choose.f chooseV
  rw [right_f, Option.bind_some]
  by_cases h : rightV l = true
  · rw [if_pos h, if_pos h]
    by_cases hw : way = 0 ∨ way = 1 ∨ way = 2
    · rw [if_pos hw, if_pos hw, if_pos (right_range h).1, bestN_all]
    · rw [if_neg hw, if_neg hw]
  · rw [if_neg h, if_neg h]
theorem refChoose_f (l : List E) (way now : Int) (k : Nat) (hk : 260 ≤ k) : nautilusref06_Choose.f (k + 1) l way now = some (chooseV l way now) := by
  unfold nautilusref06_Choose.f chooseV
  rw [refRight_f l (k + 1) (by omega), Option.bind_some]
  by_cases h : rightV l = true
  · obtain ⟨h1, h2, h3⟩ := right_range h
    rw [if_pos h, if_pos h]
    by_cases hw : way = 0 ∨ way = 1 ∨ way = 2
    · rw [if_neg (by omega), if_pos hw, nautilusref06_Choose.j0, if_neg (by simp; omega)]
      have e0 : bestN l way now 1 = 0 := by
        unfold bestN; rw [show (1 : Nat) = 0 + 1 from rfl, elig_no l 0 (by unfold eligB; rfl)]; rfl
      have := refChoose_loop l way now hw h3 h1 (l.length - 1) 1 k (by omega) (by omega) (by omega)
      rw [e0] at this
      exact this
    · rw [if_neg hw]
      by_cases hn : way < 0
      · rw [if_pos hn, nautilusref06_Choose.j0, if_pos rfl]
      · rw [if_neg hn, nautilusref06_Choose.j0, if_pos (by simp; omega)]
  · rw [if_neg h, if_neg h]

end Go.Proofs.Ytklhmhliencgeaa.P
