/- The document's answers on the table of virtual numbers, in plain words. -/
import Derived.Test.YtiajhfinkpddbaaQ11
import Derived.Test.YtiajhfinkpddbaaPDat
set_option linter.unusedVariables false
namespace Go.Proofs.Ytiajhfinkpddbaa.P
open Go.RowKit Go.Proofs.Ytiajhfinkpddbaa.H Go.Proofs.Ytiajhfinkpddbaa.Q Go.Proofs.YtiajhfinkpddbaaW.PrintWords Go.Proofs.YtiajhfinkpddbaaW.PrintLast Go.Proofs.YtiajhfinkpddbaaW.PrintMore

theorem reffree_f (x : E) : nautilusref08_free.f x.f0 x.f1 x.f2 = some (freeE x) := rfl
theorem refone_f (x : E) : nautilusref08_one.f x.f0 x.f1 x.f2 = some (oneE x) := by
  unfold nautilusref08_one.f oneE
  rw [reffree_f, Option.bind_some]
  cases hf : freeE x with
  | true => rfl
  | false =>
    rw [if_neg NF, Bool.false_or]
    by_cases h1 : x.f0 ≥ 16
    · rw [if_pos h1, decide_eq_true (show 16 ≤ x.f0 from h1)]
      by_cases h2 : x.f0 < 4096
      · rw [if_pos h2, decide_eq_true h2]
        by_cases h3 : x.f1 ≥ 1
        · rw [if_pos h3, decide_eq_true (show 0 < x.f1 by omega)]
          by_cases h4 : x.f1 < 281474976710656
          · rw [if_pos h4, decide_eq_true h4]
            by_cases h0 : x.f2 = 0
            · rw [if_pos h0, beq_iff_eq.2 h0]; rfl
            · rw [if_neg h0, beq_eq_false_iff_ne.2 h0]
              by_cases h5 : x.f2 > x.f1
              · rw [if_pos h5, decide_eq_true (show x.f1 < x.f2 from h5)]; simp
              · rw [if_neg h5, decide_eq_false (show ¬ x.f1 < x.f2 from h5)]; rfl
          · rw [if_neg h4, decide_eq_false h4]; rfl
        · rw [if_neg h3, decide_eq_false (show ¬ 0 < x.f1 by omega)]; rfl
      · rw [if_neg h2, decide_eq_false h2]; rfl
    · rw [if_neg h1, decide_eq_false (show ¬ 16 ≤ x.f0 from h1)]; rfl
theorem refRight_loop (l : List E) (hl : l.length ≤ 1000000000) : ∀ d i k, i + d = l.length → d < k → nautilusref08_Right.l0 k l (i : Int) = some ((l.drop i).all oneE)
  | 0, i, 0, _, h => by omega
  | 0, i, k + 1, hi, _ => by rw [nautilusref08_Right.l0, if_neg (by omega), List.drop_of_length_le (by omega)]; rfl
  | d + 1, i, 0, _, h => by omega
  | d + 1, i, k + 1, hi, h => by
    have hlt : i < l.length := by omega
    rw [nautilusref08_Right.l0, if_pos (by omega), if_pos (by omega), rd_at l i hlt, refone_f, Option.bind_some, List.drop_eq_getElem_cons hlt, List.all_cons, w64 i (by omega)]
    cases oneE l[i] with
    | true => rw [if_pos rfl, Bool.true_and]; exact refRight_loop l hl d (i + 1) k (by omega) (by omega)
    | false => rfl
theorem refRight_f (l : List E) (k : Nat) (hl : l.length ≤ 1000000000) (hk : l.length + 1 < k) : nautilusref08_Right.f k l = some (rightV l) := by
  unfold nautilusref08_Right.f
  obtain ⟨k, rfl⟩ : ∃ q, k = q + 1 := ⟨k - 1, by omega⟩
  cases l with
  | nil => rw [if_pos (by simp), nautilusref08_Right.j0, if_pos rfl]; rfl
  | cons x xs =>
    rw [if_neg (by simp only [List.length_cons]; omega)]
    show _ = some (decide (xs.length < 1860) && (freeE x && (x :: xs).all oneE))
    by_cases h1 : xs.length < 1860
    · have e := rd_at (x :: xs) 0 (by simp)
      rw [show ((0 : Nat) : Int) = 0 from rfl] at e
      rw [if_neg (by simp only [List.length_cons]; omega), if_pos (by simp only [List.length_cons]; omega), decide_eq_true h1, e]
      simp only [List.getElem_cons_zero]
      rw [reffree_f, Option.bind_some, nautilusref08_Right.j0]
      cases freeE x with
      | true =>
        rw [if_neg (by decide)]
        exact refRight_loop (x :: xs) hl (x :: xs).length 0 k (by omega) (by omega)
      | false => rfl
    · rw [if_pos (by simp only [List.length_cons]; omega), nautilusref08_Right.j0, if_pos rfl, decide_eq_false h1]; rfl
def rwithV (l : List E) (v : Nat) (t : E) : List E × Int := if rightV (l.set v t) = true then (l.set v t, 0) else ([], 80)
theorem rwith_with {l : List E} (hr : rightV l = true) {v : Nat} (h : v < l.length) (h0 : 0 < v) (t : E) : rwithV l v t = withV l v t := by
  unfold rwithV withV
  rw [rightV_set hr h h0]
theorem eqE_no (x : E) : (!(x.f0 == x.f0) || (!(x.f1 == x.f1) || (!(x.f2 == x.f2)))) = false := by simp
theorem withV_len (l : List E) (v : Nat) (t : E) : (withV l v t).1.length ≤ l.length := by unfold withV; split <;> simp
theorem endV_len (l : List E) (v : Nat) (cp : Int) : (endV l v cp).1.length ≤ l.length := by
  unfold endV
  split
  · split
    · split
      · exact withV_len _ _ _
      · split
        · simp
        · exact withV_len _ _ _
    · simp
  · simp
theorem zero_one : oneE (tr 0 0 0) = true := rfl
end Go.Proofs.Ytiajhfinkpddbaa.P
