/- Segments, in plain words: what the program's Right answers, and the head of every law. -/
import Derived.Test.YtklhmhliencgeaaQ7
import Derived.Test.YtklhmhliencgeaaQ8
import Derived.Test.YtklhmhliencgeaaQ9
import Derived.Test.YtklhmhliencgeaaHChoose
import Derived.Test.YtklhmhliencgeaaHClone
import Derived.KernelRfl
set_option linter.unusedVariables false
namespace Go.Proofs.Ytklhmhliencgeaa.P
open Go.RowKit Go.Proofs.Ytklhmhliencgeaa.H Go.Proofs.Ytklhmhliencgeaa.Q Go.Proofs.YtklhmhliencgeaaW.PrintWords Go.Proofs.YtklhmhliencgeaaW.PrintLast Go.Proofs.YtklhmhliencgeaaW.PrintMore

theorem i64_wf {n : Int} (h : (Lit.int .i64 n).wf = true) : -9223372036854775808 ≤ n ∧ n < 9223372036854775808 := by
  simp [Lit.wf, IntKind.min, IntKind.max, IntKind.bits, IntKind.signed] at h; omega
theorem u64_wf {n : Int} (h : (Lit.int .u64 n).wf = true) : 0 ≤ n ∧ n < 18446744073709551616 := by
  simp [Lit.wf, IntKind.min, IntKind.max, IntKind.bits, IntKind.signed] at h; omega

def oneB (x : E) : Bool := decide (0 ≤ x.f2) && (decide (x.f2 ≤ 2) && (decide (0 ≤ x.f0) && (decide (x.f0 ≤ 16) && decide (x.f1 < 281474976710656))))
theorem wrong_f (x : E) : usage_isWrong.f x.f0 x.f1 x.f2 = some (!oneB x) := by
  unfold usage_isWrong.f oneB
  by_cases h1 : x.f2 < 0
  · rw [if_pos h1, decide_eq_false (by omega : ¬ 0 ≤ x.f2)]; rfl
  rw [if_neg h1, decide_eq_true (by omega : 0 ≤ x.f2)]
  by_cases h2 : x.f2 > 2
  · rw [if_pos h2, decide_eq_false (by omega : ¬ x.f2 ≤ 2)]; rfl
  rw [if_neg h2, decide_eq_true (by omega : x.f2 ≤ 2)]
  by_cases h3 : x.f0 < 0
  · rw [if_pos h3, decide_eq_false (by omega : ¬ 0 ≤ x.f0)]; rfl
  rw [if_neg h3, decide_eq_true (by omega : 0 ≤ x.f0)]
  by_cases h4 : x.f0 > 16
  · rw [if_pos h4, decide_eq_false (by omega : ¬ x.f0 ≤ 16)]; rfl
  rw [if_neg h4, decide_eq_true (by omega : x.f0 ≤ 16)]
  by_cases h5 : x.f1 ≥ 281474976710656
  · rw [decide_eq_true h5, decide_eq_false (by omega : ¬ x.f1 < 281474976710656)]; rfl
  · rw [decide_eq_false h5, decide_eq_true (by omega : x.f1 < 281474976710656)]; rfl
theorem idx_wrong : ∀ (l : List E) (i : Int), 0 ≤ i → ∃ r, idx 27 l i = some r ∧ decide (r ≥ 0) = !(l.all oneB)
  | [], i, _ => ⟨-1, rfl, rfl⟩
  | x :: xs, i, hi => by
    have e : pred 27 x = some (!oneB x) := by unfold pred; rw [if_pos rfl]; exact wrong_f x
    rw [idx, e, Option.bind_some]
    cases hb : oneB x with
    | true =>
      obtain ⟨r, hr, hd⟩ := idx_wrong xs (i + 1) (by omega)
      refine ⟨r, by simpa using hr, ?_⟩
      rw [hd, List.all_cons, hb]; rfl
    | false => exact ⟨i, by simp, by rw [List.all_cons, hb, decide_eq_true hi]; rfl⟩
def rightV (l : List E) : Bool := decide (8 ≤ l.length) && (decide (l.length ≤ 256) && (decide ((atE l 0).f2 = 1) && l.all oneB))
theorem rd_at (l : List E) (i : Nat) : rd_T30 l i = atE l i := by simp [rd_T30, atE, z30]
theorem right_f (l : List E) : usage_Right.f l = some (rightV l) := by
  unfold usage_Right.f rightV
  by_cases h1 : 8 ≤ l.length
  · rw [if_pos (by omega), decide_eq_true h1]
    by_cases h2 : l.length ≤ 256
    · rw [if_pos (by omega), if_pos (by omega), decide_eq_true h2]
      have := rd_at l 0
      rw [show ((0 : Nat) : Int) = 0 from rfl] at this
      rw [this]
      by_cases h3 : (atE l 0).f2 = 1
      · rw [if_pos h3, decide_eq_true h3]
        obtain ⟨r, hr, hd⟩ := idx_wrong l 0 (by omega)
        unfold api_Seg_26.f
        rw [hr]
        simp only [Option.bind_some]
        rw [hd]; simp
      · rw [if_neg h3, decide_eq_false h3]; rfl
    · rw [if_neg (by omega), decide_eq_false h2]; rfl
  · rw [if_neg (by omega), decide_eq_false h1]; rfl
theorem shown_20 : nautiluslaw06_shown.f 20 = some true := by decide +kernel
theorem shown_f : ∀ k, 20 ≤ k → nautiluslaw06_shown.f k = some true
  | 0, h => by omega
  | k + 1, h => by
    by_cases e : k + 1 = 20
    · rw [e]; exact shown_20
    · exact nautiluslaw06_shown.mono k _ (shown_f k (by omega))
end Go.Proofs.Ytklhmhliencgeaa.P
