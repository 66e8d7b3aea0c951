/- Plain laws on roots: which ones may be. -/
import Derived.Test.YtmpcpcfdomlehaaQ5
import Derived.Test.YtmpcpcfdomlehaaHRootR
namespace Go.Proofs.Ytmpcpcfdomlehaa.P
open Go.RowKit Go.Proofs.Ytmpcpcfdomlehaa.H Go.Proofs.Ytmpcpcfdomlehaa.Q Go.Proofs.YtmpcpcfdomlehaaW.PrintWords Go.Proofs.YtmpcpcfdomlehaaW.PrintLast Go.Proofs.YtmpcpcfdomlehaaW.PrintMore
set_option linter.unusedVariables false

theorem okL_iff : ∀ (l pre : List Int), okL pre l = true ↔ ((∀ x ∈ l, (16 ≤ x ∧ x < 4096) ∧ x ∉ pre) ∧ l.Nodup)
  | [], pre => by simp [okL]
  | x :: xs, pre => by
    rw [okL]
    simp only [Bool.and_eq_true, Bool.not_eq_true', decide_eq_false_iff_not, okL_iff xs (pre ++ [x]), List.mem_append, List.mem_singleton, List.nodup_cons, List.forall_mem_cons]
    constructor
    · rintro ⟨h1, h2, h3, h4, h5⟩
      exact ⟨⟨⟨by omega, h3⟩, fun y hy => ⟨(h4 y hy).1, fun h => (h4 y hy).2 (.inl h)⟩⟩, fun hx => (h4 x hx).2 (.inr rfl), h5⟩
    · rintro ⟨⟨⟨h1, h3⟩, h4⟩, h5, h6⟩
      exact ⟨by omega, by omega, h3, fun y hy => ⟨(h4 y hy).1, fun h => h.elim (h4 y hy).2 (fun e => h5 (e ▸ hy))⟩, h6⟩
theorem rd_in (l : List Int) (i : Nat) (h : i < l.length) : rd l (i : Int) = l[i] := by simp [rd, h]
theorem l1_loop (l : List Int) (i : Nat) (hi : i < l.length) (hl : l.length ≤ 1000000) : ∀ d j k, j + d = i → d < k → nautilusref16_Right.l1 k l i j = if l[i] ∈ (l.take i).drop j then some false else nautilusref16_Right.l0 (k - d - 1) l ((i + 1 : Nat) : Int)
  | 0, j, k + 1, hj, _ => by
    rw [nautilusref16_Right.l1, if_neg (by omega), IntWalk.wrap64_in _ (by omega), List.drop_of_length_le (by rw [List.length_take]; omega), if_neg (by simp)]
    simp
  | d + 1, j, k + 1, hj, hk => by
    have hjl : j < l.length := by omega
    have e : (l.take i).drop j = l[j] :: (l.take i).drop (j + 1) := by rw [List.drop_eq_getElem_cons (by rw [List.length_take]; omega), List.getElem_take]
    rw [nautilusref16_Right.l1, if_pos (by omega), if_pos (by omega), if_pos (by omega), if_pos (by omega), if_pos (by omega), rd_in l j hjl, rd_in l i hi, e]
    by_cases h : l[j] = l[i]
    · rw [if_pos h, if_pos (by rw [h]; exact List.mem_cons_self ..)]
    · rw [if_neg h, IntWalk.wrap64_in _ (by omega), show (j : Int) + 1 = ((j + 1 : Nat) : Int) by omega, l1_loop l i hi hl d (j + 1) k (by omega) (by omega)]
      have : (l[i] ∈ l[j] :: (l.take i).drop (j + 1)) ↔ l[i] ∈ (l.take i).drop (j + 1) := by
        rw [List.mem_cons]; exact ⟨fun h' => h'.elim (fun e => (h e.symm).elim) id, .inr⟩
      simp only [this, show k + 1 - (d + 1) - 1 = k - d - 1 by omega]
theorem l0_loop (l : List Int) (hl : l.length ≤ 1000) : ∀ d i k, i + d = l.length → d * (l.length + 3) < k → nautilusref16_Right.l0 k l i = some (okL (l.take i) (l.drop i))
  | 0, i, k + 1, hi, _ => by
    rw [nautilusref16_Right.l0, if_neg (by omega), List.drop_of_length_le (by omega)]; rfl
  | d + 1, i, 0, hi, hk => by omega
  | d + 1, i, 1, hi, hk => by rw [Nat.add_mul] at hk; omega
  | d + 1, i, k + 2, hi, hk => by
    have hil : i < l.length := by omega
    have hk' : d * (l.length + 3) + l.length + 1 < k := by rw [Nat.add_mul] at hk; omega
    have hgd : l.getD i 0 = l[i] := by simp [hil]
    rw [nautilusref16_Right.l0, if_pos (by omega), if_pos (by omega), rd_in l i hil, okL_step l i hil, hgd]
    by_cases h1 : l[i] < 16
    · rw [if_pos h1, nautilusref16_Right.j2, if_pos rfl, decide_eq_true h1]; rfl
    · rw [if_neg h1, decide_eq_false h1, nautilusref16_Right.j2]
      by_cases h2 : l[i] ≥ 4096
      · rw [decide_eq_true h2, if_pos rfl]; rfl
      · rw [decide_eq_false h2, if_neg (by decide), show (0 : Int) = ((0 : Nat) : Int) from rfl, l1_loop l i hil (by omega) i 0 k (by omega) (by omega), List.drop_zero]
        by_cases h3 : l[i] ∈ l.take i
        · rw [if_pos h3, decide_eq_true h3]; rfl
        · rw [if_neg h3, decide_eq_false h3, l0_loop l hl d (i + 1) (k - i - 1) (by omega) (by omega)]; simp
  | 0, i, 0, hi, hk => by omega
theorem refRight_f (a b : Int) (d c : List Int) (h0 : 0 ≤ a) (hd : d.length ≤ 1000) (hc : c.length ≤ 1000) (k : Nat) (hk : 6000 ≤ k) : nautilusref16_Right.f k a b d c = some (rightV a b d c) := by
  obtain ⟨k, rfl⟩ : ∃ m, k = m + 1 := ⟨k - 1, by omega⟩
  have no : nautilusref16_Right.j0 (k + 1) true a b d c = some false := by rw [nautilusref16_Right.j0, if_pos rfl]
  have hf (x : headR a b d.length c.length = true) : rightV a b d c = false := by unfold rightV; rw [x]; rfl
  unfold nautilusref16_Right.f
  by_cases h1 : a < 1
  · rw [if_pos h1, no, hf]; unfold headR; simp; omega
  rw [if_neg h1]
  by_cases h2 : a ≥ 281474976710656
  · rw [if_pos h2, no, hf]; unfold headR; simp; omega
  rw [if_neg h2]
  by_cases h3 : b ≥ 281474976710656
  · rw [if_pos h3, no, hf]; unfold headR; simp; omega
  rw [if_neg h3]
  by_cases h4 : (d.length : Int) < 1
  · rw [if_pos h4, no, hf]; unfold headR; simp only [Bool.or_eq_true, decide_eq_true_eq, beq_iff_eq]; omega
  rw [if_neg h4]
  by_cases h5 : (d.length : Int) > 60
  · rw [if_pos h5, no, hf]; unfold headR; simp only [Bool.or_eq_true, decide_eq_true_eq, beq_iff_eq]; omega
  rw [if_neg h5]
  by_cases h6 : (c.length : Int) < 1
  · rw [if_pos h6, no, hf]; unfold headR; simp only [Bool.or_eq_true, decide_eq_true_eq, beq_iff_eq]; omega
  rw [if_neg h6]
  by_cases h7 : (c.length : Int) > 12
  · rw [decide_eq_true h7, no, hf]; unfold headR; simp only [Bool.or_eq_true, decide_eq_true_eq, beq_iff_eq]; omega
  have hh : headR a b d.length c.length = false := by
    unfold headR; simp only [Bool.or_eq_false_iff, decide_eq_false_iff_not, beq_eq_false_iff_ne]; omega
  rw [decide_eq_false h7, nautilusref16_Right.j0, if_neg (by decide), if_pos (by omega), if_pos (by decide), Option.bind_some, if_pos (by simp; omega), Option.bind_some, if_pos (by simp; omega)]
  have e : (List.replicate 0 (0 : Int) ++ d) ++ c = d ++ c := by simp
  rw [e]
  have hlen : (d ++ c).length ≤ 72 := by rw [List.length_append]; omega
  have hm : (d ++ c).length * ((d ++ c).length + 3) ≤ 72 * 75 := Nat.mul_le_mul hlen (by omega)
  have := l0_loop (d ++ c) (by omega) (d ++ c).length 0 k (by omega) (by omega)
  rw [show ((0 : Nat) : Int) = 0 from rfl] at this
  rw [this, List.take_zero, List.drop_zero]
  unfold rightV
  rw [hh]; rfl
end Go.Proofs.Ytmpcpcfdomlehaa.P
