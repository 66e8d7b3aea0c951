/- The law DatMoves, in plain words: what is moved is what it was, but for where it lies; counts add up to what is not free. -/
import Derived.Test.YtiajhfinkpddbaaQ15
import Derived.Test.YtiajhfinkpddbaaQ19
import Derived.Test.YtiajhfinkpddbaaPDatM
import Derived.Test.YtiajhfinkpddbaaPDatU
set_option linter.unusedVariables false
namespace Go.Proofs.Ytiajhfinkpddbaa.Pure
open Go.RowKit Go.Proofs.Ytiajhfinkpddbaa.P Go.Proofs.Ytiajhfinkpddbaa.H Go.Proofs.Ytiajhfinkpddbaa.Q Go.Proofs.YtiajhfinkpddbaaW.PrintWords Go.Proofs.YtiajhfinkpddbaaW.PrintLast

theorem sum_set : ∀ (c : List Int) (i : Nat) (v : Int) (h : i < c.length), (c.set i v).sum = c.sum - c[i] + v
  | [], i, v, h => by simp at h
  | x :: xs, 0, v, h => by simp only [List.set_cons_zero, List.sum_cons, List.getElem_cons_zero]; omega
  | x :: xs, i + 1, v, h => by
    have := sum_set xs i v (by simpa using h)
    simp only [List.set_cons_succ, List.sum_cons, List.getElem_cons_succ, this]; omega
theorem sum_bd : ∀ (c : List Int) (b : Int), 0 ≤ b → (∀ x ∈ c, 0 ≤ x ∧ x ≤ b) → 0 ≤ c.sum ∧ c.sum ≤ c.length * b
  | [], b, _, _ => by simp
  | x :: xs, b, hb, h => by
    have := sum_bd xs b hb (fun y hy => h y (by simp [hy]))
    have hx := h x (by simp)
    simp only [List.sum_cons, List.length_cons, Int.natCast_add, Int.add_mul]; omega
theorem rdJ (l : List Int) (i : Nat) (h : i < l.length) : rd l (i : Int) = l[i] := by simp [rd, h]
def usedN (l : List E) : Nat := (l.filter (fun x => !freeE x)).length
theorem usedN_cons (x : E) (l : List E) : usedN (x :: l) = (if freeE x = true then 0 else 1) + usedN l := by
  unfold usedN
  rw [List.filter_cons]
  cases freeE x with
  | true => simp
  | false => simp; omega
theorem one_used {x : E} (h : oneE x = true) (hf : freeE x = false) : 16 ≤ x.f0 ∧ x.f0 < 4096 := by
  unfold oneE at h
  rw [hf, Bool.false_or] at h
  simp only [Bool.and_eq_true, decide_eq_true_eq] at h
  exact ⟨h.1, h.2.1⟩
theorem sum_rep : ∀ n : Nat, (List.replicate n (0 : Int)).sum = 0
  | 0 => rfl
  | n + 1 => by rw [List.replicate_succ, List.sum_cons, sum_rep n]; rfl
theorem count_loop (l : List E) (hl : l.length ≤ 2000) (ho : ∀ x ∈ l, oneE x = true) : ∀ d i k (c : List Int), i + d = l.length → d < k → c.length = 256 → (∀ x ∈ c, 0 ≤ x ∧ x ≤ (i : Int)) →
    ∃ c' : List Int, dat_Counts.l0 k 256 c l (l.length : Int) (i : Int) = some (c', 0) ∧ c'.length = 256 ∧ (∀ x ∈ c', 0 ≤ x ∧ x ≤ (l.length : Int)) ∧ c'.sum = c.sum + (usedN (l.drop i) : Int)
  | _, i, 0, _, _, h, _, _ => by omega
  | 0, i, k + 1, c, hi, h, hc, hb => by
    refine ⟨c, by rw [dat_Counts.l0, if_neg (by omega)], hc, fun x hx => by have := hb x hx; omega, ?_⟩
    rw [List.drop_of_length_le (by omega)]; simp [usedN]
  | d + 1, i, k + 1, c, hi, h, hc, hb => by
    have hlt : i < l.length := by omega
    rw [dat_Counts.l0, if_pos (by omega), if_pos (by omega), if_pos (by omega), rd_at l i hlt, isfree_f, Option.bind_some, w64 i (by omega), List.drop_eq_getElem_cons hlt, usedN_cons]
    cases hf : freeE l[i] with
    | true =>
      rw [if_pos rfl, if_pos rfl]
      obtain ⟨c', h1, h2, h3, h4⟩ := count_loop l hl ho d (i + 1) k c (by omega) (by omega) hc (fun x hx => by have := hb x hx; omega)
      exact ⟨c', h1, h2, h3, by rw [h4]; omega⟩
    | false =>
      obtain ⟨u1, u2⟩ := one_used (ho _ (List.getElem_mem hlt)) hf
      have e : Int.tdiv l[i].f0 16 % 4294967296 = ((l[i].f0.toNat / 16 : Nat) : Int) := by
        rw [Int.tdiv_eq_ediv_of_nonneg (by omega)]; omega
      have hq : l[i].f0.toNat / 16 < c.length := by omega
      have hq2 := hb _ (List.getElem_mem hq)
      rw [if_neg NF, if_neg NF, e, if_neg (by omega), if_pos (by omega), if_pos (by omega), rdJ c _ hq, IntWalk.wrap64_in _ (by omega)]
      simp only [Int.toNat_natCast]
      obtain ⟨c', h1, h2, h3, h4⟩ := count_loop l hl ho d (i + 1) k (c.set (l[i].f0.toNat / 16) (c[l[i].f0.toNat / 16] + 1)) (by omega) (by omega) (by simpa using hc) (fun x hx => by
        rcases List.mem_or_eq_of_mem_set hx with hm | hm
        · have := hb x hm; omega
        · omega)
      refine ⟨c', h1, h2, h3, ?_⟩
      rw [h4, sum_set c _ _ hq]; omega
def cntOk (l : List E) (c : List Int) : Prop := c.length = 256 ∧ (∀ x ∈ c, 0 ≤ x ∧ x ≤ (l.length : Int)) ∧ c.sum = (usedN l : Int)
theorem counts_f (l : List E) (k : Nat) (hl : l.length ≤ 2000) (hk : 2001 < k) : (rightV l = true ∧ ∃ c, dat_Counts.f k l 256 = some (c, 0) ∧ cntOk l c) ∨ rightV l = false ∧ dat_Counts.f k l 256 = some ([], 80) := by
  obtain ⟨k, rfl⟩ : ∃ z, k = z + 1 := ⟨k - 1, by omega⟩
  unfold dat_Counts.f
  rw [right_f, Option.bind_some]
  cases hr : rightV l with
  | false => right; refine ⟨rfl, ?_⟩; rw [if_neg NF, dat_Counts.j0, if_pos rfl]
  | true =>
    left; refine ⟨rfl, ?_⟩
    obtain ⟨_, _, _, ho⟩ := rightV_iff.1 hr
    obtain ⟨c, h1, h2, h3, h4⟩ := count_loop l hl ho l.length 0 k (List.replicate 256 0) (by omega) (by omega) List.length_replicate (fun x hx => by rw [List.eq_of_mem_replicate hx]; omega)
    refine ⟨c, ?_, h2, h3, ?_⟩
    · rw [if_pos rfl, if_neg (by omega), dat_Counts.j0, if_neg (by decide), if_pos (by omega), if_pos (by decide)]
      exact h1
    · rw [h4, List.drop_zero, sum_rep, Int.zero_add]
theorem sum_loop (l : List E) (c : List Int) (k : Nat) (hl : l.length ≤ 2000) (hb : ∀ x ∈ c, 0 ≤ x ∧ x ≤ (l.length : Int)) (hc : c.length ≤ 100000) : ∀ d i (s : Int), i + d = c.length → 0 ≤ s → s ≤ i * 2000 →
    nautiluslaw08_DatMoves.l1 (k + (d + 1)) l true c s (i : Int) = nautiluslaw08_DatMoves.l2 k l true c (s + (c.drop i).sum) 0 := by
  intro d
  induction d with
  | zero =>
    intro i s hi _ _
    rw [nautiluslaw08_DatMoves.l1, if_neg (by omega), List.drop_of_length_le (by omega)]; simp
  | succ d ih =>
    intro i s hi h0 h1
    have hlt : i < c.length := by omega
    have hq := hb _ (List.getElem_mem hlt)
    show nautiluslaw08_DatMoves.l1 (k + (d + 1) + 1) _ _ _ _ _ = _
    rw [nautiluslaw08_DatMoves.l1, if_pos (by omega), if_pos (by omega), rdJ c i hlt, w64 i (by omega), IntWalk.wrap64_in _ (by omega), ih (i + 1) _ (by omega) (by omega) (by omega), List.drop_eq_getElem_cons hlt, List.sum_cons]
    congr 1; omega
theorem zero_ne (x : E) : (!(x.f0 == 0) || (!(x.f1 == 0) || !(x.f2 == 0))) = !freeE x := by
  unfold freeE freeB; simp [Bool.not_and]
theorem rest_loop (l : List E) (c : List Int) (hl : l.length ≤ 2000) (hc : c.length = 256) : ∀ d i k, i + d = l.length → d < k → nautiluslaw08_DatMoves.l2 k l true c (usedN (l.drop i) : Int) (i : Int) = some true
  | _, i, 0, _, h => by omega
  | 0, i, k + 1, hi, h => by
    rw [nautiluslaw08_DatMoves.l2, if_neg (by omega), List.drop_of_length_le (by omega), if_pos rfl, if_pos (by simp [usedN]), hc]; rfl
  | d + 1, i, k + 1, hi, h => by
    have hlt : i < l.length := by omega
    have hu : usedN (l.drop (i + 1)) ≤ 2000 := by
      have := List.length_filter_le (fun x => !freeE x) (l.drop (i + 1))
      unfold usedN; rw [List.length_drop] at this; omega
    have ih := rest_loop l c hl hc d (i + 1) k (by omega) (by omega)
    rw [nautiluslaw08_DatMoves.l2, if_pos (by omega), if_pos (by omega), rd_at l i hlt, zero_ne, w64 i (by omega), List.drop_eq_getElem_cons hlt, usedN_cons]
    cases freeE l[i] with
    | true => rw [if_neg (by decide), if_pos rfl, Nat.zero_add]; exact ih
    | false =>
      rw [if_pos (by decide), if_neg NF, IntWalk.wrap64_in _ (by omega)]
      rw [show ((1 + usedN (l.drop (i + 1)) : Nat) : Int) - 1 = (usedN (l.drop (i + 1)) : Int) by omega]; exact ih
theorem j2_f (l : List E) (k : Nat) (hl : l.length ≤ 2000) (hk : 5000 < k) : nautiluslaw08_DatMoves.j2 k l true = some true := by
  obtain ⟨k, rfl⟩ : ∃ z, k = z + 257 + 1 := ⟨k - 258, by omega⟩
  rw [nautiluslaw08_DatMoves.j2]
  rcases counts_f l (k + 257) hl (by omega) with ⟨hr, c, h1, h2, h3, h4⟩ | ⟨hr, h1⟩
  · rw [h1, Option.bind_some, if_pos rfl]
    have := sum_loop l c k hl h3 (by omega) 256 0 0 (by omega) (by omega) (by omega)
    rw [show ((0 : Nat) : Int) = 0 from rfl] at this
    rw [this, List.drop_zero, h4, Int.zero_add]
    exact rest_loop l c hl h2 l.length 0 k (by omega) (by omega)
  · rw [h1, Option.bind_some, if_neg (by decide), if_pos rfl, right_f, hr]; rfl
theorem same_no (x : E) : (!(x.f0 == x.f0) || (!(x.f1 == x.f1) || !(x.f2 == x.f2))) = false := by simp
theorem cmp_loop (l : List E) (v : Nat) (phys : Int) (hv : v < l.length) (hl : l.length ≤ 2000) (k : Nat) : ∀ d i, i + d = l.length →
    nautiluslaw08_DatMoves.l0 (k + (d + 1)) l (v : Int) phys true (l.set v (tr phys l[v].f1 l[v].f2)) (i : Int) = nautiluslaw08_DatMoves.j2 k l true
  | 0, i, hi => by rw [nautiluslaw08_DatMoves.l0, if_neg (by omega)]
  | d + 1, i, hi => by
    have hlt : i < l.length := by omega
    have hlt2 : i < (l.set v (tr phys l[v].f1 l[v].f2)).length := by rw [List.length_set]; exact hlt
    have ih := cmp_loop l v phys hv hl k d (i + 1) (by omega)
    show nautiluslaw08_DatMoves.l0 (k + (d + 1) + 1) _ _ _ _ _ _ = _
    rw [nautiluslaw08_DatMoves.l0, if_pos (by omega), if_pos (by omega), IntWalk.wrap64_in _ (by omega), rd_at _ i hlt2, rd_at l i hlt, w64 i (by omega)]
    by_cases he : i = v
    · subst he
      rw [if_pos rfl, if_pos (by omega), List.getElem_set_self, if_neg (by unfold tr; simp)]; exact ih
    · rw [if_neg (by omega), if_pos (by omega), List.getElem_set_ne (by omega), same_no, if_neg NF]; exact ih

/-- YOURS -/
theorem DatMoves : nautiluslaw08_DatMoves.Pure := by
  intro l0 a1 a2 hl hx w1 _
  obtain ⟨w31, w32⟩ := u32_wf w1
  obtain ⟨v, rfl⟩ : ∃ v : Nat, a1 = v := ⟨a1.toNat, by omega⟩
  refine ⟨9000, ?_⟩
  unfold nautiluslaw08_DatMoves.f
  rw [shown_f _ (by omega), Option.bind_some, cut_e, if_pos (by omega), if_pos (by omega), Option.bind_some]
  have hz : (List.take ((min l0.length 2000 : Nat) : Int).toNat l0).length ≤ 2000 := by rw [List.length_take]; omega
  generalize List.take ((min l0.length 2000 : Nat) : Int).toNat l0 = l at hz ⊢
  rw [move_f l v a2 (by omega) (by omega), Option.bind_some]
  unfold moveV
  by_cases h : (usedV l v).2 = 0
  · obtain ⟨hr, hlt, hv0, hf, he⟩ := usedV_yes h
    rw [if_pos h, he]
    unfold withV
    by_cases ho : oneE (tr a2 l[v].f1 l[v].f2) = true
    · rw [if_pos ho, if_pos rfl, if_pos (by simp), IntWalk.u64_in _ (by omega), IntWalk.u64_in _ (by omega), decide_eq_false (by omega)]
      rw [nautiluslaw08_DatMoves.j0, if_neg NF]
      have := cmp_loop l v a2 hlt hz (8999 - (l.length + 1)) l.length 0 (by omega)
      rw [show 8999 - (l.length + 1) + (l.length + 1) = 8999 by omega] at this
      rw [show ((0 : Nat) : Int) = 0 from rfl] at this
      rw [this]
      exact j2_f l _ hz (by omega)
    · rw [if_neg ho, if_neg (by decide)]
      exact j2_f l _ hz (by omega)
  · rw [if_neg h, if_neg h]
    exact j2_f l _ hz (by omega)
end Go.Proofs.Ytiajhfinkpddbaa.Pure
