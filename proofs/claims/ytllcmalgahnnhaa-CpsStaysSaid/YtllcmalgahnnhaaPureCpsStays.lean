/- The law CpsStays, in plain words: snapshots, and the newest, stay, whatever expires; what is deleted is not found, and all others are. -/
import Derived.Test.YtllcmalgahnnhaaQ13
import Derived.Test.YtllcmalgahnnhaaPCpsK
set_option linter.unusedVariables false
namespace Go.Proofs.Ytllcmalgahnnhaa.Pure
open Go.RowKit Go.Proofs.Ytllcmalgahnnhaa.P Go.Proofs.Ytllcmalgahnnhaa.H Go.Proofs.Ytllcmalgahnnhaa.Q Go.Proofs.YtllcmalgahnnhaaW.PrintWords Go.Proofs.YtllcmalgahnnhaaW.PrintLast

theorem kept_none (j : Nat) : ∀ (l : List CkE) (i : Nat), j < i → keptL (fun q _ => (q : Int) == (j : Int)) l i = l
  | [], _, _ => rfl
  | x :: xs, i, h => by
    rw [keptL, if_neg (show ¬ ((i : Int) == (j : Int)) = true from fun e => by have := beq_iff_eq.1 e; omega), kept_none j xs (i + 1) (by omega)]
theorem kept_erase (j : Nat) : ∀ (l : List CkE) (i : Nat), i ≤ j → keptL (fun q _ => (q : Int) == (j : Int)) l i = l.eraseIdx (j - i)
  | [], _, _ => rfl
  | x :: xs, i, h => by
    by_cases e : i = j
    · subst e
      rw [keptL, if_pos (beq_iff_eq.2 rfl), kept_none i xs (i + 1) (by omega), Nat.sub_self]; rfl
    · rw [keptL, if_neg (show ¬ ((i : Int) == (j : Int)) = true from fun h' => by have := beq_iff_eq.1 h'; omega), kept_erase j xs (i + 1) (by omega), show j - i = (j - (i + 1)) + 1 by omega]; rfl
theorem right_pair : ∀ {l : List CkE} {a : Int}, rightFrom a l = true → l.Pairwise (fun x y => x.f0 < y.f0)
  | [], _, _ => List.Pairwise.nil
  | x :: xs, a, h => by
    obtain ⟨h1, h2, h3⟩ := rightFrom_cons.1 h
    exact List.Pairwise.cons (rightFrom_mem h3) (right_pair h3)
theorem right_idx {l : List CkE} {a : Int} (h : rightFrom a l = true) {i j : Nat} (hi : i < l.length) (hj : j < l.length) (e : l[i].f0 = l[j].f0) : i = j := by
  have hp := List.pairwise_iff_getElem.1 (right_pair h)
  rcases Nat.lt_trichotomy i j with h1 | h1 | h1
  · have := hp i j hi hj h1; omega
  · exact h1
  · have := hp j i hj hi h1; omega
/-- What a deletion that is done leaves. -/
theorem del_spec {l : List CkE} {cp : Int} (h : (delV l cp).2 = 0) : (delV l cp).1.Sublist l ∧ (∀ i (hi : i < l.length), l[i].f0 ≠ cp → l[i] ∈ (delV l cp).1) ∧ (∀ x ∈ (delV l cp).1, x.f0 ≠ cp) := by
  unfold delV at h ⊢
  by_cases hr : rightB l = true
  · rw [if_pos hr] at h ⊢
    cases hf : fnd l cp with
    | none => rw [hf] at h; simp at h
    | some j =>
      rw [hf] at h
      simp only [] at h ⊢
      have hj := fnd_lt hf
      have hg := fnd_get hf
      split at h
      · simp at h
      · rename_i h1
        rw [if_neg h1]
        split at h
        · simp at h
        · rename_i h2
          rw [if_neg h2, kept_erase j l 0 (by omega), Nat.sub_zero]
          refine ⟨List.eraseIdx_sublist _ _, fun i hi hne => ?_, fun x hx => ?_⟩
          · rw [List.mem_eraseIdx_iff_getElem]
            exact ⟨i, hi, fun e => hne (by subst e; exact hg), rfl⟩
          · rw [List.mem_eraseIdx_iff_getElem] at hx
            obtain ⟨q, hq, hne, rfl⟩ := hx
            intro e
            exact hne (right_idx (rightB_iff.1 hr).2 hq hj (e.trans hg.symm))
  · rw [if_neg hr] at h; simp at h

theorem eq_no (x : CkE) : (!(x.f0 == x.f0) || (!(x.f1 == x.f1) || (!(x.f2 == x.f2) || (!(x.f3.toList == x.f3.toList))))) = false := by simp
theorem stays_loop (l : List CkE) (hr : rightB l = true) (cp now keep : Int) : ∀ d i k, i + d = l.length → 3 * d + 300 < k →
    nautiluslaw09_CpsStays.l0 k l cp true (keepL now keep l) ((l.length : Int) - (keepL now keep l).length) (delV l cp).1 (delV l cp).2 (i : Int) = some true
  | 0, i, 0, _, h => by omega
  | 0, i, k + 1, hi, _ => by
    have hl := rightB_len hr
    have hs := keepL_sub now keep l
    have hle := hs.length_le
    have e : wrap64 (((keepL now keep l).length : Int) + ((l.length : Int) - (keepL now keep l).length)) = l.length := by rw [IntWalk.wrap64_in _ (by omega)]; omega
    rw [nautiluslaw09_CpsStays.l0, if_neg (by omega), if_pos rfl, e, if_pos rfl, right_f _ k (by omega) (by omega), Option.bind_some, rightB_sub hs hr]
  | d + 1, i, 0, _, h => by omega
  | d + 1, i, 1, _, h => by omega
  | d + 1, i, 2, _, h => by omega
  | d + 1, i, k + 3, hi, h => by
    have hl := rightB_len hr
    have hs := keepL_sub now keep l
    have hle := hs.length_le
    have hrm := rightB_sub hs hr
    have hlt : i < l.length := by omega
    have hdl := delV_le l cp
    have next := stays_loop l hr cp now keep d (i + 1) k (by omega) (by omega)
    have h2f : nautiluslaw09_CpsStays.j2 (k + 1) l cp true (keepL now keep l) ((l.length : Int) - (keepL now keep l).length) (delV l cp).1 (delV l cp).2 (i : Int) false = some true := by
      rw [nautiluslaw09_CpsStays.j2, if_neg (by decide), w64 i (by omega)]; exact next
    have hj : nautiluslaw09_CpsStays.j1 (k + 2) l cp true (keepL now keep l) ((l.length : Int) - (keepL now keep l).length) (delV l cp).1 (delV l cp).2 (i : Int) false = some true := by
      rw [nautiluslaw09_CpsStays.j1, if_neg (by decide), if_pos (by omega), if_pos (by omega), rd_at l i hlt, find_f _ _ (k + 1) (by omega) (by omega), Option.bind_some]
      by_cases h0 : (delV l cp).2 = 0
      · obtain ⟨h1, h2, h3⟩ := del_spec h0
        rw [if_pos h0]
        rw [h0] at h2f ⊢
        by_cases hc : l[i].f0 = cp
        · have hn := find_none (l := (delV l cp).1) (cp := l[i].f0) (fun x hx => by rw [hc]; exact h3 x hx)
          rw [if_neg (by rw [beq_eq_false_iff_ne.2 hn, bne_eq_false_iff_eq.2 hc]; decide), if_neg hn]
          exact h2f
        · rw [find_mem (rightB_sub h1 hr) (h2 i hlt hc)]
          unfold chkV
          rw [if_neg (by rw [bne_iff_ne.2 hc]; simp), if_pos rfl, eq_no]
          exact h2f
      · rw [if_neg h0]; exact h2f
    have hin : (stale now keep l[i] = false ∨ i + 1 = l.length) → findV (keepL now keep l) l[i].f0 = chkV l[i] 0 := fun h => find_mem hrm (keepL_mem now keep l i hlt h)
    have e : wrap64 ((l.length : Int) - 1) = (l.length : Int) - 1 := IntWalk.wrap64_in _ (by omega)
    rw [nautiluslaw09_CpsStays.l0, if_pos (by omega), if_pos (by omega), rd_at l i hlt, find_f _ _ (k + 2) (by omega) (by omega), Option.bind_some, e]
    by_cases hsn : l[i].f2 = true
    · rw [if_pos hsn, hin (.inl (by unfold stale; rw [hsn]; rfl))]
      unfold chkV
      rw [if_pos rfl, eq_no]; exact hj
    · rw [if_neg hsn]
      by_cases hla : (i : Int) = (l.length : Int) - 1
      · rw [if_pos hla, hin (.inr (by omega))]
        unfold chkV
        rw [if_pos rfl, eq_no]; exact hj
      · rw [if_neg hla]; exact hj
where
  delV_le (l : List CkE) (cp : Int) : (delV l cp).1.length ≤ l.length := by
    unfold delV; split
    · split
      · split
        · simp
        · split
          · simp
          · exact keptL_le _ _ _
      · simp
    · simp

/-- YOURS -/
theorem CpsStays : nautiluslaw09_CpsStays.Pure := by
  intro l0 a1 a2 a3 hl hx _ _ _
  refine ⟨1000, ?_⟩
  unfold nautiluslaw09_CpsStays.f
  rw [shown_f _ (by omega), Option.bind_some, cut_e, if_pos (by omega), if_pos (by omega), Option.bind_some]
  have hz : (List.take ((min l0.length 200 : Nat) : Int).toNat l0).length ≤ 200 := by rw [List.length_take]; omega
  generalize List.take ((min l0.length 200 : Nat) : Int).toNat l0 = l at hz ⊢
  rw [exp_f l a2 a3 (by omega), Option.bind_some]
  by_cases hr : rightB l = true
  · rw [expV_right hr a2 a3, if_pos rfl, del_f l a1 (by omega), Option.bind_some]
    exact stays_loop l hr a1 a2 a3 l.length 0 1000 (by omega) (by omega)
  · unfold expV
    rw [if_neg hr, if_neg (by decide), if_pos rfl, right_f l 1000 (by omega) (by omega), Option.bind_some]
    simp at hr
    rw [hr]; rfl
end Go.Proofs.Ytllcmalgahnnhaa.Pure
