/- Plain law: the rows of a tree are a shape, as the reference asks. -/
import Derived.Test.YtkfcflflgecljaaHBagRef
import Derived.Test.YtkfcflflgecljaaHBagRows
set_option linter.unusedVariables false
namespace Go.Proofs.Ytkfcflflgecljaa.H
open Go.RowKit Go.Proofs.YtkfcflflgecljaaW.PrintWords
theorem shaped_row (x0 : List (List Int)) (n : Int) (i : Nat) (r : List Int) (hi : x0[i]? = some r) (hil : i < 1000000) (hrl : r.length < 1000000) (hr : ∀ c ∈ r, 1 ≤ c ∧ c ≤ 7 ∧ (0 < i → 3 ≤ c)) :
    ∀ (t : List Int) (j : Nat), r.drop j = t → ∀ (b s : Int) (K : Nat), 0 ≤ b → 0 ≤ s → b + t.sum + t.length ≤ 1000000000 → s + t.sum ≤ 1000000000 →
      nautilusref02_Shaped.l0 K x0 n (b + t.sum + t.length) (s + t.sum) ((i : Int) + 1) = some true → ∃ K', nautilusref02_Shaped.l1 K' x0 n b s (i : Int) (j : Int) = some true
  | [], j, ht, b, s, K, hb, hs, _, _, h => by
    obtain ⟨hix, hr'⟩ := List.getElem?_eq_some_iff.1 hi
    refine ⟨K + 1, ?_⟩
    have hrd : rd_L1 x0 (i : Int) = r := by unfold rd_L1; rw [Int.toNat_natCast, List.getD_eq_getElem?_getD, hi]; rfl
    rw [nautilusref02_Shaped.l1, hrd, if_pos (by omega), if_pos (by omega)]
    rw [if_neg (by have := List.drop_eq_nil_iff.1 ht; omega)]
    rw [IntWalk.wrap64_in _ (by omega)]
    simpa using h
  | c :: t, j, ht, b, s, K, hb, hs, h1, h2, h => by
    obtain ⟨hix, hr'⟩ := List.getElem?_eq_some_iff.1 hi
    have hjl : j < r.length := by
      have := congrArg List.length ht
      rw [List.length_drop, List.length_cons] at this; omega
    have hd := List.drop_eq_getElem_cons hjl
    rw [ht] at hd
    injection hd with hc ht'
    obtain ⟨hc1, hc2, hc3⟩ := hr c (by rw [hc]; exact List.getElem_mem hjl)
    have hts : 0 ≤ t.sum := by
      have : ∀ m : List Int, (∀ x ∈ m, 1 ≤ x) → 0 ≤ m.sum := fun m => by
        induction m with
        | nil => intro _; simp
        | cons x m ih => intro hx; have := ih fun y hy => hx y (by simp [hy]); have := hx x (by simp); simp only [List.sum_cons]; omega
      exact this t fun x hx => (hr x (by have : x ∈ r.drop j := by rw [ht]; simp [hx]
                                         exact List.mem_of_mem_drop this)).1
    rw [List.sum_cons, List.length_cons] at h1 h
    rw [List.sum_cons] at h2
    obtain ⟨K', hK⟩ := shaped_row x0 n i r hi hil hrl hr t (j + 1) ht'.symm (b + c + 1) (s + c) K (by omega) (by omega) (by omega) (by omega) (by
      rw [show b + c + 1 + t.sum + (t.length : Int) = b + (c + t.sum) + ((t.length + 1 : Nat) : Int) by omega, show s + c + t.sum = s + (c + t.sum) by omega]; exact h)
    refine ⟨K' + 1, ?_⟩
    have hrd : rd_L1 x0 (i : Int) = r := by unfold rd_L1; rw [Int.toNat_natCast, List.getD_eq_getElem?_getD, hi]; rfl
    have hrc : rd r (j : Int) = c := by simp [rd, hjl, hc]
    rw [nautilusref02_Shaped.l1, hrd, hrc, if_pos (by omega), if_pos (by omega), if_pos (by omega), if_pos (by omega), if_neg (by omega), if_neg (by omega)]
    rw [IntWalk.wrap64_in (b + c) (by omega), IntWalk.wrap64_in (b + c + 1) (by omega), IntWalk.wrap64_in (s + c) (by omega), IntWalk.wrap64_in ((j : Int) + 1) (by omega)]
    by_cases hi0 : (i : Int) > 0
    · rw [if_pos hi0, if_neg (by have := hc3 (by omega); omega)]
      exact hK
    · rw [if_neg hi0]; exact hK
theorem sum_len {r : List Int} {lo : Int} (h1 : 1 ≤ lo) : (∀ c ∈ r, lo ≤ c ∧ c ≤ 7) → (r.length : Int) ≤ r.sum := by
  induction r with
  | nil => intro _; simp
  | cons c r ih =>
    intro h
    have := ih fun x hx => h x (by simp [hx])
    have := (h c (by simp)).1
    simp only [List.sum_cons, List.length_cons]; omega
theorem total_nonneg : ∀ (rs : List (List Int)) (m : Nat) (lo : Int), 1 ≤ lo → Lev rs m lo → 0 ≤ total rs
  | [], _, _, _, _ => by simp [total]
  | r :: rs, m, lo, hlo, h => by
    have h1 := total_nonneg rs _ 3 (by omega) h.2.2
    have h2 := sum_len hlo h.2.1
    unfold total at h1 ⊢
    rw [List.map_cons, List.sum_cons]; omega
theorem shaped_run (x0 : List (List Int)) (n : Nat) (hn : n ≤ 100000) (hn0 : 0 < n) (hx : x0.length ≤ 100000) : ∀ (rs pre : List (List Int)), x0 = pre ++ rs → ∀ (m : Nat) (lo s : Int), (lo = 1 ∧ pre = [] ∨ lo = 3) → Lev rs m lo → 0 ≤ s → s + total rs = (n : Int) → m ≤ 1000000 →
    ∃ K, nautilusref02_Shaped.l0 K x0 (n : Int) (m : Int) s (pre.length : Int) = some true
  | [], pre, hp, m, lo, s, _, _, _, hs, _ => by
    refine ⟨1, ?_⟩
    rw [nautilusref02_Shaped.l0, if_neg (by rw [hp]; simp)]
    rw [show total [] = 0 from rfl] at hs
    rw [if_pos (by omega)]
    simp; omega
  | r :: rs, pre, hp, m, lo, s, hlo, hL, h0, hs, hm => by
    obtain ⟨hlen, hc, hL2⟩ := hL
    have h1lo : 1 ≤ lo := by rcases hlo with h | h <;> omega
    have hsl := sum_len h1lo hc
    have htn := total_nonneg rs _ 3 (by omega) hL2
    have hts : s + r.sum + total rs = (n : Int) := by
      rw [← hs]; unfold total; rw [List.map_cons, List.sum_cons]; omega
    have hpl : pre.length < x0.length := by rw [hp]; simp
    have hget : x0[pre.length]? = some r := by rw [hp, List.getElem?_append_right (Nat.le_refl _)]; simp
    obtain ⟨K, hK⟩ := shaped_run x0 n hn hn0 hx rs (pre ++ [r]) (by rw [hp]; simp) (r.sum.toNat + m) 3 (s + r.sum) (.inr rfl) hL2 (by omega) hts (by omega)
    rw [List.length_append, List.length_singleton] at hK
    obtain ⟨K', hK'⟩ := shaped_row x0 (n : Int) pre.length r hget (by omega) (by omega) (fun c hcr => ⟨by have := (hc c hcr).1; omega, (hc c hcr).2, fun hp0 => by
      rcases hlo with ⟨_, h⟩ | h
      · rw [h] at hp0; simp at hp0
      · have := (hc c hcr).1; omega⟩) r 0 rfl 0 s K (by omega) h0 (by omega) (by omega) (by
      rw [show (0 : Int) + r.sum + (r.length : Int) = ((r.sum.toNat + m : Nat) : Int) by omega]
      exact hK)
    refine ⟨K' + 1, ?_⟩
    have hrd : rd_L1 x0 (pre.length : Int) = r := by unfold rd_L1; rw [Int.toNat_natCast, List.getD_eq_getElem?_getD, hget]; rfl
    rw [nautilusref02_Shaped.l0, hrd, if_pos (by omega), if_pos (by omega), if_pos (by omega)]
    exact hK'
theorem shaped_good {n : Nat} {rows : List (List Int)} (hn : n ≤ 100000) (h : GoodRows n rows) : ∃ K, nautilusref02_Shaped.f K rows (n : Int) = some true := by
  rcases Nat.eq_zero_or_pos n with h0 | h0
  · refine ⟨0, ?_⟩
    rw [h.none h0]
    unfold nautilusref02_Shaped.f
    rw [if_pos (by simp), h0]; rfl
  · obtain ⟨hne, hL, ht⟩ := h.some (by omega)
    obtain ⟨K, hK⟩ := shaped_run rows n hn h0 (by have := h.deep; omega) rows [] rfl 1 1 0 (.inl ⟨rfl, rfl⟩) hL (Int.le_refl _) (by omega) (by omega)
    refine ⟨K, ?_⟩
    unfold nautilusref02_Shaped.f
    rw [if_neg (by have := List.length_pos_iff.2 hne; omega)]
    exact hK
end Go.Proofs.Ytkfcflflgecljaa.H
