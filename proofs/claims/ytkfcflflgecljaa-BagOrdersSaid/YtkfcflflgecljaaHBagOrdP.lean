/- Plain laws for BagOrders: in whichever order the same was put, the same stands there. -/
import Derived.Test.YtkfcflflgecljaaHBagO
set_option linter.unusedVariables false
namespace Go.Proofs.Ytkfcflflgecljaa.H
def fillz (l : List Int) (es : List (Int × Int)) : List (Int × Int) := l.foldl (fun es k => insL k 0 es) es
theorem fillz_take (l : List Int) (j : Nat) (h : j < l.length) : fillz (l.take (j + 1)) [] = insL (l.getD j 0) 0 (fillz (l.take j) []) := by
  rw [List.take_succ_eq_append_getElem h, List.getD_eq_getElem?_getD, List.getElem?_eq_getElem h]
  unfold fillz; rw [List.foldl_append]; rfl
theorem fillz_rise (l : List Int) : ∀ es, Rise es → Rise (fillz l es) := by
  unfold fillz
  induction l with
  | nil => exact fun es h => h
  | cons k l ih => exact fun es h => ih _ (h.ins k 0)
theorem fillz_len (l : List Int) : ∀ es, Rise es → (fillz l es).length ≤ es.length + l.length := by
  unfold fillz
  induction l with
  | nil => exact fun es h => Nat.le_refl _
  | cons k l ih =>
    intro es h
    have h1 := ih _ (h.ins k (0 : Int))
    have h2 := insL_length h k (0 : Int)
    show (List.foldl (fun es k => insL k 0 es) (insL k 0 es) l).length ≤ _
    rw [h2] at h1
    split at h1 <;> simp <;> omega
theorem fillz_get (l : List Int) (k : Int) : ∀ es, getL k (fillz l es) = if k ∈ l then some 0 else getL k es := by
  unfold fillz
  induction l with
  | nil => intro es; simp
  | cons a l ih =>
    intro es
    rw [List.foldl_cons, ih, getL_ins]
    by_cases h : k ∈ l
    · rw [if_pos h, if_pos (by simp [h])]
    · rw [if_neg h]
      by_cases h2 : k = a
      · rw [if_pos h2, if_pos (by simp [h2])]
      · rw [if_neg h2, if_neg (by simp [h, h2])]
/-- What of some numbers does not stand in a is dropped. -/
def sift (a : List (Int × Int)) (l : List Int) (es : List (Int × Int)) : List (Int × Int) := l.foldl (fun es k => if (getL k a).isSome then es else delL k es) es
theorem sift_take (a : List (Int × Int)) (l : List Int) (es : List (Int × Int)) (j : Nat) (h : j < l.length) : sift a (l.take (j + 1)) es = if (getL (l.getD j 0) a).isSome then sift a (l.take j) es else delL (l.getD j 0) (sift a (l.take j) es) := by
  rw [List.take_succ_eq_append_getElem h, List.getD_eq_getElem?_getD, List.getElem?_eq_getElem h]
  unfold sift; rw [List.foldl_append]; rfl
theorem sift_rise (a : List (Int × Int)) (l : List Int) : ∀ es, Rise es → Rise (sift a l es) := by
  unfold sift
  induction l with
  | nil => exact fun es h => h
  | cons k l ih =>
    intro es h
    rw [List.foldl_cons]
    split
    · exact ih _ h
    · exact ih _ (h.del k)
theorem sift_get (a : List (Int × Int)) (l : List Int) (k : Int) : ∀ es, getL k (sift a l es) = if k ∈ l ∧ (getL k a).isSome = false then none else getL k es := by
  unfold sift
  induction l with
  | nil => intro es; simp
  | cons x l ih =>
    intro es
    rw [List.foldl_cons, ih]
    have hy : getL k (if (getL x a).isSome then es else delL x es) = if k = x ∧ (getL k a).isSome = false then none else getL k es := by
      by_cases h2 : k = x
      · subst h2
        cases hb : (getL k a).isSome with
        | true => rw [if_pos rfl, if_neg (show ¬ (k = k ∧ true = false) from fun h => by cases h.2)]
        | false => rw [if_neg (show ¬ (false = true) by decide), if_pos (show k = k ∧ false = false from ⟨rfl, rfl⟩), getL_del, if_pos rfl]
      · rw [if_neg (show ¬ (k = x ∧ (getL k a).isSome = false) from fun h => h2 h.1)]
        split
        · rfl
        · rw [getL_del, if_neg h2]
    rw [hy]
    by_cases hk : (getL k a).isSome = false
    · by_cases h : k ∈ l
      · rw [if_pos (show k ∈ l ∧ (getL k a).isSome = false from ⟨h, hk⟩), if_pos (show k ∈ x :: l ∧ (getL k a).isSome = false from ⟨by simp [h], hk⟩)]
      · rw [if_neg (show ¬ (k ∈ l ∧ (getL k a).isSome = false) from fun h' => h h'.1)]
        by_cases h2 : k = x
        · rw [if_pos (show k = x ∧ (getL k a).isSome = false from ⟨h2, hk⟩), if_pos (show k ∈ x :: l ∧ (getL k a).isSome = false from ⟨by simp [h2], hk⟩)]
        · rw [if_neg (show ¬ (k = x ∧ (getL k a).isSome = false) from fun h' => h2 h'.1), if_neg (show ¬ (k ∈ x :: l ∧ (getL k a).isSome = false) from fun h' => by
            rcases List.mem_cons.1 h'.1 with h3 | h3
            · exact h2 h3
            · exact h h3)]
    · rw [if_neg (show ¬ (k ∈ l ∧ (getL k a).isSome = false) from fun h' => hk h'.2), if_neg (show ¬ (k = x ∧ (getL k a).isSome = false) from fun h' => hk h'.2), if_neg (show ¬ (k ∈ x :: l ∧ (getL k a).isSome = false) from fun h' => hk h'.2)]
theorem getL_cons (e : Int × Int) (l : List (Int × Int)) (k : Int) : getL k (e :: l) = if k = e.1 then some e.2 else getL k l := by
  unfold getL
  rw [List.find?_cons]
  by_cases h : k = e.1
  · rw [if_pos h, show (e.1 == k) = true by simp [h]]; rfl
  · rw [if_neg h, show (e.1 == k) = false by simp; omega]
theorem getL_low {l : List (Int × Int)} {k : Int} (h : ∀ x ∈ l, k < x.1) : getL k l = none := getL_none k l fun x hx => by have := h x hx; omega
theorem eq_of_get : ∀ (l m : List (Int × Int)), Rise l → Rise m → (∀ k, getL k l = getL k m) → l = m
  | [], m, _, _, h => (nil_of_get fun k => (h k).symm.trans rfl).symm
  | e :: l, [], _, _, h => nil_of_get fun k => (h k).trans rfl
  | e :: l, f :: m, hl, hm, h => by
    obtain ⟨h1, h2⟩ := rise_cons.1 hl
    obtain ⟨h3, h4⟩ := rise_cons.1 hm
    have hef : e.1 = f.1 := by
      rcases Int.lt_trichotomy e.1 f.1 with hlt | heq | hgt
      · have := h e.1
        rw [getL_cons, if_pos rfl, getL_low (l := f :: m) (fun x hx => by
          rcases List.mem_cons.1 hx with rfl | hx
          · exact hlt
          · have := h3 x hx; omega)] at this
        cases this
      · exact heq
      · have := h f.1
        rw [getL_cons f m, if_pos rfl, getL_low (l := e :: l) (fun x hx => by
          rcases List.mem_cons.1 hx with rfl | hx
          · exact hgt
          · have := h1 x hx; omega)] at this
        cases this
    have hv : e.2 = f.2 := by
      have := h e.1
      rw [getL_cons, if_pos rfl, getL_cons, if_pos hef] at this
      exact Option.some.inj this
    have hlm : l = m := eq_of_get l m h2 h4 fun k => by
      have := h k
      rw [getL_cons, getL_cons, ← hef] at this
      by_cases hk : k = e.1
      · rw [getL_low (fun x hx => by rw [hk]; exact h1 x hx), getL_low (fun x hx => by rw [hk, hef]; exact h3 x hx)]
      · rwa [if_neg hk, if_neg hk] at this
    rw [hlm, show e = f from Prod.ext hef hv]
theorem orders_same (l m : List Int) : sift (fill l []) m (fill l.reverse (fillz m [])) = fill l [] := by
  refine eq_of_get _ _ (sift_rise _ _ _ (fill_rise _ _ (fillz_rise _ _ List.Pairwise.nil))) (fill_rise _ _ List.Pairwise.nil) fun k => ?_
  have hn : getL k ([] : List (Int × Int)) = none := rfl
  have h1 : getL k (fill l []) = if k ∈ l then some k else none := by rw [fill_get, hn]
  have h2 : getL k (fill l.reverse (fillz m [])) = if k ∈ l then some k else if k ∈ m then some 0 else none := by
    rw [fill_get, fillz_get, hn]
    by_cases hl : k ∈ l
    · rw [if_pos (show k ∈ l.reverse by simpa using hl), if_pos hl]
    · rw [if_neg (show ¬ k ∈ l.reverse by simpa using hl), if_neg hl]
  rw [sift_get, h2, h1]
  by_cases hl : k ∈ l
  · simp only [if_pos hl, Option.isSome_some]
    rw [if_neg (show ¬ (k ∈ m ∧ true = false) from fun h => by cases h.2)]
  · simp only [if_neg hl, Option.isSome_none]
    by_cases hm : k ∈ m
    · rw [if_pos (show k ∈ m ∧ True from ⟨hm, trivial⟩)]
    · rw [if_neg (show ¬ (k ∈ m ∧ True) from fun h => hm h.1), if_neg hm]
theorem rev_drop (l : List Int) (j : Nat) (h : j < l.length) : (l.drop j).reverse = (l.drop (j + 1)).reverse ++ [l.getD j 0] := by
  rw [List.drop_eq_getElem_cons h, List.reverse_cons, List.getD_eq_getElem?_getD, List.getElem?_eq_getElem h]; rfl
theorem fill_rev (l : List Int) (j : Nat) (h : j < l.length) (es : List (Int × Int)) : fill (l.drop j).reverse es = insL (l.getD j 0) (l.getD j 0) (fill (l.drop (j + 1)).reverse es) := by
  rw [rev_drop l j h, fill_snoc]
end Go.Proofs.Ytkfcflflgecljaa.H
