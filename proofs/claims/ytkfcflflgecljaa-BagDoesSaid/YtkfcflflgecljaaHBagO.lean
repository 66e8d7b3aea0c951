/- Plain laws on lists of numbers with values: what stands at a number when another was put or dropped; lists that numbers filled. -/
import Derived.Test.YtkfcflflgecljaaHBagU
set_option linter.unusedVariables false
namespace Go.Proofs.Ytkfcflflgecljaa.H
variable {α : Type}
theorem find_and {p q : Int × α → Bool} (l : List (Int × α)) (h : ∀ x, q x = true → p x = true) : (l.filter p).find? q = l.find? q := by
  induction l with
  | nil => rfl
  | cons x l ih =>
    rw [List.filter_cons, List.find?_cons]
    by_cases hp : p x = true
    · rw [if_pos hp, List.find?_cons, ih]
    · rw [if_neg hp, ih]
      have : q x = false := by cases hq : q x with | false => rfl | true => exact absurd (h x hq) hp
      rw [this]
theorem find_not {p q : Int × α → Bool} (l : List (Int × α)) (h : ∀ x, q x = true → p x = false) : (l.filter p).find? q = none := by
  rw [List.find?_eq_none]
  intro x hx hq
  have := (List.mem_filter.1 hx).2
  rw [h x hq] at this
  cases this
theorem getL_ins (l : List (Int × α)) (a k : Int) (v : α) : getL k (insL a v l) = if k = a then some v else getL k l := by
  unfold getL insL
  rw [List.find?_append, List.find?_cons]
  rcases Int.lt_trichotomy k a with h | h | h
  · rw [if_neg (by omega), find_and l (fun x hx => by simp at hx ⊢; omega), find_not l (fun x hx => by simp at hx ⊢; omega)]
    rw [show (a == k) = false by simp; omega]
    simp
  · subst h
    rw [if_pos rfl, find_not l (fun x hx => by simp at hx ⊢; omega)]
    simp
  · rw [if_neg (by omega), find_not l (fun x hx => by simp at hx ⊢; omega), find_and l (fun x hx => by simp at hx ⊢; omega)]
    rw [show (a == k) = false by simp; omega]
    simp
theorem getL_del (l : List (Int × α)) (a k : Int) : getL k (delL a l) = if k = a then none else getL k l := by
  unfold getL delL
  by_cases h : k = a
  · subst h
    rw [if_pos rfl, find_not l (fun x hx => by simp at hx ⊢; omega)]; rfl
  · rw [if_neg h, find_and l (fun x hx => by simp at hx ⊢; omega)]
/-- What filled leaves: each number, with itself. -/
def fill (l : List Int) (es : List (Int × Int)) : List (Int × Int) := l.foldl (fun es k => insL k k es) es
theorem fill_snoc (l : List Int) (k : Int) (es : List (Int × Int)) : fill (l ++ [k]) es = insL k k (fill l es) := by unfold fill; rw [List.foldl_append]; rfl
theorem fill_take (l : List Int) (j : Nat) (h : j < l.length) : fill (l.take (j + 1)) [] = insL (l.getD j 0) (l.getD j 0) (fill (l.take j) []) := by
  rw [List.take_succ_eq_append_getElem h, fill_snoc, List.getD_eq_getElem?_getD, List.getElem?_eq_getElem h]; rfl
theorem fill_rise (l : List Int) : ∀ es, Rise es → Rise (fill l es) := by
  unfold fill
  induction l with
  | nil => exact fun es h => h
  | cons k l ih => exact fun es h => ih _ (h.ins k k)
theorem fill_len (l : List Int) : ∀ es, Rise es → (fill l es).length ≤ es.length + l.length := by
  unfold fill
  induction l with
  | nil => exact fun es h => Nat.le_refl _
  | cons k l ih =>
    intro es h
    have h1 := ih _ (h.ins k k)
    have h2 := insL_length h k k
    show (List.foldl (fun es k => insL k k es) (insL k k es) l).length ≤ _
    rw [h2] at h1
    split at h1 <;> simp <;> omega
theorem fill_get (l : List Int) (k : Int) : ∀ es, getL k (fill l es) = if k ∈ l then some k else getL k es := by
  unfold fill
  induction l with
  | nil => intro es; simp
  | cons a l ih =>
    intro es
    rw [List.foldl_cons, ih, getL_ins]
    by_cases h : k ∈ l
    · rw [if_pos h, if_pos (by simp [h])]
    · rw [if_neg h]
      by_cases h2 : k = a
      · rw [if_pos h2, if_pos (by simp [h2]), h2]
      · rw [if_neg h2, if_neg (by simp [h, h2])]
/-- All of some numbers dropped. -/
def drops (l : List Int) (es : List (Int × α)) : List (Int × α) := l.foldl (fun es k => delL k es) es
theorem drops_take (l : List Int) (es : List (Int × α)) (j : Nat) (h : j < l.length) : drops (l.take (j + 1)) es = delL (l.getD j 0) (drops (l.take j) es) := by
  rw [List.take_succ_eq_append_getElem h, List.getD_eq_getElem?_getD, List.getElem?_eq_getElem h]
  unfold drops; rw [List.foldl_append]; rfl
theorem drops_get (l : List Int) (k : Int) : ∀ es : List (Int × α), getL k (drops l es) = if k ∈ l then none else getL k es := by
  unfold drops
  induction l with
  | nil => intro es; simp
  | cons a l ih =>
    intro es
    rw [List.foldl_cons, ih, getL_del]
    by_cases h : k ∈ l
    · rw [if_pos h, if_pos (by simp [h])]
    · rw [if_neg h]
      by_cases h2 : k = a
      · rw [if_pos h2, if_pos (by simp [h2])]
      · rw [if_neg h2, if_neg (by simp [h, h2])]
theorem nil_of_get {l : List (Int × α)} (h : ∀ k, getL k l = none) : l = [] := by
  cases l with
  | nil => rfl
  | cons e l =>
    have := h e.1
    unfold getL at this
    rw [List.find?_cons, show (e.1 == e.1) = true by simp] at this
    simp at this
theorem drops_fill (l : List Int) : drops l (fill l []) = [] := nil_of_get fun k => by
  rw [drops_get, fill_get]
  by_cases h : k ∈ l
  · rw [if_pos h]
  · rw [if_neg h, if_neg h]; rfl
theorem drops_len (l : List Int) : ∀ es : List (Int × α), (drops l es).length ≤ es.length := by
  unfold drops
  induction l with
  | nil => exact fun es => Nat.le_refl _
  | cons a l ih => exact fun es => Nat.le_trans (ih _) (List.length_filter_le _ _)
end Go.Proofs.Ytkfcflflgecljaa.H
