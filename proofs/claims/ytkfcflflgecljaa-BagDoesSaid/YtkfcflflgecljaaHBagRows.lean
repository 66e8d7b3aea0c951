/- Plain laws: how many numbers the nodes of a tree have, level by level. -/
import Derived.Test.YtkfcflflgecljaaHBagBef
set_option linter.unusedVariables false
namespace Go.Proofs.Ytkfcflflgecljaa.H
variable {α : Type}
def rowOf (ts : List (Tr α)) : List Int := ts.map fun t => (t.es.length : Int)
def rowsOf : Nat → List (Tr α) → List (List Int)
  | 0, ts => [rowOf ts]
  | d + 1, ts => rowOf ts :: rowsOf d (ts.flatMap Tr.ks)
theorem rowsOf_len : ∀ (d : Nat) (ts : List (Tr α)), (rowsOf d ts).length = d + 1
  | 0, _ => rfl
  | d + 1, ts => by rw [rowsOf, List.length_cons, rowsOf_len d]
/-- All numbers below some trees, and how many trees. -/
def mass (d : Nat) (ts : List (Tr α)) : Nat := (ts.map fun t => (ents d t).length + 1).sum
theorem mass_len (d : Nat) (ts : List (Tr α)) : ts.length ≤ mass d ts := by
  unfold mass
  induction ts with
  | nil => exact Nat.le_refl _
  | cons t ts ih => simp only [List.map_cons, List.sum_cons, List.length_cons]; omega
theorem weave_len : ∀ (es : List (Int × α)) (cs : List (List (Int × α))), cs.length = es.length + 1 → (weave es cs).length + 1 = (cs.map fun c => c.length + 1).sum
  | [], [c], _ => by simp [weave]
  | e :: es, c :: cs, h => by
    have := weave_len es cs (by simpa using h)
    rw [weave, List.length_append, List.length_cons, List.map_cons, List.sum_cons]; omega
  | [], [], h => by simp at h
  | [], _ :: _ :: _, h => by simp at h
  | e :: es, [], h => by simp at h
theorem mass_kids {H : HP α} {d lo : Nat} : ∀ {ts : List (Tr α)}, (∀ t ∈ ts, Ok H (d + 1) lo t) → mass d (ts.flatMap Tr.ks) = mass (d + 1) ts
  | [], _ => rfl
  | t :: ts, h => by
    have ih := mass_kids (ts := ts) fun t ht => h t (List.mem_cons_of_mem _ ht)
    have h1 := (h t List.mem_cons_self).2.1
    have h2 := weave_len t.es (t.ks.map (ents d)) (by rw [List.length_map, h1])
    unfold mass at ih ⊢
    rw [List.flatMap_cons, List.map_append, List.sum_append, ih, List.map_cons, List.sum_cons]
    congr 1
    rw [show (ents (d + 1) t).length + 1 = _ from h2, List.map_map]; rfl
theorem kids_ok {H : HP α} {d lo : Nat} {ts : List (Tr α)} (h : ∀ t ∈ ts, Ok H (d + 1) lo t) : ∀ q ∈ ts.flatMap Tr.ks, Ok H d 3 q := fun q hq => by
  obtain ⟨t, ht, hq⟩ := List.mem_flatMap.1 hq
  exact (h t ht).2.2.2.2 q hq
theorem kids_ne {H : HP α} {d lo : Nat} {ts : List (Tr α)} (h : ∀ t ∈ ts, Ok H (d + 1) lo t) (hne : ts ≠ []) : ts.flatMap Tr.ks ≠ [] := fun e => by
  obtain ⟨t, ts', rfl⟩ := List.exists_cons_of_ne_nil hne
  have h1 := (h t List.mem_cons_self).2.1
  rw [List.flatMap_cons] at e
  have := (List.append_eq_nil_iff.1 e).1
  rw [this] at h1; simp at h1
theorem leaf_kids {H : HP α} {lo : Nat} {ts : List (Tr α)} (h : ∀ t ∈ ts, Ok H 0 lo t) : ts.flatMap Tr.ks = [] := by
  rw [List.flatMap_eq_nil_iff]
  exact fun t ht => (h t ht).2.1
theorem kids_le {H : HP α} {d lo : Nat} {ts : List (Tr α)} (h : ∀ t ∈ ts, Ok H d lo t) : (ts.flatMap Tr.ks).length ≤ mass d ts := by
  cases d with
  | zero => rw [leaf_kids h]; exact Nat.zero_le _
  | succ d => rw [← mass_kids h]; exact mass_len d _
theorem take_kids_le (ts : List (Tr α)) (j : Nat) : ((ts.take j).flatMap Tr.ks).length ≤ (ts.flatMap Tr.ks).length := by
  conv => rhs; rw [← List.take_append_drop j ts, List.flatMap_append, List.length_append]
  exact Nat.le_add_right _ _
theorem deep_le {H : HP α} : ∀ {d : Nat} {t : Tr α}, Ok H d 1 t → d + 1 ≤ (ents d t).length
  | 0, t, h => h.2.2.1
  | d + 1, t, h => by
    obtain ⟨k, B, hs, hB, hk, _⟩ := first_kid h
    have ih := deep_le (hk.low (lo' := 1) (by have := hk.lo; omega))
    have h2 := weave_len t.es (t.ks.map (ents d)) (by rw [List.length_map, h.2.1])
    have h3 := h.2.2.1
    have h4 : B.length ≤ (B.map fun c => (ents d c).length + 1).sum := mass_len d B
    rw [hs, List.map_cons, List.map_cons, List.sum_cons, List.map_map] at h2
    have h5 : (B.map ((fun c => c.length + 1) ∘ ents d)).sum = (B.map fun c => (ents d c).length + 1).sum := rfl
    rw [h5] at h2
    show d + 1 + 1 ≤ (weave t.es (t.ks.map (ents d))).length
    rw [hs, List.map_cons]
    omega
/-- Rows of a tree: so many nodes, each with lo to 7 numbers; in the next row three to 7. -/
def Lev : List (List Int) → Nat → Int → Prop
  | [], _, _ => True
  | r :: rs, m, lo => r.length = m ∧ (∀ c ∈ r, lo ≤ c ∧ c ≤ 7) ∧ Lev rs (r.sum.toNat + m) 3
def total (rows : List (List Int)) : Int := (rows.map List.sum).sum
def cnt (d : Nat) (ts : List (Tr α)) : Nat := (ts.map fun t => (ents d t).length).sum
theorem mass_cnt (d : Nat) : ∀ ts : List (Tr α), mass d ts = cnt d ts + ts.length
  | [] => rfl
  | t :: ts => by
    have ih := mass_cnt d ts
    unfold mass cnt at ih ⊢
    rw [List.map_cons, List.sum_cons, ih, List.map_cons, List.sum_cons, List.length_cons]; omega
theorem rowOf_sum : ∀ ts : List (Tr α), (rowOf ts).sum = ((ts.map fun t => t.es.length).sum : Nat)
  | [] => rfl
  | t :: ts => by
    have ih := rowOf_sum ts
    unfold rowOf at ih ⊢
    rw [List.map_cons, List.sum_cons, ih, List.map_cons, List.sum_cons]; omega
theorem kids_num {H : HP α} {d lo : Nat} : ∀ {ts : List (Tr α)}, (∀ t ∈ ts, Ok H (d + 1) lo t) → (ts.flatMap Tr.ks).length = (ts.map fun t => t.es.length).sum + ts.length
  | [], _ => rfl
  | t :: ts, h => by
    have ih := kids_num (ts := ts) fun t ht => h t (List.mem_cons_of_mem _ ht)
    have h1 := (h t List.mem_cons_self).2.1
    rw [List.flatMap_cons, List.length_append, ih, h1, List.map_cons, List.sum_cons, List.length_cons]; omega
theorem rows_lev {H : HP α} : ∀ (d lo : Nat) (ts : List (Tr α)), (∀ t ∈ ts, Ok H d lo t) → Lev (rowsOf d ts) ts.length (lo : Int)
  | 0, lo, ts, h => by
    refine ⟨by simp [rowOf], fun c hc => ?_, trivial⟩
    obtain ⟨t, ht, rfl⟩ := List.mem_map.1 hc
    have h1 := (h t ht).lo
    have h2 := (h t ht).hi
    constructor <;> omega
  | d + 1, lo, ts, h => by
    refine ⟨by simp [rowOf], fun c hc => ?_, ?_⟩
    · obtain ⟨t, ht, rfl⟩ := List.mem_map.1 hc
      have h1 := (h t ht).lo
      have h2 := (h t ht).hi
      constructor <;> omega
    · have h1 := rows_lev d 3 (ts.flatMap Tr.ks) (kids_ok h)
      rw [rowOf_sum, Int.toNat_natCast, ← kids_num h]
      exact h1
theorem rows_total {H : HP α} : ∀ (d lo : Nat) (ts : List (Tr α)), (∀ t ∈ ts, Ok H d lo t) → total (rowsOf d ts) = (cnt d ts : Int)
  | 0, lo, ts, h => by
    unfold total cnt
    rw [rowsOf, List.map_cons, List.sum_cons, List.map_nil, List.sum_nil, rowOf_sum, Int.add_zero]; rfl
  | d + 1, lo, ts, h => by
    have h1 := rows_total d 3 (ts.flatMap Tr.ks) (kids_ok h)
    have h2 := mass_kids h
    rw [mass_cnt, mass_cnt, kids_num h] at h2
    unfold total at h1 ⊢
    rw [rowsOf, List.map_cons, List.sum_cons, h1, rowOf_sum]; omega
/-- What Shape tells of a bag of n numbers. -/
structure GoodRows (n : Nat) (rows : List (List Int)) : Prop where
  none : n = 0 → rows = []
  some : n ≠ 0 → rows ≠ [] ∧ Lev rows 1 1 ∧ total rows = (n : Int)
  deep : rows.length ≤ n
end Go.Proofs.Ytkfcflflgecljaa.H
