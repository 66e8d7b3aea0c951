/- A slice that comes in as a row's argument, read as the print's list: whatever its elements. -/
import Derived.Test.YthgefgjaihagoaaWWords
import Derived.Deep.Slices
import Derived.Deep.Fields
import Derived.ChangeSame
import Derived.ChangeArms
import Derived.DataReads
set_option linter.unusedVariables false
set_option linter.unusedSimpArgs false
namespace Go.Proofs.Ythgefgjaihagoaa.H
open Go Go.RowKit Go.ChangeShapes Go.WideShapes Go.Deep Go.Proofs.YthgefgjaihagoaaW.PrintWords

theorem list_of {α : Type} {Q : Nat → α → Prop} : ∀ n, (∀ i, i < n → ∃ p, Q i p) → ∃ l : List α, l.length = n ∧ ∀ (j : Nat) (p : α), l[j]? = some p → Q j p
  | 0, _ => ⟨[], rfl, fun j p h => by simp at h⟩
  | n + 1, h => by
    obtain ⟨l, hl, hq⟩ := list_of n (fun i hi => h i (by omega))
    obtain ⟨p, hp⟩ := h n (by omega)
    refine ⟨l ++ [p], by simp [hl], fun j q hj => ?_⟩
    by_cases e : j < n
    · rw [List.getElem?_append_left (by omega)] at hj; exact hq j q hj
    · rw [List.getElem?_append_right (by omega)] at hj
      have e2 : j = n := by
        have := (List.getElem?_eq_some_iff.1 hj).1
        simp at this; omega
      subst e2
      simp [hl] at hj
      exact hj ▸ hp

theorem rows_of {α : Type} (d : Kd α) {H : Type} {enc : TypeId × Value → H} {P : Program} {W : World} {base : Nat} {sp : Nat → Bool} {held : Bool} {t e : TypeId} {fuel : Nat} {cs : List Value} {x : DataW H × List MemPlace}
    (ht : P.underlying t = some (.slice e)) (hsz : P.cellsOf e = d.sz) (Pr : α → Prop)
    (hel : ∀ (cs : List Value) (n : Nat) (y : DataW H × List MemPlace), DataW.trod enc P W base sp held n e cs = some y → ∃ p, Pr p ∧ cs.length = d.sz ∧ d.K W p cs)
    (h : DataW.trod enc P W base sp held fuel t cs = some x) :
    ∃ (A : Option Addr) (len cap : Nat) (l : List α), cs = [.slice A len cap] ∧ l.length = len ∧ len ≤ cap ∧ len ≤ maxLen ∧ Kd.C d W A len l ∧ ∀ p ∈ l, Pr p := by
  rcases open_slice ht h with ⟨rfl, _⟩ | ⟨a, len, cap, m, n, D, Pl, rfl, hb, hl, hm, hmm, hx, hi⟩
  · exact ⟨none, 0, 0, [], rfl, rfl, Nat.le_refl _, Nat.zero_le _, Kd.C_nil d W, fun p hp => by simp at hp⟩
  · have hlm : len ≤ m := by rw [hmm]; split <;> omega
    obtain ⟨l, hll, hq⟩ := list_of (Q := fun i p => Pr p ∧ ∃ c, c.length = d.sz ∧ d.K W p c ∧ ∀ j u, c[j]? = some u → W.cell? (a.add (i * d.sz + j)) = some u) len (fun i hil => by
      obtain ⟨cs', hc, ht'⟩ := hi i (by omega)
      obtain ⟨p, hp, hpl, hK⟩ := hel cs' n _ ht'
      obtain ⟨_, hcl, hat⟩ := World.cells?_some hc
      refine ⟨p, hp, cs', hpl, hK, fun j u hj => ?_⟩
      have hjl : j < P.cellsOf e := by rw [hsz, ← hpl]; exact (List.getElem?_eq_some_iff.1 hj).1
      have := hat j hjl
      rw [hsz, Go.Deep.add_add] at this
      rw [this]; exact hj)
    have hlen : len ≤ maxLen := Nat.le_trans hl hm
    refine ⟨some a, len, cap, l, rfl, hll, hl, hlen, ⟨hll, by unfold maxLen at hlen; omega, fun _ => ⟨a, rfl, fun j p hj => ?_⟩⟩, fun p hp => ?_⟩
    · obtain ⟨_, c, h1, h2, h3⟩ := hq j p hj
      exact ⟨c, h1, h2, h3⟩
    · obtain ⟨j, hj, e⟩ := List.mem_iff_getElem.1 hp
      exact (hq j p (List.getElem?_eq_some_iff.2 ⟨hj, e⟩)).1
end Go.Proofs.Ythgefgjaihagoaa.H
