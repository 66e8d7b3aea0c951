/- Where a log's blocks lie: the plain law. -/
import Derived.Test.YthgefgjaihagoaaHLogX
set_option linter.unusedVariables false
namespace Go.Proofs.Ythgefgjaihagoaa.Q
open Go.RowKit Go.Proofs.Ythgefgjaihagoaa.H Go.Proofs.YthgefgjaihagoaaW.PrintWords
theorem putAll_len : ∀ (bs nw : List ByteArray) (q : Nat), (putAll nw q bs).length = nw.length
  | [], _, _ => rfl
  | b :: bs, nw, q => by rw [putAll, putAll_len bs]; exact List.length_set
theorem putAll_out : ∀ (bs nw : List ByteArray) (q r : Nat), (r < q ∨ q + bs.length ≤ r) → (putAll nw q bs).getD r ⟨#[]⟩ = nw.getD r ⟨#[]⟩
  | [], _, _, _, _ => rfl
  | b :: bs, nw, q, r, h => by
    rw [putAll, putAll_out bs _ (q + 1) r (by simp only [List.length_cons] at h; omega), List.getD_eq_getElem?_getD, List.getElem?_set_ne (by simp only [List.length_cons] at h; omega), ← List.getD_eq_getElem?_getD]
theorem putAll_in : ∀ (bs nw : List ByteArray) (q j : Nat) (b : ByteArray), bs[j]? = some b → q + bs.length ≤ nw.length → (putAll nw q bs).getD (q + j) ⟨#[]⟩ = b
  | [], _, _, _, _, h, _ => by simp at h
  | x :: bs, nw, q, 0, b, h, hl => by
    simp only [List.getElem?_cons_zero, Option.some.injEq] at h
    subst h
    rw [putAll, putAll_out bs _ (q + 1) (q + 0) (by omega), Nat.add_zero, List.getD_eq_getElem?_getD, List.getElem?_set_self (by simp only [List.length_cons] at hl; omega)]
    rfl
  | x :: bs, nw, q, j + 1, b, h, hl => by
    simp only [List.getElem?_cons_succ] at h
    rw [putAll, show q + (j + 1) = q + 1 + j by omega]
    exact putAll_in bs _ (q + 1) j b h (by rw [List.length_set]; simp only [List.length_cons] at hl; omega)
theorem set_ne (nw : List ByteArray) (p r : Nat) (t : ByteArray) (h : r ≠ p) : (nw.set p t).getD r ⟨#[]⟩ = nw.getD r ⟨#[]⟩ := by
  rw [List.getD_eq_getElem?_getD, List.getElem?_set_ne (Ne.symm h), ← List.getD_eq_getElem?_getD]
/-- What stands between two records: b bounds the segments in use. -/
structure PInv (b p next : Nat) (nw : List ByteArray) (pl : List (Nat × ByteArray)) : Prop where
  low : 16 ≤ p
  high : p / 16 ≤ b
  last : p % 16 ≠ 15
  nb : next ≤ b
  ns : next ≠ p / 16
  len : nw.length = 256
  all : ∀ x ∈ pl, x.2.size ≤ 508 ∧ nw.getD x.1 ⟨#[]⟩ = wrapB x.2 ∧ x.1 < 256 ∧ (x.1 < p ∨ x.1 / 16 ≠ p / 16) ∧ (next ≠ 0 → x.1 / 16 ≠ next) ∧ x.1 / 16 ≤ b
theorem PInv.start (nw : List ByteArray) (h : nw.length = 256) : PInv 2 16 2 nw [] := ⟨by omega, by omega, by omega, by omega, by omega, h, fun x hx => by simp at hx⟩
theorem PInv.up {b p next : Nat} {nw : List ByteArray} {pl : List (Nat × ByteArray)} (h : PInv b p next nw pl) : PInv (b + 1) p next nw pl :=
  ⟨h.low, by have := h.high; omega, h.last, by have := h.nb; omega, h.ns, h.len, fun x hx => by
    obtain ⟨h1, h2, h3, h4, h5, h6⟩ := h.all x hx
    exact ⟨h1, h2, h3, h4, h5, by omega⟩⟩
theorem PInv.next {b p : Nat} {nw : List ByteArray} {pl : List (Nat × ByteArray)} (h : PInv b p 0 nw pl) : PInv (b + 1) p (b + 1) nw pl :=
  ⟨h.low, by have := h.high; omega, h.last, Nat.le_refl _, by have := h.high; omega, h.len, fun x hx => by
    obtain ⟨h1, h2, h3, h4, h5, h6⟩ := h.all x hx
    exact ⟨h1, h2, h3, h4, fun _ => by omega, by omega⟩⟩
/-- The places of what is written behind p. -/
def newP : Nat → List ByteArray → List (Nat × ByteArray)
  | _, [] => []
  | q, c :: cs => (q, c) :: newP (q + 1) cs
theorem newP_mem : ∀ (cs : List ByteArray) (q : Nat) (x : Nat × ByteArray), x ∈ newP q cs → ∃ j, cs[j]? = some x.2 ∧ x.1 = q + j
  | [], _, _, h => by simp [newP] at h
  | c :: cs, q, x, h => by
    simp only [newP, List.mem_cons] at h
    rcases h with rfl | h
    · exact ⟨0, rfl, rfl⟩
    · obtain ⟨j, h1, h2⟩ := newP_mem cs (q + 1) x h
      exact ⟨j + 1, h1, by omega⟩
theorem newP_len : ∀ (cs : List ByteArray) (q : Nat), (newP q cs).length = cs.length
  | [], _ => rfl
  | c :: cs, q => by simp [newP, newP_len cs]
theorem newP_get : ∀ (cs : List ByteArray) (q j : Nat) (c : ByteArray), cs[j]? = some c → (newP q cs)[j]? = some (q + j, c)
  | [], _, _, _, h => by simp at h
  | x :: cs, q, 0, c, h => by simpa [newP] using h
  | x :: cs, q, j + 1, c, h => by
    have := newP_get cs (q + 1) j c (by simpa using h)
    simp only [newP, List.getElem?_cons_succ]
    rw [this]; congr 2; omega
theorem newP_fst (cs : List ByteArray) (p : Nat) : ((newP (p + 1) cs).map fun x => ((x.1 : Nat) : Int)) = atsL p cs.length := by
  apply List.ext_getElem?
  intro j
  by_cases hj : j < cs.length
  · rw [List.getElem?_map, newP_get cs (p + 1) j _ (List.getElem?_eq_getElem hj)]
    unfold atsL
    rw [List.getElem?_map, List.getElem?_range hj]
    simp
  · rw [List.getElem?_eq_none (by rw [List.length_map, newP_len]; omega), List.getElem?_eq_none (by rw [atsL_len]; omega)]
theorem newP_snd : ∀ (cs : List ByteArray) (q : Nat), (newP q cs).map Prod.snd = cs
  | [], _ => rfl
  | c :: cs, q => by simp [newP, newP_snd cs]
theorem PInv.wrote {b p next : Nat} {nw : List ByteArray} {pl : List (Nat × ByteArray)} (h : PInv b p next nw pl) (hn : next ≠ 0) (hb : b ≤ 14) (cs : List ByteArray) (hc : cs.length ≤ 15 - p % 16) (hs : ∀ c ∈ cs, c.size ≤ 508) (t : ByteArray) :
    PInv b (goesAt p cs.length next) (goesNext p cs.length next) ((putAll nw (p + 1) (cs.map wrapB)).set p t) (pl ++ newP (p + 1) cs) := by
  obtain ⟨h1, h2, h3, h4, h5, h6, h7⟩ := h
  have hall : ∀ x ∈ pl ++ newP (p + 1) cs, x.2.size ≤ 508 ∧ ((putAll nw (p + 1) (cs.map wrapB)).set p t).getD x.1 ⟨#[]⟩ = wrapB x.2 ∧ x.1 < 256 ∧ (x.1 < p ∨ x.1 / 16 ≠ p / 16 ∨ (p < x.1 ∧ x.1 ≤ p + cs.length)) ∧ (x.1 / 16 ≠ next) ∧ x.1 / 16 ≤ b := by
    intro x hx
    rcases List.mem_append.1 hx with hx | hx
    · obtain ⟨a1, a2, a3, a4, a5, a6⟩ := h7 x hx
      refine ⟨a1, ?_, a3, by omega, a5 hn, a6⟩
      rw [set_ne _ _ _ _ (by omega), putAll_out _ _ _ _ (by rw [List.length_map]; omega)]
      exact a2
    · obtain ⟨j, hj, hx1⟩ := newP_mem cs (p + 1) x hx
      have hjl := (List.getElem?_eq_some_iff.1 hj).1
      refine ⟨hs _ (List.mem_of_getElem? hj), ?_, by omega, by omega, by omega, by omega⟩
      rw [set_ne _ _ _ _ (by omega), hx1]
      exact putAll_in _ _ _ _ _ (by rw [List.getElem?_map, hj]; rfl) (by rw [List.length_map]; omega)
  have hlen : ((putAll nw (p + 1) (cs.map wrapB)).set p t).length = 256 := by rw [List.length_set, putAll_len]; exact h6
  unfold goesAt goesNext
  by_cases hc2 : (p + cs.length + 1) % 16 = 0 ∨ (p + cs.length + 1) % 16 = 15
  · rw [if_pos hc2, if_pos hc2]
    refine ⟨by omega, by omega, by omega, by omega, by omega, hlen, fun x hx => ?_⟩
    obtain ⟨a1, a2, a3, a4, a5, a6⟩ := hall x hx
    exact ⟨a1, a2, a3, .inr (by omega), fun h => (h rfl).elim, a6⟩
  · rw [if_neg hc2, if_neg hc2]
    refine ⟨by omega, by omega, by omega, by omega, by omega, hlen, fun x hx => ?_⟩
    obtain ⟨a1, a2, a3, a4, a5, a6⟩ := hall x hx
    exact ⟨a1, a2, a3, by omega, fun _ => a5, a6⟩
end Go.Proofs.Ythgefgjaihagoaa.Q
