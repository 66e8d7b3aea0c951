/- Plain laws: what stands in a tree ahead of one of its kids; what a walk from a number on tells. -/
import Derived.Test.YtkfcflflgecljaaHBagO
set_option linter.unusedVariables false
namespace Go.Proofs.Ytkfcflflgecljaa.H
variable {α : Type}
/-- Those from a number on. -/
def fr (a : Int) (l : List (Int × α)) : List (Int × α) := l.filter (fun e => decide (a ≤ e.1))
theorem fr_append (a : Int) (l m : List (Int × α)) : fr a (l ++ m) = fr a l ++ fr a m := List.filter_append ..
theorem fr_one {a : Int} {e : Int × α} (h : a ≤ e.1) : fr a [e] = [e] := by simp [fr, h]
theorem fr_none {a : Int} {l : List (Int × α)} (h : ∀ x ∈ l, x.1 < a) : fr a l = [] := filter_none fun x hx => by have := h x hx; simp; omega
theorem wpre_snoc : ∀ (L : List (Int × α)) (A : List (List (Int × α))) (e : Int × α) (c : List (Int × α)), A.length = L.length → wpre (L ++ [e]) (A ++ [c]) = wpre L A ++ (c ++ [e])
  | [], [], e, c, _ => by simp [wpre]
  | x :: L, a :: A, e, c, h => by rw [List.cons_append, List.cons_append, wpre, wpre_snoc L A e c (by simpa using h), wpre]; simp
  | [], a :: A, _, _, h => by simp at h
  | x :: L, [], _, _, h => by simp at h
theorem weave_empty : ∀ (es : List (Int × α)), weave es (List.replicate (es.length + 1) []) = es
  | [] => rfl
  | e :: es => by rw [List.length_cons, List.replicate_succ, weave, weave_empty es]; rfl
/-- What stands below each kid (of a leaf: nothing). -/
def csOf : Nat → Tr α → List (List (Int × α))
  | 0, t => List.replicate (t.es.length + 1) []
  | d + 1, t => t.ks.map (ents d)
theorem csOf_len {d : Nat} {t : Tr α} (h : ∀ d', d = d' + 1 → t.ks.length = t.es.length + 1) : (csOf d t).length = t.es.length + 1 := by
  cases d with
  | zero => simp [csOf]
  | succ d => simp [csOf, h d rfl]
theorem ents_cs (d : Nat) (t : Tr α) : ents d t = weave t.es (csOf d t) := by
  cases d with
  | zero => exact (weave_empty t.es).symm
  | succ d => rfl
/-- What stands ahead of the i-th kid. -/
def bef (es : List (Int × α)) (cs : List (List (Int × α))) (i : Nat) : List (Int × α) := wpre (es.take i) (cs.take i)
theorem bef_split {es : List (Int × α)} {cs : List (List (Int × α))} (h : cs.length = es.length + 1) {i : Nat} {c : List (Int × α)} (hc : cs[i]? = some c) :
    weave es cs = bef es cs i ++ c ++ wpost (es.drop i) (cs.drop (i + 1)) := by
  obtain ⟨hi, hc'⟩ := List.getElem?_eq_some_iff.1 hc
  have h1 : cs = cs.take i ++ c :: cs.drop (i + 1) := by
    rw [← hc', ← List.drop_eq_getElem_cons hi, List.take_append_drop]
  have h2 := weave_kid (es.take i) (es.drop i) (cs.take i) (cs.drop (i + 1)) c (by rw [List.length_take, List.length_take]; omega) (by rw [List.length_drop, List.length_drop]; omega)
  rw [List.take_append_drop, ← h1] at h2
  exact h2
theorem bef_succ {es : List (Int × α)} {cs : List (List (Int × α))} (h : cs.length = es.length + 1) {i : Nat} {c : List (Int × α)} {e : Int × α} (hc : cs[i]? = some c) (he : es[i]? = some e) :
    bef es cs (i + 1) = bef es cs i ++ (c ++ [e]) := by
  obtain ⟨hi, hc'⟩ := List.getElem?_eq_some_iff.1 hc
  obtain ⟨hi2, he'⟩ := List.getElem?_eq_some_iff.1 he
  unfold bef
  rw [List.take_succ_eq_append_getElem hi, List.take_succ_eq_append_getElem hi2, hc', he']
  exact wpre_snoc _ _ _ _ (by rw [List.length_take, List.length_take]; omega)
theorem bef_low {es : List (Int × α)} {cs : List (List (Int × α))} (h : cs.length = es.length + 1) (hr : Rise (weave es cs)) {i : Nat} (hi : i ≤ es.length) {a : Int} (hl : ∀ x ∈ es.take i, x.1 < a) : fr a (bef es cs i) = [] := by
  refine fr_none (pre_lt _ _ a ?_ hl)
  obtain ⟨c, hc⟩ : ∃ c, cs[i]? = some c := ⟨_, List.getElem?_eq_getElem (by omega)⟩
  have := bef_split h hc
  rw [this, List.append_assoc] at hr
  exact (rise_append.1 hr).1
/-- A round of a walk: behind what was told comes what stands below the i-th kid, then the i-th number. -/
theorem round_at {es es0 pre post : List (Int × α)} {cs : List (List (Int × α))} {a : Int} (h : cs.length = es.length + 1) (h0 : es0 = pre ++ fr a (weave es cs) ++ post) {i : Nat} {c : List (Int × α)} (hc : cs[i]? = some c) :
    ∃ post', es0 = (pre ++ fr a (bef es cs i)) ++ fr a c ++ post' ∧
      (∀ e, es[i]? = some e → a ≤ e.1 → es0[(pre ++ fr a (bef es cs i) ++ fr a c).length]? = some e ∧ fr a (bef es cs (i + 1)) = fr a (bef es cs i) ++ fr a c ++ [e]) ∧
      (i = es.length → fr a (weave es cs) = fr a (bef es cs i) ++ fr a c) := by
  have h1 := bef_split h hc
  refine ⟨fr a (wpost (es.drop i) (cs.drop (i + 1))) ++ post, by rw [h0, h1, fr_append, fr_append]; simp, fun e he hae => ⟨?_, ?_⟩, fun hi => ?_⟩
  · obtain ⟨hi2, he'⟩ := List.getElem?_eq_some_iff.1 he
    have h2 := List.drop_eq_getElem_cons hi2
    rw [he'] at h2
    have h3 : i + 1 < cs.length := by omega
    have h4 := List.drop_eq_getElem_cons h3
    rw [h0, h1, h2, h4, wpost_cons, fr_append, fr_append, List.cons_append, ← List.singleton_append, fr_append, fr_one hae]
    rw [show pre ++ (fr a (bef es cs i) ++ fr a c ++ ([e] ++ fr a (cs[i + 1] ++ wpost (es.drop (i + 1)) (cs.drop (i + 1 + 1))))) ++ post = (pre ++ fr a (bef es cs i) ++ fr a c) ++ e :: (fr a (cs[i + 1] ++ wpost (es.drop (i + 1)) (cs.drop (i + 1 + 1))) ++ post) by simp]
    rw [List.getElem?_append_right (Nat.le_refl _)]
    simp
  · rw [bef_succ h hc he, fr_append, fr_append, fr_one hae, List.append_assoc]
  · rw [h1, hi, List.drop_length]
    rw [show wpost ([] : List (Int × α)) (cs.drop (es.length + 1)) = [] by cases cs.drop (es.length + 1) <;> rfl]
    rw [List.append_nil, fr_append]
/-- The numbers from one on, ahead of another one. -/
def keysL (a lim : Int) (l : List (Int × α)) : List Int := ((fr a l).map Prod.fst).filter (fun k => decide (k < lim))
theorem below_take {l : List (Int × α)} {k : Nat} {lim : Int} (h1 : ∀ e ∈ l.take k, e.1 < lim) (h2 : ∀ e ∈ l.drop k, lim ≤ e.1) : (l.map Prod.fst).filter (fun k => decide (k < lim)) = (l.take k).map Prod.fst := by
  conv => lhs; rw [← List.take_append_drop k l]
  rw [List.map_append, List.filter_append, List.filter_eq_self.2, List.filter_eq_nil_iff.2, List.append_nil]
  · intro x hx
    obtain ⟨e, he, rfl⟩ := List.mem_map.1 hx
    have := h2 e he
    simp; omega
  · intro x hx
    obtain ⟨e, he, rfl⟩ := List.mem_map.1 hx
    have := h1 e he
    simpa using this
/-- Behind a number that is not ahead of lim there is none that is. -/
theorem rise_drop {l : List (Int × α)} (hr : Rise l) {k : Nat} {e : Int × α} (he : l[k]? = some e) {lim : Int} (h : lim ≤ e.1) : ∀ x ∈ l.drop k, lim ≤ x.1 := by
  obtain ⟨hk, he'⟩ := List.getElem?_eq_some_iff.1 he
  have h2 : Rise (l.drop k) := hr.sub (List.drop_sublist k l)
  rw [List.drop_eq_getElem_cons hk, he'] at h2 ⊢
  intro x hx
  rcases List.mem_cons.1 hx with rfl | hx
  · exact h
  · have := (rise_cons.1 h2).1 x hx; omega
theorem rise_fr {l : List (Int × α)} (h : Rise l) (a : Int) : Rise (fr a l) := h.sub List.filter_sublist
end Go.Proofs.Ytkfcflflgecljaa.H
