/- A bag: its two fields, its tree; what becomes of the rest when it turns. -/
import Derived.Test.YtkfcflflgecljaaHBagQ
import Derived.Test.YtkfcflflgecljaaHBagR
set_option linter.unusedVariables false
namespace Go.Proofs.Ytkfcflflgecljaa.H
open Go.RowKit
variable {α : Type}
/-- A bag lies in the block bb. -/
structure BagAt (L : Lay α) (tB : TypeId) (w : World) (own : Own) (H : HP α) (bb d : Nat) (t : Tr α) : Prop where
  heap : Heap L w own H
  ok : Ok H d 0 t
  nodup : (fp d t).Nodup
  rise : Rise (ents d t)
  one : d ≠ 0 → 1 ≤ t.es.length
  len : (ents d t).length < 2 ^ 62
  cell : w.heap[bb]? = some (.cells #[.pointer (some ⟨t.a, 0, none⟩), .int .i64 ((ents d t).length : Int)] tB (0, 0))
  out : own bb = none
/-- What becomes of the rest, but for the bag's own two fields. -/
structure FrB (bb : Nat) (own own' : Own) (w w' : World) : Prop where
  os : w'.os = w.os
  tape : w'.tape = w.tape
  output : w'.output = w.output
  size : w.heap.size ≤ w'.heap.size
  keep : ∀ k, k < w.heap.size → own' k = own k
  same : ∀ k, k < w.heap.size → k ≠ bb → own k = none → w'.heap[k]? = w.heap[k]?
theorem Fr.toB {own own' : Own} {w w' : World} (h : Fr own own' w w') (bb : Nat) : FrB bb own own' w w' := ⟨h.os, h.tape, h.output, h.size, h.keep, fun k hk _ hn => h.same k hk hn⟩
theorem FrB.refl (bb : Nat) (own : Own) (w : World) : FrB bb own own w w := (Fr.refl own w).toB bb
theorem FrB.trans {bb : Nat} {o1 o2 o3 : Own} {A B C : World} (h : FrB bb o1 o2 A B) (k : FrB bb o2 o3 B C) : FrB bb o1 o3 A C :=
  ⟨k.os.trans h.os, k.tape.trans h.tape, k.output.trans h.output, Nat.le_trans h.size k.size,
    fun i hi => (k.keep i (Nat.lt_of_lt_of_le hi h.size)).trans (h.keep i hi),
    fun i hi hb hn => (k.same i (Nat.lt_of_lt_of_le hi h.size) hb ((h.keep i hi).trans hn)).trans (h.same i hi hb hn)⟩
theorem heap_set (w : World) (b j : Nat) (v : Value) (k : Nat) (h : k ≠ b) : (w.setCell ⟨b, j, none⟩ v).heap[k]? = w.heap[k]? := Below.heap_setCell w ⟨b, j, none⟩ v k h
/-- A store into the bag's fields. -/
theorem FrB.set (bb j : Nat) (v : Value) (own : Own) (w : World) : FrB bb own own w (w.setCell ⟨bb, j, none⟩ v) := by
  refine ⟨?_, ?_, ?_, ?_, fun _ _ => rfl, fun k _ hb _ => heap_set w bb j v k hb⟩
  · rfl
  · rfl
  · rfl
  · exact Nat.le_of_eq (by simp)
theorem Heap.set {L : Lay α} {w : World} {own : Own} {H : HP α} (h : Heap L w own H) {bb : Nat} (ho : own bb = none) (j : Nat) (v : Value) : Heap L (w.setCell ⟨bb, j, none⟩ v) own H :=
  h.moved (fun k o hk => Nat.lt_of_lt_of_le (h.lt k o hk) ((FrB.set bb j v own w).size)) (fun k hk => heap_set w bb j v k (by rintro rfl; exact hk ho)) fun _ => rfl
theorem BagAt.lt {L : Lay α} {tB : TypeId} {w : World} {own : Own} {H : HP α} {bb d : Nat} {t : Tr α} (h : BagAt L tB w own H bb d t) : bb < w.heap.size := (Array.getElem?_eq_some_iff.1 h.cell).1
theorem heap_setCell2 {w : World} {a t : Nat} {v0 v1 : Value} (hc : w.heap[a]? = some (.cells #[v0, v1] t (0, 0))) (f : Nat) (v : Value) :
    (w.setCell ⟨a, f, none⟩ v).heap[a]? = some (.cells (#[v0, v1].setIfInBounds f v) t (0, 0)) := by
  rw [setCell_eq_setRow w a f _ t (0, 0) v hc]
  exact setRow_heap w a _ _ t _ hc
/-- The bag's own block stands as it was. -/
theorem BagAt.stays {L : Lay α} {tB : TypeId} {w w' : World} {own own' : Own} {H : HP α} {bb d : Nat} {t : Tr α} (h : BagAt L tB w own H bb d t) (hF : Fr own own' w w') : w'.heap[bb]? = w.heap[bb]? ∧ own' bb = none :=
  ⟨hF.same bb h.lt h.out, (hF.keep bb h.lt).trans h.out⟩
theorem heap_alloc2 (w : World) (o1 o2 : Obj) (k : Nat) (h : k < w.heap.size) : ((w.alloc o1).alloc o2).heap[k]? = w.heap[k]? := by
  show ((w.heap.push _).push _)[k]? = _
  rw [Array.getElem?_push_lt (by simp; omega), Array.getElem_push_lt h, Array.getElem?_eq_getElem h]
/-- A new root above the tree. -/
theorem BagAt.root {L : Lay α} {tB : TypeId} {w : World} {own : Own} {H : HP α} {bb d : Nat} {t : Tr α} (h : BagAt L tB w own H bb d t) (h7 : t.es.length = 7) :
    ∃ own1, Heap L (((w.alloc (.cells #[.pointer (some ⟨t.a, 0, none⟩)] (L.ty 2))).alloc (.cells #[.slice none 0 0, .slice none 0 0, .slice (some ⟨w.heap.size, 0, none⟩) 1 1] L.tN)).setCell ⟨bb, 0, none⟩ (.pointer (some ⟨w.heap.size + 1, 0, none⟩))) own1 (upd H (w.heap.size + 1) ⟨[], [], [t.a]⟩) ∧
      FrB bb own own1 w (((w.alloc (.cells #[.pointer (some ⟨t.a, 0, none⟩)] (L.ty 2))).alloc (.cells #[.slice none 0 0, .slice none 0 0, .slice (some ⟨w.heap.size, 0, none⟩) 1 1] L.tN)).setCell ⟨bb, 0, none⟩ (.pointer (some ⟨w.heap.size + 1, 0, none⟩))) ∧
      H (w.heap.size + 1) = none ∧ own1 bb = none ∧
      (((w.alloc (.cells #[.pointer (some ⟨t.a, 0, none⟩)] (L.ty 2))).alloc (.cells #[.slice none 0 0, .slice none 0 0, .slice (some ⟨w.heap.size, 0, none⟩) 1 1] L.tN)).setCell ⟨bb, 0, none⟩ (.pointer (some ⟨w.heap.size + 1, 0, none⟩))).heap[bb]? = some (.cells #[.pointer (some ⟨w.heap.size + 1, 0, none⟩), .int .i64 ((ents d t).length : Int)] tB (0, 0)) := by
  have hs : (w.alloc (.cells #[.pointer (some ⟨t.a, 0, none⟩)] (L.ty 2))).heap.size = w.heap.size + 1 := by show (w.heap.push _).size = _; simp
  obtain ⟨own1, h1, h2, h3⟩ := h.heap.new (w := w.alloc (.cells #[.pointer (some ⟨t.a, 0, none⟩)] (L.ty 2))) ((Below.refl _ _).alloc (Nat.le_refl _) _) ⟨[], [], [t.a]⟩ (v0 := .slice none 0 0) (v1 := .slice none 0 0) (v2 := .slice (some ⟨w.heap.size, 0, none⟩) 1 1)
    ⟨rfl, .inl ⟨rfl, rfl⟩⟩ ⟨rfl, .inl ⟨rfl, rfl⟩⟩ ⟨rfl, .inr ⟨w.heap.size, 1, #[.pointer (some ⟨t.a, 0, none⟩)], rfl, Nat.le_refl _, by show (w.heap.push _)[w.heap.size]? = _; simp, by simp [Nd.row], by decide, by simp, by simp [Nd.row, ptrV]⟩⟩ (.inl rfl) (.inr ⟨by simp [Value.ownBlock], by simp [Value.ownBlock]⟩)
  rw [hs] at h1 h3
  obtain ⟨b1, b2⟩ := h.stays h2
  exact ⟨own1, h1.set b2 0 _, (h2.toB bb).trans (FrB.set bb 0 _ own1 _), h3, b2, heap_setCell2 (b1.trans h.cell) 0 _⟩
/-- The old root is split below the new one. -/
theorem root_tree {H H' : HP α} {d nx b : Nat} {t : Tr α} (ho : Ok H d 0 t) (hn : (fp d t).Nodup) (hnx : H nx = none) {M N : List (Int × α)} {m : Int × α} {X Y : List (Tr α)}
    (hk : t = Tr.mk t.a (M ++ m :: N) (X ++ Y)) (hM : M.length = 3) (hN : N.length = 3) (hX : ∀ d', d = d' + 1 → X.length = 4) (hb : upd H nx ⟨[], [], [t.a]⟩ b = none)
    (q1 : H' nx = some ⟨[m.1], [m.2], [t.a, b]⟩) (q2 : H' t.a = some (Tr.mk t.a M X).nd) (q3 : H' b = some (Tr.mk b N Y).nd) (hoth : ∀ c, c ≠ nx → c ≠ t.a → c ≠ b → H' c = upd H nx ⟨[], [], [t.a]⟩ c) :
    Ok H' (d + 1) 0 (Tr.mk nx [m] [Tr.mk t.a M X, Tr.mk b N Y]) ∧ (fp (d + 1) (Tr.mk nx [m] [Tr.mk t.a M X, Tr.mk b N Y])).Nodup ∧ ents (d + 1) (Tr.mk nx [m] [Tr.mk t.a M X, Tr.mk b N Y]) = ents d t := by
  have h7 : t.es.length = 7 := by rw [hk]; simp [hM, hN]
  have hout : nx ∉ fp d t := fun h => ho.dom nx h hnx
  have hok : Ok (upd H nx ⟨[], [], [t.a]⟩) (d + 1) 0 (Tr.mk nx [] [t]) := ⟨upd_same _ _ _, rfl, Nat.zero_le _, by simp, fun k hk => by
    rw [List.mem_singleton.1 hk]
    exact (ho.low (by omega)).frame fun c hc => upd_other _ _ _ _ (by rintro rfl; exact hout hc)⟩
  have hnd : (fp (d + 1) (Tr.mk nx [] [t])).Nodup := by
    show (nx :: (fp d t ++ [])).Nodup
    rw [List.append_nil]; exact List.nodup_cons.2 ⟨hout, hn⟩
  obtain ⟨r, e⟩ := split_tree (L := []) (R := []) (A := []) (B := []) (k := t) hok hnd rfl rfl rfl rfl hk hM hN hX (by simp) hb (by exact q1) q2 q3 hoth
  exact ⟨r.ok, r.nodup, e⟩
theorem drop4 {β : Type} {A C : List β} {b : β} (h : A.length = 3) : (A ++ b :: C).drop 4 = C := by
  rw [show A ++ b :: C = (A ++ [b]) ++ C by simp, List.drop_left' (by simp [h])]
theorem delL_length {l : List (Int × α)} (hr : Rise l) {at_ : Int} (h : (getL at_ l).isSome = true) : (delL at_ l).length + 1 = l.length := by
  obtain ⟨L, R, rfl, _, hL, hR, hc⟩ := cut_at l hr at_
  by_cases hv : ∃ v R', R = (at_, v) :: R'
  · obtain ⟨v, R', rfl⟩ := hv
    rw [delL_here at_ v L R' hL fun y hy => (rise_cons.1 (rise_append.1 hr).2.1).1 y hy]
    simp; omega
  · have hg := gt_of_not (rise_append.1 hr).2.1 hR hv
    rw [getL_none at_ _ fun x hx => by
      rcases List.mem_append.1 hx with hx | hx
      · have := hL x hx; omega
      · have := hg x hx; omega] at h
    cases h
theorem delL_same {l : List (Int × α)} {at_ : Int} (h : getL at_ l = none) : delL at_ l = l := by
  refine delL_none at_ l fun x hx e => ?_
  unfold getL at h
  have := List.find?_eq_none.1 (Option.map_eq_none_iff.1 h) x hx
  simp [e] at this
theorem Rise.del {l : List (Int × α)} (h : Rise l) (at_ : Int) : Rise (delL at_ l) := h.sub (List.filter_sublist)
end Go.Proofs.Ytkfcflflgecljaa.H
