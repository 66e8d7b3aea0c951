/- New and Len of a bag over int64. -/
import Derived.Test.YtkfcflflgecljaaHBagXI
set_option linter.unusedVariables false
set_option linter.unusedSimpArgs false
namespace Go.Proofs.Ytkfcflflgecljaa.H
open Go.RowKit Go.Proofs.YtkfcflflgecljaaW.PrintWords Go.Proofs.YtkfcflflgecljaaW.PrintLast
set_option maxRecDepth 100000
def NewI (w : World) (e : Ending) (w' : World) : Prop :=
  ∃ own' H' bb t', e = .returned (.pointer (some ⟨bb, 0, none⟩)) ∧ BagAt LI 53 w' own' H' bb 0 t' ∧ t'.es = [] ∧ Below w.heap.size w w' ∧ (∀ k, k < w.heap.size → own' k = none) ∧ w.heap.size ≤ bb
theorem new_bagI (w : World) : NewI w (.returned (.pointer (some ⟨w.heap.size + 1, 0, none⟩))) ((w.alloc (.cells #[.slice none 0 0, .slice none 0 0, .slice none 0 0] 58)).alloc (.cells #[.pointer (some ⟨w.heap.size, 0, none⟩), .int .i64 0] 53)) := by
  have h0 : Heap LI w (fun _ => none) (fun _ => none) := ⟨fun _ _ h => (Option.some_ne_none _ h.symm).elim, fun _ _ h => (Option.some_ne_none _ h.symm).elim, fun _ h => (Option.some_ne_none _ h.symm).elim⟩
  obtain ⟨own1, h1, h2, h3⟩ := h0.new (w := w) (Below.refl _ _) ⟨[], [], []⟩ (v0 := .slice none 0 0) (v1 := .slice none 0 0) (v2 := .slice none 0 0) ⟨rfl, .inl ⟨rfl, rfl⟩⟩ ⟨rfl, .inl ⟨rfl, rfl⟩⟩ ⟨rfl, .inl ⟨rfl, rfl⟩⟩ (.inl rfl) (.inl rfl)
  have hs : (w.alloc (.cells #[.slice none 0 0, .slice none 0 0, .slice none 0 0] 58)).heap.size = w.heap.size + 1 := by show (w.heap.push _).size = _; simp
  simp only [show LI.tN = 58 from rfl] at h1 h2
  have hb := h1.lt
  have hout : own1 (w.heap.size + 1) = none := by
    cases e : own1 (w.heap.size + 1) with
    | none => rfl
    | some o =>
      have := hb _ _ e
      have : w.heap.size + 1 < w.heap.size + 1 := by rw [← hs]; exact hs ▸ this
      omega
  have hB : Below w.heap.size w ((w.alloc (.cells #[.slice none 0 0, .slice none 0 0, .slice none 0 0] 58)).alloc (.cells #[.pointer (some ⟨w.heap.size, 0, none⟩), .int .i64 0] 53)) := ((Below.refl _ _).alloc (Nat.le_refl _) _).alloc (by rw [hs]; omega) _
  refine ⟨own1, upd (fun _ => none) w.heap.size ⟨[], [], []⟩, w.heap.size + 1, Tr.mk w.heap.size [] [], rfl, ⟨?_, ⟨upd_same _ _ _, rfl, Nat.le_refl _, by simp⟩, by simp [fp], List.Pairwise.nil, fun h => absurd rfl h, (show (0 : Nat) < 2 ^ 62 by decide), ?_, hout⟩, rfl, hB, fun k hk => h2.keep k hk, Nat.le_succ _⟩
  · refine h1.moved (fun k o hk => ?_) (fun k hk => ?_) fun _ => rfl
    · have := hb k o hk
      show k < (Array.push _ _).size
      rw [Array.size_push]; exact Nat.lt_succ_of_lt this
    · obtain ⟨o, ho⟩ := Option.ne_none_iff_exists'.1 hk
      have hl := hb k o ho
      show (Array.push _ _)[k]? = _
      rw [Array.getElem?_push_lt hl, Array.getElem?_eq_getElem hl]
  · have h9 := Array.getElem?_push_size (xs := (w.alloc (.cells #[.slice none 0 0, .slice none 0 0, .slice none 0 0] 58)).heap) (x := Obj.cells #[.pointer (some ⟨w.heap.size, 0, none⟩), .int .i64 0] 53)
    rw [hs] at h9; exact h9
theorem bnewI.calls (w : World) : Calls Try.prog 17 #[] w (NewI w) := by
  have HQ := Aside0.mk (new_bagI w)
  generalize NewI w = Q at HQ ⊢
  go_enter Try.func17, Try.ntmps17
  go_wp2_with fail
  first | go_ret | skip
  exact HQ.out
theorem blenI.calls {own : Own} {H : HP Int} (bb d : Nat) (t : Tr Int) (w : World) (hB : BagAt LI 53 w own H bb d t) :
    Calls Try.prog 11 #[.pointer (some ⟨bb, 0, none⟩)] w (fun e w' => e = .returned (.int .i64 ((ents d t).length : Int)) ∧ w' = w) := by
  have q1 : w.cell? ⟨bb, 1, none⟩ = some (.int .i64 ((ents d t).length : Int)) := by rw [cell_of_row w bb 1 _ _ (0, 0) hB.cell]; rfl
  clear hB
  generalize (ents d t).length = n at q1 ⊢
  go_enter Try.func11, Try.ntmps11
  go_wp2_with fail
  first | go_ret | skip
  exact ⟨rfl, rfl⟩
end Go.Proofs.Ytkfcflflgecljaa.H

set_option linter.unusedVariables false
namespace Go.Proofs.Ytkfcflflgecljaa.H
open Go.RowKit Go.Proofs.YtkfcflflgecljaaW.PrintWords Go.Proofs.YtkfcflflgecljaaW.PrintLast
/-- A bag that holds es lies in bb. -/
def IsBI (w : World) (own : Own) (bb : Nat) (es : List (Int × Int)) : Prop := ∃ H d t, BagAt LI 53 w own H bb d t ∧ ents d t = es
/-- It was made behind base; ahead of that all is as it was. -/
structure FreshI (base : Nat) (w0 w : World) (own : Own) (bb : Nat) (es : List (Int × Int)) : Prop where
  is : IsBI w own bb es
  below : Below base w0 w
  size : base ≤ w.heap.size
  free : ∀ k, k < base → own k = none
  bb : base ≤ bb
theorem FreshI.next {base bb : Nat} {w0 w w' : World} {own own' : Own} {es es' : List (Int × Int)} (h : FreshI base w0 w own bb es) (hi : IsBI w' own' bb es') (f : FrB bb own own' w w') : FreshI base w0 w' own' bb es' where
  is := hi
  below := ⟨f.os.trans h.below.os, f.tape.trans h.below.tape, f.output.trans h.below.output, Nat.le_trans h.below.size f.size, fun k hk => (f.same k (Nat.lt_of_lt_of_le hk h.size) (by have := h.bb; omega) (h.free k hk)).trans (h.below.block k hk)⟩
  size := Nat.le_trans h.size f.size
  free := fun k hk => (f.keep k (Nat.lt_of_lt_of_le hk h.size)).trans (h.free k hk)
  bb := h.bb
theorem znewI (base : Nat) (w0 w : World) (h : Below base w0 w) (hb : base ≤ w.heap.size) : Calls Try.prog 17 #[] w (fun e w' => ∃ own bb, e = .returned (.pointer (some ⟨bb, 0, none⟩)) ∧ FreshI base w0 w' own bb []) := by
  refine (bnewI.calls w).mono ?_
  rintro e w' ⟨own', H', bb, t', rfl, hB, he, h1, h2, h3⟩
  refine ⟨own', bb, rfl, ⟨H', 0, t', hB, he⟩, ⟨h1.os.trans h.os, h1.tape.trans h.tape, h1.output.trans h.output, Nat.le_trans h.size h1.size, fun k hk => (h1.block k (Nat.lt_of_lt_of_le hk hb)).trans (h.block k hk)⟩, Nat.le_trans hb h1.size, fun k hk => h2 k (Nat.lt_of_lt_of_le hk hb), Nat.le_trans hb h3⟩
theorem zputI {base bb : Nat} {w0 w : World} {own : Own} {es : List (Int × Int)} (h : FreshI base w0 w own bb es) (hl : es.length + 1 < 2 ^ 62) (at_ : Int) (v : Int) :
    Calls Try.prog 13 #[.pointer (some ⟨bb, 0, none⟩), .int .i64 at_, Value.int .i64 v] w (fun e w' => ∃ own', e = .returned (.bool (getL at_ es).isSome) ∧ FreshI base w0 w' own' bb (insL at_ v es)) := by
  obtain ⟨H, d, t, hB, rfl⟩ := h.is
  refine (bputI.calls bb d t at_ v w hB hl).mono ?_
  rintro e w' ⟨own', H', d', t', rfl, hB', he, hF⟩
  exact ⟨own', rfl, h.next ⟨H', d', t', hB', he⟩ hF⟩
theorem zdropI {base bb : Nat} {w0 w : World} {own : Own} {es : List (Int × Int)} (h : FreshI base w0 w own bb es) (at_ : Int) :
    Calls Try.prog 14 #[.pointer (some ⟨bb, 0, none⟩), .int .i64 at_] w (fun e w' => ∃ own', e = .returned (.bool (getL at_ es).isSome) ∧ FreshI base w0 w' own' bb (delL at_ es)) := by
  obtain ⟨H, d, t, hB, rfl⟩ := h.is
  refine (bdropI.calls bb d t at_ w hB).mono ?_
  rintro e w' ⟨own', H', d', t', rfl, hB', he, hF⟩
  exact ⟨own', rfl, h.next ⟨H', d', t', hB', he⟩ hF⟩
theorem zgetI {base bb : Nat} {w0 w : World} {own : Own} {es : List (Int × Int)} (h : FreshI base w0 w own bb es) (at_ : Int) :
    Calls Try.prog 12 #[.pointer (some ⟨bb, 0, none⟩), .int .i64 at_] w (gotI (getL at_ es) w) := by
  obtain ⟨H, d, t, hB, rfl⟩ := h.is
  exact getI.calls bb d t _ at_ w hB.heap hB.ok hB.rise hB.cell
theorem zlenI {base bb : Nat} {w0 w : World} {own : Own} {es : List (Int × Int)} (h : FreshI base w0 w own bb es) :
    Calls Try.prog 11 #[.pointer (some ⟨bb, 0, none⟩)] w (fun e w' => e = .returned (.int .i64 (es.length : Int)) ∧ w' = w) := by
  obtain ⟨H, d, t, hB, rfl⟩ := h.is
  exact blenI.calls bb d t w hB
theorem FreshI.rise {base bb : Nat} {w0 w : World} {own : Own} {es : List (Int × Int)} (h : FreshI base w0 w own bb es) : Rise es := by
  obtain ⟨H, d, t, hB, rfl⟩ := h.is
  exact hB.rise
end Go.Proofs.Ytkfcflflgecljaa.H
