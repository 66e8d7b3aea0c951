/- A bag over string as a list of numbers and values: its calls. -/
import Derived.Test.YtkfcflflgecljaaHBagYS
set_option linter.unusedVariables false
namespace Go.Proofs.Ytkfcflflgecljaa.H
open Go.RowKit Go.Proofs.YtkfcflflgecljaaW.PrintWords Go.Proofs.YtkfcflflgecljaaW.PrintLast
/-- A bag that holds es lies in bb. -/
def IsBS (w : World) (own : Own) (bb : Nat) (es : List (Int × ByteArray)) : Prop := ∃ H d t, BagAt LS 72 w own H bb d t ∧ ents d t = es
/-- It was made behind base; ahead of that all is as it was. -/
structure FreshS (base : Nat) (w0 w : World) (own : Own) (bb : Nat) (es : List (Int × ByteArray)) : Prop where
  is : IsBS w own bb es
  below : Below base w0 w
  size : base ≤ w.heap.size
  free : ∀ k, k < base → own k = none
  bb : base ≤ bb
theorem FreshS.next {base bb : Nat} {w0 w w' : World} {own own' : Own} {es es' : List (Int × ByteArray)} (h : FreshS base w0 w own bb es) (hi : IsBS w' own' bb es') (f : FrB bb own own' w w') : FreshS base w0 w' own' bb es' where
  is := hi
  below := ⟨f.os.trans h.below.os, f.tape.trans h.below.tape, f.output.trans h.below.output, Nat.le_trans h.below.size f.size, fun k hk => (f.same k (Nat.lt_of_lt_of_le hk h.size) (by have := h.bb; omega) (h.free k hk)).trans (h.below.block k hk)⟩
  size := Nat.le_trans h.size f.size
  free := fun k hk => (f.keep k (Nat.lt_of_lt_of_le hk h.size)).trans (h.free k hk)
  bb := h.bb
theorem znewS (base : Nat) (w0 w : World) (h : Below base w0 w) (hb : base ≤ w.heap.size) : Calls Try.prog 21 #[] w (fun e w' => ∃ own bb, e = .returned (.pointer (some ⟨bb, 0, none⟩)) ∧ FreshS base w0 w' own bb []) := by
  refine (bnewS.calls w).mono ?_
  rintro e w' ⟨own', H', bb, t', rfl, hB, he, h1, h2, h3⟩
  refine ⟨own', bb, rfl, ⟨H', 0, t', hB, he⟩, ⟨h1.os.trans h.os, h1.tape.trans h.tape, h1.output.trans h.output, Nat.le_trans h.size h1.size, fun k hk => (h1.block k (Nat.lt_of_lt_of_le hk hb)).trans (h.block k hk)⟩, Nat.le_trans hb h1.size, fun k hk => h2 k (Nat.lt_of_lt_of_le hk hb), Nat.le_trans hb h3⟩
theorem zputS {base bb : Nat} {w0 w : World} {own : Own} {es : List (Int × ByteArray)} (h : FreshS base w0 w own bb es) (hl : es.length + 1 < 2 ^ 62) (at_ : Int) (v : ByteArray) :
    Calls Try.prog 27 #[.pointer (some ⟨bb, 0, none⟩), .int .i64 at_, Value.string v] w (fun e w' => ∃ own', e = .returned (.bool (getL at_ es).isSome) ∧ FreshS base w0 w' own' bb (insL at_ v es)) := by
  obtain ⟨H, d, t, hB, rfl⟩ := h.is
  refine (bputS.calls bb d t at_ v w hB hl).mono ?_
  rintro e w' ⟨own', H', d', t', rfl, hB', he, hF⟩
  exact ⟨own', rfl, h.next ⟨H', d', t', hB', he⟩ hF⟩
theorem zdropS {base bb : Nat} {w0 w : World} {own : Own} {es : List (Int × ByteArray)} (h : FreshS base w0 w own bb es) (at_ : Int) :
    Calls Try.prog 28 #[.pointer (some ⟨bb, 0, none⟩), .int .i64 at_] w (fun e w' => ∃ own', e = .returned (.bool (getL at_ es).isSome) ∧ FreshS base w0 w' own' bb (delL at_ es)) := by
  obtain ⟨H, d, t, hB, rfl⟩ := h.is
  refine (bdropS.calls bb d t at_ w hB).mono ?_
  rintro e w' ⟨own', H', d', t', rfl, hB', he, hF⟩
  exact ⟨own', rfl, h.next ⟨H', d', t', hB', he⟩ hF⟩
theorem zgetS {base bb : Nat} {w0 w : World} {own : Own} {es : List (Int × ByteArray)} (h : FreshS base w0 w own bb es) (at_ : Int) :
    Calls Try.prog 25 #[.pointer (some ⟨bb, 0, none⟩), .int .i64 at_] w (gotS (getL at_ es) w) := by
  obtain ⟨H, d, t, hB, rfl⟩ := h.is
  exact getS.calls bb d t _ at_ w hB.heap hB.ok hB.rise hB.cell
theorem zlenS {base bb : Nat} {w0 w : World} {own : Own} {es : List (Int × ByteArray)} (h : FreshS base w0 w own bb es) :
    Calls Try.prog 23 #[.pointer (some ⟨bb, 0, none⟩)] w (fun e w' => e = .returned (.int .i64 (es.length : Int)) ∧ w' = w) := by
  obtain ⟨H, d, t, hB, rfl⟩ := h.is
  exact blenS.calls bb d t w hB
theorem FreshS.rise {base bb : Nat} {w0 w : World} {own : Own} {es : List (Int × ByteArray)} (h : FreshS base w0 w own bb es) : Rise es := by
  obtain ⟨H, d, t, hB, rfl⟩ := h.is
  exact hB.rise
end Go.Proofs.Ytkfcflflgecljaa.H
