/- New and Len of a bag over string. -/
import Derived.Test.YtkfcflflgecljaaHBagXS
set_option linter.unusedVariables false
set_option linter.unusedSimpArgs false
namespace Go.Proofs.Ytkfcflflgecljaa.H
open Go.RowKit Go.Proofs.YtkfcflflgecljaaW.PrintWords Go.Proofs.YtkfcflflgecljaaW.PrintLast
set_option maxRecDepth 100000
def NewS (w : World) (e : Ending) (w' : World) : Prop :=
  ∃ own' H' bb t', e = .returned (.pointer (some ⟨bb, 0, none⟩)) ∧ BagAt LS 72 w' own' H' bb 0 t' ∧ t'.es = [] ∧ Below w.heap.size w w' ∧ (∀ k, k < w.heap.size → own' k = none) ∧ w.heap.size ≤ bb
theorem new_bagS (w : World) : NewS w (.returned (.pointer (some ⟨w.heap.size + 1, 0, none⟩))) ((w.alloc (.cells #[.slice none 0 0, .slice none 0 0, .slice none 0 0] 70)).alloc (.cells #[.pointer (some ⟨w.heap.size, 0, none⟩), .int .i64 0] 72)) := by
  have h0 : Heap LS w (fun _ => none) (fun _ => none) := ⟨fun _ _ h => (Option.some_ne_none _ h.symm).elim, fun _ _ h => (Option.some_ne_none _ h.symm).elim, fun _ h => (Option.some_ne_none _ h.symm).elim⟩
  obtain ⟨own1, h1, h2, h3⟩ := h0.new (w := w) (Below.refl _ _) ⟨[], [], []⟩ (v0 := .slice none 0 0) (v1 := .slice none 0 0) (v2 := .slice none 0 0) ⟨rfl, .inl ⟨rfl, rfl⟩⟩ ⟨rfl, .inl ⟨rfl, rfl⟩⟩ ⟨rfl, .inl ⟨rfl, rfl⟩⟩ (.inl rfl) (.inl rfl)
  have hs : (w.alloc (.cells #[.slice none 0 0, .slice none 0 0, .slice none 0 0] 70)).heap.size = w.heap.size + 1 := by show (w.heap.push _).size = _; simp
  simp only [show LS.tN = 70 from rfl] at h1 h2
  have hb := h1.lt
  have hout : own1 (w.heap.size + 1) = none := by
    cases e : own1 (w.heap.size + 1) with
    | none => rfl
    | some o =>
      have := hb _ _ e
      have : w.heap.size + 1 < w.heap.size + 1 := by rw [← hs]; exact hs ▸ this
      omega
  have hB : Below w.heap.size w ((w.alloc (.cells #[.slice none 0 0, .slice none 0 0, .slice none 0 0] 70)).alloc (.cells #[.pointer (some ⟨w.heap.size, 0, none⟩), .int .i64 0] 72)) := ((Below.refl _ _).alloc (Nat.le_refl _) _).alloc (by rw [hs]; omega) _
  refine ⟨own1, upd (fun _ => none) w.heap.size ⟨[], [], []⟩, w.heap.size + 1, Tr.mk w.heap.size [] [], rfl, ⟨?_, ⟨upd_same _ _ _, rfl, Nat.le_refl _, by simp⟩, by simp [fp], List.Pairwise.nil, fun h => absurd rfl h, (show (0 : Nat) < 2 ^ 62 by decide), ?_, hout⟩, rfl, hB, fun k hk => h2.keep k hk, Nat.le_succ _⟩
  · refine h1.moved (fun k o hk => ?_) (fun k hk => ?_) fun _ => rfl
    · have := hb k o hk
      show k < (Array.push _ _).size
      rw [Array.size_push]; exact Nat.lt_succ_of_lt this
    · obtain ⟨o, ho⟩ := Option.ne_none_iff_exists'.1 hk
      have hl := hb k o ho
      show (Array.push _ _)[k]? = _
      rw [Array.getElem?_push_lt hl, Array.getElem?_eq_getElem hl]
  · have h9 := Array.getElem?_push_size (xs := (w.alloc (.cells #[.slice none 0 0, .slice none 0 0, .slice none 0 0] 70)).heap) (x := Obj.cells #[.pointer (some ⟨w.heap.size, 0, none⟩), .int .i64 0] 72)
    rw [hs] at h9; exact h9
theorem bnewS.calls (w : World) : Calls Try.prog 21 #[] w (NewS w) := by
  have HQ := Aside0.mk (new_bagS w)
  generalize NewS w = Q at HQ ⊢
  go_enter Try.func21, Try.ntmps21
  go_wp2_with fail
  first | go_ret | skip
  exact HQ.out
theorem blenS.calls {own : Own} {H : HP ByteArray} (bb d : Nat) (t : Tr ByteArray) (w : World) (hB : BagAt LS 72 w own H bb d t) :
    Calls Try.prog 23 #[.pointer (some ⟨bb, 0, none⟩)] w (fun e w' => e = .returned (.int .i64 ((ents d t).length : Int)) ∧ w' = w) := by
  have q1 : w.cell? ⟨bb, 1, none⟩ = some (.int .i64 ((ents d t).length : Int)) := by rw [cell_of_row w bb 1 _ _ (0, 0) hB.cell]; rfl
  clear hB
  generalize (ents d t).length = n at q1 ⊢
  go_enter Try.func23, Try.ntmps23
  go_wp2_with fail
  first | go_ret | skip
  exact ⟨rfl, rfl⟩
end Go.Proofs.Ytkfcflflgecljaa.H
