/- nautiluslaw02.shown answers true. -/
import Derived.Test.YtkfcflflgecljaaHBagZS
import Derived.Deep.QuietTactic
import Derived.BigQuiet
set_option linter.unusedVariables false
set_option linter.unusedSimpArgs false
namespace Go.Proofs.Ytkfcflflgecljaa.H
open Go.RowKit Go.Proofs.YtkfcflflgecljaaW.PrintWords Go.Proofs.YtkfcflflgecljaaW.PrintLast
set_option maxRecDepth 100000
set_option maxHeartbeats 4000000 in
theorem shown.calls (base : Nat) (w0 w : World) (h : Below base w0 w) (hb : base ≤ w.heap.size) : Calls Try.prog 9 #[] w (fun e w' => e = .returned (.bool true) ∧ Below base w0 w' ∧ base ≤ w'.heap.size) := by
  have HN := Aside0.mk (znewS base w0 w h hb)
  clear h hb
  go_enter Try.func9, Try.ntmps9
  go_wp2_with fail
  refine HN.out.mono ?_
  rintro e w1 ⟨own1, bb, rfl, F1⟩
  have H2 := Aside0.mk (zputS F1 (by decide) 5 ⟨#[97]⟩)
  clear F1 HN
  go_wp2_with fail
  refine H2.out.mono ?_
  rintro e w2 ⟨own2, rfl, F2⟩
  rw [show (getL (5 : Int) ([] : List (Int × ByteArray))).isSome = false from rfl]
  have H3 := Aside0.mk (zputS F2 (by decide) 5 ⟨#[98]⟩)
  clear F2 H2
  go_wp2_with fail
  refine H3.out.mono ?_
  rintro e w3 ⟨own3, rfl, F3⟩
  rw [show (getL (5 : Int) (insL (5 : Int) (⟨#[97]⟩ : ByteArray) [])).isSome = true from rfl]
  rw [show insL (5 : Int) (⟨#[98]⟩ : ByteArray) (insL (5 : Int) (⟨#[97]⟩ : ByteArray) []) = [(5, ⟨#[98]⟩)] from rfl] at F3
  have H4 := zgetS F3 5
  rw [show getL (5 : Int) [(5, (⟨#[98]⟩ : ByteArray))] = some ⟨#[98]⟩ from rfl] at H4
  have H4 := Aside0.mk H4
  have H5 := zdropS F3 5
  rw [show getL (5 : Int) [(5, (⟨#[98]⟩ : ByteArray))] = some ⟨#[98]⟩ from rfl, show delL (5 : Int) [(5, (⟨#[98]⟩ : ByteArray))] = [] from rfl] at H5
  have H5 := Aside0.mk H5
  clear F3 H3
  go_wp2_with (go_at_call 25; refine H4.out.mono ?_; rintro e w' ⟨rfl, hw⟩; obtain rfl := hw.symm; clear hw)
  refine H5.out.mono ?_
  rintro e w4 ⟨own4, rfl, F4⟩
  have H6 := zdropS F4 5
  rw [show getL (5 : Int) ([] : List (Int × ByteArray)) = none from rfl, show delL (5 : Int) ([] : List (Int × ByteArray)) = [] from rfl] at H6
  have H6 := Aside0.mk H6
  clear F4 H4 H5
  go_wp2_with fail
  refine H6.out.mono ?_
  rintro e w5 ⟨own5, rfl, F5⟩
  have H7 := Aside0.mk (zlenS F5)
  have FIN := Aside0.mk (And.intro F5.below F5.size)
  clear F5 H6
  go_wp2_with (go_at_call 23; refine H7.out.mono ?_; rintro e w' ⟨rfl, hw⟩; obtain rfl := hw.symm; clear hw)
  first | go_ret | skip
  exact ⟨rfl, FIN.out⟩
end Go.Proofs.Ytkfcflflgecljaa.H
