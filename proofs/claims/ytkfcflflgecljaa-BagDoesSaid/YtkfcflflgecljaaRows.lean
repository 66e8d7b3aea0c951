/-
  No cell of these rows narrows 'for every input' (looked for: loops, veiled, ifaces, maps, wideKeys, modest, calm, conditions, laid).
  DERIVED. THE GIVEN ROWS OF THIS SEAT. 6 by the template 'for every input the law returns true; each argument reads behind the call as it read before'; 0 by the template 'total and deterministic' (their statements: YtkfcflflgecljaaTotals.lean).
  GIVEN WITH THE SEED: the statements are not yours to turn. If you find one false, say at which input.
  Laid BY PROGRAM, IN A SANDBOX (cutbox-rows.mjs): the forced cells as the released guide's own fill.sh prints them over the translation 55fdc13ad11e97f3… (all of the seat's roots in one cut). By AI agents, Wed Nov 11 2026. No macro, syntax, notation, axiom, sorry.
-/
import Derived.Test.YtkfcflflgecljaaChecked
import GoSem.Claim
import GoSem.ClaimJoined
import GoSem.ClaimMapViews
import Derived.JoinedTies
import Derived.KernelRfl
namespace Go.Proofs.Ytkfcflflgecljaa
/- THE CELL 'sum', in the pinned program and in every row, IS THE sha256 OF THE DUMP (.gsa) THAT YtkfcflflgecljaaProg.lean LOADS. Nothing in Lean hashes anything: it is a label: what it is worth is what the hold of that sum in a sandbox is worth. -/
noncomputable def Try.pinned : Pinned := { name := "ytkfcflflgecljaa", sum := "55fdc13ad11e97f3a9abc3ba9acfa893f6e11d68fdf3a1120be87a593778ba80", checked := Try.checked }
namespace Rows
def none {H : Type} : Left H := { results := [], args := [] }

/-- 'nautiluslaw02.BagOne': WHATEVER THE INPUT: true; the input reads as it did. -/
def bagOneSpec : ChangeSpec := { name := "bagOne", fn := fun _ => fun
  | [d1, d2, d3] => { results := [.lit (.bool true)], args := [d1, d2, d3] }
  | _ => none }
def bagOneRow : OpenClaim := { program := "ytkfcflflgecljaa", sum := "55fdc13ad11e97f3a9abc3ba9acfa893f6e11d68fdf3a1120be87a593778ba80", func := "nautilus/nautiluslaw02.BagOne", spec := "bagOne", inPlace := ["slices.overlaps[int64]", "slices.overlaps[string]", "slices.overlaps[*nautilus/bag.node[string]]", "slices.overlaps[*nautilus/bag.node[int64]]"], recurses := true, apart := false }
def BagOneSaid : Prop := bagOneRow.holds Try.pinned (OpenSpec.ofChange bagOneSpec)

/-- ITS FALSE NEIGHBOUR: 'it returns false'. Refute it at one input. -/
def bagOneWrong : ChangeSpec := { name := "bagOne", fn := fun _ => fun
  | [d1, d2, d3] => { results := [.lit (.bool false)], args := [d1, d2, d3] }
  | _ => none }
def BagOneWrongFalsely : Prop := bagOneRow.holds Try.pinned (OpenSpec.ofChange bagOneWrong)

/-- 'nautiluslaw02.BagWalks': WHATEVER THE INPUT: true; the input reads as it did. -/
def bagWalksSpec : ChangeSpec := { name := "bagWalks", fn := fun _ => fun
  | [d1, d2, d3] => { results := [.lit (.bool true)], args := [d1, d2, d3] }
  | _ => none }
def bagWalksRow : OpenClaim := { program := "ytkfcflflgecljaa", sum := "55fdc13ad11e97f3a9abc3ba9acfa893f6e11d68fdf3a1120be87a593778ba80", func := "nautilus/nautiluslaw02.BagWalks", spec := "bagWalks", inPlace := ["slices.overlaps[int64]", "slices.overlaps[string]", "slices.overlaps[*nautilus/bag.node[string]]", "slices.overlaps[*nautilus/bag.node[int64]]"], unfollowed := true, recurses := true, apart := false }
def BagWalksSaid : Prop := bagWalksRow.holds Try.pinned (OpenSpec.ofChange bagWalksSpec)

/-- ITS FALSE NEIGHBOUR: 'it returns false'. Refute it at one input. -/
def bagWalksWrong : ChangeSpec := { name := "bagWalks", fn := fun _ => fun
  | [d1, d2, d3] => { results := [.lit (.bool false)], args := [d1, d2, d3] }
  | _ => none }
def BagWalksWrongFalsely : Prop := bagWalksRow.holds Try.pinned (OpenSpec.ofChange bagWalksWrong)

/-- 'nautiluslaw02.BagOrders': WHATEVER THE INPUT: true; the input reads as it did. -/
def bagOrdersSpec : ChangeSpec := { name := "bagOrders", fn := fun _ => fun
  | [d1, d2] => { results := [.lit (.bool true)], args := [d1, d2] }
  | _ => none }
def bagOrdersRow : OpenClaim := { program := "ytkfcflflgecljaa", sum := "55fdc13ad11e97f3a9abc3ba9acfa893f6e11d68fdf3a1120be87a593778ba80", func := "nautilus/nautiluslaw02.BagOrders", spec := "bagOrders", inPlace := ["slices.overlaps[int64]", "slices.overlaps[string]", "slices.overlaps[*nautilus/bag.node[string]]", "slices.overlaps[*nautilus/bag.node[int64]]"], unfollowed := true, recurses := true, apart := false }
def BagOrdersSaid : Prop := bagOrdersRow.holds Try.pinned (OpenSpec.ofChange bagOrdersSpec)

/-- ITS FALSE NEIGHBOUR: 'it returns false'. Refute it at one input. -/
def bagOrdersWrong : ChangeSpec := { name := "bagOrders", fn := fun _ => fun
  | [d1, d2] => { results := [.lit (.bool false)], args := [d1, d2] }
  | _ => none }
def BagOrdersWrongFalsely : Prop := bagOrdersRow.holds Try.pinned (OpenSpec.ofChange bagOrdersWrong)

/-- 'nautiluslaw02.BagDoes': WHATEVER THE INPUT: true; the input reads as it did. -/
def bagDoesSpec : ChangeSpec := { name := "bagDoes", fn := fun _ => fun
  | [d] => { results := [.lit (.bool true)], args := [d] }
  | _ => none }
def bagDoesRow : OpenClaim := { program := "ytkfcflflgecljaa", sum := "55fdc13ad11e97f3a9abc3ba9acfa893f6e11d68fdf3a1120be87a593778ba80", func := "nautilus/nautiluslaw02.BagDoes", spec := "bagDoes", inPlace := ["slices.overlaps[int64]", "slices.overlaps[string]", "slices.overlaps[*nautilus/bag.node[string]]"], unfollowed := true, recurses := true, apart := false }
def BagDoesSaid : Prop := bagDoesRow.holds Try.pinned (OpenSpec.ofChange bagDoesSpec)

/-- ITS FALSE NEIGHBOUR: 'it returns false'. Refute it at one input. -/
def bagDoesWrong : ChangeSpec := { name := "bagDoes", fn := fun _ => fun
  | [d] => { results := [.lit (.bool false)], args := [d] }
  | _ => none }
def BagDoesWrongFalsely : Prop := bagDoesRow.holds Try.pinned (OpenSpec.ofChange bagDoesWrong)

/-- 'nautiluslaw02.BagNone': WHATEVER THE INPUT: true; the input reads as it did. -/
def bagNoneSpec : ChangeSpec := { name := "bagNone", fn := fun _ => fun
  | [d1, d2] => { results := [.lit (.bool true)], args := [d1, d2] }
  | _ => none }
def bagNoneRow : OpenClaim := { program := "ytkfcflflgecljaa", sum := "55fdc13ad11e97f3a9abc3ba9acfa893f6e11d68fdf3a1120be87a593778ba80", func := "nautilus/nautiluslaw02.BagNone", spec := "bagNone", inPlace := ["slices.overlaps[int64]", "slices.overlaps[string]", "slices.overlaps[*nautilus/bag.node[string]]"], unfollowed := true, recurses := true, apart := false }
def BagNoneSaid : Prop := bagNoneRow.holds Try.pinned (OpenSpec.ofChange bagNoneSpec)

/-- ITS FALSE NEIGHBOUR: 'it returns false'. Refute it at one input. -/
def bagNoneWrong : ChangeSpec := { name := "bagNone", fn := fun _ => fun
  | [d1, d2] => { results := [.lit (.bool false)], args := [d1, d2] }
  | _ => none }
def BagNoneWrongFalsely : Prop := bagNoneRow.holds Try.pinned (OpenSpec.ofChange bagNoneWrong)

/-- 'nautiluslaw02.BagEmpties': WHATEVER THE INPUT: true; the input reads as it did. -/
def bagEmptiesSpec : ChangeSpec := { name := "bagEmpties", fn := fun _ => fun
  | [d] => { results := [.lit (.bool true)], args := [d] }
  | _ => none }
def bagEmptiesRow : OpenClaim := { program := "ytkfcflflgecljaa", sum := "55fdc13ad11e97f3a9abc3ba9acfa893f6e11d68fdf3a1120be87a593778ba80", func := "nautilus/nautiluslaw02.BagEmpties", spec := "bagEmpties", inPlace := ["slices.overlaps[int64]", "slices.overlaps[string]", "slices.overlaps[*nautilus/bag.node[string]]", "slices.overlaps[*nautilus/bag.node[int64]]"], unfollowed := true, recurses := true, apart := false }
def BagEmptiesSaid : Prop := bagEmptiesRow.holds Try.pinned (OpenSpec.ofChange bagEmptiesSpec)

/-- ITS FALSE NEIGHBOUR: 'it returns false'. Refute it at one input. -/
def bagEmptiesWrong : ChangeSpec := { name := "bagEmpties", fn := fun _ => fun
  | [d] => { results := [.lit (.bool false)], args := [d] }
  | _ => none }
def BagEmptiesWrongFalsely : Prop := bagEmptiesRow.holds Try.pinned (OpenSpec.ofChange bagEmptiesWrong)

/- THE SECOND FORM. 'bulk': how many values and letters a reading holds, each counted each time it is reached (what is shared counts as often as it is met; a slice's spare places count too). A statement '..UptoSaid' is the law's where the arguments, and the package variables that the reading takes, are together of bulk at most 1048576: NARROWER than '..Said'. Prove '..Said' where nothing that the law and all that it calls make is longer than what came in: it says more and counts as full. Else prove '..UptoSaid'. A law counts once. -/
mutual
def uptoBulk {H : Type} : DataW H → Nat
  | .lit (.string bytes) => bytes.length + 1
  | .lit _ => 1
  | .nil => 1
  | .ptr d => uptoBulk d + 1
  | .slice elems spare => uptoBulkAll elems + uptoBulkAll spare + 1
  | .agg parts => uptoBulkAll parts + 1
  | .iface _ d => uptoBulk d + 1
  | .map entries => uptoBulkEntries entries + 1
  | .held _ => 1
def uptoBulkAll {H : Type} : List (DataW H) → Nat
  | [] => 0
  | d :: r => uptoBulk d + uptoBulkAll r
def uptoBulkEntries {H : Type} : List (Lit × DataW H) → Nat
  | [] => 0
  | x :: r => uptoBulkEntry x + uptoBulkEntries r
def uptoBulkEntry {H : Type} : Lit × DataW H → Nat
  | (.string bytes, d) => bytes.length + uptoBulk d + 1
  | (_, d) => uptoBulk d + 1
 end
def uptoSmall : (H : Type) → List (DataW H) → Bool := fun _ ds => decide (uptoBulkAll ds ≤ 1048576)
def OpenSpec.upto (s : _root_.Go.ChangeSpec) : _root_.Go.OpenSpec := { _root_.Go.OpenSpec.ofChange s with cond := some uptoSmall }

/-- 'nautiluslaw02.BagOne', WHERE WHAT IT READS IS OF BULK AT MOST 1048576: true; the input reads as it did. -/
def bagOneUptoRow : OpenClaim := { program := "ytkfcflflgecljaa", sum := "55fdc13ad11e97f3a9abc3ba9acfa893f6e11d68fdf3a1120be87a593778ba80", func := "nautilus/nautiluslaw02.BagOne", spec := "bagOne", inPlace := ["slices.overlaps[int64]", "slices.overlaps[string]", "slices.overlaps[*nautilus/bag.node[string]]", "slices.overlaps[*nautilus/bag.node[int64]]"], recurses := true, apart := false, narrowed := true }
def BagOneUptoSaid : Prop := bagOneUptoRow.holds Try.pinned (OpenSpec.upto bagOneSpec)

/-- 'nautiluslaw02.BagWalks', WHERE WHAT IT READS IS OF BULK AT MOST 1048576: true; the input reads as it did. -/
def bagWalksUptoRow : OpenClaim := { program := "ytkfcflflgecljaa", sum := "55fdc13ad11e97f3a9abc3ba9acfa893f6e11d68fdf3a1120be87a593778ba80", func := "nautilus/nautiluslaw02.BagWalks", spec := "bagWalks", inPlace := ["slices.overlaps[int64]", "slices.overlaps[string]", "slices.overlaps[*nautilus/bag.node[string]]", "slices.overlaps[*nautilus/bag.node[int64]]"], unfollowed := true, recurses := true, apart := false, narrowed := true }
def BagWalksUptoSaid : Prop := bagWalksUptoRow.holds Try.pinned (OpenSpec.upto bagWalksSpec)

/-- 'nautiluslaw02.BagOrders', WHERE WHAT IT READS IS OF BULK AT MOST 1048576: true; the input reads as it did. -/
def bagOrdersUptoRow : OpenClaim := { program := "ytkfcflflgecljaa", sum := "55fdc13ad11e97f3a9abc3ba9acfa893f6e11d68fdf3a1120be87a593778ba80", func := "nautilus/nautiluslaw02.BagOrders", spec := "bagOrders", inPlace := ["slices.overlaps[int64]", "slices.overlaps[string]", "slices.overlaps[*nautilus/bag.node[string]]", "slices.overlaps[*nautilus/bag.node[int64]]"], unfollowed := true, recurses := true, apart := false, narrowed := true }
def BagOrdersUptoSaid : Prop := bagOrdersUptoRow.holds Try.pinned (OpenSpec.upto bagOrdersSpec)

/-- 'nautiluslaw02.BagDoes', WHERE WHAT IT READS IS OF BULK AT MOST 1048576: true; the input reads as it did. -/
def bagDoesUptoRow : OpenClaim := { program := "ytkfcflflgecljaa", sum := "55fdc13ad11e97f3a9abc3ba9acfa893f6e11d68fdf3a1120be87a593778ba80", func := "nautilus/nautiluslaw02.BagDoes", spec := "bagDoes", inPlace := ["slices.overlaps[int64]", "slices.overlaps[string]", "slices.overlaps[*nautilus/bag.node[string]]"], unfollowed := true, recurses := true, apart := false, narrowed := true }
def BagDoesUptoSaid : Prop := bagDoesUptoRow.holds Try.pinned (OpenSpec.upto bagDoesSpec)

/-- 'nautiluslaw02.BagNone', WHERE WHAT IT READS IS OF BULK AT MOST 1048576: true; the input reads as it did. -/
def bagNoneUptoRow : OpenClaim := { program := "ytkfcflflgecljaa", sum := "55fdc13ad11e97f3a9abc3ba9acfa893f6e11d68fdf3a1120be87a593778ba80", func := "nautilus/nautiluslaw02.BagNone", spec := "bagNone", inPlace := ["slices.overlaps[int64]", "slices.overlaps[string]", "slices.overlaps[*nautilus/bag.node[string]]"], unfollowed := true, recurses := true, apart := false, narrowed := true }
def BagNoneUptoSaid : Prop := bagNoneUptoRow.holds Try.pinned (OpenSpec.upto bagNoneSpec)

/-- 'nautiluslaw02.BagEmpties', WHERE WHAT IT READS IS OF BULK AT MOST 1048576: true; the input reads as it did. -/
def bagEmptiesUptoRow : OpenClaim := { program := "ytkfcflflgecljaa", sum := "55fdc13ad11e97f3a9abc3ba9acfa893f6e11d68fdf3a1120be87a593778ba80", func := "nautilus/nautiluslaw02.BagEmpties", spec := "bagEmpties", inPlace := ["slices.overlaps[int64]", "slices.overlaps[string]", "slices.overlaps[*nautilus/bag.node[string]]", "slices.overlaps[*nautilus/bag.node[int64]]"], unfollowed := true, recurses := true, apart := false, narrowed := true }
def BagEmptiesUptoSaid : Prop := bagEmptiesUptoRow.holds Try.pinned (OpenSpec.upto bagEmptiesSpec)

end Rows
end Go.Proofs.Ytkfcflflgecljaa
