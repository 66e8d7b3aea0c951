/-
  No cell of these rows narrows 'for every input' (looked for: loops, veiled, ifaces, maps, wideKeys, modest, calm, conditions, laid).
  DERIVED. THE GIVEN ROWS OF THIS SEAT. 7 by the template 'for every input the law returns true; each argument reads behind the call as it read before'; 0 by the template 'total and deterministic' (their statements: YtigpedehlpdagaaTotals.lean).
  GIVEN WITH THE SEED: the statements are not yours to turn. If you find one false, say at which input.
  Laid BY PROGRAM, IN A SANDBOX (cutbox-rows.mjs): the forced cells as the released guide's own fill.sh prints them over the translation 23991bedd0616670… (all of the seat's roots in one cut). By AI agents, Wed Nov 11 2026. No macro, syntax, notation, axiom, sorry.
-/
import Derived.Test.YtigpedehlpdagaaChecked
import GoSem.Claim
import GoSem.ClaimJoined
import GoSem.ClaimMapViews
import Derived.JoinedTies
import Derived.KernelRfl
namespace Go.Proofs.Ytigpedehlpdagaa
/- THE CELL 'sum', in the pinned program and in every row, IS THE sha256 OF THE DUMP (.gsa) THAT YtigpedehlpdagaaProg.lean LOADS. Nothing in Lean hashes anything: it is a label: what it is worth is what the hold of that sum in a sandbox is worth. -/
noncomputable def Try.pinned : Pinned := { name := "ytigpedehlpdagaa", sum := "23991bedd0616670ab61cb66d117f437fd836144d1b09c1d96306574a244ce5c", checked := Try.checked }
namespace Rows
def none {H : Type} : Left H := { results := [], args := [] }

/-- 'nautiluslaw01.NumWidths': WHATEVER THE INPUT: true; the input reads as it did. -/
def numWidthsSpec : ChangeSpec := { name := "numWidths", fn := fun _ => fun
  | [d1, d2] => { results := [.lit (.bool true)], args := [d1, d2] }
  | _ => none }
def numWidthsRow : OpenClaim := { program := "ytigpedehlpdagaa", sum := "23991bedd0616670ab61cb66d117f437fd836144d1b09c1d96306574a244ce5c", func := "nautilus/nautiluslaw01.NumWidths", spec := "numWidths", inPlace := ["internal/abi.NoEscape"], unfollowed := true, recurses := true, apart := false }
def NumWidthsSaid : Prop := numWidthsRow.holds Try.pinned (OpenSpec.ofChange numWidthsSpec)

/-- ITS FALSE NEIGHBOUR: 'it returns false'. Refute it at one input. -/
def numWidthsWrong : ChangeSpec := { name := "numWidths", fn := fun _ => fun
  | [d1, d2] => { results := [.lit (.bool false)], args := [d1, d2] }
  | _ => none }
def NumWidthsWrongFalsely : Prop := numWidthsRow.holds Try.pinned (OpenSpec.ofChange numWidthsWrong)

/-- 'nautiluslaw01.NumApart': WHATEVER THE INPUT: true; the input reads as it did. -/
def numApartSpec : ChangeSpec := { name := "numApart", fn := fun _ => fun
  | [d1, d2, d3, d4, d5] => { results := [.lit (.bool true)], args := [d1, d2, d3, d4, d5] }
  | _ => none }
def numApartRow : OpenClaim := { program := "ytigpedehlpdagaa", sum := "23991bedd0616670ab61cb66d117f437fd836144d1b09c1d96306574a244ce5c", func := "nautilus/nautiluslaw01.NumApart", spec := "numApart", inPlace := ["internal/abi.NoEscape"], unfollowed := true, recurses := true, apart := false }
def NumApartSaid : Prop := numApartRow.holds Try.pinned (OpenSpec.ofChange numApartSpec)

/-- ITS FALSE NEIGHBOUR: 'it returns false'. Refute it at one input. -/
def numApartWrong : ChangeSpec := { name := "numApart", fn := fun _ => fun
  | [d1, d2, d3, d4, d5] => { results := [.lit (.bool false)], args := [d1, d2, d3, d4, d5] }
  | _ => none }
def NumApartWrongFalsely : Prop := numApartRow.holds Try.pinned (OpenSpec.ofChange numApartWrong)

/-- 'nautiluslaw01.NumPuts': WHATEVER THE INPUT: true; the input reads as it did. -/
def numPutsSpec : ChangeSpec := { name := "numPuts", fn := fun _ => fun
  | [d1, d2, d3, d4] => { results := [.lit (.bool true)], args := [d1, d2, d3, d4] }
  | _ => none }
def numPutsRow : OpenClaim := { program := "ytigpedehlpdagaa", sum := "23991bedd0616670ab61cb66d117f437fd836144d1b09c1d96306574a244ce5c", func := "nautilus/nautiluslaw01.NumPuts", spec := "numPuts", inPlace := ["internal/abi.NoEscape"], unfollowed := true, recurses := true, apart := false }
def NumPutsSaid : Prop := numPutsRow.holds Try.pinned (OpenSpec.ofChange numPutsSpec)

/-- ITS FALSE NEIGHBOUR: 'it returns false'. Refute it at one input. -/
def numPutsWrong : ChangeSpec := { name := "numPuts", fn := fun _ => fun
  | [d1, d2, d3, d4] => { results := [.lit (.bool false)], args := [d1, d2, d3, d4] }
  | _ => none }
def NumPutsWrongFalsely : Prop := numPutsRow.holds Try.pinned (OpenSpec.ofChange numPutsWrong)

/-- 'nautiluslaw01.NumTexts': WHATEVER THE INPUT: true; the input reads as it did. -/
def numTextsSpec : ChangeSpec := { name := "numTexts", fn := fun _ => fun
  | [d1, d2, d3] => { results := [.lit (.bool true)], args := [d1, d2, d3] }
  | _ => none }
def numTextsRow : OpenClaim := { program := "ytigpedehlpdagaa", sum := "23991bedd0616670ab61cb66d117f437fd836144d1b09c1d96306574a244ce5c", func := "nautilus/nautiluslaw01.NumTexts", spec := "numTexts", inPlace := ["internal/abi.NoEscape"], unfollowed := true, recurses := true, apart := false }
def NumTextsSaid : Prop := numTextsRow.holds Try.pinned (OpenSpec.ofChange numTextsSpec)

/-- ITS FALSE NEIGHBOUR: 'it returns false'. Refute it at one input. -/
def numTextsWrong : ChangeSpec := { name := "numTexts", fn := fun _ => fun
  | [d1, d2, d3] => { results := [.lit (.bool false)], args := [d1, d2, d3] }
  | _ => none }
def NumTextsWrongFalsely : Prop := numTextsRow.holds Try.pinned (OpenSpec.ofChange numTextsWrong)

/-- 'nautiluslaw01.NumBack': WHATEVER THE INPUT: true; the input reads as it did. -/
def numBackSpec : ChangeSpec := { name := "numBack", fn := fun _ => fun
  | [d1, d2, d3, d4, d5] => { results := [.lit (.bool true)], args := [d1, d2, d3, d4, d5] }
  | _ => none }
def numBackRow : OpenClaim := { program := "ytigpedehlpdagaa", sum := "23991bedd0616670ab61cb66d117f437fd836144d1b09c1d96306574a244ce5c", func := "nautilus/nautiluslaw01.NumBack", spec := "numBack", inPlace := ["internal/abi.NoEscape"], unfollowed := true, recurses := true, apart := false }
def NumBackSaid : Prop := numBackRow.holds Try.pinned (OpenSpec.ofChange numBackSpec)

/-- ITS FALSE NEIGHBOUR: 'it returns false'. Refute it at one input. -/
def numBackWrong : ChangeSpec := { name := "numBack", fn := fun _ => fun
  | [d1, d2, d3, d4, d5] => { results := [.lit (.bool false)], args := [d1, d2, d3, d4, d5] }
  | _ => none }
def NumBackWrongFalsely : Prop := numBackRow.holds Try.pinned (OpenSpec.ofChange numBackWrong)

/-- 'nautiluslaw01.NumFits': WHATEVER THE INPUT: true; the input reads as it did. -/
def numFitsSpec : ChangeSpec := { name := "numFits", fn := fun _ => fun
  | [d1, d2, d3] => { results := [.lit (.bool true)], args := [d1, d2, d3] }
  | _ => none }
def numFitsRow : OpenClaim := { program := "ytigpedehlpdagaa", sum := "23991bedd0616670ab61cb66d117f437fd836144d1b09c1d96306574a244ce5c", func := "nautilus/nautiluslaw01.NumFits", spec := "numFits", inPlace := ["internal/abi.NoEscape", "internal/bytealg.MakeNoZero"], unfollowed := true, recurses := true, apart := false }
def NumFitsSaid : Prop := numFitsRow.holds Try.pinned (OpenSpec.ofChange numFitsSpec)

/-- ITS FALSE NEIGHBOUR: 'it returns false'. Refute it at one input. -/
def numFitsWrong : ChangeSpec := { name := "numFits", fn := fun _ => fun
  | [d1, d2, d3] => { results := [.lit (.bool false)], args := [d1, d2, d3] }
  | _ => none }
def NumFitsWrongFalsely : Prop := numFitsRow.holds Try.pinned (OpenSpec.ofChange numFitsWrong)

/-- 'nautiluslaw01.NumBares': WHATEVER THE INPUT: true; the input reads as it did. -/
def numBaresSpec : ChangeSpec := { name := "numBares", fn := fun _ => fun
  | [d1, d2, d3] => { results := [.lit (.bool true)], args := [d1, d2, d3] }
  | _ => none }
def numBaresRow : OpenClaim := { program := "ytigpedehlpdagaa", sum := "23991bedd0616670ab61cb66d117f437fd836144d1b09c1d96306574a244ce5c", func := "nautilus/nautiluslaw01.NumBares", spec := "numBares", inPlace := ["internal/abi.NoEscape", "internal/bytealg.MakeNoZero"], unfollowed := true, recurses := true, apart := false }
def NumBaresSaid : Prop := numBaresRow.holds Try.pinned (OpenSpec.ofChange numBaresSpec)

/-- ITS FALSE NEIGHBOUR: 'it returns false'. Refute it at one input. -/
def numBaresWrong : ChangeSpec := { name := "numBares", fn := fun _ => fun
  | [d1, d2, d3] => { results := [.lit (.bool false)], args := [d1, d2, d3] }
  | _ => none }
def NumBaresWrongFalsely : Prop := numBaresRow.holds Try.pinned (OpenSpec.ofChange numBaresWrong)

/- THE SECOND FORM. 'bulk': how many values and letters a reading holds, each counted each time it is reached (what is shared counts as often as it is met; a slice's spare places count too). A statement '..UptoSaid' is the law's where the arguments, and the package variables that the reading takes, are together of bulk at most 1048576: NARROWER than '..Said'. Prove '..Said' where nothing that the law and all that it calls make is longer than what came in: it says more and counts as full. Else prove '..UptoSaid'. A law counts once. -/
mutual
def uptoBulk {H : Type} : DataW H → Nat
  | .lit (.string bytes) => bytes.length + 1
  | .lit _ => 1
  | .nil => 1
  | .ptr d => uptoBulk d + 1
  | .slice elems spare => uptoBulkAll elems + uptoBulkAll spare + 1
  | .agg parts => uptoBulkAll parts + 1
  | .iface _ d => uptoBulk d + 1
  | .map entries => uptoBulkEntries entries + 1
  | .held _ => 1
def uptoBulkAll {H : Type} : List (DataW H) → Nat
  | [] => 0
  | d :: r => uptoBulk d + uptoBulkAll r
def uptoBulkEntries {H : Type} : List (Lit × DataW H) → Nat
  | [] => 0
  | x :: r => uptoBulkEntry x + uptoBulkEntries r
def uptoBulkEntry {H : Type} : Lit × DataW H → Nat
  | (.string bytes, d) => bytes.length + uptoBulk d + 1
  | (_, d) => uptoBulk d + 1
 end
def uptoSmall : (H : Type) → List (DataW H) → Bool := fun _ ds => decide (uptoBulkAll ds ≤ 1048576)
def OpenSpec.upto (s : _root_.Go.ChangeSpec) : _root_.Go.OpenSpec := { _root_.Go.OpenSpec.ofChange s with cond := some uptoSmall }

/-- 'nautiluslaw01.NumWidths', WHERE WHAT IT READS IS OF BULK AT MOST 1048576: true; the input reads as it did. -/
def numWidthsUptoRow : OpenClaim := { program := "ytigpedehlpdagaa", sum := "23991bedd0616670ab61cb66d117f437fd836144d1b09c1d96306574a244ce5c", func := "nautilus/nautiluslaw01.NumWidths", spec := "numWidths", inPlace := ["internal/abi.NoEscape"], unfollowed := true, recurses := true, apart := false, narrowed := true }
def NumWidthsUptoSaid : Prop := numWidthsUptoRow.holds Try.pinned (OpenSpec.upto numWidthsSpec)

/-- 'nautiluslaw01.NumApart', WHERE WHAT IT READS IS OF BULK AT MOST 1048576: true; the input reads as it did. -/
def numApartUptoRow : OpenClaim := { program := "ytigpedehlpdagaa", sum := "23991bedd0616670ab61cb66d117f437fd836144d1b09c1d96306574a244ce5c", func := "nautilus/nautiluslaw01.NumApart", spec := "numApart", inPlace := ["internal/abi.NoEscape"], unfollowed := true, recurses := true, apart := false, narrowed := true }
def NumApartUptoSaid : Prop := numApartUptoRow.holds Try.pinned (OpenSpec.upto numApartSpec)

/-- 'nautiluslaw01.NumPuts', WHERE WHAT IT READS IS OF BULK AT MOST 1048576: true; the input reads as it did. -/
def numPutsUptoRow : OpenClaim := { program := "ytigpedehlpdagaa", sum := "23991bedd0616670ab61cb66d117f437fd836144d1b09c1d96306574a244ce5c", func := "nautilus/nautiluslaw01.NumPuts", spec := "numPuts", inPlace := ["internal/abi.NoEscape"], unfollowed := true, recurses := true, apart := false, narrowed := true }
def NumPutsUptoSaid : Prop := numPutsUptoRow.holds Try.pinned (OpenSpec.upto numPutsSpec)

/-- 'nautiluslaw01.NumTexts', WHERE WHAT IT READS IS OF BULK AT MOST 1048576: true; the input reads as it did. -/
def numTextsUptoRow : OpenClaim := { program := "ytigpedehlpdagaa", sum := "23991bedd0616670ab61cb66d117f437fd836144d1b09c1d96306574a244ce5c", func := "nautilus/nautiluslaw01.NumTexts", spec := "numTexts", inPlace := ["internal/abi.NoEscape"], unfollowed := true, recurses := true, apart := false, narrowed := true }
def NumTextsUptoSaid : Prop := numTextsUptoRow.holds Try.pinned (OpenSpec.upto numTextsSpec)

/-- 'nautiluslaw01.NumBack', WHERE WHAT IT READS IS OF BULK AT MOST 1048576: true; the input reads as it did. -/
def numBackUptoRow : OpenClaim := { program := "ytigpedehlpdagaa", sum := "23991bedd0616670ab61cb66d117f437fd836144d1b09c1d96306574a244ce5c", func := "nautilus/nautiluslaw01.NumBack", spec := "numBack", inPlace := ["internal/abi.NoEscape"], unfollowed := true, recurses := true, apart := false, narrowed := true }
def NumBackUptoSaid : Prop := numBackUptoRow.holds Try.pinned (OpenSpec.upto numBackSpec)

/-- 'nautiluslaw01.NumFits', WHERE WHAT IT READS IS OF BULK AT MOST 1048576: true; the input reads as it did. -/
def numFitsUptoRow : OpenClaim := { program := "ytigpedehlpdagaa", sum := "23991bedd0616670ab61cb66d117f437fd836144d1b09c1d96306574a244ce5c", func := "nautilus/nautiluslaw01.NumFits", spec := "numFits", inPlace := ["internal/abi.NoEscape", "internal/bytealg.MakeNoZero"], unfollowed := true, recurses := true, apart := false, narrowed := true }
def NumFitsUptoSaid : Prop := numFitsUptoRow.holds Try.pinned (OpenSpec.upto numFitsSpec)

/-- 'nautiluslaw01.NumBares', WHERE WHAT IT READS IS OF BULK AT MOST 1048576: true; the input reads as it did. -/
def numBaresUptoRow : OpenClaim := { program := "ytigpedehlpdagaa", sum := "23991bedd0616670ab61cb66d117f437fd836144d1b09c1d96306574a244ce5c", func := "nautilus/nautiluslaw01.NumBares", spec := "numBares", inPlace := ["internal/abi.NoEscape", "internal/bytealg.MakeNoZero"], unfollowed := true, recurses := true, apart := false, narrowed := true }
def NumBaresUptoSaid : Prop := numBaresUptoRow.holds Try.pinned (OpenSpec.upto numBaresSpec)

end Rows
end Go.Proofs.Ytigpedehlpdagaa
