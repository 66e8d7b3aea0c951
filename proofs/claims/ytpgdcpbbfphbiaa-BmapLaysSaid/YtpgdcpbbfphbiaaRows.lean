/-
  No cell of these rows narrows 'for every input' (looked for: loops, veiled, ifaces, maps, wideKeys, modest, calm, conditions, laid).
  DERIVED. THE GIVEN ROWS OF THIS SEAT. 6 by the template 'for every input the law returns true; each argument reads behind the call as it read before'; 0 by the template 'total and deterministic' (their statements: YtpgdcpbbfphbiaaTotals.lean).
  GIVEN WITH THE SEED: the statements are not yours to turn. If you find one false, say at which input.
  Laid BY PROGRAM, IN A SANDBOX (cutbox-rows.mjs): the forced cells as the released guide's own fill.sh prints them over the translation 418f82030e931fe7… (all of the seat's roots in one cut). By AI agents, Wed Nov 11 2026. No macro, syntax, notation, axiom, sorry.
-/
import Derived.Test.YtpgdcpbbfphbiaaChecked
import GoSem.Claim
import GoSem.ClaimJoined
import GoSem.ClaimMapViews
import Derived.JoinedTies
import Derived.KernelRfl
namespace Go.Proofs.Ytpgdcpbbfphbiaa
/- THE CELL 'sum', in the pinned program and in every row, IS THE sha256 OF THE DUMP (.gsa) THAT YtpgdcpbbfphbiaaProg.lean LOADS. Nothing in Lean hashes anything: it is a label: what it is worth is what the hold of that sum in a sandbox is worth. -/
noncomputable def Try.pinned : Pinned := { name := "ytpgdcpbbfphbiaa", sum := "418f82030e931fe7f08587f6f0c0a834afb835124b55d2274e46b3a04c9adc4d", checked := Try.checked }
namespace Rows
def none {H : Type} : Left H := { results := [], args := [] }

/-- 'nautiluslaw13.BmapWays': WHATEVER THE INPUT: true; the input reads as it did. -/
def bmapWaysSpec : ChangeSpec := { name := "bmapWays", fn := fun _ => fun
  | [d1, d2] => { results := [.lit (.bool true)], args := [d1, d2] }
  | _ => none }
def bmapWaysRow : OpenClaim := { program := "ytpgdcpbbfphbiaa", sum := "418f82030e931fe7f08587f6f0c0a834afb835124b55d2274e46b3a04c9adc4d", func := "nautilus/nautiluslaw13.BmapWays", spec := "bmapWays", inPlace := ["internal/abi.NoEscape", "internal/bytealg.MakeNoZero"], unfollowed := true, recurses := true, apart := false }
def BmapWaysSaid : Prop := bmapWaysRow.holds Try.pinned (OpenSpec.ofChange bmapWaysSpec)

/-- ITS FALSE NEIGHBOUR: 'it returns false'. Refute it at one input. -/
def bmapWaysWrong : ChangeSpec := { name := "bmapWays", fn := fun _ => fun
  | [d1, d2] => { results := [.lit (.bool false)], args := [d1, d2] }
  | _ => none }
def BmapWaysWrongFalsely : Prop := bmapWaysRow.holds Try.pinned (OpenSpec.ofChange bmapWaysWrong)

/-- 'nautiluslaw13.BmapLays': WHATEVER THE INPUT: true; the input reads as it did. -/
def bmapLaysSpec : ChangeSpec := { name := "bmapLays", fn := fun _ => fun
  | [d1, d2, d3] => { results := [.lit (.bool true)], args := [d1, d2, d3] }
  | _ => none }
def bmapLaysRow : OpenClaim := { program := "ytpgdcpbbfphbiaa", sum := "418f82030e931fe7f08587f6f0c0a834afb835124b55d2274e46b3a04c9adc4d", func := "nautilus/nautiluslaw13.BmapLays", spec := "bmapLays", inPlace := ["internal/abi.NoEscape", "internal/bytealg.MakeNoZero"], unfollowed := true, recurses := true, apart := false }
def BmapLaysSaid : Prop := bmapLaysRow.holds Try.pinned (OpenSpec.ofChange bmapLaysSpec)

/-- ITS FALSE NEIGHBOUR: 'it returns false'. Refute it at one input. -/
def bmapLaysWrong : ChangeSpec := { name := "bmapLays", fn := fun _ => fun
  | [d1, d2, d3] => { results := [.lit (.bool false)], args := [d1, d2, d3] }
  | _ => none }
def BmapLaysWrongFalsely : Prop := bmapLaysRow.holds Try.pinned (OpenSpec.ofChange bmapLaysWrong)

/-- 'nautiluslaw13.BmapBack': WHATEVER THE INPUT: true; the input reads as it did. -/
def bmapBackSpec : ChangeSpec := { name := "bmapBack", fn := fun _ => fun
  | [d1, d2, d3, d4, d5] => { results := [.lit (.bool true)], args := [d1, d2, d3, d4, d5] }
  | _ => none }
def bmapBackRow : OpenClaim := { program := "ytpgdcpbbfphbiaa", sum := "418f82030e931fe7f08587f6f0c0a834afb835124b55d2274e46b3a04c9adc4d", func := "nautilus/nautiluslaw13.BmapBack", spec := "bmapBack", inPlace := ["internal/abi.NoEscape", "internal/bytealg.MakeNoZero"], unfollowed := true, recurses := true, apart := false }
def BmapBackSaid : Prop := bmapBackRow.holds Try.pinned (OpenSpec.ofChange bmapBackSpec)

/-- ITS FALSE NEIGHBOUR: 'it returns false'. Refute it at one input. -/
def bmapBackWrong : ChangeSpec := { name := "bmapBack", fn := fun _ => fun
  | [d1, d2, d3, d4, d5] => { results := [.lit (.bool false)], args := [d1, d2, d3, d4, d5] }
  | _ => none }
def BmapBackWrongFalsely : Prop := bmapBackRow.holds Try.pinned (OpenSpec.ofChange bmapBackWrong)

/-- 'nautiluslaw13.BmapIndex': WHATEVER THE INPUT: true; the input reads as it did. -/
def bmapIndexSpec : ChangeSpec := { name := "bmapIndex", fn := fun _ => fun
  | [d1, d2, d3] => { results := [.lit (.bool true)], args := [d1, d2, d3] }
  | _ => none }
def bmapIndexRow : OpenClaim := { program := "ytpgdcpbbfphbiaa", sum := "418f82030e931fe7f08587f6f0c0a834afb835124b55d2274e46b3a04c9adc4d", func := "nautilus/nautiluslaw13.BmapIndex", spec := "bmapIndex", inPlace := ["internal/abi.NoEscape", "internal/bytealg.MakeNoZero"], unfollowed := true, recurses := true, apart := false }
def BmapIndexSaid : Prop := bmapIndexRow.holds Try.pinned (OpenSpec.ofChange bmapIndexSpec)

/-- ITS FALSE NEIGHBOUR: 'it returns false'. Refute it at one input. -/
def bmapIndexWrong : ChangeSpec := { name := "bmapIndex", fn := fun _ => fun
  | [d1, d2, d3] => { results := [.lit (.bool false)], args := [d1, d2, d3] }
  | _ => none }
def BmapIndexWrongFalsely : Prop := bmapIndexRow.holds Try.pinned (OpenSpec.ofChange bmapIndexWrong)

/-- 'nautiluslaw13.BmapApart': WHATEVER THE INPUT: true; the input reads as it did. -/
def bmapApartSpec : ChangeSpec := { name := "bmapApart", fn := fun _ => fun
  | [d1, d2, d3, d4] => { results := [.lit (.bool true)], args := [d1, d2, d3, d4] }
  | _ => none }
def bmapApartRow : OpenClaim := { program := "ytpgdcpbbfphbiaa", sum := "418f82030e931fe7f08587f6f0c0a834afb835124b55d2274e46b3a04c9adc4d", func := "nautilus/nautiluslaw13.BmapApart", spec := "bmapApart", inPlace := ["internal/abi.NoEscape", "internal/bytealg.MakeNoZero"], unfollowed := true, recurses := true, apart := false }
def BmapApartSaid : Prop := bmapApartRow.holds Try.pinned (OpenSpec.ofChange bmapApartSpec)

/-- ITS FALSE NEIGHBOUR: 'it returns false'. Refute it at one input. -/
def bmapApartWrong : ChangeSpec := { name := "bmapApart", fn := fun _ => fun
  | [d1, d2, d3, d4] => { results := [.lit (.bool false)], args := [d1, d2, d3, d4] }
  | _ => none }
def BmapApartWrongFalsely : Prop := bmapApartRow.holds Try.pinned (OpenSpec.ofChange bmapApartWrong)

/-- 'nautiluslaw13.BmapFirst': WHATEVER THE INPUT: true; the input reads as it did. -/
def bmapFirstSpec : ChangeSpec := { name := "bmapFirst", fn := fun _ => fun
  | [d1, d2, d3] => { results := [.lit (.bool true)], args := [d1, d2, d3] }
  | _ => none }
def bmapFirstRow : OpenClaim := { program := "ytpgdcpbbfphbiaa", sum := "418f82030e931fe7f08587f6f0c0a834afb835124b55d2274e46b3a04c9adc4d", func := "nautilus/nautiluslaw13.BmapFirst", spec := "bmapFirst", inPlace := ["internal/abi.NoEscape", "internal/bytealg.MakeNoZero"], unfollowed := true, recurses := true, apart := false }
def BmapFirstSaid : Prop := bmapFirstRow.holds Try.pinned (OpenSpec.ofChange bmapFirstSpec)

/-- ITS FALSE NEIGHBOUR: 'it returns false'. Refute it at one input. -/
def bmapFirstWrong : ChangeSpec := { name := "bmapFirst", fn := fun _ => fun
  | [d1, d2, d3] => { results := [.lit (.bool false)], args := [d1, d2, d3] }
  | _ => none }
def BmapFirstWrongFalsely : Prop := bmapFirstRow.holds Try.pinned (OpenSpec.ofChange bmapFirstWrong)

/- THE SECOND FORM. 'bulk': how many values and letters a reading holds, each counted each time it is reached (what is shared counts as often as it is met; a slice's spare places count too). A statement '..UptoSaid' is the law's where the arguments, and the package variables that the reading takes, are together of bulk at most 1048576: NARROWER than '..Said'. Prove '..Said' where nothing that the law and all that it calls make is longer than what came in: it says more and counts as full. Else prove '..UptoSaid'. A law counts once. -/
mutual
def uptoBulk {H : Type} : DataW H → Nat
  | .lit (.string bytes) => bytes.length + 1
  | .lit _ => 1
  | .nil => 1
  | .ptr d => uptoBulk d + 1
  | .slice elems spare => uptoBulkAll elems + uptoBulkAll spare + 1
  | .agg parts => uptoBulkAll parts + 1
  | .iface _ d => uptoBulk d + 1
  | .map entries => uptoBulkEntries entries + 1
  | .held _ => 1
def uptoBulkAll {H : Type} : List (DataW H) → Nat
  | [] => 0
  | d :: r => uptoBulk d + uptoBulkAll r
def uptoBulkEntries {H : Type} : List (Lit × DataW H) → Nat
  | [] => 0
  | x :: r => uptoBulkEntry x + uptoBulkEntries r
def uptoBulkEntry {H : Type} : Lit × DataW H → Nat
  | (.string bytes, d) => bytes.length + uptoBulk d + 1
  | (_, d) => uptoBulk d + 1
 end
def uptoSmall : (H : Type) → List (DataW H) → Bool := fun _ ds => decide (uptoBulkAll ds ≤ 1048576)
def OpenSpec.upto (s : _root_.Go.ChangeSpec) : _root_.Go.OpenSpec := { _root_.Go.OpenSpec.ofChange s with cond := some uptoSmall }

/-- 'nautiluslaw13.BmapWays', WHERE WHAT IT READS IS OF BULK AT MOST 1048576: true; the input reads as it did. -/
def bmapWaysUptoRow : OpenClaim := { program := "ytpgdcpbbfphbiaa", sum := "418f82030e931fe7f08587f6f0c0a834afb835124b55d2274e46b3a04c9adc4d", func := "nautilus/nautiluslaw13.BmapWays", spec := "bmapWays", inPlace := ["internal/abi.NoEscape", "internal/bytealg.MakeNoZero"], unfollowed := true, recurses := true, apart := false, narrowed := true }
def BmapWaysUptoSaid : Prop := bmapWaysUptoRow.holds Try.pinned (OpenSpec.upto bmapWaysSpec)

/-- 'nautiluslaw13.BmapLays', WHERE WHAT IT READS IS OF BULK AT MOST 1048576: true; the input reads as it did. -/
def bmapLaysUptoRow : OpenClaim := { program := "ytpgdcpbbfphbiaa", sum := "418f82030e931fe7f08587f6f0c0a834afb835124b55d2274e46b3a04c9adc4d", func := "nautilus/nautiluslaw13.BmapLays", spec := "bmapLays", inPlace := ["internal/abi.NoEscape", "internal/bytealg.MakeNoZero"], unfollowed := true, recurses := true, apart := false, narrowed := true }
def BmapLaysUptoSaid : Prop := bmapLaysUptoRow.holds Try.pinned (OpenSpec.upto bmapLaysSpec)

/-- 'nautiluslaw13.BmapBack', WHERE WHAT IT READS IS OF BULK AT MOST 1048576: true; the input reads as it did. -/
def bmapBackUptoRow : OpenClaim := { program := "ytpgdcpbbfphbiaa", sum := "418f82030e931fe7f08587f6f0c0a834afb835124b55d2274e46b3a04c9adc4d", func := "nautilus/nautiluslaw13.BmapBack", spec := "bmapBack", inPlace := ["internal/abi.NoEscape", "internal/bytealg.MakeNoZero"], unfollowed := true, recurses := true, apart := false, narrowed := true }
def BmapBackUptoSaid : Prop := bmapBackUptoRow.holds Try.pinned (OpenSpec.upto bmapBackSpec)

/-- 'nautiluslaw13.BmapIndex', WHERE WHAT IT READS IS OF BULK AT MOST 1048576: true; the input reads as it did. -/
def bmapIndexUptoRow : OpenClaim := { program := "ytpgdcpbbfphbiaa", sum := "418f82030e931fe7f08587f6f0c0a834afb835124b55d2274e46b3a04c9adc4d", func := "nautilus/nautiluslaw13.BmapIndex", spec := "bmapIndex", inPlace := ["internal/abi.NoEscape", "internal/bytealg.MakeNoZero"], unfollowed := true, recurses := true, apart := false, narrowed := true }
def BmapIndexUptoSaid : Prop := bmapIndexUptoRow.holds Try.pinned (OpenSpec.upto bmapIndexSpec)

/-- 'nautiluslaw13.BmapApart', WHERE WHAT IT READS IS OF BULK AT MOST 1048576: true; the input reads as it did. -/
def bmapApartUptoRow : OpenClaim := { program := "ytpgdcpbbfphbiaa", sum := "418f82030e931fe7f08587f6f0c0a834afb835124b55d2274e46b3a04c9adc4d", func := "nautilus/nautiluslaw13.BmapApart", spec := "bmapApart", inPlace := ["internal/abi.NoEscape", "internal/bytealg.MakeNoZero"], unfollowed := true, recurses := true, apart := false, narrowed := true }
def BmapApartUptoSaid : Prop := bmapApartUptoRow.holds Try.pinned (OpenSpec.upto bmapApartSpec)

/-- 'nautiluslaw13.BmapFirst', WHERE WHAT IT READS IS OF BULK AT MOST 1048576: true; the input reads as it did. -/
def bmapFirstUptoRow : OpenClaim := { program := "ytpgdcpbbfphbiaa", sum := "418f82030e931fe7f08587f6f0c0a834afb835124b55d2274e46b3a04c9adc4d", func := "nautilus/nautiluslaw13.BmapFirst", spec := "bmapFirst", inPlace := ["internal/abi.NoEscape", "internal/bytealg.MakeNoZero"], unfollowed := true, recurses := true, apart := false, narrowed := true }
def BmapFirstUptoSaid : Prop := bmapFirstUptoRow.holds Try.pinned (OpenSpec.upto bmapFirstSpec)

end Rows
end Go.Proofs.Ytpgdcpbbfphbiaa
