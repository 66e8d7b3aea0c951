/-
  No cell of these rows narrows 'for every input' (looked for: loops, veiled, ifaces, maps, wideKeys, modest, calm, conditions, laid).
  DERIVED. THE GIVEN ROWS OF THIS SEAT. 4 by the template 'for every input the law returns true; each argument reads behind the call as it read before'; 0 by the template 'total and deterministic' (their statements: YtmpcpcfdomlehaaTotals.lean).
  GIVEN WITH THE SEED: the statements are not yours to turn. If you find one false, say at which input.
  Laid BY PROGRAM, IN A SANDBOX (cutbox-rows.mjs): the forced cells as the released guide's own fill.sh prints them over the translation 266358f2ec2ce03b… (all of the seat's roots in one cut). By AI agents, Wed Nov 11 2026. No macro, syntax, notation, axiom, sorry.
-/
import Derived.Test.YtmpcpcfdomlehaaChecked
import GoSem.Claim
import GoSem.ClaimJoined
import GoSem.ClaimMapViews
import Derived.JoinedTies
import Derived.KernelRfl
namespace Go.Proofs.Ytmpcpcfdomlehaa
/- THE CELL 'sum', in the pinned program and in every row, IS THE sha256 OF THE DUMP (.gsa) THAT YtmpcpcfdomlehaaProg.lean LOADS. Nothing in Lean hashes anything: it is a label: what it is worth is what the hold of that sum in a sandbox is worth. -/
noncomputable def Try.pinned : Pinned := { name := "ytmpcpcfdomlehaa", sum := "266358f2ec2ce03b4aac2e35754645fbfe8a11c6e8e16122f2b09e1fe1902819", checked := Try.checked }
namespace Rows
def none {H : Type} : Left H := { results := [], args := [] }

/-- 'nautiluslaw16.RootBytes': WHATEVER THE INPUT: true; the input reads as it did. -/
def rootBytesSpec : ChangeSpec := { name := "rootBytes", fn := fun _ => fun
  | [d1, d2] => { results := [.lit (.bool true)], args := [d1, d2] }
  | _ => none }
def rootBytesRow : OpenClaim := { program := "ytmpcpcfdomlehaa", sum := "266358f2ec2ce03b4aac2e35754645fbfe8a11c6e8e16122f2b09e1fe1902819", func := "nautilus/nautiluslaw16.RootBytes", spec := "rootBytes", inPlace := ["internal/abi.NoEscape", "internal/bytealg.MakeNoZero"], unfollowed := true, recurses := true, apart := false }
def RootBytesSaid : Prop := rootBytesRow.holds Try.pinned (OpenSpec.ofChange rootBytesSpec)

/-- ITS FALSE NEIGHBOUR: 'it returns false'. Refute it at one input. -/
def rootBytesWrong : ChangeSpec := { name := "rootBytes", fn := fun _ => fun
  | [d1, d2] => { results := [.lit (.bool false)], args := [d1, d2] }
  | _ => none }
def RootBytesWrongFalsely : Prop := rootBytesRow.holds Try.pinned (OpenSpec.ofChange rootBytesWrong)

/-- 'nautiluslaw16.RootBack': WHATEVER THE INPUT: true; the input reads as it did. -/
def rootBackSpec : ChangeSpec := { name := "rootBack", fn := fun _ => fun
  | [d1, d2] => { results := [.lit (.bool true)], args := [d1, d2] }
  | _ => none }
def rootBackRow : OpenClaim := { program := "ytmpcpcfdomlehaa", sum := "266358f2ec2ce03b4aac2e35754645fbfe8a11c6e8e16122f2b09e1fe1902819", func := "nautilus/nautiluslaw16.RootBack", spec := "rootBack", inPlace := ["internal/abi.NoEscape", "internal/bytealg.MakeNoZero"], unfollowed := true, recurses := true, apart := false }
def RootBackSaid : Prop := rootBackRow.holds Try.pinned (OpenSpec.ofChange rootBackSpec)

/-- ITS FALSE NEIGHBOUR: 'it returns false'. Refute it at one input. -/
def rootBackWrong : ChangeSpec := { name := "rootBack", fn := fun _ => fun
  | [d1, d2] => { results := [.lit (.bool false)], args := [d1, d2] }
  | _ => none }
def RootBackWrongFalsely : Prop := rootBackRow.holds Try.pinned (OpenSpec.ofChange rootBackWrong)

/-- 'nautiluslaw16.RootApart': WHATEVER THE INPUT: true; the input reads as it did. -/
def rootApartSpec : ChangeSpec := { name := "rootApart", fn := fun _ => fun
  | [d1, d2] => { results := [.lit (.bool true)], args := [d1, d2] }
  | _ => none }
def rootApartRow : OpenClaim := { program := "ytmpcpcfdomlehaa", sum := "266358f2ec2ce03b4aac2e35754645fbfe8a11c6e8e16122f2b09e1fe1902819", func := "nautilus/nautiluslaw16.RootApart", spec := "rootApart", inPlace := ["internal/abi.NoEscape", "internal/bytealg.MakeNoZero"], unfollowed := true, recurses := true, apart := false }
def RootApartSaid : Prop := rootApartRow.holds Try.pinned (OpenSpec.ofChange rootApartSpec)

/-- ITS FALSE NEIGHBOUR: 'it returns false'. Refute it at one input. -/
def rootApartWrong : ChangeSpec := { name := "rootApart", fn := fun _ => fun
  | [d1, d2] => { results := [.lit (.bool false)], args := [d1, d2] }
  | _ => none }
def RootApartWrongFalsely : Prop := rootApartRow.holds Try.pinned (OpenSpec.ofChange rootApartWrong)

/-- 'nautiluslaw16.RootDoubles': WHATEVER THE INPUT: true; the input reads as it did. -/
def rootDoublesSpec : ChangeSpec := { name := "rootDoubles", fn := fun _ => fun
  | [d] => { results := [.lit (.bool true)], args := [d] }
  | _ => none }
def rootDoublesRow : OpenClaim := { program := "ytmpcpcfdomlehaa", sum := "266358f2ec2ce03b4aac2e35754645fbfe8a11c6e8e16122f2b09e1fe1902819", func := "nautilus/nautiluslaw16.RootDoubles", spec := "rootDoubles", inPlace := ["internal/abi.NoEscape", "internal/bytealg.MakeNoZero"], unfollowed := true, recurses := true, apart := false }
def RootDoublesSaid : Prop := rootDoublesRow.holds Try.pinned (OpenSpec.ofChange rootDoublesSpec)

/-- ITS FALSE NEIGHBOUR: 'it returns false'. Refute it at one input. -/
def rootDoublesWrong : ChangeSpec := { name := "rootDoubles", fn := fun _ => fun
  | [d] => { results := [.lit (.bool false)], args := [d] }
  | _ => none }
def RootDoublesWrongFalsely : Prop := rootDoublesRow.holds Try.pinned (OpenSpec.ofChange rootDoublesWrong)

/- THE SECOND FORM. 'bulk': how many values and letters a reading holds, each counted each time it is reached (what is shared counts as often as it is met; a slice's spare places count too). A statement '..UptoSaid' is the law's where the arguments, and the package variables that the reading takes, are together of bulk at most 1048576: NARROWER than '..Said'. Prove '..Said' where nothing that the law and all that it calls make is longer than what came in: it says more and counts as full. Else prove '..UptoSaid'. A law counts once. -/
mutual
def uptoBulk {H : Type} : DataW H → Nat
  | .lit (.string bytes) => bytes.length + 1
  | .lit _ => 1
  | .nil => 1
  | .ptr d => uptoBulk d + 1
  | .slice elems spare => uptoBulkAll elems + uptoBulkAll spare + 1
  | .agg parts => uptoBulkAll parts + 1
  | .iface _ d => uptoBulk d + 1
  | .map entries => uptoBulkEntries entries + 1
  | .held _ => 1
def uptoBulkAll {H : Type} : List (DataW H) → Nat
  | [] => 0
  | d :: r => uptoBulk d + uptoBulkAll r
def uptoBulkEntries {H : Type} : List (Lit × DataW H) → Nat
  | [] => 0
  | x :: r => uptoBulkEntry x + uptoBulkEntries r
def uptoBulkEntry {H : Type} : Lit × DataW H → Nat
  | (.string bytes, d) => bytes.length + uptoBulk d + 1
  | (_, d) => uptoBulk d + 1
 end
def uptoSmall : (H : Type) → List (DataW H) → Bool := fun _ ds => decide (uptoBulkAll ds ≤ 1048576)
def OpenSpec.upto (s : _root_.Go.ChangeSpec) : _root_.Go.OpenSpec := { _root_.Go.OpenSpec.ofChange s with cond := some uptoSmall }

/-- 'nautiluslaw16.RootBytes', WHERE WHAT IT READS IS OF BULK AT MOST 1048576: true; the input reads as it did. -/
def rootBytesUptoRow : OpenClaim := { program := "ytmpcpcfdomlehaa", sum := "266358f2ec2ce03b4aac2e35754645fbfe8a11c6e8e16122f2b09e1fe1902819", func := "nautilus/nautiluslaw16.RootBytes", spec := "rootBytes", inPlace := ["internal/abi.NoEscape", "internal/bytealg.MakeNoZero"], unfollowed := true, recurses := true, apart := false, narrowed := true }
def RootBytesUptoSaid : Prop := rootBytesUptoRow.holds Try.pinned (OpenSpec.upto rootBytesSpec)

/-- 'nautiluslaw16.RootBack', WHERE WHAT IT READS IS OF BULK AT MOST 1048576: true; the input reads as it did. -/
def rootBackUptoRow : OpenClaim := { program := "ytmpcpcfdomlehaa", sum := "266358f2ec2ce03b4aac2e35754645fbfe8a11c6e8e16122f2b09e1fe1902819", func := "nautilus/nautiluslaw16.RootBack", spec := "rootBack", inPlace := ["internal/abi.NoEscape", "internal/bytealg.MakeNoZero"], unfollowed := true, recurses := true, apart := false, narrowed := true }
def RootBackUptoSaid : Prop := rootBackUptoRow.holds Try.pinned (OpenSpec.upto rootBackSpec)

/-- 'nautiluslaw16.RootApart', WHERE WHAT IT READS IS OF BULK AT MOST 1048576: true; the input reads as it did. -/
def rootApartUptoRow : OpenClaim := { program := "ytmpcpcfdomlehaa", sum := "266358f2ec2ce03b4aac2e35754645fbfe8a11c6e8e16122f2b09e1fe1902819", func := "nautilus/nautiluslaw16.RootApart", spec := "rootApart", inPlace := ["internal/abi.NoEscape", "internal/bytealg.MakeNoZero"], unfollowed := true, recurses := true, apart := false, narrowed := true }
def RootApartUptoSaid : Prop := rootApartUptoRow.holds Try.pinned (OpenSpec.upto rootApartSpec)

/-- 'nautiluslaw16.RootDoubles', WHERE WHAT IT READS IS OF BULK AT MOST 1048576: true; the input reads as it did. -/
def rootDoublesUptoRow : OpenClaim := { program := "ytmpcpcfdomlehaa", sum := "266358f2ec2ce03b4aac2e35754645fbfe8a11c6e8e16122f2b09e1fe1902819", func := "nautilus/nautiluslaw16.RootDoubles", spec := "rootDoubles", inPlace := ["internal/abi.NoEscape", "internal/bytealg.MakeNoZero"], unfollowed := true, recurses := true, apart := false, narrowed := true }
def RootDoublesUptoSaid : Prop := rootDoublesUptoRow.holds Try.pinned (OpenSpec.upto rootDoublesSpec)

end Rows
end Go.Proofs.Ytmpcpcfdomlehaa
