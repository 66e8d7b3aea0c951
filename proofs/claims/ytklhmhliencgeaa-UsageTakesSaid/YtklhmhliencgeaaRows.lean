/-
  No cell of these rows narrows 'for every input' (looked for: loops, veiled, ifaces, maps, wideKeys, modest, calm, conditions, laid).
  DERIVED. THE GIVEN ROWS OF THIS SEAT. 5 by the template 'for every input the law returns true; each argument reads behind the call as it read before'; 0 by the template 'total and deterministic' (their statements: YtklhmhliencgeaaTotals.lean).
  GIVEN WITH THE SEED: the statements are not yours to turn. If you find one false, say at which input.
  Laid BY PROGRAM, IN A SANDBOX (cutbox-rows.mjs): the forced cells as the released guide's own fill.sh prints them over the translation 54c324a40ddfd285… (all of the seat's roots in one cut). By AI agents, Wed Nov 11 2026. No macro, syntax, notation, axiom, sorry.
-/
import Derived.Test.YtklhmhliencgeaaChecked
import GoSem.Claim
import GoSem.ClaimJoined
import GoSem.ClaimMapViews
import Derived.JoinedTies
import Derived.KernelRfl
namespace Go.Proofs.Ytklhmhliencgeaa
/- THE CELL 'sum', in the pinned program and in every row, IS THE sha256 OF THE DUMP (.gsa) THAT YtklhmhliencgeaaProg.lean LOADS. Nothing in Lean hashes anything: it is a label: what it is worth is what the hold of that sum in a sandbox is worth. -/
noncomputable def Try.pinned : Pinned := { name := "ytklhmhliencgeaa", sum := "54c324a40ddfd28534bd9efed9240c46daf9615de9896378b713c2acaeadc0e7", checked := Try.checked }
namespace Rows
def none {H : Type} : Left H := { results := [], args := [] }

/-- 'nautiluslaw06.UsageChooses': WHATEVER THE INPUT: true; the input reads as it did. -/
def usageChoosesSpec : ChangeSpec := { name := "usageChooses", fn := fun _ => fun
  | [d1, d2, d3] => { results := [.lit (.bool true)], args := [d1, d2, d3] }
  | _ => none }
def usageChoosesRow : OpenClaim := { program := "ytklhmhliencgeaa", sum := "54c324a40ddfd28534bd9efed9240c46daf9615de9896378b713c2acaeadc0e7", func := "nautilus/nautiluslaw06.UsageChooses", spec := "usageChooses", unfollowed := true, recurses := true, apart := false }
def UsageChoosesSaid : Prop := usageChoosesRow.holds Try.pinned (OpenSpec.ofChange usageChoosesSpec)

/-- ITS FALSE NEIGHBOUR: 'it returns false'. Refute it at one input. -/
def usageChoosesWrong : ChangeSpec := { name := "usageChooses", fn := fun _ => fun
  | [d1, d2, d3] => { results := [.lit (.bool false)], args := [d1, d2, d3] }
  | _ => none }
def UsageChoosesWrongFalsely : Prop := usageChoosesRow.holds Try.pinned (OpenSpec.ofChange usageChoosesWrong)

/-- 'nautiluslaw06.UsageBest': WHATEVER THE INPUT: true; the input reads as it did. -/
def usageBestSpec : ChangeSpec := { name := "usageBest", fn := fun _ => fun
  | [d1, d2] => { results := [.lit (.bool true)], args := [d1, d2] }
  | _ => none }
def usageBestRow : OpenClaim := { program := "ytklhmhliencgeaa", sum := "54c324a40ddfd28534bd9efed9240c46daf9615de9896378b713c2acaeadc0e7", func := "nautilus/nautiluslaw06.UsageBest", spec := "usageBest", unfollowed := true, recurses := true, apart := false }
def UsageBestSaid : Prop := usageBestRow.holds Try.pinned (OpenSpec.ofChange usageBestSpec)

/-- ITS FALSE NEIGHBOUR: 'it returns false'. Refute it at one input. -/
def usageBestWrong : ChangeSpec := { name := "usageBest", fn := fun _ => fun
  | [d1, d2] => { results := [.lit (.bool false)], args := [d1, d2] }
  | _ => none }
def UsageBestWrongFalsely : Prop := usageBestRow.holds Try.pinned (OpenSpec.ofChange usageBestWrong)

/-- 'nautiluslaw06.UsageSets': WHATEVER THE INPUT: true; the input reads as it did. -/
def usageSetsSpec : ChangeSpec := { name := "usageSets", fn := fun _ => fun
  | [d1, d2, d3] => { results := [.lit (.bool true)], args := [d1, d2, d3] }
  | _ => none }
def usageSetsRow : OpenClaim := { program := "ytklhmhliencgeaa", sum := "54c324a40ddfd28534bd9efed9240c46daf9615de9896378b713c2acaeadc0e7", func := "nautilus/nautiluslaw06.UsageSets", spec := "usageSets", unfollowed := true, recurses := true, apart := false }
def UsageSetsSaid : Prop := usageSetsRow.holds Try.pinned (OpenSpec.ofChange usageSetsSpec)

/-- ITS FALSE NEIGHBOUR: 'it returns false'. Refute it at one input. -/
def usageSetsWrong : ChangeSpec := { name := "usageSets", fn := fun _ => fun
  | [d1, d2, d3] => { results := [.lit (.bool false)], args := [d1, d2, d3] }
  | _ => none }
def UsageSetsWrongFalsely : Prop := usageSetsRow.holds Try.pinned (OpenSpec.ofChange usageSetsWrong)

/-- 'nautiluslaw06.UsageTakes': WHATEVER THE INPUT: true; the input reads as it did. -/
def usageTakesSpec : ChangeSpec := { name := "usageTakes", fn := fun _ => fun
  | [d1, d2] => { results := [.lit (.bool true)], args := [d1, d2] }
  | _ => none }
def usageTakesRow : OpenClaim := { program := "ytklhmhliencgeaa", sum := "54c324a40ddfd28534bd9efed9240c46daf9615de9896378b713c2acaeadc0e7", func := "nautilus/nautiluslaw06.UsageTakes", spec := "usageTakes", unfollowed := true, recurses := true, apart := false }
def UsageTakesSaid : Prop := usageTakesRow.holds Try.pinned (OpenSpec.ofChange usageTakesSpec)

/-- ITS FALSE NEIGHBOUR: 'it returns false'. Refute it at one input. -/
def usageTakesWrong : ChangeSpec := { name := "usageTakes", fn := fun _ => fun
  | [d1, d2] => { results := [.lit (.bool false)], args := [d1, d2] }
  | _ => none }
def UsageTakesWrongFalsely : Prop := usageTakesRow.holds Try.pinned (OpenSpec.ofChange usageTakesWrong)

/-- 'nautiluslaw06.UsageSame': WHATEVER THE INPUT: true; the input reads as it did. -/
def usageSameSpec : ChangeSpec := { name := "usageSame", fn := fun _ => fun
  | [d1, d2, d3, d4] => { results := [.lit (.bool true)], args := [d1, d2, d3, d4] }
  | _ => none }
def usageSameRow : OpenClaim := { program := "ytklhmhliencgeaa", sum := "54c324a40ddfd28534bd9efed9240c46daf9615de9896378b713c2acaeadc0e7", func := "nautilus/nautiluslaw06.UsageSame", spec := "usageSame", unfollowed := true, recurses := true, apart := false }
def UsageSameSaid : Prop := usageSameRow.holds Try.pinned (OpenSpec.ofChange usageSameSpec)

/-- ITS FALSE NEIGHBOUR: 'it returns false'. Refute it at one input. -/
def usageSameWrong : ChangeSpec := { name := "usageSame", fn := fun _ => fun
  | [d1, d2, d3, d4] => { results := [.lit (.bool false)], args := [d1, d2, d3, d4] }
  | _ => none }
def UsageSameWrongFalsely : Prop := usageSameRow.holds Try.pinned (OpenSpec.ofChange usageSameWrong)

/- THE SECOND FORM. 'bulk': how many values and letters a reading holds, each counted each time it is reached (what is shared counts as often as it is met; a slice's spare places count too). A statement '..UptoSaid' is the law's where the arguments, and the package variables that the reading takes, are together of bulk at most 1048576: NARROWER than '..Said'. Prove '..Said' where nothing that the law and all that it calls make is longer than what came in: it says more and counts as full. Else prove '..UptoSaid'. A law counts once. -/
mutual
def uptoBulk {H : Type} : DataW H → Nat
  | .lit (.string bytes) => bytes.length + 1
  | .lit _ => 1
  | .nil => 1
  | .ptr d => uptoBulk d + 1
  | .slice elems spare => uptoBulkAll elems + uptoBulkAll spare + 1
  | .agg parts => uptoBulkAll parts + 1
  | .iface _ d => uptoBulk d + 1
  | .map entries => uptoBulkEntries entries + 1
  | .held _ => 1
def uptoBulkAll {H : Type} : List (DataW H) → Nat
  | [] => 0
  | d :: r => uptoBulk d + uptoBulkAll r
def uptoBulkEntries {H : Type} : List (Lit × DataW H) → Nat
  | [] => 0
  | x :: r => uptoBulkEntry x + uptoBulkEntries r
def uptoBulkEntry {H : Type} : Lit × DataW H → Nat
  | (.string bytes, d) => bytes.length + uptoBulk d + 1
  | (_, d) => uptoBulk d + 1
 end
def uptoSmall : (H : Type) → List (DataW H) → Bool := fun _ ds => decide (uptoBulkAll ds ≤ 1048576)
def OpenSpec.upto (s : _root_.Go.ChangeSpec) : _root_.Go.OpenSpec := { _root_.Go.OpenSpec.ofChange s with cond := some uptoSmall }

/-- 'nautiluslaw06.UsageChooses', WHERE WHAT IT READS IS OF BULK AT MOST 1048576: true; the input reads as it did. -/
def usageChoosesUptoRow : OpenClaim := { program := "ytklhmhliencgeaa", sum := "54c324a40ddfd28534bd9efed9240c46daf9615de9896378b713c2acaeadc0e7", func := "nautilus/nautiluslaw06.UsageChooses", spec := "usageChooses", unfollowed := true, recurses := true, apart := false, narrowed := true }
def UsageChoosesUptoSaid : Prop := usageChoosesUptoRow.holds Try.pinned (OpenSpec.upto usageChoosesSpec)

/-- 'nautiluslaw06.UsageBest', WHERE WHAT IT READS IS OF BULK AT MOST 1048576: true; the input reads as it did. -/
def usageBestUptoRow : OpenClaim := { program := "ytklhmhliencgeaa", sum := "54c324a40ddfd28534bd9efed9240c46daf9615de9896378b713c2acaeadc0e7", func := "nautilus/nautiluslaw06.UsageBest", spec := "usageBest", unfollowed := true, recurses := true, apart := false, narrowed := true }
def UsageBestUptoSaid : Prop := usageBestUptoRow.holds Try.pinned (OpenSpec.upto usageBestSpec)

/-- 'nautiluslaw06.UsageSets', WHERE WHAT IT READS IS OF BULK AT MOST 1048576: true; the input reads as it did. -/
def usageSetsUptoRow : OpenClaim := { program := "ytklhmhliencgeaa", sum := "54c324a40ddfd28534bd9efed9240c46daf9615de9896378b713c2acaeadc0e7", func := "nautilus/nautiluslaw06.UsageSets", spec := "usageSets", unfollowed := true, recurses := true, apart := false, narrowed := true }
def UsageSetsUptoSaid : Prop := usageSetsUptoRow.holds Try.pinned (OpenSpec.upto usageSetsSpec)

/-- 'nautiluslaw06.UsageTakes', WHERE WHAT IT READS IS OF BULK AT MOST 1048576: true; the input reads as it did. -/
def usageTakesUptoRow : OpenClaim := { program := "ytklhmhliencgeaa", sum := "54c324a40ddfd28534bd9efed9240c46daf9615de9896378b713c2acaeadc0e7", func := "nautilus/nautiluslaw06.UsageTakes", spec := "usageTakes", unfollowed := true, recurses := true, apart := false, narrowed := true }
def UsageTakesUptoSaid : Prop := usageTakesUptoRow.holds Try.pinned (OpenSpec.upto usageTakesSpec)

/-- 'nautiluslaw06.UsageSame', WHERE WHAT IT READS IS OF BULK AT MOST 1048576: true; the input reads as it did. -/
def usageSameUptoRow : OpenClaim := { program := "ytklhmhliencgeaa", sum := "54c324a40ddfd28534bd9efed9240c46daf9615de9896378b713c2acaeadc0e7", func := "nautilus/nautiluslaw06.UsageSame", spec := "usageSame", unfollowed := true, recurses := true, apart := false, narrowed := true }
def UsageSameUptoSaid : Prop := usageSameUptoRow.holds Try.pinned (OpenSpec.upto usageSameSpec)

end Rows
end Go.Proofs.Ytklhmhliencgeaa
