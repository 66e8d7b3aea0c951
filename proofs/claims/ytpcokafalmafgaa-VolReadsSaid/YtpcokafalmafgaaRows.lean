/-
  No cell of these rows narrows 'for every input' (looked for: loops, veiled, ifaces, maps, wideKeys, modest, calm, conditions, laid).
  DERIVED. THE GIVEN ROWS OF THIS SEAT. 7 by the template 'for every input the law returns true; each argument reads behind the call as it read before'; 0 by the template 'total and deterministic' (their statements: YtpcokafalmafgaaTotals.lean).
  GIVEN WITH THE SEED: the statements are not yours to turn. If you find one false, say at which input.
  Laid BY PROGRAM, IN A SANDBOX (cutbox-rows.mjs): the forced cells as the released guide's own fill.sh prints them over the translation 92608b0473035055… (all of the seat's roots in one cut). By AI agents, Wed Nov 11 2026. No macro, syntax, notation, axiom, sorry.
-/
import Derived.Test.YtpcokafalmafgaaChecked
import GoSem.Claim
import GoSem.ClaimJoined
import GoSem.ClaimMapViews
import Derived.JoinedTies
import Derived.KernelRfl
namespace Go.Proofs.Ytpcokafalmafgaa
/- THE CELL 'sum', in the pinned program and in every row, IS THE sha256 OF THE DUMP (.gsa) THAT YtpcokafalmafgaaProg.lean LOADS. Nothing in Lean hashes anything: it is a label: what it is worth is what the hold of that sum in a sandbox is worth. -/
noncomputable def Try.pinned : Pinned := { name := "ytpcokafalmafgaa", sum := "92608b047303505576861dce74f37e0eb163a2ca76f718524dfa0a1f45c08187", checked := Try.checked }
namespace Rows
def none {H : Type} : Left H := { results := [], args := [] }

/-- 'nautiluslaw17.VolTurns': WHATEVER THE INPUT: true; the input reads as it did. -/
def volTurnsSpec : ChangeSpec := { name := "volTurns", fn := fun _ => fun
  | [d1, d2, d3] => { results := [.lit (.bool true)], args := [d1, d2, d3] }
  | _ => none }
def volTurnsRow : OpenClaim := { program := "ytpcokafalmafgaa", sum := "92608b047303505576861dce74f37e0eb163a2ca76f718524dfa0a1f45c08187", func := "nautilus/nautiluslaw17.VolTurns", spec := "volTurns", unfollowed := true, recurses := true, apart := false }
def VolTurnsSaid : Prop := volTurnsRow.holds Try.pinned (OpenSpec.ofChange volTurnsSpec)

/-- ITS FALSE NEIGHBOUR: 'it returns false'. Refute it at one input. -/
def volTurnsWrong : ChangeSpec := { name := "volTurns", fn := fun _ => fun
  | [d1, d2, d3] => { results := [.lit (.bool false)], args := [d1, d2, d3] }
  | _ => none }
def VolTurnsWrongFalsely : Prop := volTurnsRow.holds Try.pinned (OpenSpec.ofChange volTurnsWrong)

/-- 'nautiluslaw17.VolJoins': WHATEVER THE INPUT: true; the input reads as it did. -/
def volJoinsSpec : ChangeSpec := { name := "volJoins", fn := fun _ => fun
  | [d1, d2, d3] => { results := [.lit (.bool true)], args := [d1, d2, d3] }
  | _ => none }
def volJoinsRow : OpenClaim := { program := "ytpcokafalmafgaa", sum := "92608b047303505576861dce74f37e0eb163a2ca76f718524dfa0a1f45c08187", func := "nautilus/nautiluslaw17.VolJoins", spec := "volJoins", unfollowed := true, recurses := true, apart := false }
def VolJoinsSaid : Prop := volJoinsRow.holds Try.pinned (OpenSpec.ofChange volJoinsSpec)

/-- ITS FALSE NEIGHBOUR: 'it returns false'. Refute it at one input. -/
def volJoinsWrong : ChangeSpec := { name := "volJoins", fn := fun _ => fun
  | [d1, d2, d3] => { results := [.lit (.bool false)], args := [d1, d2, d3] }
  | _ => none }
def VolJoinsWrongFalsely : Prop := volJoinsRow.holds Try.pinned (OpenSpec.ofChange volJoinsWrong)

/-- 'nautiluslaw17.VolInodes': WHATEVER THE INPUT: true; the input reads as it did. -/
def volInodesSpec : ChangeSpec := { name := "volInodes", fn := fun _ => fun
  | [d1, d2, d3, d4, d5] => { results := [.lit (.bool true)], args := [d1, d2, d3, d4, d5] }
  | _ => none }
def volInodesRow : OpenClaim := { program := "ytpcokafalmafgaa", sum := "92608b047303505576861dce74f37e0eb163a2ca76f718524dfa0a1f45c08187", func := "nautilus/nautiluslaw17.VolInodes", spec := "volInodes", unfollowed := true, recurses := true, apart := false }
def VolInodesSaid : Prop := volInodesRow.holds Try.pinned (OpenSpec.ofChange volInodesSpec)

/-- ITS FALSE NEIGHBOUR: 'it returns false'. Refute it at one input. -/
def volInodesWrong : ChangeSpec := { name := "volInodes", fn := fun _ => fun
  | [d1, d2, d3, d4, d5] => { results := [.lit (.bool false)], args := [d1, d2, d3, d4, d5] }
  | _ => none }
def VolInodesWrongFalsely : Prop := volInodesRow.holds Try.pinned (OpenSpec.ofChange volInodesWrong)

/-- 'nautiluslaw17.VolCuts': WHATEVER THE INPUT: true; the input reads as it did. -/
def volCutsSpec : ChangeSpec := { name := "volCuts", fn := fun _ => fun
  | [d1, d2, d3, d4] => { results := [.lit (.bool true)], args := [d1, d2, d3, d4] }
  | _ => none }
def volCutsRow : OpenClaim := { program := "ytpcokafalmafgaa", sum := "92608b047303505576861dce74f37e0eb163a2ca76f718524dfa0a1f45c08187", func := "nautilus/nautiluslaw17.VolCuts", spec := "volCuts", inPlace := ["internal/abi.NoEscape", "internal/bytealg.MakeNoZero"], unfollowed := true, recurses := true, apart := false }
def VolCutsSaid : Prop := volCutsRow.holds Try.pinned (OpenSpec.ofChange volCutsSpec)

/-- ITS FALSE NEIGHBOUR: 'it returns false'. Refute it at one input. -/
def volCutsWrong : ChangeSpec := { name := "volCuts", fn := fun _ => fun
  | [d1, d2, d3, d4] => { results := [.lit (.bool false)], args := [d1, d2, d3, d4] }
  | _ => none }
def VolCutsWrongFalsely : Prop := volCutsRow.holds Try.pinned (OpenSpec.ofChange volCutsWrong)

/-- 'nautiluslaw17.VolBack': WHATEVER THE INPUT: true; the input reads as it did. -/
def volBackSpec : ChangeSpec := { name := "volBack", fn := fun _ => fun
  | [d1, d2] => { results := [.lit (.bool true)], args := [d1, d2] }
  | _ => none }
def volBackRow : OpenClaim := { program := "ytpcokafalmafgaa", sum := "92608b047303505576861dce74f37e0eb163a2ca76f718524dfa0a1f45c08187", func := "nautilus/nautiluslaw17.VolBack", spec := "volBack", inPlace := ["internal/abi.NoEscape", "internal/bytealg.MakeNoZero"], unfollowed := true, recurses := true, apart := false }
def VolBackSaid : Prop := volBackRow.holds Try.pinned (OpenSpec.ofChange volBackSpec)

/-- ITS FALSE NEIGHBOUR: 'it returns false'. Refute it at one input. -/
def volBackWrong : ChangeSpec := { name := "volBack", fn := fun _ => fun
  | [d1, d2] => { results := [.lit (.bool false)], args := [d1, d2] }
  | _ => none }
def VolBackWrongFalsely : Prop := volBackRow.holds Try.pinned (OpenSpec.ofChange volBackWrong)

/-- 'nautiluslaw17.VolTables': WHATEVER THE INPUT: true; the input reads as it did. -/
def volTablesSpec : ChangeSpec := { name := "volTables", fn := fun _ => fun
  | [d1, d2] => { results := [.lit (.bool true)], args := [d1, d2] }
  | _ => none }
def volTablesRow : OpenClaim := { program := "ytpcokafalmafgaa", sum := "92608b047303505576861dce74f37e0eb163a2ca76f718524dfa0a1f45c08187", func := "nautilus/nautiluslaw17.VolTables", spec := "volTables", inPlace := ["internal/abi.NoEscape", "internal/bytealg.MakeNoZero"], unfollowed := true, recurses := true, apart := false }
def VolTablesSaid : Prop := volTablesRow.holds Try.pinned (OpenSpec.ofChange volTablesSpec)

/-- ITS FALSE NEIGHBOUR: 'it returns false'. Refute it at one input. -/
def volTablesWrong : ChangeSpec := { name := "volTables", fn := fun _ => fun
  | [d1, d2] => { results := [.lit (.bool false)], args := [d1, d2] }
  | _ => none }
def VolTablesWrongFalsely : Prop := volTablesRow.holds Try.pinned (OpenSpec.ofChange volTablesWrong)

/-- 'nautiluslaw17.VolReads': WHATEVER THE INPUT: true; the input reads as it did. -/
def volReadsSpec : ChangeSpec := { name := "volReads", fn := fun _ => fun
  | [d1, d2, d3] => { results := [.lit (.bool true)], args := [d1, d2, d3] }
  | _ => none }
def volReadsRow : OpenClaim := { program := "ytpcokafalmafgaa", sum := "92608b047303505576861dce74f37e0eb163a2ca76f718524dfa0a1f45c08187", func := "nautilus/nautiluslaw17.VolReads", spec := "volReads", inPlace := ["internal/abi.NoEscape", "internal/bytealg.MakeNoZero"], unfollowed := true, recurses := true, apart := false }
def VolReadsSaid : Prop := volReadsRow.holds Try.pinned (OpenSpec.ofChange volReadsSpec)

/-- ITS FALSE NEIGHBOUR: 'it returns false'. Refute it at one input. -/
def volReadsWrong : ChangeSpec := { name := "volReads", fn := fun _ => fun
  | [d1, d2, d3] => { results := [.lit (.bool false)], args := [d1, d2, d3] }
  | _ => none }
def VolReadsWrongFalsely : Prop := volReadsRow.holds Try.pinned (OpenSpec.ofChange volReadsWrong)

/- THE SECOND FORM. 'bulk': how many values and letters a reading holds, each counted each time it is reached (what is shared counts as often as it is met; a slice's spare places count too). A statement '..UptoSaid' is the law's where the arguments, and the package variables that the reading takes, are together of bulk at most 1048576: NARROWER than '..Said'. Prove '..Said' where nothing that the law and all that it calls make is longer than what came in: it says more and counts as full. Else prove '..UptoSaid'. A law counts once. -/
mutual
def uptoBulk {H : Type} : DataW H → Nat
  | .lit (.string bytes) => bytes.length + 1
  | .lit _ => 1
  | .nil => 1
  | .ptr d => uptoBulk d + 1
  | .slice elems spare => uptoBulkAll elems + uptoBulkAll spare + 1
  | .agg parts => uptoBulkAll parts + 1
  | .iface _ d => uptoBulk d + 1
  | .map entries => uptoBulkEntries entries + 1
  | .held _ => 1
def uptoBulkAll {H : Type} : List (DataW H) → Nat
  | [] => 0
  | d :: r => uptoBulk d + uptoBulkAll r
def uptoBulkEntries {H : Type} : List (Lit × DataW H) → Nat
  | [] => 0
  | x :: r => uptoBulkEntry x + uptoBulkEntries r
def uptoBulkEntry {H : Type} : Lit × DataW H → Nat
  | (.string bytes, d) => bytes.length + uptoBulk d + 1
  | (_, d) => uptoBulk d + 1
 end
def uptoSmall : (H : Type) → List (DataW H) → Bool := fun _ ds => decide (uptoBulkAll ds ≤ 1048576)
def OpenSpec.upto (s : _root_.Go.ChangeSpec) : _root_.Go.OpenSpec := { _root_.Go.OpenSpec.ofChange s with cond := some uptoSmall }

/-- 'nautiluslaw17.VolTurns', WHERE WHAT IT READS IS OF BULK AT MOST 1048576: true; the input reads as it did. -/
def volTurnsUptoRow : OpenClaim := { program := "ytpcokafalmafgaa", sum := "92608b047303505576861dce74f37e0eb163a2ca76f718524dfa0a1f45c08187", func := "nautilus/nautiluslaw17.VolTurns", spec := "volTurns", unfollowed := true, recurses := true, apart := false, narrowed := true }
def VolTurnsUptoSaid : Prop := volTurnsUptoRow.holds Try.pinned (OpenSpec.upto volTurnsSpec)

/-- 'nautiluslaw17.VolJoins', WHERE WHAT IT READS IS OF BULK AT MOST 1048576: true; the input reads as it did. -/
def volJoinsUptoRow : OpenClaim := { program := "ytpcokafalmafgaa", sum := "92608b047303505576861dce74f37e0eb163a2ca76f718524dfa0a1f45c08187", func := "nautilus/nautiluslaw17.VolJoins", spec := "volJoins", unfollowed := true, recurses := true, apart := false, narrowed := true }
def VolJoinsUptoSaid : Prop := volJoinsUptoRow.holds Try.pinned (OpenSpec.upto volJoinsSpec)

/-- 'nautiluslaw17.VolInodes', WHERE WHAT IT READS IS OF BULK AT MOST 1048576: true; the input reads as it did. -/
def volInodesUptoRow : OpenClaim := { program := "ytpcokafalmafgaa", sum := "92608b047303505576861dce74f37e0eb163a2ca76f718524dfa0a1f45c08187", func := "nautilus/nautiluslaw17.VolInodes", spec := "volInodes", unfollowed := true, recurses := true, apart := false, narrowed := true }
def VolInodesUptoSaid : Prop := volInodesUptoRow.holds Try.pinned (OpenSpec.upto volInodesSpec)

/-- 'nautiluslaw17.VolCuts', WHERE WHAT IT READS IS OF BULK AT MOST 1048576: true; the input reads as it did. -/
def volCutsUptoRow : OpenClaim := { program := "ytpcokafalmafgaa", sum := "92608b047303505576861dce74f37e0eb163a2ca76f718524dfa0a1f45c08187", func := "nautilus/nautiluslaw17.VolCuts", spec := "volCuts", inPlace := ["internal/abi.NoEscape", "internal/bytealg.MakeNoZero"], unfollowed := true, recurses := true, apart := false, narrowed := true }
def VolCutsUptoSaid : Prop := volCutsUptoRow.holds Try.pinned (OpenSpec.upto volCutsSpec)

/-- 'nautiluslaw17.VolBack', WHERE WHAT IT READS IS OF BULK AT MOST 1048576: true; the input reads as it did. -/
def volBackUptoRow : OpenClaim := { program := "ytpcokafalmafgaa", sum := "92608b047303505576861dce74f37e0eb163a2ca76f718524dfa0a1f45c08187", func := "nautilus/nautiluslaw17.VolBack", spec := "volBack", inPlace := ["internal/abi.NoEscape", "internal/bytealg.MakeNoZero"], unfollowed := true, recurses := true, apart := false, narrowed := true }
def VolBackUptoSaid : Prop := volBackUptoRow.holds Try.pinned (OpenSpec.upto volBackSpec)

/-- 'nautiluslaw17.VolTables', WHERE WHAT IT READS IS OF BULK AT MOST 1048576: true; the input reads as it did. -/
def volTablesUptoRow : OpenClaim := { program := "ytpcokafalmafgaa", sum := "92608b047303505576861dce74f37e0eb163a2ca76f718524dfa0a1f45c08187", func := "nautilus/nautiluslaw17.VolTables", spec := "volTables", inPlace := ["internal/abi.NoEscape", "internal/bytealg.MakeNoZero"], unfollowed := true, recurses := true, apart := false, narrowed := true }
def VolTablesUptoSaid : Prop := volTablesUptoRow.holds Try.pinned (OpenSpec.upto volTablesSpec)

/-- 'nautiluslaw17.VolReads', WHERE WHAT IT READS IS OF BULK AT MOST 1048576: true; the input reads as it did. -/
def volReadsUptoRow : OpenClaim := { program := "ytpcokafalmafgaa", sum := "92608b047303505576861dce74f37e0eb163a2ca76f718524dfa0a1f45c08187", func := "nautilus/nautiluslaw17.VolReads", spec := "volReads", inPlace := ["internal/abi.NoEscape", "internal/bytealg.MakeNoZero"], unfollowed := true, recurses := true, apart := false, narrowed := true }
def VolReadsUptoSaid : Prop := volReadsUptoRow.holds Try.pinned (OpenSpec.upto volReadsSpec)

end Rows
end Go.Proofs.Ytpcokafalmafgaa
