/-
  No cell of these rows narrows 'for every input' (looked for: loops, veiled, ifaces, maps, wideKeys, modest, calm, conditions, laid).
  DERIVED. THE GIVEN ROWS OF THIS SEAT. 5 by the template 'for every input the law returns true; each argument reads behind the call as it read before'; 0 by the template 'total and deterministic' (their statements: YtdcdcnnigggdjaaTotals.lean).
  GIVEN WITH THE SEED: the statements are not yours to turn. If you find one false, say at which input.
  Laid BY PROGRAM, IN A SANDBOX (cutbox-rows.mjs): the forced cells as the released guide's own fill.sh prints them over the translation 3825e75ad8b07600… (all of the seat's roots in one cut). By AI agents, Wed Nov 11 2026. No macro, syntax, notation, axiom, sorry.
-/
import Derived.Test.YtdcdcnnigggdjaaChecked
import GoSem.Claim
import GoSem.ClaimJoined
import GoSem.ClaimMapViews
import Derived.JoinedTies
import Derived.KernelRfl
namespace Go.Proofs.Ytdcdcnnigggdjaa
/- THE CELL 'sum', in the pinned program and in every row, IS THE sha256 OF THE DUMP (.gsa) THAT YtdcdcnnigggdjaaProg.lean LOADS. Nothing in Lean hashes anything: it is a label: what it is worth is what the hold of that sum in a sandbox is worth. -/
noncomputable def Try.pinned : Pinned := { name := "ytdcdcnnigggdjaa", sum := "3825e75ad8b0760070df178dd47a7b638fdd4c6e748eee3f39efa9aa4e340540", checked := Try.checked }
namespace Rows
def none {H : Type} : Left H := { results := [], args := [] }

/-- 'nautiluslaw10.InodeSizes': WHATEVER THE INPUT: true; the input reads as it did. -/
def inodeSizesSpec : ChangeSpec := { name := "inodeSizes", fn := fun _ => fun
  | [d1, d2] => { results := [.lit (.bool true)], args := [d1, d2] }
  | _ => none }
def inodeSizesRow : OpenClaim := { program := "ytdcdcnnigggdjaa", sum := "3825e75ad8b0760070df178dd47a7b638fdd4c6e748eee3f39efa9aa4e340540", func := "nautilus/nautiluslaw10.InodeSizes", spec := "inodeSizes", inPlace := ["internal/abi.NoEscape", "internal/bytealg.MakeNoZero"], unfollowed := true, recurses := true, apart := false }
def InodeSizesSaid : Prop := inodeSizesRow.holds Try.pinned (OpenSpec.ofChange inodeSizesSpec)

/-- ITS FALSE NEIGHBOUR: 'it returns false'. Refute it at one input. -/
def inodeSizesWrong : ChangeSpec := { name := "inodeSizes", fn := fun _ => fun
  | [d1, d2] => { results := [.lit (.bool false)], args := [d1, d2] }
  | _ => none }
def InodeSizesWrongFalsely : Prop := inodeSizesRow.holds Try.pinned (OpenSpec.ofChange inodeSizesWrong)

/-- 'nautiluslaw10.InodeApart': WHATEVER THE INPUT: true; the input reads as it did. -/
def inodeApartSpec : ChangeSpec := { name := "inodeApart", fn := fun _ => fun
  | [d1, d2] => { results := [.lit (.bool true)], args := [d1, d2] }
  | _ => none }
def inodeApartRow : OpenClaim := { program := "ytdcdcnnigggdjaa", sum := "3825e75ad8b0760070df178dd47a7b638fdd4c6e748eee3f39efa9aa4e340540", func := "nautilus/nautiluslaw10.InodeApart", spec := "inodeApart", inPlace := ["internal/abi.NoEscape", "internal/bytealg.MakeNoZero"], unfollowed := true, recurses := true, apart := false }
def InodeApartSaid : Prop := inodeApartRow.holds Try.pinned (OpenSpec.ofChange inodeApartSpec)

/-- ITS FALSE NEIGHBOUR: 'it returns false'. Refute it at one input. -/
def inodeApartWrong : ChangeSpec := { name := "inodeApart", fn := fun _ => fun
  | [d1, d2] => { results := [.lit (.bool false)], args := [d1, d2] }
  | _ => none }
def InodeApartWrongFalsely : Prop := inodeApartRow.holds Try.pinned (OpenSpec.ofChange inodeApartWrong)

/-- 'nautiluslaw10.InodeBytes': WHATEVER THE INPUT: true; the input reads as it did. -/
def inodeBytesSpec : ChangeSpec := { name := "inodeBytes", fn := fun _ => fun
  | [d1, d2, d3] => { results := [.lit (.bool true)], args := [d1, d2, d3] }
  | _ => none }
def inodeBytesRow : OpenClaim := { program := "ytdcdcnnigggdjaa", sum := "3825e75ad8b0760070df178dd47a7b638fdd4c6e748eee3f39efa9aa4e340540", func := "nautilus/nautiluslaw10.InodeBytes", spec := "inodeBytes", inPlace := ["internal/abi.NoEscape", "internal/bytealg.MakeNoZero"], unfollowed := true, recurses := true, apart := false }
def InodeBytesSaid : Prop := inodeBytesRow.holds Try.pinned (OpenSpec.ofChange inodeBytesSpec)

/-- ITS FALSE NEIGHBOUR: 'it returns false'. Refute it at one input. -/
def inodeBytesWrong : ChangeSpec := { name := "inodeBytes", fn := fun _ => fun
  | [d1, d2, d3] => { results := [.lit (.bool false)], args := [d1, d2, d3] }
  | _ => none }
def InodeBytesWrongFalsely : Prop := inodeBytesRow.holds Try.pinned (OpenSpec.ofChange inodeBytesWrong)

/-- 'nautiluslaw10.InodeTables': WHATEVER THE INPUT: true; the input reads as it did. -/
def inodeTablesSpec : ChangeSpec := { name := "inodeTables", fn := fun _ => fun
  | [d1, d2, d3] => { results := [.lit (.bool true)], args := [d1, d2, d3] }
  | _ => none }
def inodeTablesRow : OpenClaim := { program := "ytdcdcnnigggdjaa", sum := "3825e75ad8b0760070df178dd47a7b638fdd4c6e748eee3f39efa9aa4e340540", func := "nautilus/nautiluslaw10.InodeTables", spec := "inodeTables", inPlace := ["internal/abi.NoEscape", "internal/bytealg.MakeNoZero"], unfollowed := true, recurses := true, apart := false }
def InodeTablesSaid : Prop := inodeTablesRow.holds Try.pinned (OpenSpec.ofChange inodeTablesSpec)

/-- ITS FALSE NEIGHBOUR: 'it returns false'. Refute it at one input. -/
def inodeTablesWrong : ChangeSpec := { name := "inodeTables", fn := fun _ => fun
  | [d1, d2, d3] => { results := [.lit (.bool false)], args := [d1, d2, d3] }
  | _ => none }
def InodeTablesWrongFalsely : Prop := inodeTablesRow.holds Try.pinned (OpenSpec.ofChange inodeTablesWrong)

/-- 'nautiluslaw10.InodeBack': WHATEVER THE INPUT: true; the input reads as it did. -/
def inodeBackSpec : ChangeSpec := { name := "inodeBack", fn := fun _ => fun
  | [d1, d2, d3, d4, d5] => { results := [.lit (.bool true)], args := [d1, d2, d3, d4, d5] }
  | _ => none }
def inodeBackRow : OpenClaim := { program := "ytdcdcnnigggdjaa", sum := "3825e75ad8b0760070df178dd47a7b638fdd4c6e748eee3f39efa9aa4e340540", func := "nautilus/nautiluslaw10.InodeBack", spec := "inodeBack", inPlace := ["internal/abi.NoEscape", "internal/bytealg.MakeNoZero"], unfollowed := true, recurses := true, apart := false }
def InodeBackSaid : Prop := inodeBackRow.holds Try.pinned (OpenSpec.ofChange inodeBackSpec)

/-- ITS FALSE NEIGHBOUR: 'it returns false'. Refute it at one input. -/
def inodeBackWrong : ChangeSpec := { name := "inodeBack", fn := fun _ => fun
  | [d1, d2, d3, d4, d5] => { results := [.lit (.bool false)], args := [d1, d2, d3, d4, d5] }
  | _ => none }
def InodeBackWrongFalsely : Prop := inodeBackRow.holds Try.pinned (OpenSpec.ofChange inodeBackWrong)

/- THE SECOND FORM. 'bulk': how many values and letters a reading holds, each counted each time it is reached (what is shared counts as often as it is met; a slice's spare places count too). A statement '..UptoSaid' is the law's where the arguments, and the package variables that the reading takes, are together of bulk at most 1048576: NARROWER than '..Said'. Prove '..Said' where nothing that the law and all that it calls make is longer than what came in: it says more and counts as full. Else prove '..UptoSaid'. A law counts once. -/
mutual
def uptoBulk {H : Type} : DataW H → Nat
  | .lit (.string bytes) => bytes.length + 1
  | .lit _ => 1
  | .nil => 1
  | .ptr d => uptoBulk d + 1
  | .slice elems spare => uptoBulkAll elems + uptoBulkAll spare + 1
  | .agg parts => uptoBulkAll parts + 1
  | .iface _ d => uptoBulk d + 1
  | .map entries => uptoBulkEntries entries + 1
  | .held _ => 1
def uptoBulkAll {H : Type} : List (DataW H) → Nat
  | [] => 0
  | d :: r => uptoBulk d + uptoBulkAll r
def uptoBulkEntries {H : Type} : List (Lit × DataW H) → Nat
  | [] => 0
  | x :: r => uptoBulkEntry x + uptoBulkEntries r
def uptoBulkEntry {H : Type} : Lit × DataW H → Nat
  | (.string bytes, d) => bytes.length + uptoBulk d + 1
  | (_, d) => uptoBulk d + 1
 end
def uptoSmall : (H : Type) → List (DataW H) → Bool := fun _ ds => decide (uptoBulkAll ds ≤ 1048576)
def OpenSpec.upto (s : _root_.Go.ChangeSpec) : _root_.Go.OpenSpec := { _root_.Go.OpenSpec.ofChange s with cond := some uptoSmall }

/-- 'nautiluslaw10.InodeSizes', WHERE WHAT IT READS IS OF BULK AT MOST 1048576: true; the input reads as it did. -/
def inodeSizesUptoRow : OpenClaim := { program := "ytdcdcnnigggdjaa", sum := "3825e75ad8b0760070df178dd47a7b638fdd4c6e748eee3f39efa9aa4e340540", func := "nautilus/nautiluslaw10.InodeSizes", spec := "inodeSizes", inPlace := ["internal/abi.NoEscape", "internal/bytealg.MakeNoZero"], unfollowed := true, recurses := true, apart := false, narrowed := true }
def InodeSizesUptoSaid : Prop := inodeSizesUptoRow.holds Try.pinned (OpenSpec.upto inodeSizesSpec)

/-- 'nautiluslaw10.InodeApart', WHERE WHAT IT READS IS OF BULK AT MOST 1048576: true; the input reads as it did. -/
def inodeApartUptoRow : OpenClaim := { program := "ytdcdcnnigggdjaa", sum := "3825e75ad8b0760070df178dd47a7b638fdd4c6e748eee3f39efa9aa4e340540", func := "nautilus/nautiluslaw10.InodeApart", spec := "inodeApart", inPlace := ["internal/abi.NoEscape", "internal/bytealg.MakeNoZero"], unfollowed := true, recurses := true, apart := false, narrowed := true }
def InodeApartUptoSaid : Prop := inodeApartUptoRow.holds Try.pinned (OpenSpec.upto inodeApartSpec)

/-- 'nautiluslaw10.InodeBytes', WHERE WHAT IT READS IS OF BULK AT MOST 1048576: true; the input reads as it did. -/
def inodeBytesUptoRow : OpenClaim := { program := "ytdcdcnnigggdjaa", sum := "3825e75ad8b0760070df178dd47a7b638fdd4c6e748eee3f39efa9aa4e340540", func := "nautilus/nautiluslaw10.InodeBytes", spec := "inodeBytes", inPlace := ["internal/abi.NoEscape", "internal/bytealg.MakeNoZero"], unfollowed := true, recurses := true, apart := false, narrowed := true }
def InodeBytesUptoSaid : Prop := inodeBytesUptoRow.holds Try.pinned (OpenSpec.upto inodeBytesSpec)

/-- 'nautiluslaw10.InodeTables', WHERE WHAT IT READS IS OF BULK AT MOST 1048576: true; the input reads as it did. -/
def inodeTablesUptoRow : OpenClaim := { program := "ytdcdcnnigggdjaa", sum := "3825e75ad8b0760070df178dd47a7b638fdd4c6e748eee3f39efa9aa4e340540", func := "nautilus/nautiluslaw10.InodeTables", spec := "inodeTables", inPlace := ["internal/abi.NoEscape", "internal/bytealg.MakeNoZero"], unfollowed := true, recurses := true, apart := false, narrowed := true }
def InodeTablesUptoSaid : Prop := inodeTablesUptoRow.holds Try.pinned (OpenSpec.upto inodeTablesSpec)

/-- 'nautiluslaw10.InodeBack', WHERE WHAT IT READS IS OF BULK AT MOST 1048576: true; the input reads as it did. -/
def inodeBackUptoRow : OpenClaim := { program := "ytdcdcnnigggdjaa", sum := "3825e75ad8b0760070df178dd47a7b638fdd4c6e748eee3f39efa9aa4e340540", func := "nautilus/nautiluslaw10.InodeBack", spec := "inodeBack", inPlace := ["internal/abi.NoEscape", "internal/bytealg.MakeNoZero"], unfollowed := true, recurses := true, apart := false, narrowed := true }
def InodeBackUptoSaid : Prop := inodeBackUptoRow.holds Try.pinned (OpenSpec.upto inodeBackSpec)

end Rows
end Go.Proofs.Ytdcdcnnigggdjaa
