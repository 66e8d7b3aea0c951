/-
  No cell of these rows narrows 'for every input' (looked for: loops, veiled, ifaces, maps, wideKeys, modest, calm, conditions, laid).
  DERIVED. THE GIVEN ROWS OF THIS SEAT. 6 by the template 'for every input the law returns true; each argument reads behind the call as it read before'; 0 by the template 'total and deterministic' (their statements: YtiajhfinkpddbaaTotals.lean).
  GIVEN WITH THE SEED: the statements are not yours to turn. If you find one false, say at which input.
  Laid BY PROGRAM, IN A SANDBOX (cutbox-rows.mjs): the forced cells as the released guide's own fill.sh prints them over the translation abe549c5aa9ed9e5… (all of the seat's roots in one cut). By AI agents, Wed Nov 11 2026. No macro, syntax, notation, axiom, sorry.
-/
import Derived.Test.YtiajhfinkpddbaaChecked
import GoSem.Claim
import GoSem.ClaimJoined
import GoSem.ClaimMapViews
import Derived.JoinedTies
import Derived.KernelRfl
namespace Go.Proofs.Ytiajhfinkpddbaa
/- THE CELL 'sum', in the pinned program and in every row, IS THE sha256 OF THE DUMP (.gsa) THAT YtiajhfinkpddbaaProg.lean LOADS. Nothing in Lean hashes anything: it is a label: what it is worth is what the hold of that sum in a sandbox is worth. -/
noncomputable def Try.pinned : Pinned := { name := "ytiajhfinkpddbaa", sum := "abe549c5aa9ed9e5290130ded73821a6fd0436c3703081fde8a238a2f19de8cf", checked := Try.checked }
namespace Rows
def none {H : Type} : Left H := { results := [], args := [] }

/-- 'nautiluslaw08.DatKeeps': WHATEVER THE INPUT: true; the input reads as it did. -/
def datKeepsSpec : ChangeSpec := { name := "datKeeps", fn := fun _ => fun
  | [d1, d2, d3, d4, d5] => { results := [.lit (.bool true)], args := [d1, d2, d3, d4, d5] }
  | _ => none }
def datKeepsRow : OpenClaim := { program := "ytiajhfinkpddbaa", sum := "abe549c5aa9ed9e5290130ded73821a6fd0436c3703081fde8a238a2f19de8cf", func := "nautilus/nautiluslaw08.DatKeeps", spec := "datKeeps", unfollowed := true, recurses := true, apart := false }
def DatKeepsSaid : Prop := datKeepsRow.holds Try.pinned (OpenSpec.ofChange datKeepsSpec)

/-- ITS FALSE NEIGHBOUR: 'it returns false'. Refute it at one input. -/
def datKeepsWrong : ChangeSpec := { name := "datKeeps", fn := fun _ => fun
  | [d1, d2, d3, d4, d5] => { results := [.lit (.bool false)], args := [d1, d2, d3, d4, d5] }
  | _ => none }
def DatKeepsWrongFalsely : Prop := datKeepsRow.holds Try.pinned (OpenSpec.ofChange datKeepsWrong)

/-- 'nautiluslaw08.DatBegins': WHATEVER THE INPUT: true; the input reads as it did. -/
def datBeginsSpec : ChangeSpec := { name := "datBegins", fn := fun _ => fun
  | [d1, d2, d3, d4] => { results := [.lit (.bool true)], args := [d1, d2, d3, d4] }
  | _ => none }
def datBeginsRow : OpenClaim := { program := "ytiajhfinkpddbaa", sum := "abe549c5aa9ed9e5290130ded73821a6fd0436c3703081fde8a238a2f19de8cf", func := "nautilus/nautiluslaw08.DatBegins", spec := "datBegins", unfollowed := true, recurses := true, apart := false }
def DatBeginsSaid : Prop := datBeginsRow.holds Try.pinned (OpenSpec.ofChange datBeginsSpec)

/-- ITS FALSE NEIGHBOUR: 'it returns false'. Refute it at one input. -/
def datBeginsWrong : ChangeSpec := { name := "datBegins", fn := fun _ => fun
  | [d1, d2, d3, d4] => { results := [.lit (.bool false)], args := [d1, d2, d3, d4] }
  | _ => none }
def DatBeginsWrongFalsely : Prop := datBeginsRow.holds Try.pinned (OpenSpec.ofChange datBeginsWrong)

/-- 'nautiluslaw08.DatEnds': WHATEVER THE INPUT: true; the input reads as it did. -/
def datEndsSpec : ChangeSpec := { name := "datEnds", fn := fun _ => fun
  | [d1, d2, d3, d4] => { results := [.lit (.bool true)], args := [d1, d2, d3, d4] }
  | _ => none }
def datEndsRow : OpenClaim := { program := "ytiajhfinkpddbaa", sum := "abe549c5aa9ed9e5290130ded73821a6fd0436c3703081fde8a238a2f19de8cf", func := "nautilus/nautiluslaw08.DatEnds", spec := "datEnds", unfollowed := true, recurses := true, apart := false }
def DatEndsSaid : Prop := datEndsRow.holds Try.pinned (OpenSpec.ofChange datEndsSpec)

/-- ITS FALSE NEIGHBOUR: 'it returns false'. Refute it at one input. -/
def datEndsWrong : ChangeSpec := { name := "datEnds", fn := fun _ => fun
  | [d1, d2, d3, d4] => { results := [.lit (.bool false)], args := [d1, d2, d3, d4] }
  | _ => none }
def DatEndsWrongFalsely : Prop := datEndsRow.holds Try.pinned (OpenSpec.ofChange datEndsWrong)

/-- 'nautiluslaw08.DatMoves': WHATEVER THE INPUT: true; the input reads as it did. -/
def datMovesSpec : ChangeSpec := { name := "datMoves", fn := fun _ => fun
  | [d1, d2, d3] => { results := [.lit (.bool true)], args := [d1, d2, d3] }
  | _ => none }
def datMovesRow : OpenClaim := { program := "ytiajhfinkpddbaa", sum := "abe549c5aa9ed9e5290130ded73821a6fd0436c3703081fde8a238a2f19de8cf", func := "nautilus/nautiluslaw08.DatMoves", spec := "datMoves", unfollowed := true, recurses := true, apart := false }
def DatMovesSaid : Prop := datMovesRow.holds Try.pinned (OpenSpec.ofChange datMovesSpec)

/-- ITS FALSE NEIGHBOUR: 'it returns false'. Refute it at one input. -/
def datMovesWrong : ChangeSpec := { name := "datMoves", fn := fun _ => fun
  | [d1, d2, d3] => { results := [.lit (.bool false)], args := [d1, d2, d3] }
  | _ => none }
def DatMovesWrongFalsely : Prop := datMovesRow.holds Try.pinned (OpenSpec.ofChange datMovesWrong)

/-- 'nautiluslaw08.DatSwept': WHATEVER THE INPUT: true; the input reads as it did. -/
def datSweptSpec : ChangeSpec := { name := "datSwept", fn := fun _ => fun
  | [d1, d2] => { results := [.lit (.bool true)], args := [d1, d2] }
  | _ => none }
def datSweptRow : OpenClaim := { program := "ytiajhfinkpddbaa", sum := "abe549c5aa9ed9e5290130ded73821a6fd0436c3703081fde8a238a2f19de8cf", func := "nautilus/nautiluslaw08.DatSwept", spec := "datSwept", unfollowed := true, recurses := true, apart := false }
def DatSweptSaid : Prop := datSweptRow.holds Try.pinned (OpenSpec.ofChange datSweptSpec)

/-- ITS FALSE NEIGHBOUR: 'it returns false'. Refute it at one input. -/
def datSweptWrong : ChangeSpec := { name := "datSwept", fn := fun _ => fun
  | [d1, d2] => { results := [.lit (.bool false)], args := [d1, d2] }
  | _ => none }
def DatSweptWrongFalsely : Prop := datSweptRow.holds Try.pinned (OpenSpec.ofChange datSweptWrong)

/-- 'nautiluslaw08.DatBytes': WHATEVER THE INPUT: true; the input reads as it did. -/
def datBytesSpec : ChangeSpec := { name := "datBytes", fn := fun _ => fun
  | [d1, d2] => { results := [.lit (.bool true)], args := [d1, d2] }
  | _ => none }
def datBytesRow : OpenClaim := { program := "ytiajhfinkpddbaa", sum := "abe549c5aa9ed9e5290130ded73821a6fd0436c3703081fde8a238a2f19de8cf", func := "nautilus/nautiluslaw08.DatBytes", spec := "datBytes", inPlace := ["internal/abi.NoEscape", "internal/bytealg.MakeNoZero"], unfollowed := true, recurses := true, apart := false }
def DatBytesSaid : Prop := datBytesRow.holds Try.pinned (OpenSpec.ofChange datBytesSpec)

/-- ITS FALSE NEIGHBOUR: 'it returns false'. Refute it at one input. -/
def datBytesWrong : ChangeSpec := { name := "datBytes", fn := fun _ => fun
  | [d1, d2] => { results := [.lit (.bool false)], args := [d1, d2] }
  | _ => none }
def DatBytesWrongFalsely : Prop := datBytesRow.holds Try.pinned (OpenSpec.ofChange datBytesWrong)

/- THE SECOND FORM. 'bulk': how many values and letters a reading holds, each counted each time it is reached (what is shared counts as often as it is met; a slice's spare places count too). A statement '..UptoSaid' is the law's where the arguments, and the package variables that the reading takes, are together of bulk at most 1048576: NARROWER than '..Said'. Prove '..Said' where nothing that the law and all that it calls make is longer than what came in: it says more and counts as full. Else prove '..UptoSaid'. A law counts once. -/
mutual
def uptoBulk {H : Type} : DataW H → Nat
  | .lit (.string bytes) => bytes.length + 1
  | .lit _ => 1
  | .nil => 1
  | .ptr d => uptoBulk d + 1
  | .slice elems spare => uptoBulkAll elems + uptoBulkAll spare + 1
  | .agg parts => uptoBulkAll parts + 1
  | .iface _ d => uptoBulk d + 1
  | .map entries => uptoBulkEntries entries + 1
  | .held _ => 1
def uptoBulkAll {H : Type} : List (DataW H) → Nat
  | [] => 0
  | d :: r => uptoBulk d + uptoBulkAll r
def uptoBulkEntries {H : Type} : List (Lit × DataW H) → Nat
  | [] => 0
  | x :: r => uptoBulkEntry x + uptoBulkEntries r
def uptoBulkEntry {H : Type} : Lit × DataW H → Nat
  | (.string bytes, d) => bytes.length + uptoBulk d + 1
  | (_, d) => uptoBulk d + 1
 end
def uptoSmall : (H : Type) → List (DataW H) → Bool := fun _ ds => decide (uptoBulkAll ds ≤ 1048576)
def OpenSpec.upto (s : _root_.Go.ChangeSpec) : _root_.Go.OpenSpec := { _root_.Go.OpenSpec.ofChange s with cond := some uptoSmall }

/-- 'nautiluslaw08.DatKeeps', WHERE WHAT IT READS IS OF BULK AT MOST 1048576: true; the input reads as it did. -/
def datKeepsUptoRow : OpenClaim := { program := "ytiajhfinkpddbaa", sum := "abe549c5aa9ed9e5290130ded73821a6fd0436c3703081fde8a238a2f19de8cf", func := "nautilus/nautiluslaw08.DatKeeps", spec := "datKeeps", unfollowed := true, recurses := true, apart := false, narrowed := true }
def DatKeepsUptoSaid : Prop := datKeepsUptoRow.holds Try.pinned (OpenSpec.upto datKeepsSpec)

/-- 'nautiluslaw08.DatBegins', WHERE WHAT IT READS IS OF BULK AT MOST 1048576: true; the input reads as it did. -/
def datBeginsUptoRow : OpenClaim := { program := "ytiajhfinkpddbaa", sum := "abe549c5aa9ed9e5290130ded73821a6fd0436c3703081fde8a238a2f19de8cf", func := "nautilus/nautiluslaw08.DatBegins", spec := "datBegins", unfollowed := true, recurses := true, apart := false, narrowed := true }
def DatBeginsUptoSaid : Prop := datBeginsUptoRow.holds Try.pinned (OpenSpec.upto datBeginsSpec)

/-- 'nautiluslaw08.DatEnds', WHERE WHAT IT READS IS OF BULK AT MOST 1048576: true; the input reads as it did. -/
def datEndsUptoRow : OpenClaim := { program := "ytiajhfinkpddbaa", sum := "abe549c5aa9ed9e5290130ded73821a6fd0436c3703081fde8a238a2f19de8cf", func := "nautilus/nautiluslaw08.DatEnds", spec := "datEnds", unfollowed := true, recurses := true, apart := false, narrowed := true }
def DatEndsUptoSaid : Prop := datEndsUptoRow.holds Try.pinned (OpenSpec.upto datEndsSpec)

/-- 'nautiluslaw08.DatMoves', WHERE WHAT IT READS IS OF BULK AT MOST 1048576: true; the input reads as it did. -/
def datMovesUptoRow : OpenClaim := { program := "ytiajhfinkpddbaa", sum := "abe549c5aa9ed9e5290130ded73821a6fd0436c3703081fde8a238a2f19de8cf", func := "nautilus/nautiluslaw08.DatMoves", spec := "datMoves", unfollowed := true, recurses := true, apart := false, narrowed := true }
def DatMovesUptoSaid : Prop := datMovesUptoRow.holds Try.pinned (OpenSpec.upto datMovesSpec)

/-- 'nautiluslaw08.DatSwept', WHERE WHAT IT READS IS OF BULK AT MOST 1048576: true; the input reads as it did. -/
def datSweptUptoRow : OpenClaim := { program := "ytiajhfinkpddbaa", sum := "abe549c5aa9ed9e5290130ded73821a6fd0436c3703081fde8a238a2f19de8cf", func := "nautilus/nautiluslaw08.DatSwept", spec := "datSwept", unfollowed := true, recurses := true, apart := false, narrowed := true }
def DatSweptUptoSaid : Prop := datSweptUptoRow.holds Try.pinned (OpenSpec.upto datSweptSpec)

/-- 'nautiluslaw08.DatBytes', WHERE WHAT IT READS IS OF BULK AT MOST 1048576: true; the input reads as it did. -/
def datBytesUptoRow : OpenClaim := { program := "ytiajhfinkpddbaa", sum := "abe549c5aa9ed9e5290130ded73821a6fd0436c3703081fde8a238a2f19de8cf", func := "nautilus/nautiluslaw08.DatBytes", spec := "datBytes", inPlace := ["internal/abi.NoEscape", "internal/bytealg.MakeNoZero"], unfollowed := true, recurses := true, apart := false, narrowed := true }
def DatBytesUptoSaid : Prop := datBytesUptoRow.holds Try.pinned (OpenSpec.upto datBytesSpec)

end Rows
end Go.Proofs.Ytiajhfinkpddbaa
