/-
  No cell of these rows narrows 'for every input' (looked for: loops, veiled, ifaces, maps, wideKeys, modest, calm, conditions, laid).
  DERIVED. THE GIVEN ROWS OF THIS SEAT. 8 by the template 'for every input the law returns true; each argument reads behind the call as it read before'; 0 by the template 'total and deterministic' (their statements: YtllcmalgahnnhaaTotals.lean).
  GIVEN WITH THE SEED: the statements are not yours to turn. If you find one false, say at which input.
  Laid BY PROGRAM, IN A SANDBOX (cutbox-rows.mjs): the forced cells as the released guide's own fill.sh prints them over the translation 1c0cd93f9be31510… (all of the seat's roots in one cut). By AI agents, Wed Nov 11 2026. No macro, syntax, notation, axiom, sorry.
-/
import Derived.Test.YtllcmalgahnnhaaChecked
import GoSem.Claim
import GoSem.ClaimJoined
import GoSem.ClaimMapViews
import Derived.JoinedTies
import Derived.KernelRfl
namespace Go.Proofs.Ytllcmalgahnnhaa
/- THE CELL 'sum', in the pinned program and in every row, IS THE sha256 OF THE DUMP (.gsa) THAT YtllcmalgahnnhaaProg.lean LOADS. Nothing in Lean hashes anything: it is a label: what it is worth is what the hold of that sum in a sandbox is worth. -/
noncomputable def Try.pinned : Pinned := { name := "ytllcmalgahnnhaa", sum := "1c0cd93f9be31510ce6c7151b90515c09dde15ac863d7291f4694a2ea328d1d6", checked := Try.checked }
namespace Rows
def none {H : Type} : Left H := { results := [], args := [] }

/-- 'nautiluslaw09.CpsStays': WHATEVER THE INPUT: true; the input reads as it did. -/
def cpsStaysSpec : ChangeSpec := { name := "cpsStays", fn := fun _ => fun
  | [d1, d2, d3, d4] => { results := [.lit (.bool true)], args := [d1, d2, d3, d4] }
  | _ => none }
def cpsStaysRow : OpenClaim := { program := "ytllcmalgahnnhaa", sum := "1c0cd93f9be31510ce6c7151b90515c09dde15ac863d7291f4694a2ea328d1d6", func := "nautilus/nautiluslaw09.CpsStays", spec := "cpsStays", unfollowed := true, recurses := true, apart := false }
def CpsStaysSaid : Prop := cpsStaysRow.holds Try.pinned (OpenSpec.ofChange cpsStaysSpec)

/-- ITS FALSE NEIGHBOUR: 'it returns false'. Refute it at one input. -/
def cpsStaysWrong : ChangeSpec := { name := "cpsStays", fn := fun _ => fun
  | [d1, d2, d3, d4] => { results := [.lit (.bool false)], args := [d1, d2, d3, d4] }
  | _ => none }
def CpsStaysWrongFalsely : Prop := cpsStaysRow.holds Try.pinned (OpenSpec.ofChange cpsStaysWrong)

/-- 'nautiluslaw09.CpsMarks': WHATEVER THE INPUT: true; the input reads as it did. -/
def cpsMarksSpec : ChangeSpec := { name := "cpsMarks", fn := fun _ => fun
  | [d1, d2, d3, d4, d5] => { results := [.lit (.bool true)], args := [d1, d2, d3, d4, d5] }
  | _ => none }
def cpsMarksRow : OpenClaim := { program := "ytllcmalgahnnhaa", sum := "1c0cd93f9be31510ce6c7151b90515c09dde15ac863d7291f4694a2ea328d1d6", func := "nautilus/nautiluslaw09.CpsMarks", spec := "cpsMarks", unfollowed := true, recurses := true, apart := false }
def CpsMarksSaid : Prop := cpsMarksRow.holds Try.pinned (OpenSpec.ofChange cpsMarksSpec)

/-- ITS FALSE NEIGHBOUR: 'it returns false'. Refute it at one input. -/
def cpsMarksWrong : ChangeSpec := { name := "cpsMarks", fn := fun _ => fun
  | [d1, d2, d3, d4, d5] => { results := [.lit (.bool false)], args := [d1, d2, d3, d4, d5] }
  | _ => none }
def CpsMarksWrongFalsely : Prop := cpsMarksRow.holds Try.pinned (OpenSpec.ofChange cpsMarksWrong)

/-- 'nautiluslaw09.CpsTurns': WHATEVER THE INPUT: true; the input reads as it did. -/
def cpsTurnsSpec : ChangeSpec := { name := "cpsTurns", fn := fun _ => fun
  | [d1, d2, d3, d4, d5, d6] => { results := [.lit (.bool true)], args := [d1, d2, d3, d4, d5, d6] }
  | _ => none }
def cpsTurnsRow : OpenClaim := { program := "ytllcmalgahnnhaa", sum := "1c0cd93f9be31510ce6c7151b90515c09dde15ac863d7291f4694a2ea328d1d6", func := "nautilus/nautiluslaw09.CpsTurns", spec := "cpsTurns", unfollowed := true, recurses := true, apart := false }
def CpsTurnsSaid : Prop := cpsTurnsRow.holds Try.pinned (OpenSpec.ofChange cpsTurnsSpec)

/-- ITS FALSE NEIGHBOUR: 'it returns false'. Refute it at one input. -/
def cpsTurnsWrong : ChangeSpec := { name := "cpsTurns", fn := fun _ => fun
  | [d1, d2, d3, d4, d5, d6] => { results := [.lit (.bool false)], args := [d1, d2, d3, d4, d5, d6] }
  | _ => none }
def CpsTurnsWrongFalsely : Prop := cpsTurnsRow.holds Try.pinned (OpenSpec.ofChange cpsTurnsWrong)

/-- 'nautiluslaw09.CpsAdds': WHATEVER THE INPUT: true; the input reads as it did. -/
def cpsAddsSpec : ChangeSpec := { name := "cpsAdds", fn := fun _ => fun
  | [d1, d2, d3] => { results := [.lit (.bool true)], args := [d1, d2, d3] }
  | _ => none }
def cpsAddsRow : OpenClaim := { program := "ytllcmalgahnnhaa", sum := "1c0cd93f9be31510ce6c7151b90515c09dde15ac863d7291f4694a2ea328d1d6", func := "nautilus/nautiluslaw09.CpsAdds", spec := "cpsAdds", unfollowed := true, recurses := true, apart := false }
def CpsAddsSaid : Prop := cpsAddsRow.holds Try.pinned (OpenSpec.ofChange cpsAddsSpec)

/-- ITS FALSE NEIGHBOUR: 'it returns false'. Refute it at one input. -/
def cpsAddsWrong : ChangeSpec := { name := "cpsAdds", fn := fun _ => fun
  | [d1, d2, d3] => { results := [.lit (.bool false)], args := [d1, d2, d3] }
  | _ => none }
def CpsAddsWrongFalsely : Prop := cpsAddsRow.holds Try.pinned (OpenSpec.ofChange cpsAddsWrong)

/-- 'nautiluslaw09.CpsOnly': WHATEVER THE INPUT: true; the input reads as it did. -/
def cpsOnlySpec : ChangeSpec := { name := "cpsOnly", fn := fun _ => fun
  | [d1, d2, d3, d4] => { results := [.lit (.bool true)], args := [d1, d2, d3, d4] }
  | _ => none }
def cpsOnlyRow : OpenClaim := { program := "ytllcmalgahnnhaa", sum := "1c0cd93f9be31510ce6c7151b90515c09dde15ac863d7291f4694a2ea328d1d6", func := "nautilus/nautiluslaw09.CpsOnly", spec := "cpsOnly", unfollowed := true, recurses := true, apart := false }
def CpsOnlySaid : Prop := cpsOnlyRow.holds Try.pinned (OpenSpec.ofChange cpsOnlySpec)

/-- ITS FALSE NEIGHBOUR: 'it returns false'. Refute it at one input. -/
def cpsOnlyWrong : ChangeSpec := { name := "cpsOnly", fn := fun _ => fun
  | [d1, d2, d3, d4] => { results := [.lit (.bool false)], args := [d1, d2, d3, d4] }
  | _ => none }
def CpsOnlyWrongFalsely : Prop := cpsOnlyRow.holds Try.pinned (OpenSpec.ofChange cpsOnlyWrong)

/-- 'nautiluslaw09.CpsApart': WHATEVER THE INPUT: true; the input reads as it did. -/
def cpsApartSpec : ChangeSpec := { name := "cpsApart", fn := fun _ => fun
  | [d1, d2, d3] => { results := [.lit (.bool true)], args := [d1, d2, d3] }
  | _ => none }
def cpsApartRow : OpenClaim := { program := "ytllcmalgahnnhaa", sum := "1c0cd93f9be31510ce6c7151b90515c09dde15ac863d7291f4694a2ea328d1d6", func := "nautilus/nautiluslaw09.CpsApart", spec := "cpsApart", inPlace := ["internal/abi.NoEscape", "internal/bytealg.MakeNoZero"], unfollowed := true, recurses := true, apart := false }
def CpsApartSaid : Prop := cpsApartRow.holds Try.pinned (OpenSpec.ofChange cpsApartSpec)

/-- ITS FALSE NEIGHBOUR: 'it returns false'. Refute it at one input. -/
def cpsApartWrong : ChangeSpec := { name := "cpsApart", fn := fun _ => fun
  | [d1, d2, d3] => { results := [.lit (.bool false)], args := [d1, d2, d3] }
  | _ => none }
def CpsApartWrongFalsely : Prop := cpsApartRow.holds Try.pinned (OpenSpec.ofChange cpsApartWrong)

/-- 'nautiluslaw09.CpsBytes': WHATEVER THE INPUT: true; the input reads as it did. -/
def cpsBytesSpec : ChangeSpec := { name := "cpsBytes", fn := fun _ => fun
  | [d1, d2] => { results := [.lit (.bool true)], args := [d1, d2] }
  | _ => none }
def cpsBytesRow : OpenClaim := { program := "ytllcmalgahnnhaa", sum := "1c0cd93f9be31510ce6c7151b90515c09dde15ac863d7291f4694a2ea328d1d6", func := "nautilus/nautiluslaw09.CpsBytes", spec := "cpsBytes", inPlace := ["internal/abi.NoEscape", "internal/bytealg.MakeNoZero"], unfollowed := true, recurses := true, apart := false }
def CpsBytesSaid : Prop := cpsBytesRow.holds Try.pinned (OpenSpec.ofChange cpsBytesSpec)

/-- ITS FALSE NEIGHBOUR: 'it returns false'. Refute it at one input. -/
def cpsBytesWrong : ChangeSpec := { name := "cpsBytes", fn := fun _ => fun
  | [d1, d2] => { results := [.lit (.bool false)], args := [d1, d2] }
  | _ => none }
def CpsBytesWrongFalsely : Prop := cpsBytesRow.holds Try.pinned (OpenSpec.ofChange cpsBytesWrong)

/-- 'nautiluslaw09.CpsBack': WHATEVER THE INPUT: true; the input reads as it did. -/
def cpsBackSpec : ChangeSpec := { name := "cpsBack", fn := fun _ => fun
  | [d1, d2] => { results := [.lit (.bool true)], args := [d1, d2] }
  | _ => none }
def cpsBackRow : OpenClaim := { program := "ytllcmalgahnnhaa", sum := "1c0cd93f9be31510ce6c7151b90515c09dde15ac863d7291f4694a2ea328d1d6", func := "nautilus/nautiluslaw09.CpsBack", spec := "cpsBack", inPlace := ["internal/abi.NoEscape", "internal/bytealg.MakeNoZero"], unfollowed := true, recurses := true, apart := false }
def CpsBackSaid : Prop := cpsBackRow.holds Try.pinned (OpenSpec.ofChange cpsBackSpec)

/-- ITS FALSE NEIGHBOUR: 'it returns false'. Refute it at one input. -/
def cpsBackWrong : ChangeSpec := { name := "cpsBack", fn := fun _ => fun
  | [d1, d2] => { results := [.lit (.bool false)], args := [d1, d2] }
  | _ => none }
def CpsBackWrongFalsely : Prop := cpsBackRow.holds Try.pinned (OpenSpec.ofChange cpsBackWrong)

/- THE SECOND FORM. 'bulk': how many values and letters a reading holds, each counted each time it is reached (what is shared counts as often as it is met; a slice's spare places count too). A statement '..UptoSaid' is the law's where the arguments, and the package variables that the reading takes, are together of bulk at most 1048576: NARROWER than '..Said'. Prove '..Said' where nothing that the law and all that it calls make is longer than what came in: it says more and counts as full. Else prove '..UptoSaid'. A law counts once. -/
mutual
def uptoBulk {H : Type} : DataW H → Nat
  | .lit (.string bytes) => bytes.length + 1
  | .lit _ => 1
  | .nil => 1
  | .ptr d => uptoBulk d + 1
  | .slice elems spare => uptoBulkAll elems + uptoBulkAll spare + 1
  | .agg parts => uptoBulkAll parts + 1
  | .iface _ d => uptoBulk d + 1
  | .map entries => uptoBulkEntries entries + 1
  | .held _ => 1
def uptoBulkAll {H : Type} : List (DataW H) → Nat
  | [] => 0
  | d :: r => uptoBulk d + uptoBulkAll r
def uptoBulkEntries {H : Type} : List (Lit × DataW H) → Nat
  | [] => 0
  | x :: r => uptoBulkEntry x + uptoBulkEntries r
def uptoBulkEntry {H : Type} : Lit × DataW H → Nat
  | (.string bytes, d) => bytes.length + uptoBulk d + 1
  | (_, d) => uptoBulk d + 1
 end
def uptoSmall : (H : Type) → List (DataW H) → Bool := fun _ ds => decide (uptoBulkAll ds ≤ 1048576)
def OpenSpec.upto (s : _root_.Go.ChangeSpec) : _root_.Go.OpenSpec := { _root_.Go.OpenSpec.ofChange s with cond := some uptoSmall }

/-- 'nautiluslaw09.CpsStays', WHERE WHAT IT READS IS OF BULK AT MOST 1048576: true; the input reads as it did. -/
def cpsStaysUptoRow : OpenClaim := { program := "ytllcmalgahnnhaa", sum := "1c0cd93f9be31510ce6c7151b90515c09dde15ac863d7291f4694a2ea328d1d6", func := "nautilus/nautiluslaw09.CpsStays", spec := "cpsStays", unfollowed := true, recurses := true, apart := false, narrowed := true }
def CpsStaysUptoSaid : Prop := cpsStaysUptoRow.holds Try.pinned (OpenSpec.upto cpsStaysSpec)

/-- 'nautiluslaw09.CpsMarks', WHERE WHAT IT READS IS OF BULK AT MOST 1048576: true; the input reads as it did. -/
def cpsMarksUptoRow : OpenClaim := { program := "ytllcmalgahnnhaa", sum := "1c0cd93f9be31510ce6c7151b90515c09dde15ac863d7291f4694a2ea328d1d6", func := "nautilus/nautiluslaw09.CpsMarks", spec := "cpsMarks", unfollowed := true, recurses := true, apart := false, narrowed := true }
def CpsMarksUptoSaid : Prop := cpsMarksUptoRow.holds Try.pinned (OpenSpec.upto cpsMarksSpec)

/-- 'nautiluslaw09.CpsTurns', WHERE WHAT IT READS IS OF BULK AT MOST 1048576: true; the input reads as it did. -/
def cpsTurnsUptoRow : OpenClaim := { program := "ytllcmalgahnnhaa", sum := "1c0cd93f9be31510ce6c7151b90515c09dde15ac863d7291f4694a2ea328d1d6", func := "nautilus/nautiluslaw09.CpsTurns", spec := "cpsTurns", unfollowed := true, recurses := true, apart := false, narrowed := true }
def CpsTurnsUptoSaid : Prop := cpsTurnsUptoRow.holds Try.pinned (OpenSpec.upto cpsTurnsSpec)

/-- 'nautiluslaw09.CpsAdds', WHERE WHAT IT READS IS OF BULK AT MOST 1048576: true; the input reads as it did. -/
def cpsAddsUptoRow : OpenClaim := { program := "ytllcmalgahnnhaa", sum := "1c0cd93f9be31510ce6c7151b90515c09dde15ac863d7291f4694a2ea328d1d6", func := "nautilus/nautiluslaw09.CpsAdds", spec := "cpsAdds", unfollowed := true, recurses := true, apart := false, narrowed := true }
def CpsAddsUptoSaid : Prop := cpsAddsUptoRow.holds Try.pinned (OpenSpec.upto cpsAddsSpec)

/-- 'nautiluslaw09.CpsOnly', WHERE WHAT IT READS IS OF BULK AT MOST 1048576: true; the input reads as it did. -/
def cpsOnlyUptoRow : OpenClaim := { program := "ytllcmalgahnnhaa", sum := "1c0cd93f9be31510ce6c7151b90515c09dde15ac863d7291f4694a2ea328d1d6", func := "nautilus/nautiluslaw09.CpsOnly", spec := "cpsOnly", unfollowed := true, recurses := true, apart := false, narrowed := true }
def CpsOnlyUptoSaid : Prop := cpsOnlyUptoRow.holds Try.pinned (OpenSpec.upto cpsOnlySpec)

/-- 'nautiluslaw09.CpsApart', WHERE WHAT IT READS IS OF BULK AT MOST 1048576: true; the input reads as it did. -/
def cpsApartUptoRow : OpenClaim := { program := "ytllcmalgahnnhaa", sum := "1c0cd93f9be31510ce6c7151b90515c09dde15ac863d7291f4694a2ea328d1d6", func := "nautilus/nautiluslaw09.CpsApart", spec := "cpsApart", inPlace := ["internal/abi.NoEscape", "internal/bytealg.MakeNoZero"], unfollowed := true, recurses := true, apart := false, narrowed := true }
def CpsApartUptoSaid : Prop := cpsApartUptoRow.holds Try.pinned (OpenSpec.upto cpsApartSpec)

/-- 'nautiluslaw09.CpsBytes', WHERE WHAT IT READS IS OF BULK AT MOST 1048576: true; the input reads as it did. -/
def cpsBytesUptoRow : OpenClaim := { program := "ytllcmalgahnnhaa", sum := "1c0cd93f9be31510ce6c7151b90515c09dde15ac863d7291f4694a2ea328d1d6", func := "nautilus/nautiluslaw09.CpsBytes", spec := "cpsBytes", inPlace := ["internal/abi.NoEscape", "internal/bytealg.MakeNoZero"], unfollowed := true, recurses := true, apart := false, narrowed := true }
def CpsBytesUptoSaid : Prop := cpsBytesUptoRow.holds Try.pinned (OpenSpec.upto cpsBytesSpec)

/-- 'nautiluslaw09.CpsBack', WHERE WHAT IT READS IS OF BULK AT MOST 1048576: true; the input reads as it did. -/
def cpsBackUptoRow : OpenClaim := { program := "ytllcmalgahnnhaa", sum := "1c0cd93f9be31510ce6c7151b90515c09dde15ac863d7291f4694a2ea328d1d6", func := "nautilus/nautiluslaw09.CpsBack", spec := "cpsBack", inPlace := ["internal/abi.NoEscape", "internal/bytealg.MakeNoZero"], unfollowed := true, recurses := true, apart := false, narrowed := true }
def CpsBackUptoSaid : Prop := cpsBackUptoRow.holds Try.pinned (OpenSpec.upto cpsBackSpec)

end Rows
end Go.Proofs.Ytllcmalgahnnhaa
