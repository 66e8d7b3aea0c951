/-
  No cell of these rows narrows 'for every input' (looked for: loops, veiled, ifaces, maps, wideKeys, modest, calm, conditions, laid).
  DERIVED. THE GIVEN ROWS OF THIS SEAT. 5 by the template 'for every input the law returns true; each argument reads behind the call as it read before'; 0 by the template 'total and deterministic' (their statements: YtpcejkhipnkhfaaTotals.lean).
  GIVEN WITH THE SEED: the statements are not yours to turn. If you find one false, say at which input.
  Laid BY PROGRAM, IN A SANDBOX (cutbox-rows.mjs): the forced cells as the released guide's own fill.sh prints them over the translation 62153a46268e0528… (all of the seat's roots in one cut). By AI agents, Wed Nov 11 2026. No macro, syntax, notation, axiom, sorry.
-/
import Derived.Test.YtpcejkhipnkhfaaChecked
import GoSem.Claim
import GoSem.ClaimJoined
import GoSem.ClaimMapViews
import Derived.JoinedTies
import Derived.KernelRfl
namespace Go.Proofs.Ytpcejkhipnkhfaa
/- THE CELL 'sum', in the pinned program and in every row, IS THE sha256 OF THE DUMP (.gsa) THAT YtpcejkhipnkhfaaProg.lean LOADS. Nothing in Lean hashes anything: it is a label: what it is worth is what the hold of that sum in a sandbox is worth. -/
noncomputable def Try.pinned : Pinned := { name := "ytpcejkhipnkhfaa", sum := "62153a46268e0528a9f62cd60324d20e142c0860113e2c7d5fb1afb0baec98ca", checked := Try.checked }
namespace Rows
def none {H : Type} : Left H := { results := [], args := [] }

/-- 'nautiluslaw05.SuperBytes': WHATEVER THE INPUT: true; the input reads as it did. -/
def superBytesSpec : ChangeSpec := { name := "superBytes", fn := fun _ => fun
  | [d1, d2] => { results := [.lit (.bool true)], args := [d1, d2] }
  | _ => none }
def superBytesRow : OpenClaim := { program := "ytpcejkhipnkhfaa", sum := "62153a46268e0528a9f62cd60324d20e142c0860113e2c7d5fb1afb0baec98ca", func := "nautilus/nautiluslaw05.SuperBytes", spec := "superBytes", inPlace := ["internal/abi.NoEscape", "internal/bytealg.MakeNoZero"], unfollowed := true, recurses := true, apart := false }
def SuperBytesSaid : Prop := superBytesRow.holds Try.pinned (OpenSpec.ofChange superBytesSpec)

/-- ITS FALSE NEIGHBOUR: 'it returns false'. Refute it at one input. -/
def superBytesWrong : ChangeSpec := { name := "superBytes", fn := fun _ => fun
  | [d1, d2] => { results := [.lit (.bool false)], args := [d1, d2] }
  | _ => none }
def SuperBytesWrongFalsely : Prop := superBytesRow.holds Try.pinned (OpenSpec.ofChange superBytesWrong)

/-- 'nautiluslaw05.SuperPlaces': WHATEVER THE INPUT: true; the input reads as it did. -/
def superPlacesSpec : ChangeSpec := { name := "superPlaces", fn := fun _ => fun
  | [d] => { results := [.lit (.bool true)], args := [d] }
  | _ => none }
def superPlacesRow : OpenClaim := { program := "ytpcejkhipnkhfaa", sum := "62153a46268e0528a9f62cd60324d20e142c0860113e2c7d5fb1afb0baec98ca", func := "nautilus/nautiluslaw05.SuperPlaces", spec := "superPlaces", inPlace := ["internal/abi.NoEscape", "internal/bytealg.MakeNoZero"], unfollowed := true, recurses := true, apart := false }
def SuperPlacesSaid : Prop := superPlacesRow.holds Try.pinned (OpenSpec.ofChange superPlacesSpec)

/-- ITS FALSE NEIGHBOUR: 'it returns false'. Refute it at one input. -/
def superPlacesWrong : ChangeSpec := { name := "superPlaces", fn := fun _ => fun
  | [d] => { results := [.lit (.bool false)], args := [d] }
  | _ => none }
def SuperPlacesWrongFalsely : Prop := superPlacesRow.holds Try.pinned (OpenSpec.ofChange superPlacesWrong)

/-- 'nautiluslaw05.SuperNewest': WHATEVER THE INPUT: true; the input reads as it did. -/
def superNewestSpec : ChangeSpec := { name := "superNewest", fn := fun _ => fun
  | [d1, d2, d3, d4] => { results := [.lit (.bool true)], args := [d1, d2, d3, d4] }
  | _ => none }
def superNewestRow : OpenClaim := { program := "ytpcejkhipnkhfaa", sum := "62153a46268e0528a9f62cd60324d20e142c0860113e2c7d5fb1afb0baec98ca", func := "nautilus/nautiluslaw05.SuperNewest", spec := "superNewest", inPlace := ["internal/abi.NoEscape", "internal/bytealg.MakeNoZero"], unfollowed := true, recurses := true, apart := false }
def SuperNewestSaid : Prop := superNewestRow.holds Try.pinned (OpenSpec.ofChange superNewestSpec)

/-- ITS FALSE NEIGHBOUR: 'it returns false'. Refute it at one input. -/
def superNewestWrong : ChangeSpec := { name := "superNewest", fn := fun _ => fun
  | [d1, d2, d3, d4] => { results := [.lit (.bool false)], args := [d1, d2, d3, d4] }
  | _ => none }
def SuperNewestWrongFalsely : Prop := superNewestRow.holds Try.pinned (OpenSpec.ofChange superNewestWrong)

/-- 'nautiluslaw05.SuperBack': WHATEVER THE INPUT: true; the input reads as it did. -/
def superBackSpec : ChangeSpec := { name := "superBack", fn := fun _ => fun
  | [d1, d2] => { results := [.lit (.bool true)], args := [d1, d2] }
  | _ => none }
def superBackRow : OpenClaim := { program := "ytpcejkhipnkhfaa", sum := "62153a46268e0528a9f62cd60324d20e142c0860113e2c7d5fb1afb0baec98ca", func := "nautilus/nautiluslaw05.SuperBack", spec := "superBack", inPlace := ["internal/abi.NoEscape", "internal/bytealg.MakeNoZero"], unfollowed := true, recurses := true, apart := false }
def SuperBackSaid : Prop := superBackRow.holds Try.pinned (OpenSpec.ofChange superBackSpec)

/-- ITS FALSE NEIGHBOUR: 'it returns false'. Refute it at one input. -/
def superBackWrong : ChangeSpec := { name := "superBack", fn := fun _ => fun
  | [d1, d2] => { results := [.lit (.bool false)], args := [d1, d2] }
  | _ => none }
def SuperBackWrongFalsely : Prop := superBackRow.holds Try.pinned (OpenSpec.ofChange superBackWrong)

/-- 'nautiluslaw05.SuperApart': WHATEVER THE INPUT: true; the input reads as it did. -/
def superApartSpec : ChangeSpec := { name := "superApart", fn := fun _ => fun
  | [d1, d2] => { results := [.lit (.bool true)], args := [d1, d2] }
  | _ => none }
def superApartRow : OpenClaim := { program := "ytpcejkhipnkhfaa", sum := "62153a46268e0528a9f62cd60324d20e142c0860113e2c7d5fb1afb0baec98ca", func := "nautilus/nautiluslaw05.SuperApart", spec := "superApart", inPlace := ["internal/abi.NoEscape", "internal/bytealg.MakeNoZero"], unfollowed := true, recurses := true, apart := false }
def SuperApartSaid : Prop := superApartRow.holds Try.pinned (OpenSpec.ofChange superApartSpec)

/-- ITS FALSE NEIGHBOUR: 'it returns false'. Refute it at one input. -/
def superApartWrong : ChangeSpec := { name := "superApart", fn := fun _ => fun
  | [d1, d2] => { results := [.lit (.bool false)], args := [d1, d2] }
  | _ => none }
def SuperApartWrongFalsely : Prop := superApartRow.holds Try.pinned (OpenSpec.ofChange superApartWrong)

/- THE SECOND FORM. 'bulk': how many values and letters a reading holds, each counted each time it is reached (what is shared counts as often as it is met; a slice's spare places count too). A statement '..UptoSaid' is the law's where the arguments, and the package variables that the reading takes, are together of bulk at most 1048576: NARROWER than '..Said'. Prove '..Said' where nothing that the law and all that it calls make is longer than what came in: it says more and counts as full. Else prove '..UptoSaid'. A law counts once. -/
mutual
def uptoBulk {H : Type} : DataW H → Nat
  | .lit (.string bytes) => bytes.length + 1
  | .lit _ => 1
  | .nil => 1
  | .ptr d => uptoBulk d + 1
  | .slice elems spare => uptoBulkAll elems + uptoBulkAll spare + 1
  | .agg parts => uptoBulkAll parts + 1
  | .iface _ d => uptoBulk d + 1
  | .map entries => uptoBulkEntries entries + 1
  | .held _ => 1
def uptoBulkAll {H : Type} : List (DataW H) → Nat
  | [] => 0
  | d :: r => uptoBulk d + uptoBulkAll r
def uptoBulkEntries {H : Type} : List (Lit × DataW H) → Nat
  | [] => 0
  | x :: r => uptoBulkEntry x + uptoBulkEntries r
def uptoBulkEntry {H : Type} : Lit × DataW H → Nat
  | (.string bytes, d) => bytes.length + uptoBulk d + 1
  | (_, d) => uptoBulk d + 1
 end
def uptoSmall : (H : Type) → List (DataW H) → Bool := fun _ ds => decide (uptoBulkAll ds ≤ 1048576)
def OpenSpec.upto (s : _root_.Go.ChangeSpec) : _root_.Go.OpenSpec := { _root_.Go.OpenSpec.ofChange s with cond := some uptoSmall }

/-- 'nautiluslaw05.SuperBytes', WHERE WHAT IT READS IS OF BULK AT MOST 1048576: true; the input reads as it did. -/
def superBytesUptoRow : OpenClaim := { program := "ytpcejkhipnkhfaa", sum := "62153a46268e0528a9f62cd60324d20e142c0860113e2c7d5fb1afb0baec98ca", func := "nautilus/nautiluslaw05.SuperBytes", spec := "superBytes", inPlace := ["internal/abi.NoEscape", "internal/bytealg.MakeNoZero"], unfollowed := true, recurses := true, apart := false, narrowed := true }
def SuperBytesUptoSaid : Prop := superBytesUptoRow.holds Try.pinned (OpenSpec.upto superBytesSpec)

/-- 'nautiluslaw05.SuperPlaces', WHERE WHAT IT READS IS OF BULK AT MOST 1048576: true; the input reads as it did. -/
def superPlacesUptoRow : OpenClaim := { program := "ytpcejkhipnkhfaa", sum := "62153a46268e0528a9f62cd60324d20e142c0860113e2c7d5fb1afb0baec98ca", func := "nautilus/nautiluslaw05.SuperPlaces", spec := "superPlaces", inPlace := ["internal/abi.NoEscape", "internal/bytealg.MakeNoZero"], unfollowed := true, recurses := true, apart := false, narrowed := true }
def SuperPlacesUptoSaid : Prop := superPlacesUptoRow.holds Try.pinned (OpenSpec.upto superPlacesSpec)

/-- 'nautiluslaw05.SuperNewest', WHERE WHAT IT READS IS OF BULK AT MOST 1048576: true; the input reads as it did. -/
def superNewestUptoRow : OpenClaim := { program := "ytpcejkhipnkhfaa", sum := "62153a46268e0528a9f62cd60324d20e142c0860113e2c7d5fb1afb0baec98ca", func := "nautilus/nautiluslaw05.SuperNewest", spec := "superNewest", inPlace := ["internal/abi.NoEscape", "internal/bytealg.MakeNoZero"], unfollowed := true, recurses := true, apart := false, narrowed := true }
def SuperNewestUptoSaid : Prop := superNewestUptoRow.holds Try.pinned (OpenSpec.upto superNewestSpec)

/-- 'nautiluslaw05.SuperBack', WHERE WHAT IT READS IS OF BULK AT MOST 1048576: true; the input reads as it did. -/
def superBackUptoRow : OpenClaim := { program := "ytpcejkhipnkhfaa", sum := "62153a46268e0528a9f62cd60324d20e142c0860113e2c7d5fb1afb0baec98ca", func := "nautilus/nautiluslaw05.SuperBack", spec := "superBack", inPlace := ["internal/abi.NoEscape", "internal/bytealg.MakeNoZero"], unfollowed := true, recurses := true, apart := false, narrowed := true }
def SuperBackUptoSaid : Prop := superBackUptoRow.holds Try.pinned (OpenSpec.upto superBackSpec)

/-- 'nautiluslaw05.SuperApart', WHERE WHAT IT READS IS OF BULK AT MOST 1048576: true; the input reads as it did. -/
def superApartUptoRow : OpenClaim := { program := "ytpcejkhipnkhfaa", sum := "62153a46268e0528a9f62cd60324d20e142c0860113e2c7d5fb1afb0baec98ca", func := "nautilus/nautiluslaw05.SuperApart", spec := "superApart", inPlace := ["internal/abi.NoEscape", "internal/bytealg.MakeNoZero"], unfollowed := true, recurses := true, apart := false, narrowed := true }
def SuperApartUptoSaid : Prop := superApartUptoRow.holds Try.pinned (OpenSpec.upto superApartSpec)

end Rows
end Go.Proofs.Ytpcejkhipnkhfaa
