/- The library's contracts on strings.Builder and strings.Repeat, laid at this translation. -/
import Derived.Shelf.Strings.BuilderK
import Derived.Shelf.Strings.Repeat
import Derived.Test.YtmpcpcfdomlehaaProg
namespace Go.Proofs.Ytmpcpcfdomlehaa.H
open Go.Shelf
def sren : Go.Shelf.Ren := ⟨fun | 167 => 28 | 105 => 31 | 212 => 34 | 99 => 35 | 165 => 36 | 166 => 18 | 170 => 37 | 169 => 21 | 263 => 38 | 264 => 39 | 206 => 40 | 240 => 29 | 241 => 41 | 276 => 33 | 277 => 42 | n => n, fun | 9 => 9 | 3 => 3 | 4 => 4 | 20 => 20 | 0 => 0 | 46 => 66 | 109 => 70 | 5 => 5 | 72 => 40 | 76 => 44 | 51 => 35 | 146 => 75 | 53 => 22 | 148 => 77 | 70 => 37 | 37 => 38 | 75 => 43 | 127 => 65 | 164 => 68 | 80 => 51 | n => n, fun | n => n⟩
theorem slays : Go.Proofs.Lays.n105 Try.prog sren := {
  mixed := by kernel_rfl
  f99 := Try.func35.trans (congrArg some (by kernel_rfl))
  f105 := Try.func31.trans (congrArg some (by kernel_rfl))
  f165 := Try.func36.trans (congrArg some (by kernel_rfl))
  f166 := Try.func18.trans (congrArg some (by kernel_rfl))
  f169 := Try.func21.trans (congrArg some (by kernel_rfl))
  f170 := Try.func37.trans (congrArg some (by kernel_rfl))
  f206 := Try.func40.trans (congrArg some (by kernel_rfl))
  f212 := Try.func34.trans (congrArg some (by kernel_rfl))
  f240 := Try.func29.trans (congrArg some (by kernel_rfl))
  f241 := Try.func41.trans (congrArg some (by kernel_rfl))
  f263 := Try.func38.trans (congrArg some (by kernel_rfl))
  f264 := Try.func39.trans (congrArg some (by kernel_rfl))
  f276 := Try.func33.trans (congrArg some (by kernel_rfl))
  f277 := Try.func42.trans (congrArg some (by kernel_rfl))
  t0 := Try.underlying0
  a0 := Try.isAgg0
  z0 := Try.sizeOf0
  v0 := Try.zeroValue0
  t3 := Try.underlying3
  a3 := Try.isAgg3
  z3 := Try.sizeOf3
  v3 := Try.zeroValue3
  t4 := Try.underlying4
  a4 := Try.isAgg4
  z4 := Try.sizeOf4
  v4 := Try.zeroValue4
  t5 := Try.underlying5
  a5 := Try.isAgg5
  z5 := Try.sizeOf5
  v5 := Try.zeroValue5
  t9 := Try.underlying9
  a9 := Try.isAgg9
  z9 := Try.sizeOf9
  v9 := Try.zeroValue9
  t20 := Try.underlying20
  a20 := Try.isAgg20
  z20 := Try.sizeOf20
  v20 := Try.zeroValue20
  t37 := Try.underlying38
  a37 := Try.isAgg38
  z37 := Try.sizeOf38
  v37 := Try.zeroValue38
  t46 := Try.underlying66
  a46 := Try.isAgg66
  z46 := Try.sizeOf66
  v46 := Try.zeroValue66
  t51 := Try.underlying35
  a51 := Try.isAgg35
  z51 := Try.sizeOf35
  v51 := Try.zeroValue35
  t53 := Try.underlying22
  a53 := Try.isAgg22
  z53 := Try.sizeOf22
  v53 := Try.zeroValue22
  t70 := Try.underlying37
  a70 := Try.isAgg37
  z70 := Try.sizeOf37
  v70 := Try.zeroValue37
  t72 := Try.underlying40
  a72 := Try.isAgg40
  z72 := Try.sizeOf40
  v72 := Try.zeroValue40
  t75 := Try.underlying43
  a75 := Try.isAgg43
  z75 := Try.sizeOf43
  v75 := Try.zeroValue43
  t76 := Try.underlying44
  a76 := Try.isAgg44
  z76 := Try.sizeOf44
  v76 := Try.zeroValue44
  t109 := Try.underlying70
  a109 := Try.isAgg70
  z109 := Try.sizeOf70
  v109 := Try.zeroValue70
  t127 := Try.underlying65
  a127 := Try.isAgg65
  z127 := Try.sizeOf65
  v127 := Try.zeroValue65
  t146 := Try.underlying75
  a146 := Try.isAgg75
  z146 := Try.sizeOf75
  v146 := Try.zeroValue75
  t148 := Try.underlying77
  a148 := Try.isAgg77
  z148 := Try.sizeOf77
  v148 := Try.zeroValue77
  t164 := Try.underlying68
  a164 := Try.isAgg68
  z164 := Try.sizeOf68
  v164 := Try.zeroValue68 }
theorem sextra : Go.Proofs.Builder.Extra Try.prog sren := {
  sizeBuilder := by kernel_rfl
  liesBuilder := by kernel_rfl
  t5 := Try.underlying5
  a5 := Try.isAgg5
  z5 := Try.sizeOf5
  v5 := Try.zeroValue5
  infoByte := by kernel_rfl
  cellsByte := by kernel_rfl
  sizeByte := by kernel_rfl
  neB5 := by decide }
open Go.RowKit Go.Lib
theorem slaysB : Go.Proofs.Lays.n167 Try.prog sren := { slays with f167 := Try.func28.trans (congrArg some (by kernel_rfl)) }
theorem b_WriteByte (B b : Nat) (bs : List Value) (c : Int) (w : World) (h : Lib.IsBuilderF 40 5 B b bs w) (hlen : bs.length + 1 ≤ 140737488355328) (hBw : B ≤ w.heap.size) :
    Calls Try.prog 28 #[.pointer (some ⟨b, 0, none⟩), .int .u8 c] w fun e w' => e = .returned .nilIface ∧ (Lib.BuilderAtF 40 5 B b (.pointer (some ⟨b, 0, none⟩)) (bs ++ [.int .u8 c]) w' ∧ Below B w w' ∧ Lib.OthersKept 5 (some b) w w') := Any.Builder_WriteByte_k slaysB sextra B b bs c w h hlen hBw
theorem b_WriteString (B b : Nat) (bs : List Value) (s : ByteArray) (w : World) (h : Lib.IsBuilderF 40 5 B b bs w) (hlen : bs.length + s.size ≤ 140737488355328) (hBw : B ≤ w.heap.size) :
    Calls Try.prog 18 #[.pointer (some ⟨b, 0, none⟩), .string s] w fun e w' => e = .returned (.tuple #[.int .i64 s.size, .nilIface]) ∧ (Lib.BuilderAtF 40 5 B b (.pointer (some ⟨b, 0, none⟩)) (bs ++ Lib.strCells s) w' ∧ Below B w w' ∧ Lib.OthersKept 5 (some b) w w') := Any.Builder_WriteString_k { slays with } sextra B b bs s w h hlen hBw
theorem b_String (B b : Nat) (l : List UInt8) (w : World) (h : Lib.IsBuilderF 40 5 B b (Lib.byteCells l) w) (hBw : B ≤ w.heap.size) :
    Calls Try.prog 21 #[.pointer (some ⟨b, 0, none⟩)] w fun e w' => e = .returned (.string ⟨l.toArray⟩) ∧ (Lib.IsBuilderF 40 5 B b (Lib.byteCells l) w' ∧ Below B w w' ∧ Lib.OthersKept 5 (some b) w w') := Any.Builder_String_any_k { slays with } sextra B b l w h hBw
theorem b_Repeat (s : ByteArray) (c : Nat) (w : World) (hc : c ≤ 9223372036854775807) (hlen : s.size * c ≤ 140737488355328) :
    Calls Try.prog 31 #[.string s, .int .i64 c] w fun e w' => e = .returned (.string ⟨(Lib.repeatL s.data.toList c).toArray⟩) ∧ Below w.heap.size w w' := Any.strings_Repeat slays sextra s c w hc hlen
end Go.Proofs.Ytmpcpcfdomlehaa.H
