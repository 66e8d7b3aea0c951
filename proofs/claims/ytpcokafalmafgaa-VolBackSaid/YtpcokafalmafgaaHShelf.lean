/- The library's contracts on strings.Builder and strings.Repeat, laid at this translation. -/
import Derived.Shelf.Strings.BuilderK
import Derived.Shelf.Strings.Repeat
import Derived.Test.YtpcokafalmafgaaProg
namespace Go.Proofs.Ytpcokafalmafgaa.H
open Go.Shelf
def sren : Go.Shelf.Ren := ⟨fun | 167 => 81 | 105 => 44 | 212 => 55 | 99 => 56 | 165 => 52 | 166 => 53 | 170 => 57 | 169 => 54 | 263 => 66 | 264 => 67 | 206 => 68 | 240 => 64 | 241 => 65 | 276 => 77 | 277 => 78 | n => n, fun | 9 => 9 | 3 => 3 | 4 => 4 | 20 => 20 | 0 => 0 | 46 => 84 | 109 => 85 | 5 => 5 | 72 => 77 | 76 => 81 | 51 => 39 | 146 => 94 | 53 => 33 | 148 => 96 | 70 => 75 | 37 => 24 | 75 => 80 | 127 => 93 | 164 => 107 | 80 => 83 | n => n, fun | n => n⟩
theorem slays : Go.Proofs.Lays.n105 Try.prog sren := {
  mixed := by kernel_rfl
  f99 := Try.func56.trans (congrArg some (by kernel_rfl))
  f105 := Try.func44.trans (congrArg some (by kernel_rfl))
  f165 := Try.func52.trans (congrArg some (by kernel_rfl))
  f166 := Try.func53.trans (congrArg some (by kernel_rfl))
  f169 := Try.func54.trans (congrArg some (by kernel_rfl))
  f170 := Try.func57.trans (congrArg some (by kernel_rfl))
  f206 := Try.func68.trans (congrArg some (by kernel_rfl))
  f212 := Try.func55.trans (congrArg some (by kernel_rfl))
  f240 := Try.func64.trans (congrArg some (by kernel_rfl))
  f241 := Try.func65.trans (congrArg some (by kernel_rfl))
  f263 := Try.func66.trans (congrArg some (by kernel_rfl))
  f264 := Try.func67.trans (congrArg some (by kernel_rfl))
  f276 := Try.func77.trans (congrArg some (by kernel_rfl))
  f277 := Try.func78.trans (congrArg some (by kernel_rfl))
  t0 := Try.underlying0
  a0 := Try.isAgg0
  z0 := Try.sizeOf0
  v0 := Try.zeroValue0
  t3 := Try.underlying3
  a3 := Try.isAgg3
  z3 := Try.sizeOf3
  v3 := Try.zeroValue3
  t4 := Try.underlying4
  a4 := Try.isAgg4
  z4 := Try.sizeOf4
  v4 := Try.zeroValue4
  t5 := Try.underlying5
  a5 := Try.isAgg5
  z5 := Try.sizeOf5
  v5 := Try.zeroValue5
  t9 := Try.underlying9
  a9 := Try.isAgg9
  z9 := Try.sizeOf9
  v9 := Try.zeroValue9
  t20 := Try.underlying20
  a20 := Try.isAgg20
  z20 := Try.sizeOf20
  v20 := Try.zeroValue20
  t37 := Try.underlying24
  a37 := Try.isAgg24
  z37 := Try.sizeOf24
  v37 := Try.zeroValue24
  t46 := Try.underlying84
  a46 := Try.isAgg84
  z46 := Try.sizeOf84
  v46 := Try.zeroValue84
  t51 := Try.underlying39
  a51 := Try.isAgg39
  z51 := Try.sizeOf39
  v51 := Try.zeroValue39
  t53 := Try.underlying33
  a53 := Try.isAgg33
  z53 := Try.sizeOf33
  v53 := Try.zeroValue33
  t70 := Try.underlying75
  a70 := Try.isAgg75
  z70 := Try.sizeOf75
  v70 := Try.zeroValue75
  t72 := Try.underlying77
  a72 := Try.isAgg77
  z72 := Try.sizeOf77
  v72 := Try.zeroValue77
  t75 := Try.underlying80
  a75 := Try.isAgg80
  z75 := Try.sizeOf80
  v75 := Try.zeroValue80
  t76 := Try.underlying81
  a76 := Try.isAgg81
  z76 := Try.sizeOf81
  v76 := Try.zeroValue81
  t109 := Try.underlying85
  a109 := Try.isAgg85
  z109 := Try.sizeOf85
  v109 := Try.zeroValue85
  t127 := Try.underlying93
  a127 := Try.isAgg93
  z127 := Try.sizeOf93
  v127 := Try.zeroValue93
  t146 := Try.underlying94
  a146 := Try.isAgg94
  z146 := Try.sizeOf94
  v146 := Try.zeroValue94
  t148 := Try.underlying96
  a148 := Try.isAgg96
  z148 := Try.sizeOf96
  v148 := Try.zeroValue96
  t164 := Try.underlying107
  a164 := Try.isAgg107
  z164 := Try.sizeOf107
  v164 := Try.zeroValue107 }
theorem sextra : Go.Proofs.Builder.Extra Try.prog sren := {
  sizeBuilder := by kernel_rfl
  liesBuilder := by kernel_rfl
  t5 := Try.underlying5
  a5 := Try.isAgg5
  z5 := Try.sizeOf5
  v5 := Try.zeroValue5
  infoByte := by kernel_rfl
  cellsByte := by kernel_rfl
  sizeByte := by kernel_rfl
  neB5 := by decide }
open Go.RowKit Go.Lib
theorem slaysB : Go.Proofs.Lays.n167 Try.prog sren := { slays with f167 := Try.func81.trans (congrArg some (by kernel_rfl)) }
theorem b_WriteByte (B b : Nat) (bs : List Value) (c : Int) (w : World) (h : Lib.IsBuilderF 77 5 B b bs w) (hlen : bs.length + 1 ≤ 140737488355328) (hBw : B ≤ w.heap.size) :
    Calls Try.prog 81 #[.pointer (some ⟨b, 0, none⟩), .int .u8 c] w fun e w' => e = .returned .nilIface ∧ (Lib.BuilderAtF 77 5 B b (.pointer (some ⟨b, 0, none⟩)) (bs ++ [.int .u8 c]) w' ∧ Below B w w' ∧ Lib.OthersKept 5 (some b) w w') := Any.Builder_WriteByte_k slaysB sextra B b bs c w h hlen hBw
theorem b_WriteString (B b : Nat) (bs : List Value) (s : ByteArray) (w : World) (h : Lib.IsBuilderF 77 5 B b bs w) (hlen : bs.length + s.size ≤ 140737488355328) (hBw : B ≤ w.heap.size) :
    Calls Try.prog 53 #[.pointer (some ⟨b, 0, none⟩), .string s] w fun e w' => e = .returned (.tuple #[.int .i64 s.size, .nilIface]) ∧ (Lib.BuilderAtF 77 5 B b (.pointer (some ⟨b, 0, none⟩)) (bs ++ Lib.strCells s) w' ∧ Below B w w' ∧ Lib.OthersKept 5 (some b) w w') := Any.Builder_WriteString_k { slays with } sextra B b bs s w h hlen hBw
theorem b_String (B b : Nat) (l : List UInt8) (w : World) (h : Lib.IsBuilderF 77 5 B b (Lib.byteCells l) w) (hBw : B ≤ w.heap.size) :
    Calls Try.prog 54 #[.pointer (some ⟨b, 0, none⟩)] w fun e w' => e = .returned (.string ⟨l.toArray⟩) ∧ (Lib.IsBuilderF 77 5 B b (Lib.byteCells l) w' ∧ Below B w w' ∧ Lib.OthersKept 5 (some b) w w') := Any.Builder_String_any_k { slays with } sextra B b l w h hBw
theorem b_Repeat (s : ByteArray) (c : Nat) (w : World) (hc : c ≤ 9223372036854775807) (hlen : s.size * c ≤ 140737488355328) :
    Calls Try.prog 44 #[.string s, .int .i64 c] w fun e w' => e = .returned (.string ⟨(Lib.repeatL s.data.toList c).toArray⟩) ∧ Below w.heap.size w w' := Any.strings_Repeat slays sextra s c w hc hlen
end Go.Proofs.Ytpcokafalmafgaa.H
