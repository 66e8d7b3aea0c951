/- The library's contracts on strings.Builder and strings.Repeat, laid at this translation. -/
import Derived.Shelf.Strings.BuilderK
import Derived.Shelf.Strings.Repeat
import Derived.Test.YthgefgjaihagoaaProg
namespace Go.Proofs.Ythgefgjaihagoaa.H
open Go.Shelf
def sren : Go.Shelf.Ren := ⟨fun | 167 => 87 | 105 => 31 | 212 => 69 | 99 => 70 | 165 => 71 | 166 => 52 | 170 => 72 | 169 => 54 | 263 => 95 | 264 => 96 | 206 => 97 | 240 => 88 | 241 => 98 | 276 => 104 | 277 => 106 | n => n, fun | 9 => 9 | 3 => 3 | 4 => 4 | 20 => 20 | 0 => 0 | 46 => 149 | 109 => 150 | 5 => 5 | 72 => 117 | 76 => 121 | 51 => 41 | 146 => 174 | 53 => 23 | 148 => 176 | 70 => 114 | 37 => 115 | 75 => 120 | 127 => 165 | 164 => 182 | 80 => 124 | n => n, fun | n => n⟩
theorem slays : Go.Proofs.Lays.n105 Try.prog sren := {
  mixed := by kernel_rfl
  f99 := Try.func70.trans (congrArg some (by kernel_rfl))
  f105 := Try.func31.trans (congrArg some (by kernel_rfl))
  f165 := Try.func71.trans (congrArg some (by kernel_rfl))
  f166 := Try.func52.trans (congrArg some (by kernel_rfl))
  f169 := Try.func54.trans (congrArg some (by kernel_rfl))
  f170 := Try.func72.trans (congrArg some (by kernel_rfl))
  f206 := Try.func97.trans (congrArg some (by kernel_rfl))
  f212 := Try.func69.trans (congrArg some (by kernel_rfl))
  f240 := Try.func88.trans (congrArg some (by kernel_rfl))
  f241 := Try.func98.trans (congrArg some (by kernel_rfl))
  f263 := Try.func95.trans (congrArg some (by kernel_rfl))
  f264 := Try.func96.trans (congrArg some (by kernel_rfl))
  f276 := Try.func104.trans (congrArg some (by kernel_rfl))
  f277 := Try.func106.trans (congrArg some (by kernel_rfl))
  t0 := Try.underlying0
  a0 := Try.isAgg0
  z0 := Try.sizeOf0
  v0 := Try.zeroValue0
  t3 := Try.underlying3
  a3 := Try.isAgg3
  z3 := Try.sizeOf3
  v3 := Try.zeroValue3
  t4 := Try.underlying4
  a4 := Try.isAgg4
  z4 := Try.sizeOf4
  v4 := Try.zeroValue4
  t5 := Try.underlying5
  a5 := Try.isAgg5
  z5 := Try.sizeOf5
  v5 := Try.zeroValue5
  t9 := Try.underlying9
  a9 := Try.isAgg9
  z9 := Try.sizeOf9
  v9 := Try.zeroValue9
  t20 := Try.underlying20
  a20 := Try.isAgg20
  z20 := Try.sizeOf20
  v20 := Try.zeroValue20
  t37 := Try.underlying115
  a37 := Try.isAgg115
  z37 := Try.sizeOf115
  v37 := Try.zeroValue115
  t46 := Try.underlying149
  a46 := Try.isAgg149
  z46 := Try.sizeOf149
  v46 := Try.zeroValue149
  t51 := Try.underlying41
  a51 := Try.isAgg41
  z51 := Try.sizeOf41
  v51 := Try.zeroValue41
  t53 := Try.underlying23
  a53 := Try.isAgg23
  z53 := Try.sizeOf23
  v53 := Try.zeroValue23
  t70 := Try.underlying114
  a70 := Try.isAgg114
  z70 := Try.sizeOf114
  v70 := Try.zeroValue114
  t72 := Try.underlying117
  a72 := Try.isAgg117
  z72 := Try.sizeOf117
  v72 := Try.zeroValue117
  t75 := Try.underlying120
  a75 := Try.isAgg120
  z75 := Try.sizeOf120
  v75 := Try.zeroValue120
  t76 := Try.underlying121
  a76 := Try.isAgg121
  z76 := Try.sizeOf121
  v76 := Try.zeroValue121
  t109 := Try.underlying150
  a109 := Try.isAgg150
  z109 := Try.sizeOf150
  v109 := Try.zeroValue150
  t127 := Try.underlying165
  a127 := Try.isAgg165
  z127 := Try.sizeOf165
  v127 := Try.zeroValue165
  t146 := Try.underlying174
  a146 := Try.isAgg174
  z146 := Try.sizeOf174
  v146 := Try.zeroValue174
  t148 := Try.underlying176
  a148 := Try.isAgg176
  z148 := Try.sizeOf176
  v148 := Try.zeroValue176
  t164 := Try.underlying182
  a164 := Try.isAgg182
  z164 := Try.sizeOf182
  v164 := Try.zeroValue182 }
theorem sextra : Go.Proofs.Builder.Extra Try.prog sren := {
  sizeBuilder := by kernel_rfl
  liesBuilder := by kernel_rfl
  t5 := Try.underlying5
  a5 := Try.isAgg5
  z5 := Try.sizeOf5
  v5 := Try.zeroValue5
  infoByte := by kernel_rfl
  cellsByte := by kernel_rfl
  sizeByte := by kernel_rfl
  neB5 := by decide }
open Go.RowKit Go.Lib
theorem slaysB : Go.Proofs.Lays.n167 Try.prog sren := { slays with f167 := Try.func87.trans (congrArg some (by kernel_rfl)) }
theorem b_WriteByte (B b : Nat) (bs : List Value) (c : Int) (w : World) (h : Lib.IsBuilderF 117 5 B b bs w) (hlen : bs.length + 1 ≤ 140737488355328) (hBw : B ≤ w.heap.size) :
    Calls Try.prog 87 #[.pointer (some ⟨b, 0, none⟩), .int .u8 c] w fun e w' => e = .returned .nilIface ∧ (Lib.BuilderAtF 117 5 B b (.pointer (some ⟨b, 0, none⟩)) (bs ++ [.int .u8 c]) w' ∧ Below B w w' ∧ Lib.OthersKept 5 (some b) w w') := Any.Builder_WriteByte_k slaysB sextra B b bs c w h hlen hBw
theorem b_WriteString (B b : Nat) (bs : List Value) (s : ByteArray) (w : World) (h : Lib.IsBuilderF 117 5 B b bs w) (hlen : bs.length + s.size ≤ 140737488355328) (hBw : B ≤ w.heap.size) :
    Calls Try.prog 52 #[.pointer (some ⟨b, 0, none⟩), .string s] w fun e w' => e = .returned (.tuple #[.int .i64 s.size, .nilIface]) ∧ (Lib.BuilderAtF 117 5 B b (.pointer (some ⟨b, 0, none⟩)) (bs ++ Lib.strCells s) w' ∧ Below B w w' ∧ Lib.OthersKept 5 (some b) w w') := Any.Builder_WriteString_k { slays with } sextra B b bs s w h hlen hBw
theorem b_String (B b : Nat) (l : List UInt8) (w : World) (h : Lib.IsBuilderF 117 5 B b (Lib.byteCells l) w) (hBw : B ≤ w.heap.size) :
    Calls Try.prog 54 #[.pointer (some ⟨b, 0, none⟩)] w fun e w' => e = .returned (.string ⟨l.toArray⟩) ∧ (Lib.IsBuilderF 117 5 B b (Lib.byteCells l) w' ∧ Below B w w' ∧ Lib.OthersKept 5 (some b) w w') := Any.Builder_String_any_k { slays with } sextra B b l w h hBw
theorem b_Repeat (s : ByteArray) (c : Nat) (w : World) (hc : c ≤ 9223372036854775807) (hlen : s.size * c ≤ 140737488355328) :
    Calls Try.prog 31 #[.string s, .int .i64 c] w fun e w' => e = .returned (.string ⟨(Lib.repeatL s.data.toList c).toArray⟩) ∧ Below w.heap.size w w' := Any.strings_Repeat slays sextra s c w hc hlen
end Go.Proofs.Ythgefgjaihagoaa.H
