/- The library's contracts on strings.Builder and strings.Repeat, laid at this translation. -/
import Derived.Shelf.Strings.BuilderK
import Derived.Shelf.Strings.Repeat
import Derived.Test.YthgefgjaihagoaaProg
import Derived.Test.YthgefgjaihagoaaHRW
import Derived.Shelf.Abstract
import Derived.Shelf.RegionOpen
import Derived.WalkKit
import Derived.OwnWalkIn
import Derived.TacticsInMore
import Derived.LoopNIn
import Derived.LoopIn
import Derived.Lib.Hide
namespace Go.Proofs.Ythgefgjaihagoaa.H
open Go.Shelf
def sren : Go.Shelf.Ren := ⟨fun | 167 => 87 | 105 => 31 | 212 => 69 | 99 => 70 | 165 => 71 | 166 => 52 | 170 => 72 | 169 => 54 | 263 => 95 | 264 => 96 | 206 => 97 | 240 => 88 | 241 => 98 | 276 => 104 | 277 => 106 | n => n, fun | 9 => 9 | 3 => 3 | 4 => 4 | 20 => 20 | 0 => 0 | 46 => 149 | 109 => 150 | 5 => 5 | 72 => 117 | 76 => 121 | 51 => 41 | 146 => 174 | 53 => 23 | 148 => 176 | 70 => 114 | 37 => 115 | 75 => 120 | 127 => 165 | 164 => 182 | 80 => 124 | n => n, fun | n => n⟩
theorem slays : Go.Proofs.Lays.n105 Try.prog sren := {
  mixed := by kernel_rfl
  f99 := Try.func70.trans (congrArg some (by kernel_rfl))
  f105 := Try.func31.trans (congrArg some (by kernel_rfl))
  f165 := Try.func71.trans (congrArg some (by kernel_rfl))
  f166 := Try.func52.trans (congrArg some (by kernel_rfl))
  f169 := Try.func54.trans (congrArg some (by kernel_rfl))
  f170 := Try.func72.trans (congrArg some (by kernel_rfl))
  f206 := Try.func97.trans (congrArg some (by kernel_rfl))
  f212 := Try.func69.trans (congrArg some (by kernel_rfl))
  f240 := Try.func88.trans (congrArg some (by kernel_rfl))
  f241 := Try.func98.trans (congrArg some (by kernel_rfl))
  f263 := Try.func95.trans (congrArg some (by kernel_rfl))
  f264 := Try.func96.trans (congrArg some (by kernel_rfl))
  f276 := Try.func104.trans (congrArg some (by kernel_rfl))
  f277 := Try.func106.trans (congrArg some (by kernel_rfl))
  t0 := Try.underlying0
  a0 := Try.isAgg0
  z0 := Try.sizeOf0
  v0 := Try.zeroValue0
  t3 := Try.underlying3
  a3 := Try.isAgg3
  z3 := Try.sizeOf3
  v3 := Try.zeroValue3
  t4 := Try.underlying4
  a4 := Try.isAgg4
  z4 := Try.sizeOf4
  v4 := Try.zeroValue4
  t5 := Try.underlying5
  a5 := Try.isAgg5
  z5 := Try.sizeOf5
  v5 := Try.zeroValue5
  t9 := Try.underlying9
  a9 := Try.isAgg9
  z9 := Try.sizeOf9
  v9 := Try.zeroValue9
  t20 := Try.underlying20
  a20 := Try.isAgg20
  z20 := Try.sizeOf20
  v20 := Try.zeroValue20
  t37 := Try.underlying115
  a37 := Try.isAgg115
  z37 := Try.sizeOf115
  v37 := Try.zeroValue115
  t46 := Try.underlying149
  a46 := Try.isAgg149
  z46 := Try.sizeOf149
  v46 := Try.zeroValue149
  t51 := Try.underlying41
  a51 := Try.isAgg41
  z51 := Try.sizeOf41
  v51 := Try.zeroValue41
  t53 := Try.underlying23
  a53 := Try.isAgg23
  z53 := Try.sizeOf23
  v53 := Try.zeroValue23
  t70 := Try.underlying114
  a70 := Try.isAgg114
  z70 := Try.sizeOf114
  v70 := Try.zeroValue114
  t72 := Try.underlying117
  a72 := Try.isAgg117
  z72 := Try.sizeOf117
  v72 := Try.zeroValue117
  t75 := Try.underlying120
  a75 := Try.isAgg120
  z75 := Try.sizeOf120
  v75 := Try.zeroValue120
  t76 := Try.underlying121
  a76 := Try.isAgg121
  z76 := Try.sizeOf121
  v76 := Try.zeroValue121
  t109 := Try.underlying150
  a109 := Try.isAgg150
  z109 := Try.sizeOf150
  v109 := Try.zeroValue150
  t127 := Try.underlying165
  a127 := Try.isAgg165
  z127 := Try.sizeOf165
  v127 := Try.zeroValue165
  t146 := Try.underlying174
  a146 := Try.isAgg174
  z146 := Try.sizeOf174
  v146 := Try.zeroValue174
  t148 := Try.underlying176
  a148 := Try.isAgg176
  z148 := Try.sizeOf176
  v148 := Try.zeroValue176
  t164 := Try.underlying182
  a164 := Try.isAgg182
  z164 := Try.sizeOf182
  v164 := Try.zeroValue182 }
theorem sextra : Go.Proofs.Builder.Extra Try.prog sren := {
  sizeBuilder := by kernel_rfl
  liesBuilder := by kernel_rfl
  t5 := Try.underlying5
  a5 := Try.isAgg5
  z5 := Try.sizeOf5
  v5 := Try.zeroValue5
  infoByte := by kernel_rfl
  cellsByte := by kernel_rfl
  sizeByte := by kernel_rfl
  neB5 := by decide }
open Go.RowKit Go.Lib
theorem slaysB : Go.Proofs.Lays.n167 Try.prog sren := { slays with f167 := Try.func87.trans (congrArg some (by kernel_rfl)) }
theorem b_WriteByte (B b : Nat) (bs : List Value) (c : Int) (w : World) (h : Lib.IsBuilderF 117 5 B b bs w) (hlen : bs.length + 1 ≤ 140737488355328) (hBw : B ≤ w.heap.size) :
    Calls Try.prog 87 #[.pointer (some ⟨b, 0, none⟩), .int .u8 c] w fun e w' => e = .returned .nilIface ∧ (Lib.BuilderAtF 117 5 B b (.pointer (some ⟨b, 0, none⟩)) (bs ++ [.int .u8 c]) w' ∧ Below B w w' ∧ Lib.OthersKept 5 (some b) w w') := Any.Builder_WriteByte_k slaysB sextra B b bs c w h hlen hBw
theorem b_WriteString (B b : Nat) (bs : List Value) (s : ByteArray) (w : World) (h : Lib.IsBuilderF 117 5 B b bs w) (hlen : bs.length + s.size ≤ 140737488355328) (hBw : B ≤ w.heap.size) :
    Calls Try.prog 52 #[.pointer (some ⟨b, 0, none⟩), .string s] w fun e w' => e = .returned (.tuple #[.int .i64 s.size, .nilIface]) ∧ (Lib.BuilderAtF 117 5 B b (.pointer (some ⟨b, 0, none⟩)) (bs ++ Lib.strCells s) w' ∧ Below B w w' ∧ Lib.OthersKept 5 (some b) w w') := Any.Builder_WriteString_k { slays with } sextra B b bs s w h hlen hBw
theorem b_String (B b : Nat) (l : List UInt8) (w : World) (h : Lib.IsBuilderF 117 5 B b (Lib.byteCells l) w) (hBw : B ≤ w.heap.size) :
    Calls Try.prog 54 #[.pointer (some ⟨b, 0, none⟩)] w fun e w' => e = .returned (.string ⟨l.toArray⟩) ∧ (Lib.IsBuilderF 117 5 B b (Lib.byteCells l) w' ∧ Below B w w' ∧ Lib.OthersKept 5 (some b) w w') := Any.Builder_String_any_k { slays with } sextra B b l w h hBw
theorem b_Repeat (s : ByteArray) (c : Nat) (w : World) (hc : c ≤ 9223372036854775807) (hlen : s.size * c ≤ 140737488355328) :
    Calls Try.prog 31 #[.string s, .int .i64 c] w fun e w' => e = .returned (.string ⟨(Lib.repeatL s.data.toList c).toArray⟩) ∧ Below w.heap.size w w' := Any.strings_Repeat slays sextra s c w hc hlen
end Go.Proofs.Ythgefgjaihagoaa.H

set_option linter.unusedVariables false
set_option linter.unusedSimpArgs false
namespace Go.Proofs.Ythgefgjaihagoaa.H
open Go.RowKit Go.Shelf
attribute [local go_sem] Oper.semAt_some

set_option maxRecDepth 100000 in
set_option maxHeartbeats 2000000 in
/-- The iterator of num.parts: the bytes of n0, and what is left behind each. -/
theorem parts_seq (n : Nat) (h1n : 1 ≤ n) (n0 width : Int) (Bn Bw : Nat) (w : World) (hne : Bw ≠ Bn)
    (hBn : w.heap[Bn]? = some (.cells #[.int .u64 n0] 23 (0, 0))) (hBw : w.heap[Bw]? = some (.cells #[.int .i64 width] 3 (0, 0)))
    (hw0 : 0 ≤ width) (hw8 : width ≤ 8) (hn0 : 0 ≤ n0) (hn1 : n0 < 18446744073709551616) :
    SeqN Fence.wide n Try.prog 103 #[.pointer (some ⟨Bw, 0, none⟩), .pointer (some ⟨Bn, 0, none⟩)]
      (fun k => #[.int .u8 (n0 / 256 ^ k % 256), .int .u64 (n0 / 256 ^ (k + 1))]) (fun j => j = Bn) (fun t => t = 23) (fun j => j = Bn ∨ j = Bw) width.toNat w := fun l J Jx W hW hJ hJx hY h0 => by
  have hlt : Bn < w.heap.size := (Array.getElem?_eq_some_iff.1 hBn).1
  have hlw : Bw < w.heap.size := (Array.getElem?_eq_some_iff.1 hBw).1
  have hn : W.heap[Bn]? = some (.cells #[.int .u64 n0] 23 (0, 0)) := (hW.block Bn hlt).trans hBn
  have hww : W.heap[Bw]? = some (.cells #[.int .i64 width] 3 (0, 0)) := (hW.block Bw hlw).trans hBw
  have hcw : W.cell? ⟨Bw, 0, none⟩ = some (.int .i64 width) := by rw [Lib.cell_of_heap hww]; rfl
  clear hW hBn hBw
  refine callsIn_of_wp Try.func103 rfl trivial ?_ rfl
  simp only [Try.ntmps103, List.size_toArray, List.length_cons, List.length_nil, Nat.reduceAdd, Nat.reduceSub, Array.replicate_succ, Array.replicate_zero, List.push_toArray, List.append_toArray, List.nil_append, List.cons_append]
  gi_wp2
  gi_loopw [6] (fun i wr => ∃ k : Nat, (k : Int) ≤ width ∧ i = .int .i64 k ∧ J k wr ∧ wr.heap[Bn]? = some (.cells #[.int .u64 (n0 / 256 ^ k)] 23 (0, 0)) ∧ wr.heap[Bw]? = some (.cells #[.int .i64 width] 3 (0, 0)))
    (fun i _ => width.toNat - (intOf i).toNat)
  case atStart => exact ⟨0, by omega, rfl, h0, by simpa using hn, hww⟩
  case round =>
    obtain ⟨k, hk, rfl, hJs, hnk, hwk⟩ := hrel
    obtain ⟨x, hx⟩ : ∃ x, x = n0 / 256 ^ k := ⟨_, rfl⟩
    have hp : (0 : Int) < 256 ^ k := Int.pow_pos (by omega)
    have hx0 : 0 ≤ x := by rw [hx]; exact Int.ediv_nonneg hn0 (by omega)
    have hx1 : x < 18446744073709551616 := by
      rw [hx]; exact Int.lt_of_le_of_lt (Int.ediv_le_self _ hn0) hn1
    have hxs : n0 / 256 ^ (k + 1) = x / 256 := by rw [hx, Int.pow_succ, Int.ediv_ediv_of_nonneg (by omega)]
    rw [← hx] at hnk
    have hc : wr.cell? ⟨Bn, 0, none⟩ = some (.int .u64 x) := by rw [Lib.cell_of_heap hnk]; rfl
    have hf : wr.frozen? ⟨Bn, 0, none⟩ = false := Lib.frozen_of_heap hnk 0
    have hT : Turn (fun j => j = Bn) (fun t => t = 23) wr (wr.setCell ⟨Bn, 0, none⟩ (.int .u64 (x / 256))) := Turn.setCell _ hnk rfl rfl
    have hJ2 := hJ k _ _ hJs hT
    have hn2 : (wr.setCell ⟨Bn, 0, none⟩ (.int .u64 (x / 256))).heap[Bn]? = some (.cells #[.int .u64 (x / 256)] 23 (0, 0)) := by
      simp [World.setCell, Array.getElem?_modify, hnk]
    have hw2 : (wr.setCell ⟨Bn, 0, none⟩ (.int .u64 (x / 256))).heap[Bw]? = some (.cells #[.int .i64 width] 3 (0, 0)) := (Below.heap_setCell _ _ _ _ hne).trans hwk
    by_cases hlt' : (k : Int) < width
    · obtain ⟨fn, tmps, assign, body, hy, hR⟩ := hY k _ (by omega) hJ2
      rw [← hx, hxs] at hy
      have Hxs := Lib.hid hxs
      clear hxs hx
      have hlt2 : decide ((k : Int) < width) = true := decide_eq_true hlt'
      gi_wp2
      refine hR.mono ?_
      rintro e W3 (⟨rfl, hJ3, hk3⟩ | ⟨rfl, hJx3⟩)
      · gi_wp2
        go_roundw
        case rel =>
          refine ⟨k + 1, by omega, by simp, hJ3, ?_, (hk3.same Bw (.inr rfl) (Array.getElem?_eq_some_iff.1 hw2).1).trans hw2⟩
          rw [Hxs.out]
          exact (hk3.same Bn (.inl rfl) (Array.getElem?_eq_some_iff.1 hn2).1).trans hn2
        case measure => simp [intOf]; omega
      · gi_wp2
        refine bodyPost_ret (results_none rfl _ _ _) rfl ?_
        exact ⟨⟨_, rfl⟩, .inr ⟨k + 1, by omega, hJx3⟩⟩
    · have hlt2 : decide ((k : Int) < width) = false := decide_eq_false hlt'
      have hkw : k = width.toNat := by omega
      clear hx hxs
      gi_wp2
      go_end0
      exact ⟨⟨_, rfl⟩, .inl (hkw ▸ hJs)⟩

/-- A number's bytes, the lowest one first. -/
def lowBytes (n : Int) (k : Nat) : List UInt8 := (List.range k).map fun j => UInt8.ofNat (n / 256 ^ j % 256).toNat
theorem lowBytes_length (n : Int) (k : Nat) : (lowBytes n k).length = k := by simp [lowBytes]
theorem lowBytes_succ (n : Int) (k : Nat) : lowBytes n (k + 1) = lowBytes n k ++ [UInt8.ofNat (n / 256 ^ k % 256).toNat] := by simp [lowBytes, List.range_succ]
theorem leCells_succ (n : Int) (k : Nat) : Lib.byteCells (lowBytes n (k + 1)) = Lib.byteCells (lowBytes n k) ++ [Value.int .u8 (n / 256 ^ k % 256)] := by
  rw [lowBytes_succ, Lib.byteCells_append]
  have h0 := Int.emod_nonneg (n / 256 ^ k) (show (256 : Int) ≠ 0 by omega)
  have h1 := Int.emod_lt_of_pos (n / 256 ^ k) (show (0 : Int) < 256 by omega)
  have : (UInt8.ofNat (n / 256 ^ k % 256).toNat).toNat = (n / 256 ^ k % 256).toNat := by
    rw [UInt8.toNat_ofNat']; omega
  simp only [Lib.byteCells, List.map_cons, List.map_nil, this]
  rw [Int.toNat_of_nonneg h0]

theorem isWidth_calls (x : Int) (w : World) : Calls Try.prog 85 #[.int .i64 x] w fun e w' => e = .returned (.bool (decide (1 ≤ x) && decide (x ≤ 8))) ∧ w' = w := by
  by_cases h : 1 ≤ x
  · go_enter Try.func85, Try.ntmps85
    go_wp2
    go_ret
    exact ⟨by simp [h], rfl⟩
  · go_enter Try.func85, Try.ntmps85
    go_wp2
    go_ret
    have h2 : decide (1 ≤ x) = false := decide_eq_false (by omega)
    exact ⟨by rw [h2]; rfl, rfl⟩

/-- num.Put -/
def num_Put.f (n width : Int) : Option (ByteArray × Int) :=
  if 0 ≤ n ∧ n < 18446744073709551616 then
    some (if 1 ≤ width ∧ width ≤ 8 then (if n / 256 ^ width.toNat = 0 then (⟨(lowBytes n width.toNat).toArray⟩, 0) else (⟨#[]⟩, 2)) else (⟨#[]⟩, 2))
  else none

set_option maxRecDepth 100000 in
set_option maxHeartbeats 4000000 in
theorem put_no (n width : Int) (w : World) (hw : ¬ (1 ≤ width ∧ width ≤ 8)) :
    Calls Try.prog 51 #[.int .u64 n, .int .i64 width] w fun e w' => e = .returned (.tuple #[.string ⟨#[]⟩, .int .i64 2]) ∧ Below w.heap.size w w' := by
  have hb : (decide (1 ≤ width) && decide (width ≤ 8)) = false := by simp; omega
  go_enter Try.func51, Try.ntmps51
  go_wp2_with (first | (go_at_call 85; refine (isWidth_calls _ _).mono ?_; rintro e w' ⟨rfl, rfl⟩))
  go_ret2
  exact ⟨rfl, Below.refl _ _⟩

theorem parts_calls (n width : Int) (w : World) : Calls Try.prog 86 #[.int .u64 n, .int .i64 width] w fun e w' =>
    e = .returned (.func (.func 103) #[] #[.pointer (some ⟨w.heap.size + 1, 0, none⟩), .pointer (some ⟨w.heap.size, 0, none⟩)]) ∧ w' = (w.alloc (.cells #[.int .u64 n] 23)).alloc (.cells #[.int .i64 width] 3) := by
  go_enter Try.func86, Try.ntmps86
  go_wp2
  go_ret
  exact ⟨rfl, rfl⟩

def PutEnd (n width : Int) (e : Ending) : Prop := if n / 256 ^ width.toNat = 0 then e = .returned (.tuple #[.string ⟨(lowBytes n width.toNat).toArray⟩, .int .i64 0]) else e = .returned (.tuple #[.string ⟨#[]⟩, .int .i64 2])
theorem PutEnd.yes {n width : Int} {e : Ending} (h : n / 256 ^ width.toNat = 0) (he : e = .returned (.tuple #[.string ⟨(lowBytes n width.toNat).toArray⟩, .int .i64 0])) : PutEnd n width e := by unfold PutEnd; rw [if_pos h]; exact he
theorem PutEnd.no {n width : Int} {e : Ending} (h : ¬ n / 256 ^ width.toNat = 0) (he : e = .returned (.tuple #[.string ⟨#[]⟩, .int .i64 2])) : PutEnd n width e := by unfold PutEnd; rw [if_neg h]; exact he

set_option maxRecDepth 100000 in
set_option maxHeartbeats 4000000 in
theorem put_yes (n width : Int) (w : World) (hw1 : 1 ≤ width) (hw8 : width ≤ 8) (hn0 : 0 ≤ n) (hn1 : n < 18446744073709551616) :
    Calls Try.prog 51 #[.int .u64 n, .int .i64 width] w fun e w' => PutEnd n width e ∧ Below w.heap.size w w' := by
  have hb : (decide (1 ≤ width) && decide (width ≤ 8)) = true := by simp; omega
  refine (callsIn_wide (n := 10)).1 ?_
  refine callsIn_of_wp_marks Try.func51 rfl trivial ?_ rfl
  simp only [Try.ntmps51, List.size_toArray, List.length_cons, List.length_nil, Nat.reduceAdd, Nat.reduceSub, Array.replicate_succ, Array.replicate_zero, List.push_toArray, List.append_toArray, List.nil_append, List.cons_append]
  gi_wp2_with (first | (refine ⟨trivial, ?_⟩; gi_at_call 85; refine (callsIn_wide.2 (isWidth_calls _ _)).mono ?_; rintro e w' ⟨rfl, rfl⟩))
  obtain ⟨H, hH⟩ : ∃ H, w'.heap.size = H := ⟨_, rfl⟩
  refine ⟨trivial, (callsIn_wide.2 (parts_calls _ _ _)).mono ?_⟩
  rintro e W0 ⟨rfl, hW0⟩
  simp only [World.size_alloc, hH, Nat.add_assoc, Nat.reduceAdd]
  have hsz : W0.heap.size = H + 4 := by rw [hW0]; simp [hH]
  have hbl : Below H w' W0 := by
    rw [hW0]; exact ((((Below.refl H w').alloc (by omega) _).alloc (by simp; omega) _).alloc (by simp; omega) _).alloc (by simp; omega) _
  have h3 : W0.heap[H + 3]? = some (.cells #[.int .i64 width] 3 (0, 0)) := by
    rw [hW0]; have := World.alloc_heap_new (((w'.alloc (.cells #[.pointer none, .slice none 0 0] 117)).alloc (.cells #[.int .u64 n] 23)).alloc (.cells #[.int .u64 n] 23)) (.cells #[.int .i64 width] 3); simpa [hH] using this
  have h2 : W0.heap[H + 2]? = some (.cells #[.int .u64 n] 23 (0, 0)) := by
    rw [hW0, Below.heap_alloc _ _ _ (by simp; omega)]; have := World.alloc_heap_new ((w'.alloc (.cells #[.pointer none, .slice none 0 0] 117)).alloc (.cells #[.int .u64 n] 23)) (.cells #[.int .u64 n] 23); simpa [hH] using this
  have h1 : W0.heap[H + 1]? = some (.cells #[.int .u64 n] 23 (0, 0)) := by
    rw [hW0, Below.heap_alloc _ _ _ (by simp; omega), Below.heap_alloc _ _ _ (by simp; omega)]; have := World.alloc_heap_new (w'.alloc (.cells #[.pointer none, .slice none 0 0] 117)) (.cells #[.int .u64 n] 23); simpa [hH] using this
  have hbd : Lib.IsBuilderF 117 5 H H [] W0 := by
    rw [hW0]; have := Lib.IsBuilderF.of (Lib.fresh_isBuilder 117 5 w'); rw [hH] at this
    exact ((this.alloc _).alloc _).alloc _
  clear hW0
  gi_wp2
  refine wpIn_rangeN rfl (by omega) (gf := 103) (lb := #[.pointer (some ⟨H + 3, 0, none⟩), .pointer (some ⟨H + 2, 0, none⟩)]) rfl trivial (enters_of Try.func103 (by kernel_rfl) rfl)
    (parts_seq 9 (by omega) n width (H + 2) (H + 3) W0 (by omega) h2 h3 (by omega) hw8 hn0 hn1) (Below.refl _ _) (fun _ => rfl) (by omega) (by omega) (by omega)
    (fun k W => Lib.IsBuilderF 117 5 H H (Lib.byteCells (lowBytes n k)) W ∧ W.heap[H + 1]? = some (.cells #[.int .u64 (n / 256 ^ k)] 23 (0, 0)) ∧ (∃ c, W.heap[H + 2]? = some (.cells c 23 (0, 0))) ∧ (∃ c, W.heap[H + 3]? = some (.cells c 3 (0, 0))) ∧ Below H w' W)
    (fun _ _ _ => False)
    (fun k => (stands_builderF (by decide) (by decide)).and ((stands_heap _ _ (by omega)).and ((stands_typ _ _).and ((stands_typ _ _).and (stands_below (by omega) (by omega))))))
    (fun _ _ _ _ h _ => h)
    ⟨hbd, by simpa using h1, ⟨_, h2⟩, ⟨_, h3⟩, hbl⟩
    (fun k => { tmps := #[.int .u64 n, .int .i64 width, undef, undef, .string ⟨#[]⟩, .int .i64 0, .pointer (some ⟨H, 0, none⟩), .pointer (some ⟨H + 1, 0, none⟩), .int .u8 (n / 256 ^ k % 256), .int .u64 (n / 256 ^ (k + 1)), .int .i64 width, .bool true, .bool false, .int .u64 n, .int .u64 n, .int .i64 width, .func (.func 103) #[] #[.pointer (some ⟨H + 3, 0, none⟩), .pointer (some ⟨H + 2, 0, none⟩)], .int .u8 (n / 256 ^ k % 256), .int .u64 (n / 256 ^ (k + 1)), undef, undef, undef, undef, undef, undef], defers := [] }) ?assign ?body ?done ?stop
  case assign =>
    intro l k W K hK
    gi_wp2
    exact hK
  case body =>
    rintro l k W hk hWs ⟨hB, hc1, ⟨c2, hc2⟩, ⟨c3, hc3⟩, hbe⟩
    gi_wp2_with fail
    refine ⟨trivial, (CallsIn.inRound l (callsIn_wide.2 (b_WriteByte H H _ _ W hB (by simp [Lib.byteCells_length, lowBytes_length]; omega) (by omega)))).mono ?_⟩
    rintro e W2 ⟨rfl, hB2, hbe2, ho2⟩
    have hk1 := (kept_typ ho2 hc1 (by omega) (by decide)).trans hc1
    have hk2 := (kept_typ ho2 hc2 (by omega) (by decide)).trans hc2
    have hk3 := (kept_typ ho2 hc3 (by omega) (by decide)).trans hc3
    have hc1c : W2.cell? ⟨H + 1, 0, none⟩ = some (.int .u64 (n / 256 ^ k)) := by rw [Lib.cell_of_heap hk1]; rfl
    have hc1f : W2.frozen? ⟨H + 1, 0, none⟩ = false := Lib.frozen_of_heap hk1 0
    have hT : Turn (fun j => j = H + 1) (fun t => t = 23) W2 (W2.setCell ⟨H + 1, 0, none⟩ (.int .u64 (n / 256 ^ (k + 1)))) := Turn.setCell _ hk1 rfl rfl
    have hK2 := kept_others ho2 (builder_block hB) hbe2.size
    gi_wp2
    refine ⟨hK2.trans (KeepsOthers.setCell _ _ _), ⟨Nat.le_trans hbe2.size hT.size, ?_⟩, ?_, ?_, ?_, ?_, ?_⟩
    · rintro j (rfl | rfl) _
      · rw [hT.same _ _ hk2 (.inl (by omega)), hc2]
      · rw [hT.same _ _ hk3 (.inl (by omega)), hc3]
    · rw [leCells_succ]; exact hT.builder (.inr hB2) (by decide) (by decide)
    · simp [World.setCell, Array.getElem?_modify, hk1]
    · exact ⟨c2, hT.same _ _ hk2 (.inl (by omega))⟩
    · exact ⟨c3, hT.same _ _ hk3 (.inl (by omega))⟩
    · exact (hbe.trans hbe2).setCell (p := ⟨H + 1, 0, none⟩) (by simp) _
  case done =>
    rintro W ⟨hB, hc1, _, _, hbe⟩ hWs hD
    rw [hsz] at hD
    have hc1c : W.cell? ⟨H + 1, 0, none⟩ = some (.int .u64 (n / 256 ^ width.toNat)) := by rw [Lib.cell_of_heap hc1]; rfl
    by_cases hz : n / 256 ^ width.toNat = 0
    · have hz1 : ((n / 256 ^ width.toNat) != 0) = false := by simp [hz]
      have Hz := Lib.hid hz
      clear hz
      gi_wp2_with fail
      refine ⟨trivial, (callsIn_wide.2 (b_String H H _ W hB (by omega))).mono ?_⟩
      rintro e W2 ⟨rfl, hB2, hbe2, ho2⟩
      have hD2 := ho2 _ _ hD (fun e => absurd (Option.some.inj e) (by omega)) (by rintro _ _ ⟨⟩)
      gi_wp2
      refine ⟨by simp, .inl ⟨_, _, rfl, run_takeDeferred hD2, ?_⟩⟩
      exact ⟨_, results_tmp2 rfl _ _ _, PutEnd.yes Hz.out rfl, by rw [hH]; exact (hbe.trans hbe2).trans (belowK_b (w := W0) (by omega) W2 _ _ _ (by omega) hD2 rfl rfl)⟩
    · have hz1 : ((n / 256 ^ width.toNat) != 0) = true := by simp [hz]
      have Hz := Lib.hid hz
      clear hz
      gi_wp2
      rw [← hsz] at hD
      refine ⟨by simp, .inl ⟨_, _, rfl, run_takeDeferred hD, ?_⟩⟩
      exact ⟨_, results_tmp2 rfl _ _ _, PutEnd.no Hz.out rfl, by rw [hH]; exact hbe.trans (belowK_b (w := W0) (by omega) W _ _ _ (by omega) hD rfl rfl)⟩
  case stop =>
    intro c k W _ h
    exact h.elim

theorem num_Put.calls (n width : Int) (r1 : ByteArray) (r2 : Int) (w : World) (h : num_Put.f n width = some (r1, r2)) :
    Calls Try.prog 51 #[.int .u64 n, .int .i64 width] w fun e w' => e = .returned (.tuple #[.string r1, .int .i64 r2]) ∧ Below w.heap.size w w' := by
  unfold num_Put.f at h
  split at h
  · rename_i hn
    have h := Option.some.inj h
    split at h
    · rename_i hw
      refine (put_yes n width w hw.1 hw.2 hn.1 hn.2).mono ?_
      rintro e w' ⟨he, hb⟩
      refine ⟨?_, hb⟩
      unfold PutEnd at he
      split at h
      · rename_i hz
        rw [if_pos hz] at he
        cases h; exact he
      · rename_i hz
        rw [if_neg hz] at he
        cases h; exact he
    · rename_i hw
      cases h
      exact put_no n width w hw
  · cases h

/-- num.Fit -/
def zerosB (n : Nat) : ByteArray := ⟨(List.replicate n (0 : UInt8)).toArray⟩
def num_Fit.f (s : ByteArray) (size : Int) : Option (ByteArray × Int) :=
  if 9223372036854775807 < s.size then none else if (s.size : Int) > size then some (⟨#[]⟩, 2) else if size > 65536 then some (⟨#[]⟩, 2) else some (s ++ zerosB (size - s.size).toNat, 0)

theorem repeat_zero (n : Nat) : (⟨(Lib.repeatL (⟨#[0]⟩ : ByteArray).data.toList n).toArray⟩ : ByteArray) = zerosB n := by
  have : Lib.repeatL ([0] : List UInt8) n = List.replicate n 0 := by
    induction n with
    | zero => rfl
    | succ n ih => simp [Lib.repeatL, ih, List.replicate_succ]
  show (⟨(Lib.repeatL ([0] : List UInt8) n).toArray⟩ : ByteArray) = _
  rw [this]; rfl

set_option maxRecDepth 100000 in
set_option maxHeartbeats 4000000 in
theorem num_Fit.calls (s : ByteArray) (size : Int) (r1 : ByteArray) (r2 : Int) (w : World) (h : num_Fit.f s size = some (r1, r2)) :
    Calls Try.prog 53 #[.string s, .int .i64 size] w fun e w' => e = .returned (.tuple #[.string r1, .int .i64 r2]) ∧ Below w.heap.size w w' := by
  unfold num_Fit.f at h
  by_cases hs : 9223372036854775807 < s.size
  · rw [if_pos hs] at h; cases h
  rw [if_neg hs] at h
  split at h
  · rename_i h1
    cases h
    go_enter Try.func53, Try.ntmps53
    go_wp2_with fail
    go_ret2
    exact ⟨rfl, Below.refl _ _⟩
  · rename_i h1
    split at h
    · rename_i h2
      cases h
      go_enter Try.func53, Try.ntmps53
      go_wp2_with fail
      go_ret2
      exact ⟨rfl, Below.refl _ _⟩
    · rename_i h2
      cases h
      have hle : (s.size : Int) ≤ size := by omega
      obtain ⟨m, hm⟩ : ∃ m : Nat, size - s.size = m := ⟨(size - s.size).toNat, by omega⟩
      have hm' : (s.size : Int) + m ≤ 65536 := by omega
      have hmm : (size - s.size).toNat = m := by omega
      have hc := b_Repeat ⟨#[0]⟩ m w (by omega) (by show 1 * m ≤ _; omega)
      rw [← hm, repeat_zero] at hc
      rw [hmm]
      clear hm hmm
      go_enter Try.func53, Try.ntmps53
      go_wp2_with fail
      refine hc.mono ?_
      rintro e w' ⟨rfl, hb⟩
      have hsz : s.size + (zerosB m).size ≤ 9223372036854775807 := by
        have : (zerosB m).size = m := by simp [zerosB, ByteArray.size]
        omega
      clear hc
      go_wp2_with fail
      go_ret2
      exact ⟨rfl, hb⟩

/-- num.Bare -/
def num_Bare.f (s : ByteArray) (i : Int) : Option Bool := if s.size ≤ 9223372036854775807 then some ((s.data.toList.drop i.toNat).all (· == 0)) else none

theorem bare_no (l : List UInt8) (m j : Nat) (hmj : m ≤ j) (hj : j < l.length) (hz : l[j] ≠ 0) : (l.drop m).all (· == 0) = false := by
  rw [List.all_eq_false]
  refine ⟨l[j], ?_, by simpa using hz⟩
  rw [List.mem_drop_iff_getElem]
  exact ⟨j - m, by omega, by simp [show m + (j - m) = j by omega]⟩
theorem bare_yes (l : List UInt8) (m : Nat) (h : ∀ j, m ≤ j → (hj : j < l.length) → l[j] = 0) : (l.drop m).all (· == 0) = true := by
  rw [List.all_eq_true]
  intro x hx
  rw [List.mem_drop_iff_getElem] at hx
  obtain ⟨j, hj, rfl⟩ := hx
  simp [h (m + j) (by omega) (by omega)]

set_option maxRecDepth 100000 in
set_option maxHeartbeats 4000000 in
theorem num_Bare.same (s : ByteArray) (i : Int) (r : Bool) (w : World) (h : num_Bare.f s i = some r) :
    Calls Try.prog 62 #[.string s, .int .i64 i] w fun e w' => e = .returned (.bool r) ∧ w' = w := by
  obtain ⟨m, hm⟩ : ∃ m : Nat, max 0 i = (m : Int) := ⟨(max 0 i).toNat, by omega⟩
  unfold num_Bare.f at h
  by_cases hs : s.size ≤ 9223372036854775807
  case neg => rw [if_neg hs] at h; cases h
  rw [if_pos hs] at h
  obtain rfl : (s.data.toList.drop m).all (· == 0) = r := by
    have := Option.some.inj h
    rwa [show i.toNat = m by omega] at this
  clear h
  have hb1 := bare_yes s.data.toList m
  have hb0 := bare_no s.data.toList m
  generalize (s.data.toList.drop m).all (· == 0) = r at hb1 hb0 ⊢
  have hb1 := Lib.hid hb1
  have hb0 := Lib.hid hb0
  go_enter Try.func62, Try.ntmps62
  go_wp2
  go_step3
  go_wp2
  go_step3
  go_wp2
  go_loop [5, 6] (fun b i => ∃ k : Nat, m ≤ k ∧ Hid (∀ j, m ≤ j → j < k → (hj : j < s.data.toList.length) → s.data.toList[j] = 0) ∧ b = .bool true ∧ i = .int .i64 k) (fun _ i => s.size - (intOf i).toNat)
  case atStart => exact ⟨m, Nat.le_refl _, Lib.hid (fun j h1 h2 => by omega), rfl, rfl⟩
  case round =>
    obtain ⟨k, hk, hall, rfl, rfl⟩ := hrel
    by_cases hlt : k < s.size
    · by_cases hz : s[k] = 0
      · have hz1 : ((s[k].toNat : Int) != 0) = false := by simp [hz]
        have Hz := Lib.hid hz
        clear hz
        go_wp2
        go_round
        case rel =>
          refine ⟨k + 1, by omega, Lib.hid (fun j h1 h2 hj => ?_), rfl, by simp⟩
          by_cases e : j = k
          · subst e; exact Hz.out
          · exact hall.out j h1 (by omega) hj
        case measure => simp [intOf]; omega
      · have hz1 : ((s[k].toNat : Int) != 0) = true := by
          simp only [bne_iff_ne, ne_eq]
          intro e
          exact hz (UInt8.toNat_inj.1 (by simpa using e))
        have Hz := Lib.hid hz
        clear hz
        go_wp2
        go_ret
        exact ⟨by rw [hb0.out k hk (by simpa using hlt) Hz.out]; rfl, rfl⟩
    · go_wp2
      go_ret
      exact ⟨by rw [hb1.out (fun j h1 hj => hall.out j h1 (by simp at hj; have : s.size = s.data.size := rfl; omega) hj)]; rfl, rfl⟩

def leB (n : Int) (k : Nat) : ByteArray := ⟨(lowBytes n k).toArray⟩
theorem leB_size (n : Int) (k : Nat) : (leB n k).size = k := by simp [leB, ByteArray.size, lowBytes_length]
end Go.Proofs.Ythgefgjaihagoaa.H
