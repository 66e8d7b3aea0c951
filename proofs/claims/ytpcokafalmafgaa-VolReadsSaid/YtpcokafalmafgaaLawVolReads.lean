/- The law nautiluslaw17_VolReads, out of its pure statement and its walk. -/
import Derived.Test.YtpcokafalmafgaaHOpen
import Derived.Lib.SmallJoins
import Derived.Test.YtpcokafalmafgaaRows
import Derived.Test.YtpcokafalmafgaaQ22
import Derived.Test.YtpcokafalmafgaaPureVolReads
import Derived.WalkKit
import Derived.ProofKit
import Derived.OpenShut
import Derived.ShutString
import Derived.ChangeOld
import Derived.Below
import Derived.SizedLaws
import Derived.Test.YtpcokafalmafgaaWSized
namespace Go.Proofs.Ytpcokafalmafgaa.volReads
open Go.ChangeShapes Go.WideShapes Go.ChangeAt Go.RowKit
open Go.ChangeMaps (open_string shut_string)
open Go.Joins Go.Deep
open Go.Proofs.Ytpcokafalmafgaa Go.Proofs.Ytpcokafalmafgaa.Q Go.Proofs.YtpcokafalmafgaaW.PrintWords
set_option linter.unusedVariables false
theorem okWide_struct' {P : Program} {w : World} {r : Reach} {base : Nat} {t : TypeId} {v : Value} {fs : Array Field} (ht : P.underlying t = some (.struct fs)) (h : Value.okWide P w r base t v) : ∃ cs, v = .agg cs ∧ cs.size = P.cellsOf t := okWide_struct ht h
open Go.ChangeShapes Go.WideShapes in
theorem own : ownKnob Try.prog.godebug = none := by kernel_rfl
theorem laidOut : laidOutB Try.prog = true := by kernel_rfl
def IsRow (k : IntKind) (w : World) (a : Option Addr) (len cap : Nat) (zs : List Int) : Prop :=
 (a = none ∧ len = 0 ∧ cap = 0 ∧ zs = []) ∨
 ∃ x, a = some x ∧ len ≤ cap ∧ cap ≤ maxLen ∧ zs.length = cap ∧ (∀ i, i < zs.length → w.cell? (x.add i) = some (.int k (zs.getD i 0))) ∧ ∀ n ∈ zs, (Lit.int k n).wf = true
theorem list_len40_6 : ∀ (cs : List Value), cs.length = 6 → ∃ c0 c1 c2 c3 c4 c5, cs = [c0, c1, c2, c3, c4, c5]
 | [c0, c1, c2, c3, c4, c5], _ => ⟨c0, c1, c2, c3, c4, c5, rfl⟩
set_option maxRecDepth 100000 in
theorem flat40 {H : Type} {enc : TypeId × Value → H} {W : World} {base : Nat} {sp : Nat → Bool} {held : Bool} (cs : List Value) (n : Nat) (y : DataW H × List MemPlace) (h : DataW.trod enc Try.prog W base sp held n 40 cs = some y) : ∃ (b0 : Int) (b1 : Int) (b2 : Int) (b3 : Int) (b4 : Int) (b5 : Int), cs = [.int .u32 b0, .int .u32 b1, .int .u32 b2, .int .u32 b3, .int .u32 b4, .int .u32 b5] ∧ (Lit.int .u32 b0).wf = true ∧ (Lit.int .u32 b1).wf = true ∧ (Lit.int .u32 b2).wf = true ∧ (Lit.int .u32 b3).wf = true ∧ (Lit.int .u32 b4).wf = true ∧ (Lit.int .u32 b5).wf = true := by
 obtain ⟨xs, n', rfl, hy, hlen, hxl, hf⟩ := DataW.trod_array Try.underlying40 h
 have hC : Try.prog.cellsOf 40 = 6 := by kernel_rfl
 rw [hC] at hlen
 obtain ⟨c0, c1, c2, c3, c4, c5, rfl⟩ := list_len40_6 cs hlen
 have q0 : Try.prog.cellsOf 39 = 1 := by kernel_rfl
 have g0 : DataW.trod enc Try.prog W base sp held n' 39 ((List.drop (0 * Try.prog.cellsOf 39) [c0, c1, c2, c3, c4, c5]).take (Try.prog.cellsOf 39)) = xs[0]? := hf 0 (by decide)
 have x0 : xs[0]? = some (xs[0]'(by rw [hxl]; decide)) := List.getElem?_eq_getElem _
 rw [q0] at g0
 replace g0 : DataW.trod enc Try.prog W base sp held n' 39 [c0] = xs[0]? := g0
 rw [x0] at g0
 have q1 : Try.prog.cellsOf 39 = 1 := by kernel_rfl
 have g1 : DataW.trod enc Try.prog W base sp held n' 39 ((List.drop (1 * Try.prog.cellsOf 39) [c0, c1, c2, c3, c4, c5]).take (Try.prog.cellsOf 39)) = xs[1]? := hf 1 (by decide)
 have x1 : xs[1]? = some (xs[1]'(by rw [hxl]; decide)) := List.getElem?_eq_getElem _
 rw [q1] at g1
 replace g1 : DataW.trod enc Try.prog W base sp held n' 39 [c1] = xs[1]? := g1
 rw [x1] at g1
 have q2 : Try.prog.cellsOf 39 = 1 := by kernel_rfl
 have g2 : DataW.trod enc Try.prog W base sp held n' 39 ((List.drop (2 * Try.prog.cellsOf 39) [c0, c1, c2, c3, c4, c5]).take (Try.prog.cellsOf 39)) = xs[2]? := hf 2 (by decide)
 have x2 : xs[2]? = some (xs[2]'(by rw [hxl]; decide)) := List.getElem?_eq_getElem _
 rw [q2] at g2
 replace g2 : DataW.trod enc Try.prog W base sp held n' 39 [c2] = xs[2]? := g2
 rw [x2] at g2
 have q3 : Try.prog.cellsOf 39 = 1 := by kernel_rfl
 have g3 : DataW.trod enc Try.prog W base sp held n' 39 ((List.drop (3 * Try.prog.cellsOf 39) [c0, c1, c2, c3, c4, c5]).take (Try.prog.cellsOf 39)) = xs[3]? := hf 3 (by decide)
 have x3 : xs[3]? = some (xs[3]'(by rw [hxl]; decide)) := List.getElem?_eq_getElem _
 rw [q3] at g3
 replace g3 : DataW.trod enc Try.prog W base sp held n' 39 [c3] = xs[3]? := g3
 rw [x3] at g3
 have q4 : Try.prog.cellsOf 39 = 1 := by kernel_rfl
 have g4 : DataW.trod enc Try.prog W base sp held n' 39 ((List.drop (4 * Try.prog.cellsOf 39) [c0, c1, c2, c3, c4, c5]).take (Try.prog.cellsOf 39)) = xs[4]? := hf 4 (by decide)
 have x4 : xs[4]? = some (xs[4]'(by rw [hxl]; decide)) := List.getElem?_eq_getElem _
 rw [q4] at g4
 replace g4 : DataW.trod enc Try.prog W base sp held n' 39 [c4] = xs[4]? := g4
 rw [x4] at g4
 have q5 : Try.prog.cellsOf 39 = 1 := by kernel_rfl
 have g5 : DataW.trod enc Try.prog W base sp held n' 39 ((List.drop (5 * Try.prog.cellsOf 39) [c0, c1, c2, c3, c4, c5]).take (Try.prog.cellsOf 39)) = xs[5]? := hf 5 (by decide)
 have x5 : xs[5]? = some (xs[5]'(by rw [hxl]; decide)) := List.getElem?_eq_getElem _
 rw [q5] at g5
 replace g5 : DataW.trod enc Try.prog W base sp held n' 39 [c5] = xs[5]? := g5
 rw [x5] at g5
 obtain ⟨n0, e0, _, w0⟩ := DataW.trod_int Try.underlying39 g0
 obtain rfl : c0 = .int .u32 n0 := by simpa using e0
 obtain ⟨n1, e1, _, w1⟩ := DataW.trod_int Try.underlying39 g1
 obtain rfl : c1 = .int .u32 n1 := by simpa using e1
 obtain ⟨n2, e2, _, w2⟩ := DataW.trod_int Try.underlying39 g2
 obtain rfl : c2 = .int .u32 n2 := by simpa using e2
 obtain ⟨n3, e3, _, w3⟩ := DataW.trod_int Try.underlying39 g3
 obtain rfl : c3 = .int .u32 n3 := by simpa using e3
 obtain ⟨n4, e4, _, w4⟩ := DataW.trod_int Try.underlying39 g4
 obtain rfl : c4 = .int .u32 n4 := by simpa using e4
 obtain ⟨n5, e5, _, w5⟩ := DataW.trod_int Try.underlying39 g5
 obtain rfl : c5 = .int .u32 n5 := by simpa using e5
 exact ⟨n0, n1, n2, n3, n4, n5, rfl, w0, w1, w2, w3, w4, w5⟩
theorem list_len42_12 : ∀ (cs : List Value), cs.length = 12 → ∃ c0 c1 c2 c3 c4 c5 c6 c7 c8 c9 c10 c11, cs = [c0, c1, c2, c3, c4, c5, c6, c7, c8, c9, c10, c11]
 | [c0, c1, c2, c3, c4, c5, c6, c7, c8, c9, c10, c11], _ => ⟨c0, c1, c2, c3, c4, c5, c6, c7, c8, c9, c10, c11, rfl⟩
set_option maxRecDepth 100000 in
theorem flat42 {H : Type} {enc : TypeId × Value → H} {W : World} {base : Nat} {sp : Nat → Bool} {held : Bool} (cs : List Value) (n : Nat) (y : DataW H × List MemPlace) (h : DataW.trod enc Try.prog W base sp held n 42 cs = some y) : ∃ (b0 : Int) (b1 : Int) (b2 : Int) (b3 : Int) (b4 : Int) (b5 : Int) (b6 : Int) (b7 : Int) (b8 : Int) (b9 : Int) (b10 : Int) (b11 : Int), cs = [.int .i64 b0, .int .u16 b1, .int .u16 b2, .int .u32 b3, .int .u64 b4, .int .i64 b5, .int .u32 b6, .int .u32 b7, .int .u32 b8, .int .u32 b9, .int .u32 b10, .int .u32 b11] ∧ (Lit.int .i64 b0).wf = true ∧ (Lit.int .u16 b1).wf = true ∧ (Lit.int .u16 b2).wf = true ∧ (Lit.int .u32 b3).wf = true ∧ (Lit.int .u64 b4).wf = true ∧ (Lit.int .i64 b5).wf = true ∧ (Lit.int .u32 b6).wf = true ∧ (Lit.int .u32 b7).wf = true ∧ (Lit.int .u32 b8).wf = true ∧ (Lit.int .u32 b9).wf = true ∧ (Lit.int .u32 b10).wf = true ∧ (Lit.int .u32 b11).wf = true := by
 obtain ⟨xs, n', rfl, hy, hlen, hxl, hf⟩ := DataW.trod_struct Try.underlying42 h
 have hC : Try.prog.cellsOf 42 = 12 := by kernel_rfl
 rw [hC] at hlen
 obtain ⟨c0, c1, c2, c3, c4, c5, c6, c7, c8, c9, c10, c11, rfl⟩ := list_len42_12 cs hlen
 have q0 : Try.prog.cellsOf 3 = 1 := by kernel_rfl
 have g0 : DataW.trod enc Try.prog W base sp held n' 3 ((List.drop 0 [c0, c1, c2, c3, c4, c5, c6, c7, c8, c9, c10, c11]).take (Try.prog.cellsOf 3)) = xs[0]? := hf 0 _ rfl
 have x0 : xs[0]? = some (xs[0]'(by rw [hxl]; decide)) := List.getElem?_eq_getElem _
 rw [q0] at g0
 replace g0 : DataW.trod enc Try.prog W base sp held n' 3 [c0] = xs[0]? := g0
 rw [x0] at g0
 have q1 : Try.prog.cellsOf 32 = 1 := by kernel_rfl
 have g1 : DataW.trod enc Try.prog W base sp held n' 32 ((List.drop 1 [c0, c1, c2, c3, c4, c5, c6, c7, c8, c9, c10, c11]).take (Try.prog.cellsOf 32)) = xs[1]? := hf 1 _ rfl
 have x1 : xs[1]? = some (xs[1]'(by rw [hxl]; decide)) := List.getElem?_eq_getElem _
 rw [q1] at g1
 replace g1 : DataW.trod enc Try.prog W base sp held n' 32 [c1] = xs[1]? := g1
 rw [x1] at g1
 have q2 : Try.prog.cellsOf 32 = 1 := by kernel_rfl
 have g2 : DataW.trod enc Try.prog W base sp held n' 32 ((List.drop 2 [c0, c1, c2, c3, c4, c5, c6, c7, c8, c9, c10, c11]).take (Try.prog.cellsOf 32)) = xs[2]? := hf 2 _ rfl
 have x2 : xs[2]? = some (xs[2]'(by rw [hxl]; decide)) := List.getElem?_eq_getElem _
 rw [q2] at g2
 replace g2 : DataW.trod enc Try.prog W base sp held n' 32 [c2] = xs[2]? := g2
 rw [x2] at g2
 have q3 : Try.prog.cellsOf 39 = 1 := by kernel_rfl
 have g3 : DataW.trod enc Try.prog W base sp held n' 39 ((List.drop 3 [c0, c1, c2, c3, c4, c5, c6, c7, c8, c9, c10, c11]).take (Try.prog.cellsOf 39)) = xs[3]? := hf 3 _ rfl
 have x3 : xs[3]? = some (xs[3]'(by rw [hxl]; decide)) := List.getElem?_eq_getElem _
 rw [q3] at g3
 replace g3 : DataW.trod enc Try.prog W base sp held n' 39 [c3] = xs[3]? := g3
 rw [x3] at g3
 have q4 : Try.prog.cellsOf 33 = 1 := by kernel_rfl
 have g4 : DataW.trod enc Try.prog W base sp held n' 33 ((List.drop 4 [c0, c1, c2, c3, c4, c5, c6, c7, c8, c9, c10, c11]).take (Try.prog.cellsOf 33)) = xs[4]? := hf 4 _ rfl
 have x4 : xs[4]? = some (xs[4]'(by rw [hxl]; decide)) := List.getElem?_eq_getElem _
 rw [q4] at g4
 replace g4 : DataW.trod enc Try.prog W base sp held n' 33 [c4] = xs[4]? := g4
 rw [x4] at g4
 have q5 : Try.prog.cellsOf 3 = 1 := by kernel_rfl
 have g5 : DataW.trod enc Try.prog W base sp held n' 3 ((List.drop 5 [c0, c1, c2, c3, c4, c5, c6, c7, c8, c9, c10, c11]).take (Try.prog.cellsOf 3)) = xs[5]? := hf 5 _ rfl
 have x5 : xs[5]? = some (xs[5]'(by rw [hxl]; decide)) := List.getElem?_eq_getElem _
 rw [q5] at g5
 replace g5 : DataW.trod enc Try.prog W base sp held n' 3 [c5] = xs[5]? := g5
 rw [x5] at g5
 have q6 : Try.prog.cellsOf 40 = 6 := by kernel_rfl
 have g6 : DataW.trod enc Try.prog W base sp held n' 40 ((List.drop 6 [c0, c1, c2, c3, c4, c5, c6, c7, c8, c9, c10, c11]).take (Try.prog.cellsOf 40)) = xs[6]? := hf 6 _ rfl
 have x6 : xs[6]? = some (xs[6]'(by rw [hxl]; decide)) := List.getElem?_eq_getElem _
 rw [q6] at g6
 replace g6 : DataW.trod enc Try.prog W base sp held n' 40 [c6, c7, c8, c9, c10, c11] = xs[6]? := g6
 rw [x6] at g6
 obtain ⟨n0, e0, _, w0⟩ := DataW.trod_int Try.underlying3 g0
 obtain rfl : c0 = .int .i64 n0 := by simpa using e0
 obtain ⟨n1, e1, _, w1⟩ := DataW.trod_int Try.underlying32 g1
 obtain rfl : c1 = .int .u16 n1 := by simpa using e1
 obtain ⟨n2, e2, _, w2⟩ := DataW.trod_int Try.underlying32 g2
 obtain rfl : c2 = .int .u16 n2 := by simpa using e2
 obtain ⟨n3, e3, _, w3⟩ := DataW.trod_int Try.underlying39 g3
 obtain rfl : c3 = .int .u32 n3 := by simpa using e3
 obtain ⟨n4, e4, _, w4⟩ := DataW.trod_int Try.underlying33 g4
 obtain rfl : c4 = .int .u64 n4 := by simpa using e4
 obtain ⟨n5, e5, _, w5⟩ := DataW.trod_int Try.underlying3 g5
 obtain rfl : c5 = .int .i64 n5 := by simpa using e5
 obtain ⟨n6, n7, n8, n9, n10, n11, e6, w6, w7, w8, w9, w10, w11⟩ := flat40 _ _ _ g6
 simp only [List.cons.injEq, and_true] at e6
 obtain ⟨rfl, rfl, rfl, rfl, rfl, rfl⟩ := e6
 exact ⟨n0, n1, n2, n3, n4, n5, n6, n7, n8, n9, n10, n11, rfl, w0, w1, w2, w3, w4, w5, w6, w7, w8, w9, w10, w11⟩
theorem list_len35_5 : ∀ (cs : List Value), cs.length = 5 → ∃ c0 c1 c2 c3 c4, cs = [c0, c1, c2, c3, c4]
 | [c0, c1, c2, c3, c4], _ => ⟨c0, c1, c2, c3, c4, rfl⟩
set_option maxRecDepth 100000 in
theorem flat35 {H : Type} {enc : TypeId × Value → H} {W : World} {base : Nat} {sp : Nat → Bool} {held : Bool} (cs : List Value) (n : Nat) (y : DataW H × List MemPlace) (h : DataW.trod enc Try.prog W base sp held n 35 cs = some y) : ∃ (b0 : Int) (b1 : Int) (b2 : Int) (b3 : Int) (b4 : ByteArray), cs = [.int .i64 b0, .int .u16 b1, .int .u16 b2, .int .u64 b3, .string b4] ∧ (Lit.int .i64 b0).wf = true ∧ (Lit.int .u16 b1).wf = true ∧ (Lit.int .u16 b2).wf = true ∧ (Lit.int .u64 b3).wf = true ∧ b4.size ≤ maxLen := by
 obtain ⟨xs, n', rfl, hy, hlen, hxl, hf⟩ := DataW.trod_struct Try.underlying35 h
 have hC : Try.prog.cellsOf 35 = 5 := by kernel_rfl
 rw [hC] at hlen
 obtain ⟨c0, c1, c2, c3, c4, rfl⟩ := list_len35_5 cs hlen
 have q0 : Try.prog.cellsOf 3 = 1 := by kernel_rfl
 have g0 : DataW.trod enc Try.prog W base sp held n' 3 ((List.drop 0 [c0, c1, c2, c3, c4]).take (Try.prog.cellsOf 3)) = xs[0]? := hf 0 _ rfl
 have x0 : xs[0]? = some (xs[0]'(by rw [hxl]; decide)) := List.getElem?_eq_getElem _
 rw [q0] at g0
 replace g0 : DataW.trod enc Try.prog W base sp held n' 3 [c0] = xs[0]? := g0
 rw [x0] at g0
 have q1 : Try.prog.cellsOf 32 = 1 := by kernel_rfl
 have g1 : DataW.trod enc Try.prog W base sp held n' 32 ((List.drop 1 [c0, c1, c2, c3, c4]).take (Try.prog.cellsOf 32)) = xs[1]? := hf 1 _ rfl
 have x1 : xs[1]? = some (xs[1]'(by rw [hxl]; decide)) := List.getElem?_eq_getElem _
 rw [q1] at g1
 replace g1 : DataW.trod enc Try.prog W base sp held n' 32 [c1] = xs[1]? := g1
 rw [x1] at g1
 have q2 : Try.prog.cellsOf 32 = 1 := by kernel_rfl
 have g2 : DataW.trod enc Try.prog W base sp held n' 32 ((List.drop 2 [c0, c1, c2, c3, c4]).take (Try.prog.cellsOf 32)) = xs[2]? := hf 2 _ rfl
 have x2 : xs[2]? = some (xs[2]'(by rw [hxl]; decide)) := List.getElem?_eq_getElem _
 rw [q2] at g2
 replace g2 : DataW.trod enc Try.prog W base sp held n' 32 [c2] = xs[2]? := g2
 rw [x2] at g2
 have q3 : Try.prog.cellsOf 33 = 1 := by kernel_rfl
 have g3 : DataW.trod enc Try.prog W base sp held n' 33 ((List.drop 3 [c0, c1, c2, c3, c4]).take (Try.prog.cellsOf 33)) = xs[3]? := hf 3 _ rfl
 have x3 : xs[3]? = some (xs[3]'(by rw [hxl]; decide)) := List.getElem?_eq_getElem _
 rw [q3] at g3
 replace g3 : DataW.trod enc Try.prog W base sp held n' 33 [c3] = xs[3]? := g3
 rw [x3] at g3
 have q4 : Try.prog.cellsOf 9 = 1 := by kernel_rfl
 have g4 : DataW.trod enc Try.prog W base sp held n' 9 ((List.drop 4 [c0, c1, c2, c3, c4]).take (Try.prog.cellsOf 9)) = xs[4]? := hf 4 _ rfl
 have x4 : xs[4]? = some (xs[4]'(by rw [hxl]; decide)) := List.getElem?_eq_getElem _
 rw [q4] at g4
 replace g4 : DataW.trod enc Try.prog W base sp held n' 9 [c4] = xs[4]? := g4
 rw [x4] at g4
 obtain ⟨n0, e0, _, w0⟩ := DataW.trod_int Try.underlying3 g0
 obtain rfl : c0 = .int .i64 n0 := by simpa using e0
 obtain ⟨n1, e1, _, w1⟩ := DataW.trod_int Try.underlying32 g1
 obtain rfl : c1 = .int .u16 n1 := by simpa using e1
 obtain ⟨n2, e2, _, w2⟩ := DataW.trod_int Try.underlying32 g2
 obtain rfl : c2 = .int .u16 n2 := by simpa using e2
 obtain ⟨n3, e3, _, w3⟩ := DataW.trod_int Try.underlying33 g3
 obtain rfl : c3 = .int .u64 n3 := by simpa using e3
 obtain ⟨n4, e4, _, w4⟩ := DataW.trod_string Try.underlying9 g4
 obtain rfl : c4 = .string n4 := by simpa using e4
 exact ⟨n0, n1, n2, n3, n4, rfl, w0, w1, w2, w3, w4⟩
set_option maxRecDepth 100000 in
theorem agg35 {H : Type} {enc : TypeId × Value → H} {W : World} {base : Nat} {sp : Nat → Bool} {held : Bool} {r : Reach} {b0_ : Nat} {v : Value} {d : DataW H} {p : List MemPlace} (hv : Value.okWide Try.prog W r b0_ 35 v) (h : DataW.Trod enc Try.prog W base sp held 35 v d p) : ∃ (b0 : Int) (b1 : Int) (b2 : Int) (b3 : Int) (b4 : ByteArray), v = .agg #[.int .i64 b0, .int .u16 b1, .int .u16 b2, .int .u64 b3, .string b4] ∧ (Lit.int .i64 b0).wf = true ∧ (Lit.int .u16 b1).wf = true ∧ (Lit.int .u16 b2).wf = true ∧ (Lit.int .u64 b3).wf = true ∧ b4.size ≤ maxLen := by
 obtain ⟨cs, rfl, _⟩ := okWide_struct' Try.underlying35 hv
 obtain ⟨fuel, hf⟩ := h
 obtain ⟨b0, b1, b2, b3, b4, e, h_⟩ := flat35 _ _ _ hf
 refine ⟨b0, b1, b2, b3, b4, ?_, h_⟩
 have e' : cs.toList = _ := e
 rw [← Array.toArray_toList (xs := cs), e']
set_option maxRecDepth 100000 in
theorem agg40 {H : Type} {enc : TypeId × Value → H} {W : World} {base : Nat} {sp : Nat → Bool} {held : Bool} {r : Reach} {b0_ : Nat} {v : Value} {d : DataW H} {p : List MemPlace} (hv : Value.okWide Try.prog W r b0_ 40 v) (h : DataW.Trod enc Try.prog W base sp held 40 v d p) : ∃ (b0 : Int) (b1 : Int) (b2 : Int) (b3 : Int) (b4 : Int) (b5 : Int), v = .agg #[.int .u32 b0, .int .u32 b1, .int .u32 b2, .int .u32 b3, .int .u32 b4, .int .u32 b5] ∧ (Lit.int .u32 b0).wf = true ∧ (Lit.int .u32 b1).wf = true ∧ (Lit.int .u32 b2).wf = true ∧ (Lit.int .u32 b3).wf = true ∧ (Lit.int .u32 b4).wf = true ∧ (Lit.int .u32 b5).wf = true := by
 obtain ⟨cs, rfl, _⟩ := Go.Proofs.Ytpcokafalmafgaa.H.okWide_array Try.underlying40 hv
 obtain ⟨fuel, hf⟩ := h
 obtain ⟨b0, b1, b2, b3, b4, b5, e, h_⟩ := flat40 _ _ _ hf
 refine ⟨b0, b1, b2, b3, b4, b5, ?_, h_⟩
 have e' : cs.toList = _ := e
 rw [← Array.toArray_toList (xs := cs), e']
set_option maxRecDepth 100000 in
theorem elem42 {H : Type} {enc : TypeId × Value → H} {W : World} {base : Nat} {sp : Nat → Bool} {held : Bool} (cs : List Value) (n : Nat) (y : DataW H × List MemPlace) (h : DataW.trod enc Try.prog W base sp held n 42 cs = some y) : ∃ x : S42, ((Lit.int .i64 x.f0).wf = true ∧ (Lit.int .u16 x.f1).wf = true ∧ (Lit.int .u16 x.f2).wf = true ∧ (Lit.int .u32 x.f3).wf = true ∧ (Lit.int .u64 x.f4).wf = true ∧ (Lit.int .i64 x.f5).wf = true ∧ (Lit.int .u32 x.f6.f0).wf = true ∧ (Lit.int .u32 x.f6.f1).wf = true ∧ (Lit.int .u32 x.f6.f2).wf = true ∧ (Lit.int .u32 x.f6.f3).wf = true ∧ (Lit.int .u32 x.f6.f4).wf = true ∧ (Lit.int .u32 x.f6.f5).wf = true) ∧ cs.length = 12 ∧ k42.K W x cs := by
 obtain ⟨b0, b1, b2, b3, b4, b5, b6, b7, b8, b9, b10, b11, rfl, h_⟩ := flat42 _ _ _ h
 exact ⟨(⟨b0, b1, b2, b3, b4, b5, (⟨b6, b7, b8, b9, b10, b11⟩ : S40)⟩ : S42), h_, rfl, k42_mk W _⟩
set_option maxRecDepth 100000 in
theorem lifted (os : Os) (started : os.Started) (H : Type) (enc : TypeId × Value → H) :
  ReturnsInHanded {} Try.checked os 9 .any (Rows.volReadsSpec.pre6 enc Try.prog Try.f9 Rows.volReadsRow.domain false) (Rows.volReadsSpec.post enc Try.prog Try.f9 false true false false) := by
 refine returnsInHanded_of_change_sized (C := Try.checked) own started (by kernel_rfl) Try.func9
  (ChangeSpec.witness6 (enc := enc) (C := Try.checked) false ⟨#[], #[.slice none 0 0, .agg #[.int .i64 0, .int .u16 0, .int .u16 0, .int .u64 0, .string ByteArray.empty], .agg #[.int .u32 0, .int .u32 0, .int .u32 0, .int .u32 0, .int .u32 0, .int .u32 0]], []⟩ 8 (by kernel_rfl) (by kernel_rfl) (by kernel_rfl) (by kernel_rfl)) ?_
 intro W base args ds gs before hval0 hW hcnd hsz0 _
 have hsz : (DataW.weightsEach Try.prog (Try.f9.params.toList ++ Rows.volReadsSpec.plain.varTypes Try.prog) (ds ++ gs)).all (· ≤ reachBytes) = true := hsz0
 have hval : ∀ (j : Nat) t v, Try.f9.params[j]? = some t → args[j]? = some v → Value.okWide Try.prog W .any base t v := hval0
 have hW' := hW
 obtain ⟨p, q, hA0, hV, rfl, hfz, hnd⟩ := hW
 have hA : DataW.TrodAll enc Try.prog W 0 (fun _ => true) true Try.f9.params.toList args.toList ds p := hA0
 rw [Try.params9] at hA hval hsz
 obtain ⟨v0, vs0, d0, ds0, p0, q0, hargs, rfl, rfl, h0, r0⟩ := trodAll_cons hA
 obtain ⟨v1, vs1, d1, ds1, p1, q1, rfl, rfl, rfl, h1, r1⟩ := trodAll_cons r0
 obtain ⟨v2, vs2, d2, ds2, p2, q2, rfl, rfl, rfl, h2, r2⟩ := trodAll_cons r1
 obtain ⟨rfl, rfl, rfl⟩ := trodAll_nil r2
 obtain rfl : args = #[v0, v1, v2] := by cases args; simp_all
 obtain ⟨rfl, rfl⟩ := trodVars_none hV
 obtain ⟨a0, len0, cap0, rfl⟩ := okWide_slice Try.underlying54 (hval 0 54 v0 rfl rfl)
 have k0 := h0
 have lt0 : ∀ x ∈ p0, x.block < W.heap.size := by obtain ⟨m, hm⟩ := k0; exact DataW.trod_lt m _ _ _ hm
 obtain ⟨fuel0, hf0⟩ := h0
 obtain ⟨A0, n0, c0, z0, hcs0, w0⟩ := Go.Proofs.Ytpcokafalmafgaa.H.rows_of k42 Try.underlying54 (by kernel_rfl) _ (fun cs n y h => elem42 cs n y h) hf0
 simp [Value.cells] at hcs0
 obtain ⟨rfl, rfl, rfl⟩ := hcs0
 have k1 := h1
 have lt1 : ∀ x ∈ p1, x.block < W.heap.size := by obtain ⟨m, hm⟩ := k1; exact DataW.trod_lt m _ _ _ hm
 obtain ⟨a1_0, a1_1, a1_2, a1_3, a1_4, rfl, w1_0, w1_1, w1_2, w1_3, w1_4⟩ := agg35 (hval 1 35 v1 rfl rfl) h1
 have k2 := h2
 have lt2 : ∀ x ∈ p2, x.block < W.heap.size := by obtain ⟨m, hm⟩ := k2; exact DataW.trod_lt m _ _ _ hm
 obtain ⟨a2_0, a2_1, a2_2, a2_3, a2_4, a2_5, rfl, w2_0, w2_1, w2_2, w2_3, w2_4, w2_5⟩ := agg40 (hval 2 40 v2 rfl rfl) h2
 clear hA0 hval0 hsz0 hsz
 refine (Q.nautiluslaw17_VolReads.walk Pure.VolReads a0 len0 cap0 z0 a1_0 a1_1 a1_2 a1_3 a1_4 a2_0 a2_1 a2_2 a2_3 a2_4 a2_5 W w0 w1_0 w1_1 w1_2 w1_3 w1_4 w2_0 w2_1 w2_2 w2_3 w2_4 w2_5).mono fun e W' ⟨he, bel⟩ => ?_
 subst he
 exact ⟨_, rfl, _, _, _, [], _, [], hW', trodAll_mk1 (shut_bool Try.underlying4 _), (trodAll_cons_mk (Below.trod laidOut (by kernel_rfl) (of_decide_eq_true (by kernel_rfl)) k0 bel lt0) (trodAll_cons_mk (Below.trod laidOut (by kernel_rfl) (of_decide_eq_true (by kernel_rfl)) k1 bel lt1) (trodAll_cons_mk (Below.trod laidOut (by kernel_rfl) (of_decide_eq_true (by kernel_rfl)) k2 bel lt2) trodAll_mk0))), rfl, bel.frame _, fun h => by cases h⟩
theorem over : Rows.volReadsRow.holds Try.pinned (OpenSpec.ofChange Rows.volReadsSpec) :=
 OpenClaim.holds_of_wide 9 Try.f9 rfl rfl rfl rfl rfl rfl rfl ⟨rfl, rfl, rfl, rfl, rfl⟩ rfl rfl rfl rfl rfl (by kernel_rfl) Try.func9 (by kernel_rfl)
  (of_decide_eq_true (by kernel_rfl)) (by unfold Func.isWrapper; first | (rw [if_pos (by decide +kernel)]; kernel_rfl) | (rw [if_neg (by decide +kernel)]; exact ⟨rfl, rfl⟩))
  (fun os started H enc _ => lifted os started H enc)
theorem proved : Rows.VolReadsSaid := over
#print axioms proved
end Go.Proofs.Ytpcokafalmafgaa.volReads
namespace Go.Proofs.Ytpcokafalmafgaa
/-- The row, under a short name, for the claim. -/
theorem volReads_holds : Rows.VolReadsSaid := volReads.proved
end Go.Proofs.Ytpcokafalmafgaa
