/- The law nautilustop_TopTables, out of its walk. -/
import Derived.Test.YthgefgjaihagoaaHOpen
import Derived.Lib.SmallJoins
import Derived.Test.YthgefgjaihagoaaRows
import Derived.Test.YthgefgjaihagoaaHTopT
import Derived.WalkKit
import Derived.ProofKit
import Derived.OpenShut
import Derived.ShutString
import Derived.ChangeOld
import Derived.Below
import Derived.SizedLaws
namespace Go.Proofs.Ythgefgjaihagoaa.topTables
open Go.ChangeShapes Go.WideShapes Go.ChangeAt Go.RowKit
open Go.ChangeMaps (open_string shut_string)
open Go.Joins Go.Deep
open Go.Proofs.Ythgefgjaihagoaa Go.Proofs.Ythgefgjaihagoaa.H Go.Proofs.Ythgefgjaihagoaa.Q Go.Proofs.YthgefgjaihagoaaW.PrintWords
set_option linter.unusedVariables false
theorem own : ownKnob Try.prog.godebug = none := by kernel_rfl
theorem laidOut : laidOutB Try.prog = true := by kernel_rfl
theorem list_len_3 : ∀ (cs : List Value), cs.length = 3 → ∃ c0 c1 c2, cs = [c0, c1, c2]
  | [c0, c1, c2], _ => ⟨c0, c1, c2, rfl⟩
theorem list_len_4 : ∀ (cs : List Value), cs.length = 4 → ∃ c0 c1 c2 c3, cs = [c0, c1, c2, c3]
  | [c0, c1, c2, c3], _ => ⟨c0, c1, c2, c3, rfl⟩
theorem elemI41 {H : Type} {enc : TypeId × Value → H} {W : World} {base : Nat} {sp : Nat → Bool} {held : Bool} (cs : List Value) (n : Nat) (y : DataW H × List MemPlace) (h : DataW.trod enc Try.prog W base sp held n 41 cs = some y) : ∃ x : Int, True ∧ cs.length = 1 ∧ Kd.K (Kd.int .u32) W x cs := by
  obtain ⟨m, rfl, _, hm⟩ := DataW.trod_int Try.underlying41 h
  exact ⟨m, trivial, rfl, rfl⟩
theorem wf_u64 {x : Int} (h : (Lit.int .u64 x).wf = true) : 0 ≤ x ∧ x < 18446744073709551616 := by
  simp [Lit.wf, IntKind.min, IntKind.max, IntKind.bits, IntKind.signed] at h; omega
theorem elem106 {H : Type} {enc : TypeId × Value → H} {W : World} {base : Nat} {sp : Nat → Bool} {held : Bool} (cs : List Value) (n : Nat) (y : DataW H × List MemPlace) (h : DataW.trod enc Try.prog W base sp held n 106 cs = some y) : ∃ x : S106, True ∧ cs.length = 3 ∧ k106.K W x cs := by
  obtain ⟨xs, n', rfl, hy, hlen, hxl, hf⟩ := DataW.trod_struct Try.underlying106 h
  have hC : Try.prog.cellsOf 106 = 3 := by kernel_rfl
  rw [hC] at hlen
  obtain ⟨c0, c1, c2, rfl⟩ := list_len_3 cs hlen
  have g0 : DataW.trod enc Try.prog W base sp held n' 41 ((List.drop 0 [c0, c1, c2]).take (Try.prog.cellsOf 41)) = xs[0]? := hf 0 _ rfl
  have q0 : Try.prog.cellsOf 41 = 1 := by kernel_rfl
  have x0 : xs[0]? = some (xs[0]'(by rw [hxl]; decide)) := List.getElem?_eq_getElem _
  rw [q0] at g0
  replace g0 : DataW.trod enc Try.prog W base sp held n' 41 [c0] = xs[0]? := g0
  rw [x0] at g0
  have g1 : DataW.trod enc Try.prog W base sp held n' 23 ((List.drop 1 [c0, c1, c2]).take (Try.prog.cellsOf 23)) = xs[1]? := hf 1 _ rfl
  have q1 : Try.prog.cellsOf 23 = 1 := by kernel_rfl
  have x1 : xs[1]? = some (xs[1]'(by rw [hxl]; decide)) := List.getElem?_eq_getElem _
  rw [q1] at g1
  replace g1 : DataW.trod enc Try.prog W base sp held n' 23 [c1] = xs[1]? := g1
  rw [x1] at g1
  have g2 : DataW.trod enc Try.prog W base sp held n' 23 ((List.drop 2 [c0, c1, c2]).take (Try.prog.cellsOf 23)) = xs[2]? := hf 2 _ rfl
  have q2 : Try.prog.cellsOf 23 = 1 := by kernel_rfl
  have x2 : xs[2]? = some (xs[2]'(by rw [hxl]; decide)) := List.getElem?_eq_getElem _
  rw [q2] at g2
  replace g2 : DataW.trod enc Try.prog W base sp held n' 23 [c2] = xs[2]? := g2
  rw [x2] at g2
  obtain ⟨n0, e0, _, w0⟩ := DataW.trod_int Try.underlying41 g0
  obtain rfl : c0 = .int .u32 n0 := by simpa using e0
  obtain ⟨n1, e1, _, w1⟩ := DataW.trod_int Try.underlying23 g1
  obtain rfl : c1 = .int .u64 n1 := by simpa using e1
  obtain ⟨n2, e2, _, w2⟩ := DataW.trod_int Try.underlying23 g2
  obtain rfl : c2 = .int .u64 n2 := by simpa using e2
  exact ⟨⟨n0, n1, n2⟩, trivial, rfl, k106_mk W ⟨n0, n1, n2⟩⟩
theorem elem110 {H : Type} {enc : TypeId × Value → H} {W : World} {base : Nat} {sp : Nat → Bool} {held : Bool} (cs : List Value) (n : Nat) (y : DataW H × List MemPlace) (h : DataW.trod enc Try.prog W base sp held n 110 cs = some y) : ∃ x : S110, 0 ≤ x.f1 ∧ cs.length = 4 ∧ k110.K W x cs := by
  obtain ⟨xs, n', rfl, hy, hlen, hxl, hf⟩ := DataW.trod_struct Try.underlying110 h
  have hC : Try.prog.cellsOf 110 = 4 := by kernel_rfl
  rw [hC] at hlen
  obtain ⟨c0, c1, c2, c3, rfl⟩ := list_len_4 cs hlen
  have g0 : DataW.trod enc Try.prog W base sp held n' 23 ((List.drop 0 [c0, c1, c2, c3]).take (Try.prog.cellsOf 23)) = xs[0]? := hf 0 _ rfl
  have q0 : Try.prog.cellsOf 23 = 1 := by kernel_rfl
  have x0 : xs[0]? = some (xs[0]'(by rw [hxl]; decide)) := List.getElem?_eq_getElem _
  rw [q0] at g0
  replace g0 : DataW.trod enc Try.prog W base sp held n' 23 [c0] = xs[0]? := g0
  rw [x0] at g0
  have g1 : DataW.trod enc Try.prog W base sp held n' 23 ((List.drop 1 [c0, c1, c2, c3]).take (Try.prog.cellsOf 23)) = xs[1]? := hf 1 _ rfl
  have q1 : Try.prog.cellsOf 23 = 1 := by kernel_rfl
  have x1 : xs[1]? = some (xs[1]'(by rw [hxl]; decide)) := List.getElem?_eq_getElem _
  rw [q1] at g1
  replace g1 : DataW.trod enc Try.prog W base sp held n' 23 [c1] = xs[1]? := g1
  rw [x1] at g1
  have g2 : DataW.trod enc Try.prog W base sp held n' 4 ((List.drop 2 [c0, c1, c2, c3]).take (Try.prog.cellsOf 4)) = xs[2]? := hf 2 _ rfl
  have q2 : Try.prog.cellsOf 4 = 1 := by kernel_rfl
  have x2 : xs[2]? = some (xs[2]'(by rw [hxl]; decide)) := List.getElem?_eq_getElem _
  rw [q2] at g2
  replace g2 : DataW.trod enc Try.prog W base sp held n' 4 [c2] = xs[2]? := g2
  rw [x2] at g2
  have g3 : DataW.trod enc Try.prog W base sp held n' 9 ((List.drop 3 [c0, c1, c2, c3]).take (Try.prog.cellsOf 9)) = xs[3]? := hf 3 _ rfl
  have q3 : Try.prog.cellsOf 9 = 1 := by kernel_rfl
  have x3 : xs[3]? = some (xs[3]'(by rw [hxl]; decide)) := List.getElem?_eq_getElem _
  rw [q3] at g3
  replace g3 : DataW.trod enc Try.prog W base sp held n' 9 [c3] = xs[3]? := g3
  rw [x3] at g3
  obtain ⟨n0, e0, _, w0⟩ := DataW.trod_int Try.underlying23 g0
  obtain rfl : c0 = .int .u64 n0 := by simpa using e0
  obtain ⟨n1, e1, _, w1⟩ := DataW.trod_int Try.underlying23 g1
  obtain rfl : c1 = .int .u64 n1 := by simpa using e1
  obtain ⟨n2, e2, _⟩ := DataW.trod_bool Try.underlying4 g2
  obtain rfl : c2 = .bool n2 := by simpa using e2
  obtain ⟨n3, e3, _, w3⟩ := DataW.trod_string Try.underlying9 g3
  obtain rfl : c3 = .string n3 := by simpa using e3
  exact ⟨⟨n0, n1, n2, n3⟩, (wf_u64 w1).1, rfl, k110_mk W ⟨n0, n1, n2, n3⟩⟩
set_option maxRecDepth 100000 in
theorem flat55 {H : Type} {enc : TypeId × Value → H} {W : World} {base : Nat} {sp : Nat → Bool} {held : Bool} (cs : List Value) (n : Nat) (y : DataW H × List MemPlace) (h : DataW.trod enc Try.prog W base sp held n 55 cs = some y) : ∃ (a b : Int) (A2 : Option Addr) (n2 c2 : Nat) (d : List Int) (A3 : Option Addr) (n3 c3 : Nat) (k : List Int), cs = [.int .u64 a, .int .u64 b, .slice A2 n2 c2, .slice A3 n3 c3] ∧ 0 ≤ a ∧ 0 ≤ b ∧ (d.length = n2 ∧ n2 ≤ c2 ∧ Kd.C (Kd.int .u32) W A2 n2 d) ∧ (k.length = n3 ∧ n3 ≤ c3 ∧ Kd.C (Kd.int .u32) W A3 n3 k) := by
  obtain ⟨xs, n', rfl, hy, hlen, hxl, hf⟩ := DataW.trod_struct Try.underlying55 h
  have hC : Try.prog.cellsOf 55 = 4 := by kernel_rfl
  rw [hC] at hlen
  obtain ⟨c0, c1, c2, c3, rfl⟩ := list_len_4 cs hlen
  have g0 : DataW.trod enc Try.prog W base sp held n' 23 ((List.drop 0 [c0, c1, c2, c3]).take (Try.prog.cellsOf 23)) = xs[0]? := hf 0 _ rfl
  have q0 : Try.prog.cellsOf 23 = 1 := by kernel_rfl
  have x0 : xs[0]? = some (xs[0]'(by rw [hxl]; decide)) := List.getElem?_eq_getElem _
  rw [q0] at g0
  replace g0 : DataW.trod enc Try.prog W base sp held n' 23 [c0] = xs[0]? := g0
  rw [x0] at g0
  have g1 : DataW.trod enc Try.prog W base sp held n' 23 ((List.drop 1 [c0, c1, c2, c3]).take (Try.prog.cellsOf 23)) = xs[1]? := hf 1 _ rfl
  have q1 : Try.prog.cellsOf 23 = 1 := by kernel_rfl
  have x1 : xs[1]? = some (xs[1]'(by rw [hxl]; decide)) := List.getElem?_eq_getElem _
  rw [q1] at g1
  replace g1 : DataW.trod enc Try.prog W base sp held n' 23 [c1] = xs[1]? := g1
  rw [x1] at g1
  have g2 : DataW.trod enc Try.prog W base sp held n' 53 ((List.drop 2 [c0, c1, c2, c3]).take (Try.prog.cellsOf 53)) = xs[2]? := hf 2 _ rfl
  have q2 : Try.prog.cellsOf 53 = 1 := by kernel_rfl
  have x2 : xs[2]? = some (xs[2]'(by rw [hxl]; decide)) := List.getElem?_eq_getElem _
  rw [q2] at g2
  replace g2 : DataW.trod enc Try.prog W base sp held n' 53 [c2] = xs[2]? := g2
  rw [x2] at g2
  have g3 : DataW.trod enc Try.prog W base sp held n' 53 ((List.drop 3 [c0, c1, c2, c3]).take (Try.prog.cellsOf 53)) = xs[3]? := hf 3 _ rfl
  have q3 : Try.prog.cellsOf 53 = 1 := by kernel_rfl
  have x3 : xs[3]? = some (xs[3]'(by rw [hxl]; decide)) := List.getElem?_eq_getElem _
  rw [q3] at g3
  replace g3 : DataW.trod enc Try.prog W base sp held n' 53 [c3] = xs[3]? := g3
  rw [x3] at g3
  obtain ⟨n0, e0, _, w0⟩ := DataW.trod_int Try.underlying23 g0
  obtain rfl : c0 = .int .u64 n0 := by simpa using e0
  obtain ⟨n1, e1, _, w1⟩ := DataW.trod_int Try.underlying23 g1
  obtain rfl : c1 = .int .u64 n1 := by simpa using e1
  obtain ⟨A2, n2, m2, z2, e2, w2⟩ := Go.Proofs.Ythgefgjaihagoaa.H.rows_of (Kd.int .u32) Try.underlying53 (by kernel_rfl) (fun _ => True) (fun cs n y h => elemI41 cs n y h) g2
  obtain rfl : c2 = .slice A2 n2 m2 := by simpa using e2
  obtain ⟨A3, n3, m3, z3, e3, w3⟩ := Go.Proofs.Ythgefgjaihagoaa.H.rows_of (Kd.int .u32) Try.underlying53 (by kernel_rfl) (fun _ => True) (fun cs n y h => elemI41 cs n y h) g3
  obtain rfl : c3 = .slice A3 n3 m3 := by simpa using e3
  exact ⟨n0, n1, A2, n2, m2, z2, A3, n3, m3, z3, rfl, (wf_u64 w0).1, (wf_u64 w1).1, ⟨w2.1, w2.2.1, w2.2.2.2.1⟩, ⟨w3.1, w3.2.1, w3.2.2.2.1⟩⟩
set_option maxRecDepth 100000 in
theorem agg55 {H : Type} {enc : TypeId × Value → H} {W : World} {base : Nat} {sp : Nat → Bool} {held : Bool} {r : Reach} {b0_ : Nat} {v : Value} {d_ : DataW H} {p : List MemPlace} (hv : Value.okWide Try.prog W r b0_ 55 v) (h : DataW.Trod enc Try.prog W base sp held 55 v d_ p) : ∃ (a b : Int) (A2 : Option Addr) (n2 c2 : Nat) (d : List Int) (A3 : Option Addr) (n3 c3 : Nat) (k : List Int), v = .agg #[.int .u64 a, .int .u64 b, .slice A2 n2 c2, .slice A3 n3 c3] ∧ 0 ≤ a ∧ 0 ≤ b ∧ (d.length = n2 ∧ n2 ≤ c2 ∧ Kd.C (Kd.int .u32) W A2 n2 d) ∧ (k.length = n3 ∧ n3 ≤ c3 ∧ Kd.C (Kd.int .u32) W A3 n3 k) := by
  obtain ⟨cs, rfl, _⟩ := okWide_struct Try.underlying55 hv
  obtain ⟨fuel, hf⟩ := h
  obtain ⟨a, b, A2, n2, c2, d, A3, n3, c3, k, e, h_⟩ := flat55 _ _ _ hf
  refine ⟨a, b, A2, n2, c2, d, A3, n3, c3, k, ?_, h_⟩
  have e' : cs.toList = _ := e
  rw [← Array.toArray_toList (xs := cs), e']
set_option maxRecDepth 100000 in
theorem lifted (os : Os) (started : os.Started) (H : Type) (enc : TypeId × Value → H) :
    ReturnsInHanded {} Try.checked os 4 .any (Rows.topTablesSpec.pre6 enc Try.prog Try.f4 Rows.topTablesRow.domain false) (Rows.topTablesSpec.post enc Try.prog Try.f4 false true false false) := by
  refine returnsInHanded_of_change_sized (C := Try.checked) own started (by kernel_rfl) Try.func4
    (ChangeSpec.witness6 (enc := enc) (C := Try.checked) false ⟨#[], #[.slice none 0 0, .slice none 0 0, .agg #[.int .u64 0, .int .u64 0, .slice none 0 0, .slice none 0 0]], []⟩ 8 (by kernel_rfl) (by kernel_rfl) (by kernel_rfl) (by kernel_rfl)) ?_
  intro W base args ds gs before hval0 hW hcnd hsz0 _
  have hval : ∀ (j : Nat) t v, Try.f4.params[j]? = some t → args[j]? = some v → Value.okWide Try.prog W .any base t v := hval0
  have hW' := hW
  obtain ⟨p, q, hA0, hV, rfl, hfz, hnd⟩ := hW
  have hA : DataW.TrodAll enc Try.prog W 0 (fun _ => true) true Try.f4.params.toList args.toList ds p := hA0
  rw [Try.params4] at hA hval
  obtain ⟨v0, vs0, d0, ds0, p0, q0, hargs, rfl, rfl, h0, r0⟩ := trodAll_cons hA
  obtain ⟨v1, vs1, d1, ds1, p1, q1, rfl, rfl, rfl, h1, r1⟩ := trodAll_cons r0
  obtain ⟨v2, vs2, d2, ds2, p2, q2, rfl, rfl, rfl, h2, r2⟩ := trodAll_cons r1
  obtain ⟨rfl, rfl, rfl⟩ := trodAll_nil r2
  obtain rfl : args = #[v0, v1, v2] := by cases args; simp_all
  obtain ⟨rfl, rfl⟩ := trodVars_none hV
  obtain ⟨a0, len0, cap0, rfl⟩ := okWide_slice Try.underlying51 (hval 0 51 v0 rfl rfl)
  have k0 := h0
  have lt0 : ∀ x ∈ p0, x.block < W.heap.size := by obtain ⟨m, hm⟩ := k0; exact DataW.trod_lt m _ _ _ hm
  obtain ⟨fuel0, hf0⟩ := h0
  obtain ⟨A0, n0, c0, z0, hcs0, w0⟩ := Go.Proofs.Ythgefgjaihagoaa.H.rows_of k106 Try.underlying51 (by kernel_rfl) (fun _ => True) (fun cs n y h => elem106 cs n y h) hf0
  simp [Value.cells] at hcs0
  obtain ⟨rfl, rfl, rfl⟩ := hcs0
  obtain ⟨hl0, hc0, hm0, hC0, hw0⟩ := w0
  subst hl0
  obtain ⟨a1, len1, cap1, rfl⟩ := okWide_slice Try.underlying52 (hval 1 52 v1 rfl rfl)
  have k1 := h1
  have lt1 : ∀ x ∈ p1, x.block < W.heap.size := by obtain ⟨m, hm⟩ := k1; exact DataW.trod_lt m _ _ _ hm
  obtain ⟨fuel1, hf1⟩ := h1
  obtain ⟨A1, n1, c1, z1, hcs1, w1⟩ := Go.Proofs.Ythgefgjaihagoaa.H.rows_of k110 Try.underlying52 (by kernel_rfl) (fun x => 0 ≤ x.f1) (fun cs n y h => elem110 cs n y h) hf1
  simp [Value.cells] at hcs1
  obtain ⟨rfl, rfl, rfl⟩ := hcs1
  obtain ⟨hl1, hc1, hm1, hC1, hw1⟩ := w1
  subst hl1
  have k2 := h2
  have lt2 : ∀ x ∈ p2, x.block < W.heap.size := by obtain ⟨m, hm⟩ := k2; exact DataW.trod_lt m _ _ _ hm
  obtain ⟨a, b, A2, n2, c2, d, A3, n3, c3, k, rfl, ha, hb, ⟨hl2, hc2, hC2⟩, ⟨hl3, hc3, hC3⟩⟩ := agg55 (hval 2 55 v2 rfl rfl) h2
  subst hl2; subst hl3
  clear hA0 hval0 hsz0
  refine (top.calls a0 cap0 z0 a1 cap1 z1 a b A2 c2 d A3 c3 k W ⟨hC0, hc0, hC1, hc1, hC2, hc2, hC3, hc3, hw1, ha, hb⟩).mono fun e W' ⟨he, bel⟩ => ?_
  subst he
  exact ⟨_, rfl, _, _, _, [], _, [], hW', trodAll_mk1 (shut_bool Try.underlying4 _), (trodAll_cons_mk (Below.trod laidOut (by kernel_rfl) (of_decide_eq_true (by kernel_rfl)) k0 bel lt0) (trodAll_cons_mk (Below.trod laidOut (by kernel_rfl) (of_decide_eq_true (by kernel_rfl)) k1 bel lt1) (trodAll_cons_mk (Below.trod laidOut (by kernel_rfl) (of_decide_eq_true (by kernel_rfl)) k2 bel lt2) trodAll_mk0))), rfl, bel.frame _, fun h => by cases h⟩
theorem over : Rows.topTablesRow.holds Try.pinned (OpenSpec.ofChange Rows.topTablesSpec) :=
  OpenClaim.holds_of_wide 4 Try.f4 rfl rfl rfl rfl rfl rfl rfl ⟨rfl, rfl, rfl, rfl, rfl⟩ rfl rfl rfl rfl rfl (by kernel_rfl) Try.func4 (by kernel_rfl)
    (of_decide_eq_true (by kernel_rfl)) (by unfold Func.isWrapper; first | (rw [if_pos (by decide +kernel)]; kernel_rfl) | (rw [if_neg (by decide +kernel)]; exact ⟨rfl, rfl⟩))
    (fun os started H enc _ => lifted os started H enc)
theorem proved : Rows.TopTablesSaid := over
#print axioms proved
end Go.Proofs.Ythgefgjaihagoaa.topTables
namespace Go.Proofs.Ythgefgjaihagoaa
/-- The row, under a short name, for the claim. -/
theorem topTables_holds : Rows.TopTablesSaid := topTables.proved
end Go.Proofs.Ythgefgjaihagoaa
