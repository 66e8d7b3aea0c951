/- The law nautiluslaw16_RootDoubles, out of its pure statement and its walk. -/
import Derived.Test.YtmpcpcfdomlehaaHOpen
import Derived.Lib.SmallJoins
import Derived.Test.YtmpcpcfdomlehaaRows
import Derived.Test.YtmpcpcfdomlehaaQ13
import Derived.Test.YtmpcpcfdomlehaaPureRootDoubles
import Derived.WalkKit
import Derived.ProofKit
import Derived.OpenShut
import Derived.ShutString
import Derived.ChangeOld
import Derived.Below
import Derived.SizedLaws
import Derived.Test.YtmpcpcfdomlehaaWSized
namespace Go.Proofs.Ytmpcpcfdomlehaa.rootDoubles
open Go.ChangeShapes Go.WideShapes Go.ChangeAt Go.RowKit
open Go.ChangeMaps (open_string shut_string)
open Go.Joins Go.Deep
open Go.Proofs.Ytmpcpcfdomlehaa Go.Proofs.Ytmpcpcfdomlehaa.Q Go.Proofs.YtmpcpcfdomlehaaW.PrintWords
set_option linter.unusedVariables false
theorem own : ownKnob Try.prog.godebug = none := by kernel_rfl
theorem laidOut : laidOutB Try.prog = true := by kernel_rfl
def IsRow (k : IntKind) (w : World) (a : Option Addr) (len cap : Nat) (zs : List Int) : Prop :=
  (a = none ∧ len = 0 ∧ cap = 0 ∧ zs = []) ∨
  ∃ x, a = some x ∧ len ≤ cap ∧ cap ≤ maxLen ∧ zs.length = cap ∧ (∀ i, i < zs.length → w.cell? (x.add i) = some (.int k (zs.getD i 0))) ∧ ∀ n ∈ zs, (Lit.int k n).wf = true
theorem elemI35 {H : Type} {enc : TypeId × Value → H} {W : World} {base : Nat} {sp : Nat → Bool} {held : Bool} (cs : List Value) (n : Nat) (y : DataW H × List MemPlace) (h : DataW.trod enc Try.prog W base sp held n 35 cs = some y) : ∃ x : Int, (Lit.int .u32 x).wf = true ∧ cs.length = 1 ∧ Kd.K (Kd.int .u32) W x cs := by
  obtain ⟨m, rfl, _, hm⟩ := DataW.trod_int Try.underlying35 h
  exact ⟨m, hm, rfl, rfl⟩
theorem list_len25_4 : ∀ (cs : List Value), cs.length = 4 → ∃ c0 c1 c2 c3, cs = [c0, c1, c2, c3]
  | [c0, c1, c2, c3], _ => ⟨c0, c1, c2, c3, rfl⟩
set_option maxRecDepth 100000 in
theorem flat25 {H : Type} {enc : TypeId × Value → H} {W : World} {base : Nat} {sp : Nat → Bool} {held : Bool} (cs : List Value) (n : Nat) (y : DataW H × List MemPlace) (h : DataW.trod enc Try.prog W base sp held n 25 cs = some y) : ∃ (a_0 : Int) (a_1 : Int) (a_2 : Option Addr) (len_2 cap_2 : Nat) (z_2 : List Int) (a_3 : Option Addr) (len_3 cap_3 : Nat) (z_3 : List Int), cs = [.int .u64 a_0, .int .u64 a_1, .slice a_2 len_2 cap_2, .slice a_3 len_3 cap_3] ∧ (Lit.int .u64 a_0).wf = true ∧ (Lit.int .u64 a_1).wf = true ∧ (z_2.length = len_2 ∧ len_2 ≤ cap_2 ∧ len_2 ≤ maxLen ∧ Kd.C (Kd.int .u32) W a_2 len_2 z_2 ∧ ∀ x ∈ z_2, (Lit.int .u32 x).wf = true) ∧ (z_3.length = len_3 ∧ len_3 ≤ cap_3 ∧ len_3 ≤ maxLen ∧ Kd.C (Kd.int .u32) W a_3 len_3 z_3 ∧ ∀ x ∈ z_3, (Lit.int .u32 x).wf = true) := by
  obtain ⟨xs, n', rfl, hy, hlen, hxl, hf⟩ := DataW.trod_struct Try.underlying25 h
  have hC : Try.prog.cellsOf 25 = 4 := by kernel_rfl
  rw [hC] at hlen
  obtain ⟨c0, c1, c2, c3, rfl⟩ := list_len25_4 cs hlen
  have q0 : Try.prog.cellsOf 22 = 1 := by kernel_rfl
  have g0 : DataW.trod enc Try.prog W base sp held n' 22 ((List.drop 0 [c0, c1, c2, c3]).take (Try.prog.cellsOf 22)) = xs[0]? := hf 0 _ rfl
  have x0 : xs[0]? = some (xs[0]'(by rw [hxl]; decide)) := List.getElem?_eq_getElem _
  rw [q0] at g0
  replace g0 : DataW.trod enc Try.prog W base sp held n' 22 [c0] = xs[0]? := g0
  rw [x0] at g0
  have q1 : Try.prog.cellsOf 22 = 1 := by kernel_rfl
  have g1 : DataW.trod enc Try.prog W base sp held n' 22 ((List.drop 1 [c0, c1, c2, c3]).take (Try.prog.cellsOf 22)) = xs[1]? := hf 1 _ rfl
  have x1 : xs[1]? = some (xs[1]'(by rw [hxl]; decide)) := List.getElem?_eq_getElem _
  rw [q1] at g1
  replace g1 : DataW.trod enc Try.prog W base sp held n' 22 [c1] = xs[1]? := g1
  rw [x1] at g1
  have q2 : Try.prog.cellsOf 23 = 1 := by kernel_rfl
  have g2 : DataW.trod enc Try.prog W base sp held n' 23 ((List.drop 2 [c0, c1, c2, c3]).take (Try.prog.cellsOf 23)) = xs[2]? := hf 2 _ rfl
  have x2 : xs[2]? = some (xs[2]'(by rw [hxl]; decide)) := List.getElem?_eq_getElem _
  rw [q2] at g2
  replace g2 : DataW.trod enc Try.prog W base sp held n' 23 [c2] = xs[2]? := g2
  rw [x2] at g2
  have q3 : Try.prog.cellsOf 23 = 1 := by kernel_rfl
  have g3 : DataW.trod enc Try.prog W base sp held n' 23 ((List.drop 3 [c0, c1, c2, c3]).take (Try.prog.cellsOf 23)) = xs[3]? := hf 3 _ rfl
  have x3 : xs[3]? = some (xs[3]'(by rw [hxl]; decide)) := List.getElem?_eq_getElem _
  rw [q3] at g3
  replace g3 : DataW.trod enc Try.prog W base sp held n' 23 [c3] = xs[3]? := g3
  rw [x3] at g3
  obtain ⟨n0, e0, _, w0⟩ := DataW.trod_int Try.underlying22 g0
  obtain rfl : c0 = .int .u64 n0 := by simpa using e0
  obtain ⟨n1, e1, _, w1⟩ := DataW.trod_int Try.underlying22 g1
  obtain rfl : c1 = .int .u64 n1 := by simpa using e1
  obtain ⟨A2, n2, m2, z2, e2, w2⟩ := Go.Proofs.Ytmpcpcfdomlehaa.H.rows_of (Kd.int .u32) Try.underlying23 (by kernel_rfl) _ (fun cs n y h => elemI35 cs n y h) g2
  obtain rfl : c2 = .slice A2 n2 m2 := by simpa using e2
  obtain ⟨A3, n3, m3, z3, e3, w3⟩ := Go.Proofs.Ytmpcpcfdomlehaa.H.rows_of (Kd.int .u32) Try.underlying23 (by kernel_rfl) _ (fun cs n y h => elemI35 cs n y h) g3
  obtain rfl : c3 = .slice A3 n3 m3 := by simpa using e3
  exact ⟨n0, n1, A2, n2, m2, z2, A3, n3, m3, z3, rfl, w0, w1, w2, w3⟩
set_option maxRecDepth 100000 in
theorem agg25 {H : Type} {enc : TypeId × Value → H} {W : World} {base : Nat} {sp : Nat → Bool} {held : Bool} {r : Reach} {b0_ : Nat} {v : Value} {d : DataW H} {p : List MemPlace} (hv : Value.okWide Try.prog W r b0_ 25 v) (h : DataW.Trod enc Try.prog W base sp held 25 v d p) : ∃ (a_0 : Int) (a_1 : Int) (a_2 : Option Addr) (len_2 cap_2 : Nat) (z_2 : List Int) (a_3 : Option Addr) (len_3 cap_3 : Nat) (z_3 : List Int), v = .agg #[.int .u64 a_0, .int .u64 a_1, .slice a_2 len_2 cap_2, .slice a_3 len_3 cap_3] ∧ (Lit.int .u64 a_0).wf = true ∧ (Lit.int .u64 a_1).wf = true ∧ (z_2.length = len_2 ∧ len_2 ≤ cap_2 ∧ len_2 ≤ maxLen ∧ Kd.C (Kd.int .u32) W a_2 len_2 z_2 ∧ ∀ x ∈ z_2, (Lit.int .u32 x).wf = true) ∧ (z_3.length = len_3 ∧ len_3 ≤ cap_3 ∧ len_3 ≤ maxLen ∧ Kd.C (Kd.int .u32) W a_3 len_3 z_3 ∧ ∀ x ∈ z_3, (Lit.int .u32 x).wf = true) := by
  obtain ⟨cs, rfl, _⟩ := Go.Proofs.Ytmpcpcfdomlehaa.H.okWide_struct' Try.underlying25 hv
  obtain ⟨fuel, hf⟩ := h
  obtain ⟨a_0, a_1, a_2, len_2, cap_2, z_2, a_3, len_3, cap_3, z_3, e, h_⟩ := flat25 _ _ _ hf
  refine ⟨a_0, a_1, a_2, len_2, cap_2, z_2, a_3, len_3, cap_3, z_3, ?_, h_⟩
  have e' : cs.toList = _ := e
  rw [← Array.toArray_toList (xs := cs), e']
set_option maxRecDepth 100000 in
theorem lifted (os : Os) (started : os.Started) (H : Type) (enc : TypeId × Value → H) :
    ReturnsInHanded {} Try.checked os 6 .any (Rows.rootDoublesSpec.pre6 enc Try.prog Try.f6 Rows.rootDoublesRow.domain false) (Rows.rootDoublesSpec.post enc Try.prog Try.f6 false true false false) := by
  refine returnsInHanded_of_change_sized (C := Try.checked) own started (by kernel_rfl) Try.func6
    (ChangeSpec.witness6 (enc := enc) (C := Try.checked) false ⟨#[], #[.agg #[.int .u64 0, .int .u64 0, .slice none 0 0, .slice none 0 0]], []⟩ 8 (by kernel_rfl) (by kernel_rfl) (by kernel_rfl) (by kernel_rfl)) ?_
  intro W base args ds gs before hval0 hW hcnd hsz0 _
  have hsz : (DataW.weightsEach Try.prog (Try.f6.params.toList ++ Rows.rootDoublesSpec.plain.varTypes Try.prog) (ds ++ gs)).all (· ≤ reachBytes) = true := hsz0
  have hval : ∀ (j : Nat) t v, Try.f6.params[j]? = some t → args[j]? = some v → Value.okWide Try.prog W .any base t v := hval0
  have hW' := hW
  obtain ⟨p, q, hA0, hV, rfl, hfz, hnd⟩ := hW
  have hA : DataW.TrodAll enc Try.prog W 0 (fun _ => true) true Try.f6.params.toList args.toList ds p := hA0
  rw [Try.params6] at hA hval hsz
  obtain ⟨v0, vs0, d0, ds0, p0, q0, hargs, rfl, rfl, h0, r0⟩ := trodAll_cons hA
  obtain ⟨rfl, rfl, rfl⟩ := trodAll_nil r0
  obtain rfl : args = #[v0] := by cases args; simp_all
  obtain ⟨rfl, rfl⟩ := trodVars_none hV
  have k0 := h0
  have lt0 : ∀ x ∈ p0, x.block < W.heap.size := by obtain ⟨m, hm⟩ := k0; exact DataW.trod_lt m _ _ _ hm
  obtain ⟨a0_0, a0_1, a0_2, len0_2, cap0_2, z0_2, a0_3, len0_3, cap0_3, z0_3, rfl, w0_0, w0_1, w0_2, w0_3⟩ := agg25 (hval 0 25 v0 rfl rfl) h0
  clear hA0 hval0 hsz0 hsz
  refine (Q.nautiluslaw16_RootDoubles.walk Pure.RootDoubles a0_0 a0_1 a0_2 len0_2 cap0_2 z0_2 a0_3 len0_3 cap0_3 z0_3 W w0_0 w0_1 w0_2 w0_3).mono fun e W' ⟨he, bel⟩ => ?_
  subst he
  exact ⟨_, rfl, _, _, _, [], _, [], hW', trodAll_mk1 (shut_bool Try.underlying4 _), (trodAll_cons_mk (Below.trod laidOut (by kernel_rfl) (of_decide_eq_true (by kernel_rfl)) k0 bel lt0) trodAll_mk0), rfl, bel.frame _, fun h => by cases h⟩
theorem over : Rows.rootDoublesRow.holds Try.pinned (OpenSpec.ofChange Rows.rootDoublesSpec) :=
  OpenClaim.holds_of_wide 6 Try.f6 rfl rfl rfl rfl rfl rfl rfl ⟨rfl, rfl, rfl, rfl, rfl⟩ rfl rfl rfl rfl rfl (by kernel_rfl) Try.func6 (by kernel_rfl)
    (of_decide_eq_true (by kernel_rfl)) (by unfold Func.isWrapper; first | (rw [if_pos (by decide +kernel)]; kernel_rfl) | (rw [if_neg (by decide +kernel)]; exact ⟨rfl, rfl⟩))
    (fun os started H enc _ => lifted os started H enc)
theorem proved : Rows.RootDoublesSaid := over
#print axioms proved
end Go.Proofs.Ytmpcpcfdomlehaa.rootDoubles
namespace Go.Proofs.Ytmpcpcfdomlehaa
/-- The row, under a short name, for the claim. -/
theorem rootDoubles_holds : Rows.RootDoublesSaid := rootDoubles.proved
end Go.Proofs.Ytmpcpcfdomlehaa
