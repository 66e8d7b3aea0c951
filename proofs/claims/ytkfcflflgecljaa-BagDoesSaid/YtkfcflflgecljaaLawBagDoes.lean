/- The law nautiluslaw02_BagDoes, out of its walk. -/
import Derived.Test.YtkfcflflgecljaaHOpen
import Derived.Lib.SmallJoins
import Derived.Test.YtkfcflflgecljaaRows
import Derived.Test.YtkfcflflgecljaaHBagScript
import Derived.WalkKit
import Derived.ProofKit
import Derived.OpenShut
import Derived.ShutString
import Derived.ChangeOld
import Derived.Below
import Derived.SizedLaws
namespace Go.Proofs.Ytkfcflflgecljaa.bagDoes
open Go.ChangeShapes Go.WideShapes Go.ChangeAt Go.RowKit
open Go.ChangeMaps (open_string shut_string)
open Go.Joins Go.Deep
open Go.Proofs.Ytkfcflflgecljaa Go.Proofs.Ytkfcflflgecljaa.H Go.Proofs.YtkfcflflgecljaaW.PrintWords
set_option linter.unusedVariables false
theorem own : ownKnob Try.prog.godebug = none := by kernel_rfl
theorem laidOut : laidOutB Try.prog = true := by kernel_rfl
theorem list_len_4 : ∀ (cs : List Value), cs.length = 4 → ∃ c0 c1 c2 c3, cs = [c0, c1, c2, c3]
  | [c0, c1, c2, c3], _ => ⟨c0, c1, c2, c3, rfl⟩
theorem elemOp {H : Type} {enc : TypeId × Value → H} {W : World} {base : Nat} {sp : Nat → Bool} {held : Bool} (cs : List Value) (n : Nat) (y : DataW H × List MemPlace) (h : DataW.trod enc Try.prog W base sp held n 45 cs = some y) : ∃ x : SOp, ((Lit.int .i64 x.f0).wf = true ∧ (Lit.int .i64 x.f1).wf = true ∧ (Lit.int .i64 x.f2).wf = true ∧ x.f3.size ≤ maxLen) ∧ cs.length = 4 ∧ kOp.K W x cs := by
  obtain ⟨xs, n', rfl, hy, hlen, hxl, hf⟩ := DataW.trod_struct Try.underlying45 h
  have hC : Try.prog.cellsOf 45 = 4 := by kernel_rfl
  rw [hC] at hlen
  obtain ⟨c0, c1, c2, c3, rfl⟩ := list_len_4 cs hlen
  have g0 : DataW.trod enc Try.prog W base sp held n' 3 ((List.drop 0 [c0, c1, c2, c3]).take (Try.prog.cellsOf 3)) = xs[0]? := hf 0 _ rfl
  have q0 : Try.prog.cellsOf 3 = 1 := by kernel_rfl
  have x0 : xs[0]? = some (xs[0]'(by rw [hxl]; decide)) := List.getElem?_eq_getElem _
  rw [q0] at g0
  replace g0 : DataW.trod enc Try.prog W base sp held n' 3 [c0] = xs[0]? := g0
  rw [x0] at g0
  have g1 : DataW.trod enc Try.prog W base sp held n' 2 ((List.drop 1 [c0, c1, c2, c3]).take (Try.prog.cellsOf 2)) = xs[1]? := hf 1 _ rfl
  have q1 : Try.prog.cellsOf 2 = 1 := by kernel_rfl
  have x1 : xs[1]? = some (xs[1]'(by rw [hxl]; decide)) := List.getElem?_eq_getElem _
  rw [q1] at g1
  replace g1 : DataW.trod enc Try.prog W base sp held n' 2 [c1] = xs[1]? := g1
  rw [x1] at g1
  have g2 : DataW.trod enc Try.prog W base sp held n' 2 ((List.drop 2 [c0, c1, c2, c3]).take (Try.prog.cellsOf 2)) = xs[2]? := hf 2 _ rfl
  have q2 : Try.prog.cellsOf 2 = 1 := by kernel_rfl
  have x2 : xs[2]? = some (xs[2]'(by rw [hxl]; decide)) := List.getElem?_eq_getElem _
  rw [q2] at g2
  replace g2 : DataW.trod enc Try.prog W base sp held n' 2 [c2] = xs[2]? := g2
  rw [x2] at g2
  have g3 : DataW.trod enc Try.prog W base sp held n' 9 ((List.drop 3 [c0, c1, c2, c3]).take (Try.prog.cellsOf 9)) = xs[3]? := hf 3 _ rfl
  have q3 : Try.prog.cellsOf 9 = 1 := by kernel_rfl
  have x3 : xs[3]? = some (xs[3]'(by rw [hxl]; decide)) := List.getElem?_eq_getElem _
  rw [q3] at g3
  replace g3 : DataW.trod enc Try.prog W base sp held n' 9 [c3] = xs[3]? := g3
  rw [x3] at g3
  obtain ⟨n0, e0, _, w0⟩ := DataW.trod_int Try.underlying3 g0
  obtain rfl : c0 = .int .i64 n0 := by simpa using e0
  obtain ⟨n1, e1, _, w1⟩ := DataW.trod_int Try.underlying2 g1
  obtain rfl : c1 = .int .i64 n1 := by simpa using e1
  obtain ⟨n2, e2, _, w2⟩ := DataW.trod_int Try.underlying2 g2
  obtain rfl : c2 = .int .i64 n2 := by simpa using e2
  obtain ⟨n3, e3, _, w3⟩ := DataW.trod_string Try.underlying9 g3
  obtain rfl : c3 = .string n3 := by simpa using e3
  exact ⟨⟨n0, n1, n2, n3⟩, ⟨w0, w1, w2, w3⟩, rfl, kOp_mk W ⟨n0, n1, n2, n3⟩⟩
set_option maxRecDepth 100000 in
theorem lifted (os : Os) (started : os.Started) (H : Type) (enc : TypeId × Value → H) :
    ReturnsInHanded {} Try.checked os 6 .any (Rows.bagDoesSpec.pre6 enc Try.prog Try.f6 Rows.bagDoesRow.domain false) (Rows.bagDoesSpec.post enc Try.prog Try.f6 false true false false) := by
  refine returnsInHanded_of_change_sized (C := Try.checked) own started (by kernel_rfl) Try.func6
    (ChangeSpec.witness6 (enc := enc) (C := Try.checked) false ⟨#[], #[.slice none 0 0], []⟩ 8 (by kernel_rfl) (by kernel_rfl) (by kernel_rfl) (by kernel_rfl)) ?_
  intro W base args ds gs before hval0 hW hcnd hsz0 _
  have hval : ∀ (j : Nat) t v, Try.f6.params[j]? = some t → args[j]? = some v → Value.okWide Try.prog W .any base t v := hval0
  have hW' := hW
  obtain ⟨p, q, hA0, hV, rfl, hfz, hnd⟩ := hW
  have hA : DataW.TrodAll enc Try.prog W 0 (fun _ => true) true Try.f6.params.toList args.toList ds p := hA0
  rw [Try.params6] at hA hval
  obtain ⟨v0, vs0, d0, ds0, p0, q0, hargs, rfl, rfl, h0, r0⟩ := trodAll_cons hA
  obtain ⟨rfl, rfl, rfl⟩ := trodAll_nil r0
  obtain rfl : args = #[v0] := by cases args; simp_all
  obtain ⟨rfl, rfl⟩ := trodVars_none hV
  obtain ⟨a0, len0, cap0, rfl⟩ := okWide_slice Try.underlying38 (hval 0 38 v0 rfl rfl)
  have k0 := h0
  have lt0 : ∀ x ∈ p0, x.block < W.heap.size := by obtain ⟨m, hm⟩ := k0; exact DataW.trod_lt m _ _ _ hm
  obtain ⟨fuel0, hf0⟩ := h0
  obtain ⟨A0, n0, c0, z0, hcs0, w0⟩ := Go.Proofs.Ytkfcflflgecljaa.H.rows_of kOp Try.underlying38 (by kernel_rfl) _ (fun cs n y h => elemOp cs n y h) hf0
  simp [Value.cells] at hcs0
  obtain ⟨rfl, rfl, rfl⟩ := hcs0
  obtain ⟨hl0, hc0, hm0, hC0, hw0⟩ := w0
  subst hl0
  clear hA0 hval0 hsz0
  refine (Go.Proofs.Ytkfcflflgecljaa.H.script.calls a0 cap0 z0 W hC0 hc0 (fun x hx => (hw0 x hx).1)).mono fun e W' ⟨he, bel⟩ => ?_
  subst he
  exact ⟨_, rfl, _, _, _, [], _, [], hW', trodAll_mk1 (shut_bool Try.underlying4 _), (trodAll_cons_mk (Below.trod laidOut (by kernel_rfl) (of_decide_eq_true (by kernel_rfl)) k0 bel lt0) trodAll_mk0), rfl, bel.frame _, fun h => by cases h⟩
theorem over : Rows.bagDoesRow.holds Try.pinned (OpenSpec.ofChange Rows.bagDoesSpec) :=
  OpenClaim.holds_of_wide 6 Try.f6 rfl rfl rfl rfl rfl rfl rfl ⟨rfl, rfl, rfl, rfl, rfl⟩ rfl rfl rfl rfl rfl (by kernel_rfl) Try.func6 (by kernel_rfl)
    (of_decide_eq_true (by kernel_rfl)) (by unfold Func.isWrapper; first | (rw [if_pos (by decide +kernel)]; kernel_rfl) | (rw [if_neg (by decide +kernel)]; exact ⟨rfl, rfl⟩))
    (fun os started H enc _ => lifted os started H enc)
theorem proved : Rows.BagDoesSaid := over
#print axioms proved
end Go.Proofs.Ytkfcflflgecljaa.bagDoes
namespace Go.Proofs.Ytkfcflflgecljaa
/-- The row, under a short name, for the claim. -/
theorem bagDoes_holds : Rows.BagDoesSaid := bagDoes.proved
end Go.Proofs.Ytkfcflflgecljaa
