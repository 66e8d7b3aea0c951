/- The law nautiluslaw09_CpsBack, out of its pure statement and its walk. -/
import Derived.Test.YtllcmalgahnnhaaHOpen
import Derived.Test.YtllcmalgahnnhaaRows
import Derived.Test.YtllcmalgahnnhaaQ17
import Derived.Test.YtllcmalgahnnhaaPureCpsBack
import Derived.WalkKit
import Derived.ProofKit
import Derived.OpenShut
import Derived.ShutString
import Derived.ChangeOld
import Derived.Below
import Derived.SizedLaws
import Derived.Test.YtllcmalgahnnhaaWSized
namespace Go.Proofs.Ytllcmalgahnnhaa.cpsBack
open Go.ChangeShapes Go.WideShapes Go.ChangeAt Go.RowKit
open Go.ChangeMaps (open_string shut_string)
open Go.Proofs.Ytllcmalgahnnhaa Go.Proofs.Ytllcmalgahnnhaa.Q Go.Proofs.YtllcmalgahnnhaaW.PrintWords
set_option linter.unusedVariables false
theorem own : ownKnob Try.prog.godebug = none := by kernel_rfl
theorem laidOut : laidOutB Try.prog = true := by kernel_rfl
def IsRow (k : IntKind) (w : World) (a : Option Addr) (len cap : Nat) (zs : List Int) : Prop :=
  (a = none ∧ len = 0 ∧ cap = 0 ∧ zs = []) ∨
  ∃ x, a = some x ∧ len ≤ cap ∧ cap ≤ maxLen ∧ zs.length = cap ∧ (∀ i, i < zs.length → w.cell? (x.add i) = some (.int k (zs.getD i 0))) ∧ ∀ n ∈ zs, (Lit.int k n).wf = true
theorem list_len33_4 : ∀ (cs : List Value), cs.length = 4 → ∃ c0 c1 c2 c3, cs = [c0, c1, c2, c3]
  | [c0, c1, c2, c3], _ => ⟨c0, c1, c2, c3, rfl⟩
theorem elem33 {H : Type} {enc : TypeId × Value → H} {W : World} {base : Nat} {sp : Nat → Bool} {held : Bool} (cs : List Value) (n : Nat) (y : DataW H × List MemPlace) (h : DataW.trod enc Try.prog W base sp held n 33 cs = some y) : ∃ x : S33, ((Lit.int .u64 x.f0).wf = true ∧ (Lit.int .u64 x.f1).wf = true ∧ x.f3.size ≤ maxLen) ∧ cs.length = 4 ∧ k33.K W x cs := by
  obtain ⟨xs, n', rfl, hy, hlen, hxl, hf⟩ := DataW.trod_struct Try.underlying33 h
  have hC : Try.prog.cellsOf 33 = 4 := by kernel_rfl
  rw [hC] at hlen
  obtain ⟨c0, c1, c2, c3, rfl⟩ := list_len33_4 cs hlen
  have g0 : DataW.trod enc Try.prog W base sp held n' 23 ((List.drop 0 [c0, c1, c2, c3]).take (Try.prog.cellsOf 23)) = xs[0]? := hf 0 _ rfl
  have q0 : Try.prog.cellsOf 23 = 1 := by kernel_rfl
  have x0 : xs[0]? = some (xs[0]'(by rw [hxl]; decide)) := List.getElem?_eq_getElem _
  rw [q0] at g0
  replace g0 : DataW.trod enc Try.prog W base sp held n' 23 [c0] = xs[0]? := g0
  rw [x0] at g0
  have g1 : DataW.trod enc Try.prog W base sp held n' 23 ((List.drop 1 [c0, c1, c2, c3]).take (Try.prog.cellsOf 23)) = xs[1]? := hf 1 _ rfl
  have q1 : Try.prog.cellsOf 23 = 1 := by kernel_rfl
  have x1 : xs[1]? = some (xs[1]'(by rw [hxl]; decide)) := List.getElem?_eq_getElem _
  rw [q1] at g1
  replace g1 : DataW.trod enc Try.prog W base sp held n' 23 [c1] = xs[1]? := g1
  rw [x1] at g1
  have g2 : DataW.trod enc Try.prog W base sp held n' 4 ((List.drop 2 [c0, c1, c2, c3]).take (Try.prog.cellsOf 4)) = xs[2]? := hf 2 _ rfl
  have q2 : Try.prog.cellsOf 4 = 1 := by kernel_rfl
  have x2 : xs[2]? = some (xs[2]'(by rw [hxl]; decide)) := List.getElem?_eq_getElem _
  rw [q2] at g2
  replace g2 : DataW.trod enc Try.prog W base sp held n' 4 [c2] = xs[2]? := g2
  rw [x2] at g2
  have g3 : DataW.trod enc Try.prog W base sp held n' 9 ((List.drop 3 [c0, c1, c2, c3]).take (Try.prog.cellsOf 9)) = xs[3]? := hf 3 _ rfl
  have q3 : Try.prog.cellsOf 9 = 1 := by kernel_rfl
  have x3 : xs[3]? = some (xs[3]'(by rw [hxl]; decide)) := List.getElem?_eq_getElem _
  rw [q3] at g3
  replace g3 : DataW.trod enc Try.prog W base sp held n' 9 [c3] = xs[3]? := g3
  rw [x3] at g3
  obtain ⟨n0, e0, _, w0⟩ := DataW.trod_int Try.underlying23 g0
  obtain rfl : c0 = .int .u64 n0 := by simpa using e0
  obtain ⟨n1, e1, _, w1⟩ := DataW.trod_int Try.underlying23 g1
  obtain rfl : c1 = .int .u64 n1 := by simpa using e1
  obtain ⟨n2, e2, _⟩ := DataW.trod_bool Try.underlying4 g2
  obtain rfl : c2 = .bool n2 := by simpa using e2
  obtain ⟨n3, e3, _, w3⟩ := DataW.trod_string Try.underlying9 g3
  obtain rfl : c3 = .string n3 := by simpa using e3
  exact ⟨⟨n0, n1, n2, n3⟩, ⟨w0, w1, w3⟩, rfl, k33_mk W ⟨n0, n1, n2, n3⟩⟩
theorem elem_string {H : Type} {enc : TypeId × Value → H} {W : World} {base : Nat} {sp : Nat → Bool} {held : Bool} (cs : List Value) (n : Nat) (y : DataW H × List MemPlace) (h : DataW.trod enc Try.prog W base sp held n 9 cs = some y) : ∃ p : ByteArray, p.size ≤ maxLen ∧ cs.length = 1 ∧ Kd.string.K W p cs := by
  obtain ⟨s, rfl, _, hs⟩ := DataW.trod_string Try.underlying9 h
  exact ⟨s, hs, rfl, rfl⟩
set_option maxRecDepth 100000 in
theorem lifted (os : Os) (started : os.Started) (H : Type) (enc : TypeId × Value → H) :
    ReturnsInHanded {} Try.checked os 10 .any (Rows.cpsBackSpec.pre6 enc Try.prog Try.f10 Rows.cpsBackRow.domain false) (Rows.cpsBackSpec.post enc Try.prog Try.f10 false true false false) := by
  refine returnsInHanded_of_change_sized (C := Try.checked) own started (by kernel_rfl) Try.func10
    (ChangeSpec.witness6 (enc := enc) (C := Try.checked) false ⟨#[], #[.slice none 0 0, .slice none 0 0], []⟩ 8 (by kernel_rfl) (by kernel_rfl) (by kernel_rfl) (by kernel_rfl)) ?_
  intro W base args ds gs before hval0 hW hcnd hsz0 _
  have hsz : (DataW.weightsEach Try.prog (Try.f10.params.toList ++ Rows.cpsBackSpec.plain.varTypes Try.prog) (ds ++ gs)).all (· ≤ reachBytes) = true := hsz0
  have hval : ∀ (j : Nat) t v, Try.f10.params[j]? = some t → args[j]? = some v → Value.okWide Try.prog W .any base t v := hval0
  have hW' := hW
  obtain ⟨p, q, hA0, hV, rfl, hfz, hnd⟩ := hW
  have hA : DataW.TrodAll enc Try.prog W 0 (fun _ => true) true Try.f10.params.toList args.toList ds p := hA0
  rw [Try.params10] at hA hval hsz
  obtain ⟨v0, vs0, d0, ds0, p0, q0, hargs, rfl, rfl, h0, r0⟩ := trodAll_cons hA
  obtain ⟨v1, vs1, d1, ds1, p1, q1, rfl, rfl, rfl, h1, r1⟩ := trodAll_cons r0
  obtain ⟨rfl, rfl, rfl⟩ := trodAll_nil r1
  obtain rfl : args = #[v0, v1] := by cases args; simp_all
  obtain ⟨rfl, rfl⟩ := trodVars_none hV
  obtain ⟨a0, len0, cap0, rfl⟩ := okWide_slice Try.underlying22 (hval 0 22 v0 rfl rfl)
  have k0 := h0
  have lt0 : ∀ x ∈ p0, x.block < W.heap.size := by obtain ⟨m, hm⟩ := k0; exact DataW.trod_lt m _ _ _ hm
  obtain ⟨fuel0, hf0⟩ := h0
  obtain ⟨A0, n0, c0, z0, hcs0, w0⟩ := Go.Proofs.Ytllcmalgahnnhaa.H.rows_of k33 Try.underlying22 (by kernel_rfl) _ (fun cs n y h => elem33 cs n y h) hf0
  simp [Value.cells] at hcs0
  obtain ⟨rfl, rfl, rfl⟩ := hcs0
  obtain ⟨a1, len1, cap1, rfl⟩ := okWide_slice Try.underlying47 (hval 1 47 v1 rfl rfl)
  have k1 := h1
  have lt1 : ∀ x ∈ p1, x.block < W.heap.size := by obtain ⟨m, hm⟩ := k1; exact DataW.trod_lt m _ _ _ hm
  obtain ⟨fuel1, hf1⟩ := h1
  obtain ⟨A1, n1, c1, z1, hcs1, w1⟩ := Go.Proofs.Ytllcmalgahnnhaa.H.rows_of Kd.string Try.underlying47 (by kernel_rfl) _ (fun cs n y h => elem_string cs n y h) hf1
  simp [Value.cells] at hcs1
  obtain ⟨rfl, rfl, rfl⟩ := hcs1
  clear hA0 hval0 hsz0 hsz
  refine (Q.nautiluslaw09_CpsBack.walk Pure.CpsBack a0 len0 cap0 z0 a1 len1 cap1 z1 W w0 w1).mono fun e W' ⟨he, bel⟩ => ?_
  subst he
  exact ⟨_, rfl, _, _, _, [], _, [], hW', trodAll_mk1 (shut_bool Try.underlying4 _), (trodAll_cons_mk (Below.trod laidOut (by kernel_rfl) (of_decide_eq_true (by kernel_rfl)) k0 bel lt0) (trodAll_cons_mk (Below.trod laidOut (by kernel_rfl) (of_decide_eq_true (by kernel_rfl)) k1 bel lt1) trodAll_mk0)), rfl, bel.frame _, fun h => by cases h⟩
theorem over : Rows.cpsBackRow.holds Try.pinned (OpenSpec.ofChange Rows.cpsBackSpec) :=
  OpenClaim.holds_of_wide 10 Try.f10 rfl rfl rfl rfl rfl rfl rfl ⟨rfl, rfl, rfl, rfl, rfl⟩ rfl rfl rfl rfl rfl (by kernel_rfl) Try.func10 (by kernel_rfl)
    (of_decide_eq_true (by kernel_rfl)) (by unfold Func.isWrapper; first | (rw [if_pos (by decide +kernel)]; kernel_rfl) | (rw [if_neg (by decide +kernel)]; exact ⟨rfl, rfl⟩))
    (fun os started H enc _ => lifted os started H enc)
theorem proved : Rows.CpsBackSaid := over
#print axioms proved
end Go.Proofs.Ytllcmalgahnnhaa.cpsBack
namespace Go.Proofs.Ytllcmalgahnnhaa
/-- The row, under a short name, for the claim. -/
theorem cpsBack_holds : Rows.CpsBackSaid := cpsBack.proved
end Go.Proofs.Ytllcmalgahnnhaa
