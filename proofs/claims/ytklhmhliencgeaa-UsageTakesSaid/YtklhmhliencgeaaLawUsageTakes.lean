/- The law nautiluslaw06_UsageTakes, out of its pure statement and its walk. -/
import Derived.Test.YtklhmhliencgeaaHOpen
import Derived.Lib.SmallJoins
import Derived.Test.YtklhmhliencgeaaRows
import Derived.Test.YtklhmhliencgeaaPureUsageTakes
import Derived.WalkKit
import Derived.ProofKit
import Derived.OpenShut
import Derived.ShutString
import Derived.ChangeOld
import Derived.Below
import Derived.SizedLaws
import Derived.Test.YtklhmhliencgeaaWSized
namespace Go.Proofs.Ytklhmhliencgeaa.usageTakes
open Go.ChangeShapes Go.WideShapes Go.ChangeAt Go.RowKit
open Go.ChangeMaps (open_string shut_string)
open Go.Joins Go.Deep
open Go.Proofs.Ytklhmhliencgeaa Go.Proofs.Ytklhmhliencgeaa.Q Go.Proofs.YtklhmhliencgeaaW.PrintWords
set_option linter.unusedVariables false
theorem own : ownKnob Try.prog.godebug = none := by kernel_rfl
theorem laidOut : laidOutB Try.prog = true := by kernel_rfl
def IsRow (k : IntKind) (w : World) (a : Option Addr) (len cap : Nat) (zs : List Int) : Prop :=
  (a = none ∧ len = 0 ∧ cap = 0 ∧ zs = []) ∨
  ∃ x, a = some x ∧ len ≤ cap ∧ cap ≤ maxLen ∧ zs.length = cap ∧ (∀ i, i < zs.length → w.cell? (x.add i) = some (.int k (zs.getD i 0))) ∧ ∀ n ∈ zs, (Lit.int k n).wf = true
theorem list_len30_3 : ∀ (cs : List Value), cs.length = 3 → ∃ c0 c1 c2, cs = [c0, c1, c2]
  | [c0, c1, c2], _ => ⟨c0, c1, c2, rfl⟩
theorem elem30 {H : Type} {enc : TypeId × Value → H} {W : World} {base : Nat} {sp : Nat → Bool} {held : Bool} (cs : List Value) (n : Nat) (y : DataW H × List MemPlace) (h : DataW.trod enc Try.prog W base sp held n 30 cs = some y) : ∃ x : S30, ((Lit.int .i64 x.f0).wf = true ∧ (Lit.int .u64 x.f1).wf = true ∧ (Lit.int .i64 x.f2).wf = true) ∧ cs.length = 3 ∧ k30.K W x cs := by
  obtain ⟨xs, n', rfl, hy, hlen, hxl, hf⟩ := DataW.trod_struct Try.underlying30 h
  have hC : Try.prog.cellsOf 30 = 3 := by kernel_rfl
  rw [hC] at hlen
  obtain ⟨c0, c1, c2, rfl⟩ := list_len30_3 cs hlen
  have g0 : DataW.trod enc Try.prog W base sp held n' 3 ((List.drop 0 [c0, c1, c2]).take (Try.prog.cellsOf 3)) = xs[0]? := hf 0 _ rfl
  have q0 : Try.prog.cellsOf 3 = 1 := by kernel_rfl
  have x0 : xs[0]? = some (xs[0]'(by rw [hxl]; decide)) := List.getElem?_eq_getElem _
  rw [q0] at g0
  replace g0 : DataW.trod enc Try.prog W base sp held n' 3 [c0] = xs[0]? := g0
  rw [x0] at g0
  have g1 : DataW.trod enc Try.prog W base sp held n' 23 ((List.drop 1 [c0, c1, c2]).take (Try.prog.cellsOf 23)) = xs[1]? := hf 1 _ rfl
  have q1 : Try.prog.cellsOf 23 = 1 := by kernel_rfl
  have x1 : xs[1]? = some (xs[1]'(by rw [hxl]; decide)) := List.getElem?_eq_getElem _
  rw [q1] at g1
  replace g1 : DataW.trod enc Try.prog W base sp held n' 23 [c1] = xs[1]? := g1
  rw [x1] at g1
  have g2 : DataW.trod enc Try.prog W base sp held n' 3 ((List.drop 2 [c0, c1, c2]).take (Try.prog.cellsOf 3)) = xs[2]? := hf 2 _ rfl
  have q2 : Try.prog.cellsOf 3 = 1 := by kernel_rfl
  have x2 : xs[2]? = some (xs[2]'(by rw [hxl]; decide)) := List.getElem?_eq_getElem _
  rw [q2] at g2
  replace g2 : DataW.trod enc Try.prog W base sp held n' 3 [c2] = xs[2]? := g2
  rw [x2] at g2
  obtain ⟨n0, e0, _, w0⟩ := DataW.trod_int Try.underlying3 g0
  obtain rfl : c0 = .int .i64 n0 := by simpa using e0
  obtain ⟨n1, e1, _, w1⟩ := DataW.trod_int Try.underlying23 g1
  obtain rfl : c1 = .int .u64 n1 := by simpa using e1
  obtain ⟨n2, e2, _, w2⟩ := DataW.trod_int Try.underlying3 g2
  obtain rfl : c2 = .int .i64 n2 := by simpa using e2
  exact ⟨⟨n0, n1, n2⟩, ⟨w0, w1, w2⟩, rfl, k30_mk W ⟨n0, n1, n2⟩⟩
theorem UsageTakesW (a0 : Option Addr) (len0 cap0 : Nat) (z0 : List S30) (a1 : Int) (w : World) (w0 : z0.length = len0 ∧ len0 ≤ cap0 ∧ len0 ≤ maxLen ∧ Kd.C k30 w a0 len0 z0 ∧ ∀ x ∈ z0, (Lit.int .i64 x.f0).wf = true ∧ (Lit.int .u64 x.f1).wf = true ∧ (Lit.int .i64 x.f2).wf = true) :
    Calls Try.prog 6 #[.slice a0 len0 cap0, .int .i64 a1] w fun e w' => e = .returned (.bool true) ∧ Below w.heap.size w w' := by
  obtain ⟨hl0, hc0, hm0, hC0, hw0⟩ := w0
  subst hl0
  refine (Q.nautiluslaw06_UsageTakes.calls 401 _ _ z0 a1 true w hC0 hc0 (Pure.UsageTakes z0 a1)).mono ?_
  rintro e w' ⟨rfl, hd⟩
  exact ⟨rfl, hd⟩
set_option maxRecDepth 100000 in
theorem lifted (os : Os) (started : os.Started) (H : Type) (enc : TypeId × Value → H) :
    ReturnsInHanded {} Try.checked os 6 .any (Rows.usageTakesSpec.pre6 enc Try.prog Try.f6 Rows.usageTakesRow.domain false) (Rows.usageTakesSpec.post enc Try.prog Try.f6 false true false false) := by
  refine returnsInHanded_of_change_sized (C := Try.checked) own started (by kernel_rfl) Try.func6
    (ChangeSpec.witness6 (enc := enc) (C := Try.checked) false ⟨#[], #[.slice none 0 0, .int .i64 0], []⟩ 8 (by kernel_rfl) (by kernel_rfl) (by kernel_rfl) (by kernel_rfl)) ?_
  intro W base args ds gs before hval0 hW hcnd hsz0 _
  have hsz : (DataW.weightsEach Try.prog (Try.f6.params.toList ++ Rows.usageTakesSpec.plain.varTypes Try.prog) (ds ++ gs)).all (· ≤ reachBytes) = true := hsz0
  have hval : ∀ (j : Nat) t v, Try.f6.params[j]? = some t → args[j]? = some v → Value.okWide Try.prog W .any base t v := hval0
  have hW' := hW
  obtain ⟨p, q, hA0, hV, rfl, hfz, hnd⟩ := hW
  have hA : DataW.TrodAll enc Try.prog W 0 (fun _ => true) true Try.f6.params.toList args.toList ds p := hA0
  rw [Try.params6] at hA hval hsz
  obtain ⟨v0, vs0, d0, ds0, p0, q0, hargs, rfl, rfl, h0, r0⟩ := trodAll_cons hA
  obtain ⟨v1, vs1, d1, ds1, p1, q1, rfl, rfl, rfl, h1, r1⟩ := trodAll_cons r0
  obtain ⟨rfl, rfl, rfl⟩ := trodAll_nil r1
  obtain rfl : args = #[v0, v1] := by cases args; simp_all
  obtain ⟨rfl, rfl⟩ := trodVars_none hV
  obtain ⟨a0, len0, cap0, rfl⟩ := okWide_slice Try.underlying22 (hval 0 22 v0 rfl rfl)
  have k0 := h0
  have lt0 : ∀ x ∈ p0, x.block < W.heap.size := by obtain ⟨m, hm⟩ := k0; exact DataW.trod_lt m _ _ _ hm
  obtain ⟨fuel0, hf0⟩ := h0
  obtain ⟨A0, n0, c0, z0, hcs0, w0⟩ := Go.Proofs.Ytklhmhliencgeaa.H.rows_of k30 Try.underlying22 (by kernel_rfl) _ (fun cs n y h => elem30 cs n y h) hf0
  simp [Value.cells] at hcs0
  obtain ⟨rfl, rfl, rfl⟩ := hcs0
  obtain ⟨a1, rfl, rfl, rfl, w1⟩ := open_int Try.underlying3 (hval 1 3 v1 rfl rfl) h1
  clear hA0 hval0 hsz0 hsz
  refine (UsageTakesW a0 len0 cap0 z0 a1 W w0).mono fun e W' ⟨he, bel⟩ => ?_
  subst he
  exact ⟨_, rfl, _, _, _, [], _, [], hW', trodAll_mk1 (shut_bool Try.underlying4 _), (trodAll_cons_mk (Below.trod laidOut (by kernel_rfl) (of_decide_eq_true (by kernel_rfl)) k0 bel lt0) (trodAll_cons_mk (shut_int Try.underlying3 w1) trodAll_mk0)), rfl, bel.frame _, fun h => by cases h⟩
theorem over : Rows.usageTakesRow.holds Try.pinned (OpenSpec.ofChange Rows.usageTakesSpec) :=
  OpenClaim.holds_of_wide 6 Try.f6 rfl rfl rfl rfl rfl rfl rfl ⟨rfl, rfl, rfl, rfl, rfl⟩ rfl rfl rfl rfl rfl (by kernel_rfl) Try.func6 (by kernel_rfl)
    (of_decide_eq_true (by kernel_rfl)) (by unfold Func.isWrapper; first | (rw [if_pos (by decide +kernel)]; kernel_rfl) | (rw [if_neg (by decide +kernel)]; exact ⟨rfl, rfl⟩))
    (fun os started H enc _ => lifted os started H enc)
theorem proved : Rows.UsageTakesSaid := over
#print axioms proved
end Go.Proofs.Ytklhmhliencgeaa.usageTakes
namespace Go.Proofs.Ytklhmhliencgeaa
/-- The row, under a short name, for the claim. -/
theorem usageTakes_holds : Rows.UsageTakesSaid := usageTakes.proved
end Go.Proofs.Ytklhmhliencgeaa
