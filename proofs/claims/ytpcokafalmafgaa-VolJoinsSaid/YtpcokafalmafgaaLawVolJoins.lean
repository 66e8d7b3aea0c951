/- The law nautiluslaw17_VolJoins, out of its pure statement and its walk. -/
import Derived.Test.YtpcokafalmafgaaHOpen
import Derived.Test.YtpcokafalmafgaaRows
import Derived.Test.YtpcokafalmafgaaQ7
import Derived.Test.YtpcokafalmafgaaPureVolJoins
import Derived.WalkKit
import Derived.ProofKit
import Derived.OpenShut
import Derived.ShutString
import Derived.ChangeOld
import Derived.Below
import Derived.SizedLaws
import Derived.Test.YtpcokafalmafgaaWSized
namespace Go.Proofs.Ytpcokafalmafgaa.volJoins
open Go.ChangeShapes Go.WideShapes Go.ChangeAt Go.RowKit
open Go.ChangeMaps (open_string shut_string)
open Go.Proofs.Ytpcokafalmafgaa Go.Proofs.Ytpcokafalmafgaa.Q Go.Proofs.YtpcokafalmafgaaW.PrintWords
set_option linter.unusedVariables false
theorem own : ownKnob Try.prog.godebug = none := by kernel_rfl
theorem laidOut : laidOutB Try.prog = true := by kernel_rfl
def IsRow (k : IntKind) (w : World) (a : Option Addr) (len cap : Nat) (zs : List Int) : Prop :=
  (a = none ∧ len = 0 ∧ cap = 0 ∧ zs = []) ∨
  ∃ x, a = some x ∧ len ≤ cap ∧ cap ≤ maxLen ∧ zs.length = cap ∧ (∀ i, i < zs.length → w.cell? (x.add i) = some (.int k (zs.getD i 0))) ∧ ∀ n ∈ zs, (Lit.int k n).wf = true
theorem list_len35_5 : ∀ (cs : List Value), cs.length = 5 → ∃ c0 c1 c2 c3 c4, cs = [c0, c1, c2, c3, c4]
  | [c0, c1, c2, c3, c4], _ => ⟨c0, c1, c2, c3, c4, rfl⟩
theorem elem35 {H : Type} {enc : TypeId × Value → H} {W : World} {base : Nat} {sp : Nat → Bool} {held : Bool} (cs : List Value) (n : Nat) (y : DataW H × List MemPlace) (h : DataW.trod enc Try.prog W base sp held n 35 cs = some y) : ∃ x : S35, ((Lit.int .i64 x.f0).wf = true ∧ (Lit.int .u16 x.f1).wf = true ∧ (Lit.int .u16 x.f2).wf = true ∧ (Lit.int .u64 x.f3).wf = true ∧ x.f4.size ≤ maxLen) ∧ cs.length = 5 ∧ k35.K W x cs := by
  obtain ⟨xs, n', rfl, hy, hlen, hxl, hf⟩ := DataW.trod_struct Try.underlying35 h
  have hC : Try.prog.cellsOf 35 = 5 := by kernel_rfl
  rw [hC] at hlen
  obtain ⟨c0, c1, c2, c3, c4, rfl⟩ := list_len35_5 cs hlen
  have g0 : DataW.trod enc Try.prog W base sp held n' 3 ((List.drop 0 [c0, c1, c2, c3, c4]).take (Try.prog.cellsOf 3)) = xs[0]? := hf 0 _ rfl
  have q0 : Try.prog.cellsOf 3 = 1 := by kernel_rfl
  have x0 : xs[0]? = some (xs[0]'(by rw [hxl]; decide)) := List.getElem?_eq_getElem _
  rw [q0] at g0
  replace g0 : DataW.trod enc Try.prog W base sp held n' 3 [c0] = xs[0]? := g0
  rw [x0] at g0
  have g1 : DataW.trod enc Try.prog W base sp held n' 32 ((List.drop 1 [c0, c1, c2, c3, c4]).take (Try.prog.cellsOf 32)) = xs[1]? := hf 1 _ rfl
  have q1 : Try.prog.cellsOf 32 = 1 := by kernel_rfl
  have x1 : xs[1]? = some (xs[1]'(by rw [hxl]; decide)) := List.getElem?_eq_getElem _
  rw [q1] at g1
  replace g1 : DataW.trod enc Try.prog W base sp held n' 32 [c1] = xs[1]? := g1
  rw [x1] at g1
  have g2 : DataW.trod enc Try.prog W base sp held n' 32 ((List.drop 2 [c0, c1, c2, c3, c4]).take (Try.prog.cellsOf 32)) = xs[2]? := hf 2 _ rfl
  have q2 : Try.prog.cellsOf 32 = 1 := by kernel_rfl
  have x2 : xs[2]? = some (xs[2]'(by rw [hxl]; decide)) := List.getElem?_eq_getElem _
  rw [q2] at g2
  replace g2 : DataW.trod enc Try.prog W base sp held n' 32 [c2] = xs[2]? := g2
  rw [x2] at g2
  have g3 : DataW.trod enc Try.prog W base sp held n' 33 ((List.drop 3 [c0, c1, c2, c3, c4]).take (Try.prog.cellsOf 33)) = xs[3]? := hf 3 _ rfl
  have q3 : Try.prog.cellsOf 33 = 1 := by kernel_rfl
  have x3 : xs[3]? = some (xs[3]'(by rw [hxl]; decide)) := List.getElem?_eq_getElem _
  rw [q3] at g3
  replace g3 : DataW.trod enc Try.prog W base sp held n' 33 [c3] = xs[3]? := g3
  rw [x3] at g3
  have g4 : DataW.trod enc Try.prog W base sp held n' 9 ((List.drop 4 [c0, c1, c2, c3, c4]).take (Try.prog.cellsOf 9)) = xs[4]? := hf 4 _ rfl
  have q4 : Try.prog.cellsOf 9 = 1 := by kernel_rfl
  have x4 : xs[4]? = some (xs[4]'(by rw [hxl]; decide)) := List.getElem?_eq_getElem _
  rw [q4] at g4
  replace g4 : DataW.trod enc Try.prog W base sp held n' 9 [c4] = xs[4]? := g4
  rw [x4] at g4
  obtain ⟨n0, e0, _, w0⟩ := DataW.trod_int Try.underlying3 g0
  obtain rfl : c0 = .int .i64 n0 := by simpa using e0
  obtain ⟨n1, e1, _, w1⟩ := DataW.trod_int Try.underlying32 g1
  obtain rfl : c1 = .int .u16 n1 := by simpa using e1
  obtain ⟨n2, e2, _, w2⟩ := DataW.trod_int Try.underlying32 g2
  obtain rfl : c2 = .int .u16 n2 := by simpa using e2
  obtain ⟨n3, e3, _, w3⟩ := DataW.trod_int Try.underlying33 g3
  obtain rfl : c3 = .int .u64 n3 := by simpa using e3
  obtain ⟨n4, e4, _, w4⟩ := DataW.trod_string Try.underlying9 g4
  obtain rfl : c4 = .string n4 := by simpa using e4
  exact ⟨⟨n0, n1, n2, n3, n4⟩, ⟨w0, w1, w2, w3, w4⟩, rfl, k35_mk W ⟨n0, n1, n2, n3, n4⟩⟩
set_option maxRecDepth 100000 in
theorem lifted (os : Os) (started : os.Started) (H : Type) (enc : TypeId × Value → H) :
    ReturnsInHanded {} Try.checked os 4 .any (Rows.volJoinsSpec.pre6 enc Try.prog Try.f4 Rows.volJoinsRow.domain false) (Rows.volJoinsSpec.post enc Try.prog Try.f4 false true false false) := by
  refine returnsInHanded_of_change_sized (C := Try.checked) own started (by kernel_rfl) Try.func4
    (ChangeSpec.witness6 (enc := enc) (C := Try.checked) false ⟨#[], #[.string ByteArray.empty, .string ByteArray.empty, .slice none 0 0], []⟩ 8 (by kernel_rfl) (by kernel_rfl) (by kernel_rfl) (by kernel_rfl)) ?_
  intro W base args ds gs before hval0 hW hcnd hsz0 _
  have hsz : (DataW.weightsEach Try.prog (Try.f4.params.toList ++ Rows.volJoinsSpec.plain.varTypes Try.prog) (ds ++ gs)).all (· ≤ reachBytes) = true := hsz0
  have hval : ∀ (j : Nat) t v, Try.f4.params[j]? = some t → args[j]? = some v → Value.okWide Try.prog W .any base t v := hval0
  have hW' := hW
  obtain ⟨p, q, hA0, hV, rfl, hfz, hnd⟩ := hW
  have hA : DataW.TrodAll enc Try.prog W 0 (fun _ => true) true Try.f4.params.toList args.toList ds p := hA0
  rw [Try.params4] at hA hval hsz
  obtain ⟨v0, vs0, d0, ds0, p0, q0, hargs, rfl, rfl, h0, r0⟩ := trodAll_cons hA
  obtain ⟨v1, vs1, d1, ds1, p1, q1, rfl, rfl, rfl, h1, r1⟩ := trodAll_cons r0
  obtain ⟨v2, vs2, d2, ds2, p2, q2, rfl, rfl, rfl, h2, r2⟩ := trodAll_cons r1
  obtain ⟨rfl, rfl, rfl⟩ := trodAll_nil r2
  obtain rfl : args = #[v0, v1, v2] := by cases args; simp_all
  obtain ⟨rfl, rfl⟩ := trodVars_none hV
  obtain ⟨a0, rfl, rfl, rfl, y0⟩ := open_string Try.underlying9 (hval 0 9 v0 rfl rfl) h0
  have w0 : a0.size ≤ 140737488351232 := by
    have z := sized_string hsz (j := 0) (t := 9) rfl rfl
    rw [Array.length_toList] at z
    exact z
  obtain ⟨a1, rfl, rfl, rfl, y1⟩ := open_string Try.underlying9 (hval 1 9 v1 rfl rfl) h1
  have w1 : a1.size ≤ 140737488351232 := by
    have z := sized_string hsz (j := 1) (t := 9) rfl rfl
    rw [Array.length_toList] at z
    exact z
  obtain ⟨a2, len2, cap2, rfl⟩ := okWide_slice Try.underlying28 (hval 2 28 v2 rfl rfl)
  have k2 := h2
  have lt2 : ∀ x ∈ p2, x.block < W.heap.size := by obtain ⟨m, hm⟩ := k2; exact DataW.trod_lt m _ _ _ hm
  obtain ⟨fuel2, hf2⟩ := h2
  obtain ⟨A2, n2, c2, z2, hcs2, w2⟩ := Go.Proofs.Ytpcokafalmafgaa.H.rows_of k35 Try.underlying28 (by kernel_rfl) _ (fun cs n y h => elem35 cs n y h) hf2
  simp [Value.cells] at hcs2
  obtain ⟨rfl, rfl, rfl⟩ := hcs2
  clear hA0 hval0 hsz0 hsz
  refine (Q.nautiluslaw17_VolJoins.walk Pure.VolJoins a0 a1 a2 len2 cap2 z2 W w0 w1 w2).mono fun e W' ⟨he, bel⟩ => ?_
  subst he
  exact ⟨_, rfl, _, _, _, [], _, [], hW', trodAll_mk1 (shut_bool Try.underlying4 _), (trodAll_cons_mk (shut_string Try.underlying9 y0) (trodAll_cons_mk (shut_string Try.underlying9 y1) (trodAll_cons_mk (Below.trod laidOut (by kernel_rfl) (of_decide_eq_true (by kernel_rfl)) k2 bel lt2) trodAll_mk0))), rfl, bel.frame _, fun h => by cases h⟩
theorem over : Rows.volJoinsRow.holds Try.pinned (OpenSpec.ofChange Rows.volJoinsSpec) :=
  OpenClaim.holds_of_wide 4 Try.f4 rfl rfl rfl rfl rfl rfl rfl ⟨rfl, rfl, rfl, rfl, rfl⟩ rfl rfl rfl rfl rfl (by kernel_rfl) Try.func4 (by kernel_rfl)
    (of_decide_eq_true (by kernel_rfl)) (by unfold Func.isWrapper; first | (rw [if_pos (by decide +kernel)]; kernel_rfl) | (rw [if_neg (by decide +kernel)]; exact ⟨rfl, rfl⟩))
    (fun os started H enc _ => lifted os started H enc)
theorem proved : Rows.VolJoinsSaid := over
#print axioms proved
end Go.Proofs.Ytpcokafalmafgaa.volJoins
namespace Go.Proofs.Ytpcokafalmafgaa
/-- The row, under a short name, for the claim. -/
theorem volJoins_holds : Rows.VolJoinsSaid := volJoins.proved
end Go.Proofs.Ytpcokafalmafgaa
