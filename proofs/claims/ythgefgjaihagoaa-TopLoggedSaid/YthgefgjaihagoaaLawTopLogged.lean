/- The law nautilustop_TopLogged, out of its walk. -/
import Derived.Test.YthgefgjaihagoaaHOpen
import Derived.Lib.SmallJoins
import Derived.Test.YthgefgjaihagoaaRows
import Derived.Test.YthgefgjaihagoaaHTopL
import Derived.WalkKit
import Derived.ProofKit
import Derived.OpenShut
import Derived.ShutString
import Derived.ChangeOld
import Derived.Below
import Derived.SizedLaws
namespace Go.Proofs.Ythgefgjaihagoaa.topLogged
open Go.ChangeShapes Go.WideShapes Go.ChangeAt Go.RowKit
open Go.ChangeMaps (open_string shut_string)
open Go.Joins Go.Deep
open Go.Proofs.Ythgefgjaihagoaa Go.Proofs.Ythgefgjaihagoaa.H Go.Proofs.Ythgefgjaihagoaa.Q Go.Proofs.YthgefgjaihagoaaW.PrintWords
set_option linter.unusedVariables false
theorem own : ownKnob Try.prog.godebug = none := by kernel_rfl
theorem laidOut : laidOutB Try.prog = true := by kernel_rfl
theorem list_len_4 : ∀ (cs : List Value), cs.length = 4 → ∃ c0 c1 c2 c3, cs = [c0, c1, c2, c3]
  | [c0, c1, c2, c3], _ => ⟨c0, c1, c2, c3, rfl⟩
theorem list_len_5 : ∀ (cs : List Value), cs.length = 5 → ∃ c0 c1 c2 c3 c4, cs = [c0, c1, c2, c3, c4]
  | [c0, c1, c2, c3, c4], _ => ⟨c0, c1, c2, c3, c4, rfl⟩
theorem elem43 {H : Type} {enc : TypeId × Value → H} {W : World} {base : Nat} {sp : Nat → Bool} {held : Bool} (cs : List Value) (n : Nat) (y : DataW H × List MemPlace) (h : DataW.trod enc Try.prog W base sp held n 43 cs = some y) : ∃ x : SEn, cs = [.int .i64 x.f0, .int .u32 x.f1, .int .u32 x.f2, .int .u32 x.f3] := by
  obtain ⟨xs, n', rfl, hy, hlen, hxl, hf⟩ := DataW.trod_struct Try.underlying43 h
  have hC : Try.prog.cellsOf 43 = 4 := by kernel_rfl
  rw [hC] at hlen
  obtain ⟨c0, c1, c2, c3, rfl⟩ := list_len_4 cs hlen
  have g0 : DataW.trod enc Try.prog W base sp held n' 3 ((List.drop 0 [c0, c1, c2, c3]).take (Try.prog.cellsOf 3)) = xs[0]? := hf 0 _ rfl
  have q0 : Try.prog.cellsOf 3 = 1 := by kernel_rfl
  have x0 : xs[0]? = some (xs[0]'(by rw [hxl]; decide)) := List.getElem?_eq_getElem _
  rw [q0] at g0
  replace g0 : DataW.trod enc Try.prog W base sp held n' 3 [c0] = xs[0]? := g0
  rw [x0] at g0
  have g1 : DataW.trod enc Try.prog W base sp held n' 41 ((List.drop 1 [c0, c1, c2, c3]).take (Try.prog.cellsOf 41)) = xs[1]? := hf 1 _ rfl
  have q1 : Try.prog.cellsOf 41 = 1 := by kernel_rfl
  have x1 : xs[1]? = some (xs[1]'(by rw [hxl]; decide)) := List.getElem?_eq_getElem _
  rw [q1] at g1
  replace g1 : DataW.trod enc Try.prog W base sp held n' 41 [c1] = xs[1]? := g1
  rw [x1] at g1
  have g2 : DataW.trod enc Try.prog W base sp held n' 41 ((List.drop 2 [c0, c1, c2, c3]).take (Try.prog.cellsOf 41)) = xs[2]? := hf 2 _ rfl
  have q2 : Try.prog.cellsOf 41 = 1 := by kernel_rfl
  have x2 : xs[2]? = some (xs[2]'(by rw [hxl]; decide)) := List.getElem?_eq_getElem _
  rw [q2] at g2
  replace g2 : DataW.trod enc Try.prog W base sp held n' 41 [c2] = xs[2]? := g2
  rw [x2] at g2
  have g3 : DataW.trod enc Try.prog W base sp held n' 41 ((List.drop 3 [c0, c1, c2, c3]).take (Try.prog.cellsOf 41)) = xs[3]? := hf 3 _ rfl
  have q3 : Try.prog.cellsOf 41 = 1 := by kernel_rfl
  have x3 : xs[3]? = some (xs[3]'(by rw [hxl]; decide)) := List.getElem?_eq_getElem _
  rw [q3] at g3
  replace g3 : DataW.trod enc Try.prog W base sp held n' 41 [c3] = xs[3]? := g3
  rw [x3] at g3
  obtain ⟨n0, e0, _, w0⟩ := DataW.trod_int Try.underlying3 g0
  obtain rfl : c0 = .int .i64 n0 := by simpa using e0
  obtain ⟨n1, e1, _, w1⟩ := DataW.trod_int Try.underlying41 g1
  obtain rfl : c1 = .int .u32 n1 := by simpa using e1
  obtain ⟨n2, e2, _, w2⟩ := DataW.trod_int Try.underlying41 g2
  obtain rfl : c2 = .int .u32 n2 := by simpa using e2
  obtain ⟨n3, e3, _, w3⟩ := DataW.trod_int Try.underlying41 g3
  obtain rfl : c3 = .int .u32 n3 := by simpa using e3
  exact ⟨⟨n0, n1, n2, n3⟩, rfl⟩
theorem elemIt {H : Type} {enc : TypeId × Value → H} {W : World} {base : Nat} {sp : Nat → Bool} {held : Bool} (cs : List Value) (n : Nat) (y : DataW H × List MemPlace) (h : DataW.trod enc Try.prog W base sp held n 45 cs = some y) : ∃ x : It, True ∧ cs.length = 5 ∧ kIt.K W x cs := by
  obtain ⟨xs, n', rfl, hy, hlen, hxl, hf⟩ := DataW.trod_struct Try.underlying45 h
  have hC : Try.prog.cellsOf 45 = 5 := by kernel_rfl
  rw [hC] at hlen
  obtain ⟨c0, c1, c2, c3, c4, rfl⟩ := list_len_5 cs hlen
  have g0 : DataW.trod enc Try.prog W base sp held n' 43 ((List.drop 0 [c0, c1, c2, c3, c4]).take (Try.prog.cellsOf 43)) = xs[0]? := hf 0 _ rfl
  have q0 : Try.prog.cellsOf 43 = 4 := by kernel_rfl
  have x0 : xs[0]? = some (xs[0]'(by rw [hxl]; decide)) := List.getElem?_eq_getElem _
  rw [q0] at g0
  replace g0 : DataW.trod enc Try.prog W base sp held n' 43 [c0, c1, c2, c3] = xs[0]? := g0
  rw [x0] at g0
  have g1 : DataW.trod enc Try.prog W base sp held n' 9 ((List.drop 4 [c0, c1, c2, c3, c4]).take (Try.prog.cellsOf 9)) = xs[1]? := hf 1 _ rfl
  have q1 : Try.prog.cellsOf 9 = 1 := by kernel_rfl
  have x1 : xs[1]? = some (xs[1]'(by rw [hxl]; decide)) := List.getElem?_eq_getElem _
  rw [q1] at g1
  replace g1 : DataW.trod enc Try.prog W base sp held n' 9 [c4] = xs[1]? := g1
  rw [x1] at g1
  obtain ⟨e, he⟩ := elem43 _ _ _ g0
  obtain ⟨n3, e3, _, w3⟩ := DataW.trod_string Try.underlying9 g1
  obtain rfl : c4 = .string n3 := by simpa using e3
  injection he with h0 he; injection he with h1 he; injection he with h2 he; injection he with h3 he
  subst h0; subst h1; subst h2; subst h3
  exact ⟨(e, n3), trivial, rfl, [.int .i64 e.f0, .int .u32 e.f1, .int .u32 e.f2, .int .u32 e.f3], [.string n3], rfl, k43_mk W e, rfl⟩
theorem elemRow {H : Type} {enc : TypeId × Value → H} {W : World} {base : Nat} {sp : Nat → Bool} {held : Bool} (cs : List Value) (n : Nat) (y : DataW H × List MemPlace) (h : DataW.trod enc Try.prog W base sp held n 38 cs = some y) : ∃ x : List It, True ∧ cs.length = 1 ∧ kRow.K W x cs := by
  obtain ⟨A, len, cap, l, rfl, hl, hc, hm, hC, hw⟩ := Go.Proofs.Ythgefgjaihagoaa.H.rows_of kIt Try.underlying38 (by kernel_rfl) (fun _ => True) (fun cs n y h => elemIt cs n y h) h
  subst hl
  exact ⟨l, trivial, rfl, A, cap, rfl, hc, hC⟩
set_option maxRecDepth 100000 in
theorem lifted (os : Os) (started : os.Started) (H : Type) (enc : TypeId × Value → H) :
    ReturnsInHanded {} Try.checked os 3 .any (Rows.topLoggedSpec.pre6 enc Try.prog Try.f3 Rows.topLoggedRow.domain false) (Rows.topLoggedSpec.post enc Try.prog Try.f3 false true false false) := by
  refine returnsInHanded_of_change_sized (C := Try.checked) own started (by kernel_rfl) Try.func3
    (ChangeSpec.witness6 (enc := enc) (C := Try.checked) false ⟨#[], #[.slice none 0 0, .agg #[.int .u64 0, .int .i64 0]], []⟩ 8 (by kernel_rfl) (by kernel_rfl) (by kernel_rfl) (by kernel_rfl)) ?_
  intro W base args ds gs before hval0 hW hcnd hsz0 _
  have hval : ∀ (j : Nat) t v, Try.f3.params[j]? = some t → args[j]? = some v → Value.okWide Try.prog W .any base t v := hval0
  have hW' := hW
  obtain ⟨p, q, hA0, hV, rfl, hfz, hnd⟩ := hW
  have hA : DataW.TrodAll enc Try.prog W 0 (fun _ => true) true Try.f3.params.toList args.toList ds p := hA0
  rw [Try.params3] at hA hval
  obtain ⟨v0, vs0, d0, ds0, p0, q0, hargs, rfl, rfl, h0, r0⟩ := trodAll_cons hA
  obtain ⟨v1, vs1, d1, ds1, p1, q1, rfl, rfl, rfl, h1, r1⟩ := trodAll_cons r0
  obtain ⟨rfl, rfl, rfl⟩ := trodAll_nil r1
  obtain rfl : args = #[v0, v1] := by cases args; simp_all
  obtain ⟨rfl, rfl⟩ := trodVars_none hV
  obtain ⟨a0, len0, cap0, rfl⟩ := okWide_slice Try.underlying22 (hval 0 22 v0 rfl rfl)
  have k0 := h0
  have lt0 : ∀ x ∈ p0, x.block < W.heap.size := by obtain ⟨m, hm⟩ := k0; exact DataW.trod_lt m _ _ _ hm
  obtain ⟨fuel0, hf0⟩ := h0
  obtain ⟨A0, n0, c0, z0, hcs0, w0⟩ := Go.Proofs.Ythgefgjaihagoaa.H.rows_of kRow Try.underlying22 (by kernel_rfl) (fun _ => True) (fun cs n y h => elemRow cs n y h) hf0
  simp [Value.cells] at hcs0
  obtain ⟨rfl, rfl, rfl⟩ := hcs0
  obtain ⟨hl0, hc0, hm0, hC0, hw0⟩ := w0
  subst hl0
  have k1 := h1
  have lt1 : ∀ x ∈ p1, x.block < W.heap.size := by obtain ⟨m, hm⟩ := k1; exact DataW.trod_lt m _ _ _ hm
  obtain ⟨u1_0, u1_1, y1_0, y1_1, nn1, rfl, _, _, t1_0, t1_1⟩ := open_agg2 Try.underlying25 (by kernel_rfl) (by kernel_rfl) (hval 1 25 v1 rfl rfl) h1
  obtain ⟨a1_0, e1_0, _, w1_0⟩ := DataW.trod_int Try.underlying23 t1_0
  obtain rfl : u1_0 = .int .u64 a1_0 := by simpa using e1_0
  obtain ⟨a1_1, e1_1, _, w1_1⟩ := DataW.trod_int Try.underlying3 t1_1
  obtain rfl : u1_1 = .int .i64 a1_1 := by simpa using e1_1
  clear hA0 hval0 hsz0
  refine (logged.calls a0 cap0 z0 a1_0 a1_1 W hC0 hc0).mono fun e W' ⟨he, bel⟩ => ?_
  subst he
  exact ⟨_, rfl, _, _, _, [], _, [], hW', trodAll_mk1 (shut_bool Try.underlying4 _), (trodAll_cons_mk (Below.trod laidOut (by kernel_rfl) (of_decide_eq_true (by kernel_rfl)) k0 bel lt0) (trodAll_cons_mk (Below.trod laidOut (by kernel_rfl) (of_decide_eq_true (by kernel_rfl)) k1 bel lt1) trodAll_mk0)), rfl, bel.frame _, fun h => by cases h⟩
theorem over : Rows.topLoggedRow.holds Try.pinned (OpenSpec.ofChange Rows.topLoggedSpec) :=
  OpenClaim.holds_of_wide 3 Try.f3 rfl rfl rfl rfl rfl rfl rfl ⟨rfl, rfl, rfl, rfl, rfl⟩ rfl rfl rfl rfl rfl (by kernel_rfl) Try.func3 (by kernel_rfl)
    (of_decide_eq_true (by kernel_rfl)) (by unfold Func.isWrapper; first | (rw [if_pos (by decide +kernel)]; kernel_rfl) | (rw [if_neg (by decide +kernel)]; exact ⟨rfl, rfl⟩))
    (fun os started H enc _ => lifted os started H enc)
theorem proved : Rows.TopLoggedSaid := over
#print axioms proved
end Go.Proofs.Ythgefgjaihagoaa.topLogged
namespace Go.Proofs.Ythgefgjaihagoaa
/-- The row, under a short name, for the claim. -/
theorem topLogged_holds : Rows.TopLoggedSaid := topLogged.proved
end Go.Proofs.Ythgefgjaihagoaa
