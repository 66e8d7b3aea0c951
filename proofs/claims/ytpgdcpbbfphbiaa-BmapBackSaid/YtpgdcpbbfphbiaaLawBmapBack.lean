/- The law nautiluslaw13_BmapBack, out of its pure statement and its walk. -/
import Derived.Test.YtpgdcpbbfphbiaaHOpen
import Derived.Lib.SmallJoins
import Derived.Test.YtpgdcpbbfphbiaaRows
import Derived.Test.YtpgdcpbbfphbiaaQ22
import Derived.Test.YtpgdcpbbfphbiaaPureBmapBack
import Derived.WalkKit
import Derived.ProofKit
import Derived.OpenShut
import Derived.ShutString
import Derived.ChangeOld
import Derived.Below
import Derived.SizedLaws
import Derived.Test.YtpgdcpbbfphbiaaWSized
namespace Go.Proofs.Ytpgdcpbbfphbiaa.bmapBack
open Go.ChangeShapes Go.WideShapes Go.ChangeAt Go.RowKit Go.Proofs.YtpgdcpbbfphbiaaW.PrintWords
open Go.ChangeMaps (open_string shut_string)
open Go.Joins Go.Deep
open Go.Proofs.Ytpgdcpbbfphbiaa Go.Proofs.Ytpgdcpbbfphbiaa.Q Go.Proofs.YtpgdcpbbfphbiaaW.PrintWords
set_option linter.unusedVariables false
theorem own : ownKnob Try.prog.godebug = none := by kernel_rfl
theorem laidOut : laidOutB Try.prog = true := by kernel_rfl
def IsRow (k : IntKind) (w : World) (a : Option Addr) (len cap : Nat) (zs : List Int) : Prop :=
  (a = none ∧ len = 0 ∧ cap = 0 ∧ zs = []) ∨
  ∃ x, a = some x ∧ len ≤ cap ∧ cap ≤ maxLen ∧ zs.length = cap ∧ (∀ i, i < zs.length → w.cell? (x.add i) = some (.int k (zs.getD i 0))) ∧ ∀ n ∈ zs, (Lit.int k n).wf = true
theorem list_len32_6 : ∀ (cs : List Value), cs.length = 6 → ∃ c0 c1 c2 c3 c4 c5, cs = [c0, c1, c2, c3, c4, c5]
  | [c0, c1, c2, c3, c4, c5], _ => ⟨c0, c1, c2, c3, c4, c5, rfl⟩
set_option maxRecDepth 100000 in
theorem flat32 {H : Type} {enc : TypeId × Value → H} {W : World} {base : Nat} {sp : Nat → Bool} {held : Bool} (cs : List Value) (n : Nat) (y : DataW H × List MemPlace) (h : DataW.trod enc Try.prog W base sp held n 32 cs = some y) : ∃ (b0 : Int) (b1 : Int) (b2 : Int) (b3 : Int) (b4 : Int) (b5 : Int), cs = [.int .u32 b0, .int .u32 b1, .int .u32 b2, .int .u32 b3, .int .u32 b4, .int .u32 b5] ∧ (Lit.int .u32 b0).wf = true ∧ (Lit.int .u32 b1).wf = true ∧ (Lit.int .u32 b2).wf = true ∧ (Lit.int .u32 b3).wf = true ∧ (Lit.int .u32 b4).wf = true ∧ (Lit.int .u32 b5).wf = true := by
  obtain ⟨xs, n', rfl, hy, hlen, hxl, hf⟩ := DataW.trod_array Try.underlying32 h
  have hC : Try.prog.cellsOf 32 = 6 := by kernel_rfl
  rw [hC] at hlen
  obtain ⟨c0, c1, c2, c3, c4, c5, rfl⟩ := list_len32_6 cs hlen
  have q0 : Try.prog.cellsOf 22 = 1 := by kernel_rfl
  have g0 : DataW.trod enc Try.prog W base sp held n' 22 ((List.drop (0 * Try.prog.cellsOf 22) [c0, c1, c2, c3, c4, c5]).take (Try.prog.cellsOf 22)) = xs[0]? := hf 0 (by decide)
  have x0 : xs[0]? = some (xs[0]'(by rw [hxl]; decide)) := List.getElem?_eq_getElem _
  rw [q0] at g0
  replace g0 : DataW.trod enc Try.prog W base sp held n' 22 [c0] = xs[0]? := g0
  rw [x0] at g0
  have q1 : Try.prog.cellsOf 22 = 1 := by kernel_rfl
  have g1 : DataW.trod enc Try.prog W base sp held n' 22 ((List.drop (1 * Try.prog.cellsOf 22) [c0, c1, c2, c3, c4, c5]).take (Try.prog.cellsOf 22)) = xs[1]? := hf 1 (by decide)
  have x1 : xs[1]? = some (xs[1]'(by rw [hxl]; decide)) := List.getElem?_eq_getElem _
  rw [q1] at g1
  replace g1 : DataW.trod enc Try.prog W base sp held n' 22 [c1] = xs[1]? := g1
  rw [x1] at g1
  have q2 : Try.prog.cellsOf 22 = 1 := by kernel_rfl
  have g2 : DataW.trod enc Try.prog W base sp held n' 22 ((List.drop (2 * Try.prog.cellsOf 22) [c0, c1, c2, c3, c4, c5]).take (Try.prog.cellsOf 22)) = xs[2]? := hf 2 (by decide)
  have x2 : xs[2]? = some (xs[2]'(by rw [hxl]; decide)) := List.getElem?_eq_getElem _
  rw [q2] at g2
  replace g2 : DataW.trod enc Try.prog W base sp held n' 22 [c2] = xs[2]? := g2
  rw [x2] at g2
  have q3 : Try.prog.cellsOf 22 = 1 := by kernel_rfl
  have g3 : DataW.trod enc Try.prog W base sp held n' 22 ((List.drop (3 * Try.prog.cellsOf 22) [c0, c1, c2, c3, c4, c5]).take (Try.prog.cellsOf 22)) = xs[3]? := hf 3 (by decide)
  have x3 : xs[3]? = some (xs[3]'(by rw [hxl]; decide)) := List.getElem?_eq_getElem _
  rw [q3] at g3
  replace g3 : DataW.trod enc Try.prog W base sp held n' 22 [c3] = xs[3]? := g3
  rw [x3] at g3
  have q4 : Try.prog.cellsOf 22 = 1 := by kernel_rfl
  have g4 : DataW.trod enc Try.prog W base sp held n' 22 ((List.drop (4 * Try.prog.cellsOf 22) [c0, c1, c2, c3, c4, c5]).take (Try.prog.cellsOf 22)) = xs[4]? := hf 4 (by decide)
  have x4 : xs[4]? = some (xs[4]'(by rw [hxl]; decide)) := List.getElem?_eq_getElem _
  rw [q4] at g4
  replace g4 : DataW.trod enc Try.prog W base sp held n' 22 [c4] = xs[4]? := g4
  rw [x4] at g4
  have q5 : Try.prog.cellsOf 22 = 1 := by kernel_rfl
  have g5 : DataW.trod enc Try.prog W base sp held n' 22 ((List.drop (5 * Try.prog.cellsOf 22) [c0, c1, c2, c3, c4, c5]).take (Try.prog.cellsOf 22)) = xs[5]? := hf 5 (by decide)
  have x5 : xs[5]? = some (xs[5]'(by rw [hxl]; decide)) := List.getElem?_eq_getElem _
  rw [q5] at g5
  replace g5 : DataW.trod enc Try.prog W base sp held n' 22 [c5] = xs[5]? := g5
  rw [x5] at g5
  obtain ⟨n0, e0, _, w0⟩ := DataW.trod_int Try.underlying22 g0
  obtain rfl : c0 = .int .u32 n0 := by simpa using e0
  obtain ⟨n1, e1, _, w1⟩ := DataW.trod_int Try.underlying22 g1
  obtain rfl : c1 = .int .u32 n1 := by simpa using e1
  obtain ⟨n2, e2, _, w2⟩ := DataW.trod_int Try.underlying22 g2
  obtain rfl : c2 = .int .u32 n2 := by simpa using e2
  obtain ⟨n3, e3, _, w3⟩ := DataW.trod_int Try.underlying22 g3
  obtain rfl : c3 = .int .u32 n3 := by simpa using e3
  obtain ⟨n4, e4, _, w4⟩ := DataW.trod_int Try.underlying22 g4
  obtain rfl : c4 = .int .u32 n4 := by simpa using e4
  obtain ⟨n5, e5, _, w5⟩ := DataW.trod_int Try.underlying22 g5
  obtain rfl : c5 = .int .u32 n5 := by simpa using e5
  exact ⟨n0, n1, n2, n3, n4, n5, rfl, w0, w1, w2, w3, w4, w5⟩
set_option maxRecDepth 100000 in
theorem agg32 {H : Type} {enc : TypeId × Value → H} {W : World} {base : Nat} {sp : Nat → Bool} {held : Bool} {r : Reach} {b0_ : Nat} {v : Value} {d : DataW H} {p : List MemPlace} (hv : Value.okWide Try.prog W r b0_ 32 v) (h : DataW.Trod enc Try.prog W base sp held 32 v d p) : ∃ (b0 : Int) (b1 : Int) (b2 : Int) (b3 : Int) (b4 : Int) (b5 : Int), v = .agg #[.int .u32 b0, .int .u32 b1, .int .u32 b2, .int .u32 b3, .int .u32 b4, .int .u32 b5] ∧ (Lit.int .u32 b0).wf = true ∧ (Lit.int .u32 b1).wf = true ∧ (Lit.int .u32 b2).wf = true ∧ (Lit.int .u32 b3).wf = true ∧ (Lit.int .u32 b4).wf = true ∧ (Lit.int .u32 b5).wf = true := by
  obtain ⟨cs, rfl, _⟩ := Go.Proofs.Ytpgdcpbbfphbiaa.H.okWide_array Try.underlying32 hv
  obtain ⟨fuel, hf⟩ := h
  obtain ⟨b0, b1, b2, b3, b4, b5, e, h_⟩ := flat32 _ _ _ hf
  refine ⟨b0, b1, b2, b3, b4, b5, ?_, h_⟩
  have e' : cs.toList = _ := e
  rw [← Array.toArray_toList (xs := cs), e']
theorem elem_string {H : Type} {enc : TypeId × Value → H} {W : World} {base : Nat} {sp : Nat → Bool} {held : Bool} (cs : List Value) (n : Nat) (y : DataW H × List MemPlace) (h : DataW.trod enc Try.prog W base sp held n 9 cs = some y) : ∃ p : ByteArray, p.size ≤ maxLen ∧ cs.length = 1 ∧ Kd.string.K W p cs := by
  obtain ⟨s, rfl, _, hs⟩ := DataW.trod_string Try.underlying9 h
  exact ⟨s, hs, rfl, rfl⟩
set_option maxRecDepth 100000 in
theorem lifted (os : Os) (started : os.Started) (H : Type) (enc : TypeId × Value → H) :
    ReturnsInHanded {} Try.checked os 5 .any (Rows.bmapBackSpec.pre6 enc Try.prog Try.f5 Rows.bmapBackRow.domain false) (Rows.bmapBackSpec.post enc Try.prog Try.f5 false true false false) := by
  refine returnsInHanded_of_change_sized (C := Try.checked) own started (by kernel_rfl) Try.func5
    (ChangeSpec.witness6 (enc := enc) (C := Try.checked) false ⟨#[], #[.int .u32 0, .slice none 0 0, .slice none 0 0, .agg #[.int .u32 0, .int .u32 0, .int .u32 0, .int .u32 0, .int .u32 0, .int .u32 0], .slice none 0 0], []⟩ 8 (by kernel_rfl) (by kernel_rfl) (by kernel_rfl) (by kernel_rfl)) ?_
  intro W base args ds gs before hval0 hW hcnd hsz0 _
  have hsz : (DataW.weightsEach Try.prog (Try.f5.params.toList ++ Rows.bmapBackSpec.plain.varTypes Try.prog) (ds ++ gs)).all (· ≤ reachBytes) = true := hsz0
  have hval : ∀ (j : Nat) t v, Try.f5.params[j]? = some t → args[j]? = some v → Value.okWide Try.prog W .any base t v := hval0
  have hW' := hW
  obtain ⟨p, q, hA0, hV, rfl, hfz, hnd⟩ := hW
  have hA : DataW.TrodAll enc Try.prog W 0 (fun _ => true) true Try.f5.params.toList args.toList ds p := hA0
  rw [Try.params5] at hA hval hsz
  obtain ⟨v0, vs0, d0, ds0, p0, q0, hargs, rfl, rfl, h0, r0⟩ := trodAll_cons hA
  obtain ⟨v1, vs1, d1, ds1, p1, q1, rfl, rfl, rfl, h1, r1⟩ := trodAll_cons r0
  obtain ⟨v2, vs2, d2, ds2, p2, q2, rfl, rfl, rfl, h2, r2⟩ := trodAll_cons r1
  obtain ⟨v3, vs3, d3, ds3, p3, q3, rfl, rfl, rfl, h3, r3⟩ := trodAll_cons r2
  obtain ⟨v4, vs4, d4, ds4, p4, q4, rfl, rfl, rfl, h4, r4⟩ := trodAll_cons r3
  obtain ⟨rfl, rfl, rfl⟩ := trodAll_nil r4
  obtain rfl : args = #[v0, v1, v2, v3, v4] := by cases args; simp_all
  obtain ⟨rfl, rfl⟩ := trodVars_none hV
  obtain ⟨a0, rfl, rfl, rfl, w0⟩ := open_int Try.underlying22 (hval 0 22 v0 rfl rfl) h0
  obtain ⟨a1, len1, cap1, rfl⟩ := okWide_slice Try.underlying31 (hval 1 31 v1 rfl rfl)
  have k1 := h1
  have lt1 : ∀ x ∈ p1, x.block < W.heap.size := by obtain ⟨m, hm⟩ := k1; exact DataW.trod_lt m _ _ _ hm
  obtain ⟨z1, w1⟩ : ∃ zs, IsRow .u32 W a1 len1 cap1 zs := by
    obtain ⟨fuel, hf⟩ := h1
    rcases open_ints Try.underlying31 Try.underlying22 (by kernel_rfl) hf with ⟨hcs, _⟩ | ⟨x, l, c, zs, hcs, _, hl, hm, hz, _, hcell, hwz⟩
    · simp [Value.cells] at hcs
      obtain ⟨rfl, rfl, rfl⟩ := hcs
      exact ⟨[], .inl ⟨rfl, rfl, rfl, rfl⟩⟩
    · simp [Value.cells] at hcs
      obtain ⟨rfl, rfl, rfl⟩ := hcs
      exact ⟨zs, .inr ⟨_, rfl, hl, hm, by simpa using hz, hcell, hwz⟩⟩
  have y1 : len1 * 4 ≤ 140737488351232 := sized_ints hsz (j := 1) (t := 31) rfl rfl Try.underlying31 Try.underlying22 (by kernel_rfl) (by kernel_rfl) h1
  obtain ⟨a2, len2, cap2, rfl⟩ := okWide_slice Try.underlying31 (hval 2 31 v2 rfl rfl)
  have k2 := h2
  have lt2 : ∀ x ∈ p2, x.block < W.heap.size := by obtain ⟨m, hm⟩ := k2; exact DataW.trod_lt m _ _ _ hm
  obtain ⟨z2, w2⟩ : ∃ zs, IsRow .u32 W a2 len2 cap2 zs := by
    obtain ⟨fuel, hf⟩ := h2
    rcases open_ints Try.underlying31 Try.underlying22 (by kernel_rfl) hf with ⟨hcs, _⟩ | ⟨x, l, c, zs, hcs, _, hl, hm, hz, _, hcell, hwz⟩
    · simp [Value.cells] at hcs
      obtain ⟨rfl, rfl, rfl⟩ := hcs
      exact ⟨[], .inl ⟨rfl, rfl, rfl, rfl⟩⟩
    · simp [Value.cells] at hcs
      obtain ⟨rfl, rfl, rfl⟩ := hcs
      exact ⟨zs, .inr ⟨_, rfl, hl, hm, by simpa using hz, hcell, hwz⟩⟩
  have y2 : len2 * 4 ≤ 140737488351232 := sized_ints hsz (j := 2) (t := 31) rfl rfl Try.underlying31 Try.underlying22 (by kernel_rfl) (by kernel_rfl) h2
  have k3 := h3
  have lt3 : ∀ x ∈ p3, x.block < W.heap.size := by obtain ⟨m, hm⟩ := k3; exact DataW.trod_lt m _ _ _ hm
  obtain ⟨a3_0, a3_1, a3_2, a3_3, a3_4, a3_5, rfl, w3_0, w3_1, w3_2, w3_3, w3_4, w3_5⟩ := agg32 (hval 3 32 v3 rfl rfl) h3
  obtain ⟨a4, len4, cap4, rfl⟩ := okWide_slice Try.underlying33 (hval 4 33 v4 rfl rfl)
  have k4 := h4
  have lt4 : ∀ x ∈ p4, x.block < W.heap.size := by obtain ⟨m, hm⟩ := k4; exact DataW.trod_lt m _ _ _ hm
  obtain ⟨fuel4, hf4⟩ := h4
  obtain ⟨A4, n4, c4, z4, hcs4, w4⟩ := Go.Proofs.Ytpgdcpbbfphbiaa.H.rows_of Kd.string Try.underlying33 (by kernel_rfl) _ (fun cs n y h => elem_string cs n y h) hf4
  simp [Value.cells] at hcs4
  obtain ⟨rfl, rfl, rfl⟩ := hcs4
  clear hA0 hval0 hsz0 hsz
  refine (Q.nautiluslaw13_BmapBack.walk Pure.BmapBack a0 a1 len1 cap1 z1 a2 len2 cap2 z2 a3_0 a3_1 a3_2 a3_3 a3_4 a3_5 a4 len4 cap4 z4 W w0 w1 y1 w2 y2 w3_0 w3_1 w3_2 w3_3 w3_4 w3_5 w4).mono fun e W' ⟨he, bel⟩ => ?_
  subst he
  exact ⟨_, rfl, _, _, _, [], _, [], hW', trodAll_mk1 (shut_bool Try.underlying4 _), (trodAll_cons_mk (shut_int Try.underlying22 w0) (trodAll_cons_mk (Below.trod laidOut (by kernel_rfl) (of_decide_eq_true (by kernel_rfl)) k1 bel lt1) (trodAll_cons_mk (Below.trod laidOut (by kernel_rfl) (of_decide_eq_true (by kernel_rfl)) k2 bel lt2) (trodAll_cons_mk (Below.trod laidOut (by kernel_rfl) (of_decide_eq_true (by kernel_rfl)) k3 bel lt3) (trodAll_cons_mk (Below.trod laidOut (by kernel_rfl) (of_decide_eq_true (by kernel_rfl)) k4 bel lt4) trodAll_mk0))))), rfl, bel.frame _, fun h => by cases h⟩
theorem over : Rows.bmapBackRow.holds Try.pinned (OpenSpec.ofChange Rows.bmapBackSpec) :=
  OpenClaim.holds_of_wide 5 Try.f5 rfl rfl rfl rfl rfl rfl rfl ⟨rfl, rfl, rfl, rfl, rfl⟩ rfl rfl rfl rfl rfl (by kernel_rfl) Try.func5 (by kernel_rfl)
    (of_decide_eq_true (by kernel_rfl)) (by unfold Func.isWrapper; first | (rw [if_pos (by decide +kernel)]; kernel_rfl) | (rw [if_neg (by decide +kernel)]; exact ⟨rfl, rfl⟩))
    (fun os started H enc _ => lifted os started H enc)
theorem proved : Rows.BmapBackSaid := over
#print axioms proved
end Go.Proofs.Ytpgdcpbbfphbiaa.bmapBack
namespace Go.Proofs.Ytpgdcpbbfphbiaa
/-- The row, under a short name, for the claim. -/
theorem bmapBack_holds : Rows.BmapBackSaid := bmapBack.proved
end Go.Proofs.Ytpgdcpbbfphbiaa
