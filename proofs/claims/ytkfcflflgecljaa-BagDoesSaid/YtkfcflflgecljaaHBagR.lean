/- What operations on rows leave: words of no element type. -/
import Derived.Test.YtkfcflflgecljaaHBagW
import Derived.Test.YtkfcflflgecljaaHAnyL
import Derived.Test.YtkfcflflgecljaaHMake
import Derived.Test.YtkfcflflgecljaaProg
import Derived.Test.YtkfcflflgecljaaWLast
import Derived.Lib.Overlaps
import Derived.Shelf.Spec.SlicesInsert
import Derived.Lib.AppendZerosOnto
import Derived.Lib.SliceRun
import Derived.Deep.DeepCutAuto
import Derived.Laws.CopyOwn
set_option linter.unusedVariables false
set_option linter.unusedSimpArgs false
namespace Go.Proofs.Ytkfcflflgecljaa.H
open Go.RowKit Go.Proofs.YtkfcflflgecljaaW.PrintWords Go.Proofs.YtkfcflflgecljaaW.PrintLast
def RetRow (w : World) (E : TypeId) (v : Value) (ys : List Value) (e : Ending) (w' : World) : Prop := ∃ A n c, e = .returned (.slice A n c) ∧ RowOp w w' E v (.slice A n c) ys
/-- A row of its own. -/
def RetNew (w : World) (E : TypeId) (n : Nat) (xs : List Value) (e : Ending) (w' : World) : Prop := ∃ A k, e = .returned (.slice A n k) ∧ w'.ownsRow w.heap.size E 1 (.slice A n k) n xs ∧ Below w.heap.size w w'
theorem retRow {w w' : World} {E : TypeId} {v v' : Value} {ys : List Value} {n : Nat} (hn : ys.length = n) (ho : w'.ownsRow 0 E 1 v' n ys) (hg : w.grownBy w' v.ownBlock) (hb : v'.ownBlock = v.ownBlock ∨ v'.ownBlock = some w.heap.size) : RetRow w E v ys (.returned v') w' := by
  subst hn
  obtain ⟨A, c, rfl, _⟩ := own_slice ho
  refine ⟨A, _, c, rfl, ho, hg, hb.imp id fun h g hg' => ?_⟩
  rw [h] at hg'
  injection hg' with hg'
  omega
theorem nscap {n : Nat} (h : n ≤ 100) : Builtin.nextslicecap (n + 1) n ≤ 1000 := by
  unfold Builtin.nextslicecap
  split
  · omega
  · rw [if_pos (by omega)]; omega
theorem sl_from {P : Program} (t e : TypeId) {i : TypeInfo} (ht : P.underlying t = some (.slice e)) (hi : P.info? e = some i) (hsz : i.size = 1) (A : Option Addr) (n c j : Nat) (hj : j ≤ n) :
    ∃ D, (∀ W, (Instr.slice t (.slice A n c) (some (.int .i64 (j : Int))) none none).run P W = .ok (.slice D (n - j) (c - j)) W) ∧ (j < c → D = A.map (·.add j)) := by
  refine ⟨_, fun W => by have := cut_from (P := P) t e .i64 ht hi 1 hsz A n c j (by omega) (by omega) W; rw [Int.toNat_natCast] at this; exact this, fun h => ?_⟩
  rw [if_neg (by omega), Nat.mul_one]
theorem sl_to {P : Program} (t e : TypeId) {i : TypeInfo} (ht : P.underlying t = some (.slice e)) (hi : P.info? e = some i) (A : Option Addr) (n c j : Nat) (hj : j ≤ c) :
    ∀ W, (Instr.slice t (.slice A n c) none (some (.int .i64 (j : Int))) none).run P W = .ok (.slice A j c) W := by
  intro W
  have hel : P.elem t = e := by simp [Program.elem, ht]
  have hu : P.underlying t = some (.slice (P.elem t)) := by rw [hel]; exact ht
  have ha : (A.map fun x => x.add 0) = A := by cases A <;> simp [Addr.add]
  rw [run_slice_h W t A n c hu .i64 j (by omega) (by omega), hel]
  simp [sizeOf, typeInfo, hi, sliced, Result.andThen, ha]
theorem ins_place (cur xs q : List Value) (i n : Nat) (x : Value) (h : cur.take n = xs) (hi : i ≤ n) (hn : xs.length = n) (hc : i + 1 ≤ cur.length) (hq : q = (cur.take (i + 1) ++ xs.drop i ++ cur.drop (i + 1 + (xs.drop i).length)).toArray.toList) :
    (q.take i ++ [x] ++ q.drop (i + [x].length)).toArray.toList.take (n + 1) = xs.take i ++ x :: xs.drop i := by
  have e0 : (cur.take (i + 1)).length = i + 1 := by rw [List.length_take]; omega
  have e1 : q.take i = xs.take i := by
    rw [hq, List.append_assoc, List.take_append_of_le_length (by rw [e0]; omega), List.take_take, ← h, List.take_take]
    congr 1; omega
  have e2 : q.drop (i + 1) = xs.drop i ++ cur.drop (i + 1 + (xs.drop i).length) := by
    rw [hq, List.append_assoc, List.drop_append_of_le_length (by rw [e0]; omega), List.drop_of_length_le (by rw [e0]; omega), List.nil_append]
  have e3 : (xs.take i ++ x :: xs.drop i).length = n + 1 := by simp; omega
  show (q.take i ++ [x] ++ q.drop (i + 1)).take (n + 1) = _
  rw [e1, e2, List.append_assoc, List.singleton_append, ← List.cons_append, ← List.append_assoc, List.take_append_of_le_length (by rw [e3]; omega), List.take_of_length_le (by rw [e3]; omega)]
theorem ins_new (cur xs q : List Value) (i n : Nat) (x : Value) (h : cur.take i = xs.take i) (hi : i ≤ n) (hn : xs.length = n) (hc : n + 1 ≤ cur.length) (hq : q = (cur.take i ++ [x] ++ cur.drop (i + [x].length)).toArray.toList) :
    (q.take (i + 1) ++ xs.drop i ++ q.drop (i + 1 + (xs.drop i).length)).toArray.toList.take (n + 1) = xs.take i ++ x :: xs.drop i := by
  have e0 : (cur.take i ++ [x]).length = i + 1 := by simp; omega
  have e1 : q.take (i + 1) = xs.take i ++ [x] := by
    rw [hq, List.take_append_of_le_length (by rw [e0]; omega), List.take_of_length_le (by rw [e0]; omega), h]
  have e3 : (xs.take i ++ x :: xs.drop i).length = n + 1 := by simp; omega
  show (q.take (i + 1) ++ xs.drop i ++ q.drop (i + 1 + (xs.drop i).length)).take (n + 1) = _
  rw [e1, List.append_assoc (xs.take i), List.singleton_append, List.take_append_of_le_length (by rw [e3]; omega), List.take_of_length_le (by rw [e3]; omega)]
theorem setCells_one (w : World) (g j : Nat) (z : Value) (cur : Array Value) (t : TypeId) (hg : w.heap[g]? = some (.cells cur t (0, 0))) : w.setCells g j (List.replicate 1 z) = w.setRow g (cur.setIfInBounds j z) := by
  rw [← setCell_eq_setRow w g j cur t (0, 0) z hg]; rfl
theorem del_list (cur xs : List Value) (i m : Nat) (z : Value) (h : cur.take (i + 1 + m) = xs) (hn : xs.length = i + 1 + m) (hc : i + 1 + m ≤ cur.length) :
    (((cur.take (i * 1) ++ xs.drop (i + 1) ++ cur.drop (i * 1 + (xs.drop (i + 1)).length)).toArray.setIfInBounds (i + m) z).toList).take (i + m) = xs.take i ++ xs.drop (i + 1) := by
  have e1 : cur.take (i * 1) = xs.take i := by rw [Nat.mul_one, ← h, List.take_take]; congr 1; omega
  have e3 : (xs.take i ++ xs.drop (i + 1)).length = i + m := by simp; omega
  rw [Array.toList_setIfInBounds, List.take_set, List.set_eq_of_length_le (by rw [List.length_take]; omega)]
  show (cur.take (i * 1) ++ xs.drop (i + 1) ++ _).take (i + m) = _
  rw [e1, List.take_append_of_le_length (by rw [e3]; omega), List.take_of_length_le (by rw [e3]; omega)]
theorem addr_inj {g g' : Nat} (h : (some ⟨g, 0, none⟩ : Option Addr) = some ⟨g', 0, none⟩) : g = g' := by injection h with h; injection h
/-! ### regions over a bag's memory -/
variable {α : Type}
/-- A node as a walk reads it. -/
structure View (L : Lay α) (w : World) (own : Own) (a : Nat) (nd : Nd α) (A0 : Option Addr) (c0 : Nat) (A1 : Option Addr) (c1 : Nat) (A2 : Option Addr) (c2 : Nat) : Prop where
  k0 : w.cell? ⟨a, 0, none⟩ = some (.slice A0 nd.ks.length c0)
  k1 : w.cell? ⟨a, 1, none⟩ = some (.slice A1 nd.vs.length c1)
  k2 : w.cell? ⟨a, 2, none⟩ = some (.slice A2 nd.cs.length c2)
  l0 : nd.ks.length ≤ c0
  l1 : nd.vs.length ≤ c1
  l2 : nd.cs.length ≤ c2
  r0 : RowAt L w own a 0 (.slice A0 nd.ks.length c0) (nd.row L 0)
  r1 : RowAt L w own a 1 (.slice A1 nd.vs.length c1) (nd.row L 1)
  r2 : RowAt L w own a 2 (.slice A2 nd.cs.length c2) (nd.row L 2)
  mine : own a = some (a, 3)
  lt : a < w.heap.size
  free : ∀ j, w.frozen? ⟨a, j, none⟩ = false
theorem Heap.view {L : Lay α} {w : World} {own : Own} {H : HP α} (h : Heap L w own H) {a : Nat} {nd : Nd α} (ha : H a = some nd) : ∃ A0 c0 A1 c1 A2 c2, View L w own a nd A0 c0 A1 c1 A2 c2 := by
  obtain ⟨A0, c0, A1, c1, A2, c2, hn, l0, l1, l2⟩ := h.slices ha
  obtain ⟨k0, k1, k2⟩ := hn.cells
  exact ⟨A0, c0, A1, c1, A2, c2, k0, k1, k2, l0, l1, l2, hn.r0, hn.r1, hn.r2, hn.mine, h.lt_of ha, hn.frozen⟩
/-- An element of a row. -/
theorem RowAt.get {L : Lay α} {w : World} {own : Own} {a f : Nat} {A : Option Addr} {n c : Nat} {xs : List Value} (h : RowAt L w own a f (.slice A n c) xs) {j : Nat} {u : Value} (hu : xs[j]? = some u) (hn : xs.length = n) :
    ∃ g, A = some ⟨g, 0, none⟩ ∧ w.cell? ⟨g, j, none⟩ = some u ∧ own g = some (a, f) ∧ w.frozen? ⟨g, j, none⟩ = false ∧ g < w.heap.size := by
  have hj := (List.getElem?_eq_some_iff.1 hu).1
  obtain ⟨g, cur, rfl, hl, h1, h2, h3, hg, h4, ho, hc⟩ := h.isBlock (by omega)
  exact ⟨g, rfl, (hc j (by omega)).trans hu, ho, by simp [World.frozen?, hg], (Array.getElem?_eq_some_iff.1 hg).1⟩

/-- All blocks of the bag but one row are as they were. -/
def Sees (own : Own) (o' : Nat × Nat) (w0 W : World) : Prop := (∀ k o, own k = some o → o ≠ o' → W.heap[k]? = w0.heap[k]?) ∧ w0.heap.size ≤ W.heap.size
theorem Sees.refl (own : Own) (o' : Nat × Nat) (w0 : World) : Sees own o' w0 w0 := ⟨fun _ _ _ _ => rfl, Nat.le_refl _⟩
theorem Sees.drew {own : Own} {o' : Nat × Nat} {w0 W : World} (h : Sees own o' w0 W) : Sees own o' w0 W.drew := h
theorem Sees.alloc {own : Own} {o' : Nat × Nat} {w0 W : World} {L : Lay α} {H : HP α} (hH : Heap L w0 own H) (h : Sees own o' w0 W) (o : Obj) : Sees own o' w0 (W.alloc o) :=
  ⟨fun k q hk hq => (Below.heap_alloc W o k (Nat.lt_of_lt_of_le (hH.lt k q hk) h.2)).trans (h.1 k q hk hq), by simp; have := h.2; omega⟩
theorem Sees.grown {own : Own} {o' : Nat × Nat} {w0 W W' : World} {L : Lay α} {H : HP α} (hH : Heap L w0 own H) (h : Sees own o' w0 W) {r : Option Nat} (hg : W.grownBy W' r) (hr : ∀ g, r = some g → own g = some o' ∨ w0.heap.size ≤ g) : Sees own o' w0 W' :=
  ⟨fun k q hk hq => (hg.block k (Nat.lt_of_lt_of_le (hH.lt k q hk) h.2) (fun e => by
    rcases hr k e.symm with e2 | e2
    · exact hq (Option.some.inj (hk.symm.trans e2))
    · have := hH.lt k q hk; omega)).trans (h.1 k q hk hq), Nat.le_trans h.2 hg.size⟩
theorem Sees.below {own : Own} {o' : Nat × Nat} {w0 W W' : World} {L : Lay α} {H : HP α} (hH : Heap L w0 own H) (h : Sees own o' w0 W) (hb : Below W.heap.size W W') : Sees own o' w0 W' :=
  ⟨fun k q hk hq => (hb.block k (Nat.lt_of_lt_of_le (hH.lt k q hk) h.2)).trans (h.1 k q hk hq), Nat.le_trans h.2 hb.size⟩
theorem RowOp.of_drew {w w' : World} {e : TypeId} {v v' : Value} {ys : List Value} (h : RowOp w.drew w' e v v' ys) : RowOp w w' e v v' ys := ⟨h.own, ⟨h.grow.os, h.grow.tape, h.grow.output, h.grow.size, h.grow.block⟩, h.blk⟩
section
variable {P : Program} {ops : Array Oper} {Q : Exit → Act → World → Prop} {md : Region.Mode} {ls : List Nat}
/-- A load of a cell of the bag. -/
theorem lb (i : Nat) {oi : Oper} (v : Value) {fuel : Nat} {listed : Array Bool} {a a' : Act} {w w0 : World} {own : Own} {o o' : Nat × Nat} {p : Addr} (hS : Sees own o' w0 w) (hp : w0.cell? p = some v) (ho : own p.block = some o) (hne : o ≠ o') (hi : ops[i]? = some oi)
    (h : WalkL P md ops Q (Sees own o' w0) ls fuel (listed.setIfInBounds i true) a' w)
    (hs : Region.noSelect ops = true := by kernel_rfl)
    (hk : (Region.free md ops listed i && (Region.ready md ops listed).contains i && waitsL md ops ls i && (ls.all fun l => !listed.getD l true) && !ls.contains i) = true := by kernel_rfl)
    (hQ : ∀ c a w, Q (.panic c) (a.put oi.dst v) w → Q (.panic c) a w := by intro _ _ _ h; exact h)
    (hw : Region.wanted oi (yielded ops a.tmps) = true := by kernel_rfl) (hv : ∀ W : World, W.cell? p = some v → (execOp a.eval oi).run P W = .ok (.value v) W := by intro W hc; go_simp)
    (ha : a.put oi.dst v = a' := by (show Act.put _ (some _) _ = _; simp only [Act.put, List.setIfInBounds_toArray, List.set_cons_zero, List.set_cons_succ]; try rfl)) : WalkL P md ops Q (Sees own o' w0) ls (fuel + 1) listed a w :=
  takeL i hi hs hk hQ hw (fun W hS => hv W ((World.cell?_of_block (hS.1 p.block o ho hne)).trans hp)) hS ha rfl h
variable {S : World → Prop}
/-- A pure operation behind the first of ls. -/
theorem pv (i : Nat) {oi : Oper} (v : Value) {fuel : Nat} {listed : Array Bool} {a a' : Act} {w : World} (hi : ops[i]? = some oi)
    (h : WalkL P md ops Q S ls fuel (listed.setIfInBounds i true) a' w)
    (hs : Region.noSelect ops = true := by kernel_rfl)
    (hk : (Region.free md ops listed i && (Region.ready md ops listed).contains i && !ls.contains i) = true := by kernel_rfl)
    (hx : (ls.all fun l => !listed.getD l true) = false := by kernel_rfl)
    (hQ : ∀ c a w, Q (.panic c) (a.put oi.dst v) w → Q (.panic c) a w := by intro _ _ _ h; exact h)
    (hw : Region.wanted oi (yielded ops a.tmps) = true := by kernel_rfl) (hv : ∀ w, (execOp a.eval oi).run P w = .ok (.value v) w := by intro W; go_simp)
    (ha : a.put oi.dst v = a' := by (show Act.put _ (some _) _ = _; simp only [Act.put, List.setIfInBounds_toArray, List.set_cons_zero, List.set_cons_succ]; try rfl)) : WalkL P md ops Q S ls (fuel + 1) listed a w :=
  pureL i hi hs hk hQ hw hv (fun hl => by
    have : (ls.all fun l => !listed.getD l true) = true := List.all_eq_true.2 fun l hl' => by rw [hl l hl']; rfl
    rw [this] at hx; cases hx) ha rfl h
/-- An allocation comes up alone. -/
theorem al (i : Nat) {oi : Oper} (v : Value) {fuel : Nat} {listed : Array Bool} {a a' : Act} {w : World} (w1 : World) (hr : Region.ready md ops listed = [i]) (hi : ops[i]? = some oi) (hS : S w1)
    (h : WalkL P md ops Q S ls fuel (listed.setIfInBounds i true) a' w1)
    (hv : (execOp a.eval oi).run P w = .ok (.value v) w1 := by go_simp; first | done | rfl)
    (hw : Region.wanted oi (yielded ops a.tmps) = true := by kernel_rfl)
    (ha : a.put oi.dst v = a' := by (show Act.put _ (some _) _ = _; simp only [Act.put, List.setIfInBounds_toArray, List.set_cons_zero, List.set_cons_succ]; try rfl)) : WalkL P md ops Q S ls (fuel + 1) listed a w :=
  valueL i hr hi hw hv ha rfl (fun _ => hS) h
/-- A store comes up alone; it is one of ls. -/
theorem st (i : Nat) {oi : Oper} {fuel : Nat} {listed : Array Bool} {a a' : Act} {w : World} (w1 : World) (hr : Region.ready md ops listed = [i]) (hi : ops[i]? = some oi)
    (h : WalkL P md ops Q S ls fuel (listed.setIfInBounds i true) a' w1)
    (hv : (execOp a.eval oi).run P w = .ok .skip w1 := by go_simp; first | done | rfl)
    (hw : Region.wanted oi (yielded ops a.tmps) = true := by kernel_rfl)
    (hl : ls.contains i = true := by kernel_rfl)
    (ha : a.put oi.dst undef = a' := by rfl) : WalkL P md ops Q S ls (fuel + 1) listed a w :=
  skipL i hr hi hw hv ha rfl (fun hn => absurd (by simpa using hl) hn) h
/-- A call comes up alone. -/
theorem co (i : Nat) (d : Tmp) {oi : Oper} (f : FuncId) (args : Array Value) {R : Ending → World → Prop} {fuel : Nat} {listed : Array Bool} {a : Act} {w : World} (hR : Calls P f args w R) (hr : Region.ready md ops listed = [i]) (hi : ops[i]? = some oi)
    (h : ∀ e w', R e w' → ∃ v, e = .returned v ∧ S w' ∧ WalkL P md ops Q S ls fuel (listed.setIfInBounds i true) (a.put (some d) v) w')
    (hv : (execOp a.eval oi).run P w = .ok (.enter f args) w := by go_simp)
    (hdst : oi.dst = some d := by rfl)
    (hw : Region.wanted oi (yielded ops a.tmps) = true := by kernel_rfl) : WalkL P md ops Q S ls (fuel + 1) listed a w :=
  callL i d hr hi hdst hw hv hR rfl fun e w' he => by
    obtain ⟨v, rfl, hS, h⟩ := h e w' he
    exact ⟨v, rfl, fun _ => hS, _, rfl, h⟩
end
/-- What becomes of a bag's memory where one node turns. -/
def Step (L : Lay α) (own : Own) (H : HP α) (w0 : World) (b : Nat) (nd' : Nd α) (w' : World) : Prop :=
  ∃ own' H', Heap L w' own' H' ∧ Fr own own' w0 w' ∧ H' b = some nd' ∧ ∀ k, k ≠ b → H' k = H k
theorem Heap.step {L : Lay α} {w w1 : World} {own : Own} {H : HP α} (h : Heap L w own H) {a : Nat} {nd : Nd α} (nd' : Nd α) (ha : H a = some nd) (f : Nat) (hf : f < 3) {v v' : Value}
    (hv : w.cell? ⟨a, f, none⟩ = some v) {ys : List Value} (hop : RowOp w w1 (L.ty f) v v' ys) (hys : nd'.row L f = ys) (hrow : ∀ j, j < 3 → j ≠ f → nd'.row L j = nd.row L j) : Step L own H w a nd' (w1.setCell ⟨a, f, none⟩ v') := by
  obtain ⟨own', hH, hF⟩ := h.store nd' ha f hf hv hop hys hrow
  exact ⟨own', _, hH, hF, upd_same _ _ _, fun k hk => upd_other _ _ _ _ hk⟩
theorem Heap.stepCell {L : Lay α} {w : World} {own : Own} {H : HP α} (h : Heap L w own H) {a : Nat} {nd : Nd α} (nd' : Nd α) (ha : H a = some nd) (f : Nat) (hf : f < 3) {g n c i : Nat} {u : Value}
    (hv : w.cell? ⟨a, f, none⟩ = some (.slice (some ⟨g, 0, none⟩) n c)) (hi : i < n) (hys : nd'.row L f = (nd.row L f).set i u) (hrow : ∀ j, j < 3 → j ≠ f → nd'.row L j = nd.row L j) : Step L own H w a nd' (w.setCell ⟨g, i, none⟩ u) := by
  obtain ⟨own', hH, hF⟩ := h.storeCell nd' ha f hf hv hi hys hrow
  exact ⟨own', _, hH, hF, upd_same _ _ _, fun k hk => upd_other _ _ _ _ hk⟩
/-- A row cut short. -/
theorem cutOp {w : World} {e : TypeId} {A : Option Addr} {n c k : Nat} {xs : List Value} (h : w.ownsRow 0 e 1 (.slice A n c) n xs) (hk : k ≤ n) (hA : A ≠ none) : RowOp w w e (.slice A n c) (.slice A k c) (xs.take k) := by
  rcases own_form h with ⟨e1, _⟩ | ⟨g, cap, cur, e1, hg, h1, h2, h3, h4⟩
  · injection e1 with e1; exact absurd e1 hA
  · injection e1 with e1 e2 e3
    subst e1; subst e3
    clear e2
    have hl : (xs.take k).length = k := by rw [List.length_take, h.1]; omega
    refine ⟨?_, ⟨rfl, rfl, rfl, Nat.le_refl _, fun _ _ _ => rfl⟩, .inl rfl⟩
    rw [hl]
    exact own_mk hg (by omega) h2 h3 (by rw [← h4, List.take_take]; congr 1; omega)
theorem Fr.of_drew {own own' : Own} {w w' : World} (h : Fr own own' w.drew w') : Fr own own' w w' := ⟨h.os, h.tape, h.output, h.size, h.keep, h.same⟩
theorem Step.of_drew {L : Lay α} {own : Own} {H : HP α} {w w' : World} {b : Nat} {nd : Nd α} (h : Step L own H w.drew b nd w') : Step L own H w b nd w' := by
  obtain ⟨own', H', h1, h2, h3⟩ := h
  exact ⟨own', H', h1, h2.of_drew, h3⟩
theorem Step.then {L : Lay α} {own : Own} {H : HP α} {w0 w1 w2 : World} {b : Nat} {n1 n2 : Nd α} (h : Step L own H w0 b n1 w1) (k : ∀ own1 H1, Heap L w1 own1 H1 → H1 b = some n1 → Step L own1 H1 w1 b n2 w2) : Step L own H w0 b n2 w2 := by
  obtain ⟨own1, H1, h1, h2, h3, h4⟩ := h
  obtain ⟨own2, H2, k1, k2, k3, k4⟩ := k own1 H1 h1 h3
  exact ⟨own2, H2, k1, h2.trans k2, k3, fun j hj => (k4 j hj).trans (h4 j hj)⟩
theorem frozen_set1 (w : World) (b j : Nat) (v : Value) (a : Addr) : (w.setCell ⟨b, j, none⟩ v).frozen? a = w.frozen? a := World.frozen?_setCells b [v] j w a
theorem cell_farB (w : World) (b j : Nat) (v : Value) (a : Addr) (h : a.block ≠ b) : (w.setCell ⟨b, j, none⟩ v).cell? a = w.cell? a := World.cell?_of_block (Below.heap_setCell w ⟨b, j, none⟩ v a.block h)
theorem cell_off (w : World) (b j k : Nat) (v : Value) (h : j ≠ k) : (w.setCell ⟨b, j, none⟩ v).cell? ⟨b, k, none⟩ = w.cell? ⟨b, k, none⟩ := World.cell?_setCell_other w _ _ v (fun e => h (by injection e))
theorem rowCut {w : World} {e : TypeId} {g n c k : Nat} {xs : List Value} (h : w.ownsRow 0 e 1 (.slice (some ⟨g, 0, none⟩) n c) xs.length xs) (hn : xs.length = n) (hk : k ≤ n) : RowOp w w e (.slice (some ⟨g, 0, none⟩) n c) (.slice (some ⟨g, 0, none⟩) k c) (xs.take k) :=
  by subst hn; exact cutOp h hk (by simp)
theorem RowOp.trans {w w1 w2 : World} {e : TypeId} {v v1 v2 : Value} {ys zs : List Value} (h : RowOp w w1 e v v1 ys) (k : RowOp w1 w2 e v1 v2 zs) : RowOp w w2 e v v2 zs := by
  refine ⟨k.own, ⟨k.grow.os.trans h.grow.os, k.grow.tape.trans h.grow.tape, k.grow.output.trans h.grow.output, Nat.le_trans h.grow.size k.grow.size, fun i hi hne => (k.grow.block i (Nat.lt_of_lt_of_le hi h.grow.size) fun e => ?_).trans (h.grow.block i hi hne)⟩, ?_⟩
  · rcases h.blk with h1 | h1
    · exact hne (e.trans h1)
    · have := h1 i e.symm; omega
  · rcases k.blk with k1 | k1
    · rcases h.blk with h1 | h1
      · exact .inl (k1.trans h1)
      · exact .inr fun g hg => h1 g (k1.symm.trans hg)
    · exact .inr fun g hg => Nat.le_trans h.grow.size (k1 g hg)
theorem own_lower {w : World} {base e n : Nat} {v : Value} {xs : List Value} (h : w.ownsRow base e 1 v n xs) (b' : Nat) (hb : b' ≤ base) : w.ownsRow b' e 1 v n xs := by
  refine ⟨h.1, ?_⟩
  rcases h.2 with hn | ⟨g, cap, cur, hv, hbg, rest⟩
  · exact .inl hn
  · exact .inr ⟨g, cap, cur, hv, Nat.le_trans hb hbg, rest⟩
theorem own_below {w w' : World} {base e n : Nat} {v : Value} {xs : List Value} (h : w.ownsRow base e 1 v n xs) (hb : Below w.heap.size w w') : w'.ownsRow base e 1 v n xs := by
  refine ⟨h.1, ?_⟩
  rcases h.2 with hn | ⟨g, cap, cur, hv, hbg, hg, rest⟩
  · exact .inl hn
  · exact .inr ⟨g, cap, cur, hv, hbg, (hb.block g (Array.getElem?_eq_some_iff.1 hg).1).trans hg, rest⟩
/-- A row of its own in the place of another. -/
theorem RowOp.of_new {w w' : World} {e n : Nat} {v v' : Value} {xs : List Value} (h : w'.ownsRow w.heap.size e 1 v' n xs) (hn : xs.length = n) (hb : Below w.heap.size w w') : RowOp w w' e v v' xs := by
  subst hn
  exact ⟨own_lower h 0 (Nat.zero_le _), ⟨hb.os, hb.tape, hb.output, hb.size, fun k hk _ => hb.block k hk⟩, .inr fun g hg => (h.lt g hg).1⟩
/-- What becomes of a bag's memory where a node is made. -/
def NewStep (L : Lay α) (own : Own) (H : HP α) (w0 : World) (nd : Nd α) (v : Value) (w' : World) : Prop :=
  ∃ b own' H', v = .pointer (some ⟨b, 0, none⟩) ∧ Heap L w' own' H' ∧ Fr own own' w0 w' ∧ H b = none ∧ H' b = some nd ∧ ∀ k, k ≠ b → H' k = H k
theorem Heap.newStep {L : Lay α} {w0 w2 w3 : World} {own : Own} {H : HP α} (h : Heap L w0 own H) (hb2 : Below w0.heap.size w0 w2) (hb3 : Below w2.heap.size w2 w3) (nd : Nd α) {v0 v1 : Value} {n0 n1 : Nat}
    (h0 : w2.ownsRow w0.heap.size (L.ty 0) 1 v0 n0 (nd.row L 0)) (h1 : w3.ownsRow w2.heap.size (L.ty 1) 1 v1 n1 (nd.row L 1)) (hn0 : (nd.row L 0).length = n0) (hn1 : (nd.row L 1).length = n1) (hc : nd.cs = []) :
    NewStep L own H w0 nd (.pointer (some ⟨w3.heap.size, 0, none⟩)) (w3.alloc (.cells #[v0, v1, .slice none 0 0] L.tN)) := by
  subst hn0; subst hn1
  have h2 : w3.ownsRow w0.heap.size (L.ty 2) 1 (.slice none 0 0) (nd.row L 2).length (nd.row L 2) := by
    have : nd.row L 2 = [] := by simp [Nd.row, hc]
    rw [this]; exact World.ownsRow_nil _ _ _ _
  obtain ⟨own', hH, hF, hn⟩ := h.new (hb2.trans (hb3.mono hb2.size)) nd (own_below h0 hb3) (own_lower h1 _ hb2.size) h2 (by
    cases e : v0.ownBlock with
    | none => exact .inl rfl
    | some g => exact .inr fun e2 => by have := (h0.lt g e).2; have := (h1.lt g e2.symm).1; omega) (.inl rfl)
  exact ⟨_, own', _, rfl, hH, hF, hn, upd_same _ _ _, fun k hk => upd_other _ _ _ _ hk⟩
/-- What becomes of a bag's memory where two nodes turn. -/
def Step2 (L : Lay α) (own : Own) (H : HP α) (w0 : World) (a : Nat) (na : Nd α) (b : Nat) (nb : Nd α) (w' : World) : Prop :=
  ∃ own' H', Heap L w' own' H' ∧ Fr own own' w0 w' ∧ H' a = some na ∧ H' b = some nb ∧ ∀ k, k ≠ a → k ≠ b → H' k = H k
theorem RowAt.cellsAt {L : Lay α} {w : World} {own : Own} {a f : Nat} {g n c : Nat} {xs : List Value} (h : RowAt L w own a f (.slice (some ⟨g, 0, none⟩) n c) xs) (k : Nat) : ∀ j u, (xs.drop k)[j]? = some u → w.cell? ⟨g, k + j, none⟩ = some u := by
  intro j u hu
  rw [List.getElem?_drop] at hu
  have hl := h.row.1
  have hn : xs.length = n := by
    rcases own_form h.row with ⟨e, _⟩ | ⟨g', cap, cur, e, _⟩
    · cases e
    · injection e with _ e; exact e.symm
  obtain ⟨g', e, hc, _⟩ := h.get hu hn
  obtain rfl := addr_inj e
  exact hc
theorem below_of_drew {w w' : World} (h : Below w.drew.heap.size w.drew w') : Below w.heap.size w w' := ⟨h.os, h.tape, h.output, h.size, h.block⟩
theorem sl_lit {P : Program} (t e : TypeId) {i : TypeInfo} (ht : P.underlying t = some (.slice e)) (hi : P.info? e = some i) (hsz : i.size = 1) (g n c k : Nat) (hk : k ≤ n) (hc : k < c) :
    ∀ W, (Instr.slice t (.slice (some ⟨g, 0, none⟩) n c) (some (.int .i64 (k : Int))) none none).run P W = .ok (.slice (some ⟨g, k, none⟩) (n - k) (c - k)) W := fun W => by
  obtain ⟨D, h1, h2⟩ := sl_from (P := P) t e ht hi hsz (some ⟨g, 0, none⟩) n c k hk
  rw [h1 W, h2 hc]
  simp [Addr.add_lit]
end Go.Proofs.Ytkfcflflgecljaa.H
