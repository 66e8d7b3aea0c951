/- Memory of a bag: nodes, each with three rows of its own; who owns which block; what a store of a row into a node leaves. -/
import Derived.Maps.AppendAt
import Derived.Laws.OwnMore
import Derived.Laws.CopyRow
import Derived.Deep.AppendLies
import Derived.Deep.Draws
import Derived.Below
import Derived.WalkKit
set_option linter.unusedVariables false
namespace Go.Proofs.Ytkfcflflgecljaa.H
open Go.RowKit

/-- What an operation on a row leaves: its result, and all else as it was. -/
structure RowOp (w w' : World) (e : TypeId) (v v' : Value) (ys : List Value) : Prop where
  own : w'.ownsRow 0 e 1 v' ys.length ys
  grow : w.grownBy w' v.ownBlock
  blk : v'.ownBlock = v.ownBlock ∨ ∀ g, v'.ownBlock = some g → w.heap.size ≤ g

theorem grown_trans {A B C : World} {r : Option Nat} (h : A.grownBy B r) (k : B.grownBy C r) : A.grownBy C r :=
  ⟨k.os.trans h.os, k.tape.trans h.tape, k.output.trans h.output, Nat.le_trans h.size k.size, fun i hi hne => (k.block i (Nat.lt_of_lt_of_le hi h.size) hne).trans (h.block i hi hne)⟩
theorem grown_drewN (w : World) (q : Nat) (r : Option Nat) : w.grownBy (w.drewN q) r := ⟨rfl, rfl, rfl, Nat.le_refl _, fun _ _ _ => rfl⟩
theorem grown_setRow (w : World) (g : Nat) (cs : Array Value) : w.grownBy (w.setRow g cs) (some g) :=
  ⟨rfl, rfl, rfl, by simp [World.setRow], fun k hk hne => setRow_other w g k cs (fun e => hne (by rw [e]))⟩
theorem own_form {w : World} {e : TypeId} {v : Value} {n : Nat} {xs : List Value} (h : w.ownsRow 0 e 1 v n xs) :
    (v = .slice none 0 0 ∧ n = 0 ∧ xs = []) ∨ ∃ g cap cur, v = .slice (some ⟨g, 0, none⟩) n cap ∧ w.heap[g]? = some (.cells cur e (0, 0)) ∧ n ≤ cap ∧ cap ≤ maxLen ∧ cur.size = cap ∧ cur.toList.take n = xs := by
  rcases h.2 with ⟨rfl, rfl⟩ | ⟨g, cap, cur, hv, _, hg, h1, h2, h3, h4⟩
  · exact .inl ⟨rfl, rfl, List.eq_nil_of_length_eq_zero (by have := h.1; omega)⟩
  · exact .inr ⟨g, cap, cur, hv, hg, h1, h2, by omega, by simpa using h4⟩
theorem own_slice {w : World} {e : TypeId} {v : Value} {n : Nat} {xs : List Value} (h : w.ownsRow 0 e 1 v n xs) : ∃ A c, v = .slice A n c ∧ n ≤ c := by
  rcases own_form h with ⟨rfl, rfl, _⟩ | ⟨g, cap, cur, rfl, _, h1, _⟩
  · exact ⟨_, _, rfl, Nat.le_refl _⟩
  · exact ⟨_, _, rfl, h1⟩
theorem own_mk {w : World} {e g cap n : Nat} {cur : Array Value} {xs : List Value} (hg : w.heap[g]? = some (.cells cur e (0, 0))) (h1 : n ≤ cap) (h2 : cap ≤ maxLen) (h3 : cur.size = cap) (h4 : cur.toList.take n = xs) :
    w.ownsRow 0 e 1 (.slice (some ⟨g, 0, none⟩) n cap) n xs :=
  ⟨by rw [← h4, List.length_take, Array.length_toList]; omega, .inr ⟨g, cap, cur, rfl, Nat.zero_le _, hg, h1, h2, by omega, by simpa using h4⟩⟩

/-! ### who owns which block -/
abbrev Own := Nat → Option (Nat × Nat)
/-- A node: numbers, values, nodes below. -/
structure Nd (α : Type) where
  ks : List Int
  vs : List α
  cs : List Nat
def ptrV (c : Nat) : Value := .pointer (some ⟨c, 0, none⟩)
/-- How a node lies in memory: its type, its rows' types, a value's cell. -/
structure Lay (α : Type) where
  tN : TypeId
  ty : Nat → TypeId
  ev : α → Value
  one : ∀ x, (ev x).oneCell' = true
variable {α : Type}
def Nd.row (L : Lay α) (nd : Nd α) : Nat → List Value
  | 0 => nd.ks.map (.int .i64)
  | 1 => nd.vs.map L.ev
  | _ => nd.cs.map ptrV
structure RowAt (L : Lay α) (w : World) (own : Own) (a f : Nat) (v : Value) (xs : List Value) : Prop where
  row : w.ownsRow 0 (L.ty f) 1 v xs.length xs
  mine : ∀ g, v.ownBlock = some g → own g = some (a, f)
structure NodeAt (L : Lay α) (w : World) (own : Own) (a : Nat) (nd : Nd α) (v0 v1 v2 : Value) : Prop where
  cell : w.heap[a]? = some (.cells #[v0, v1, v2] L.tN (0, 0))
  mine : own a = some (a, 3)
  r0 : RowAt L w own a 0 v0 (nd.row L 0)
  r1 : RowAt L w own a 1 v1 (nd.row L 1)
  r2 : RowAt L w own a 2 v2 (nd.row L 2)
abbrev HP (α : Type) := Nat → Option (Nd α)
structure Heap (L : Lay α) (w : World) (own : Own) (H : HP α) : Prop where
  node : ∀ a nd, H a = some nd → ∃ v0 v1 v2, NodeAt L w own a nd v0 v1 v2
  lt : ∀ k o, own k = some o → k < w.heap.size
  dom : ∀ a, own a = some (a, 3) → H a ≠ none
/-- What becomes of the rest. -/
structure Fr (own own' : Own) (w w' : World) : Prop where
  os : w'.os = w.os
  tape : w'.tape = w.tape
  output : w'.output = w.output
  size : w.heap.size ≤ w'.heap.size
  keep : ∀ k, k < w.heap.size → own' k = own k
  same : ∀ k, k < w.heap.size → own k = none → w'.heap[k]? = w.heap[k]?
theorem Fr.refl (own : Own) (w : World) : Fr own own w w := ⟨rfl, rfl, rfl, Nat.le_refl _, fun _ _ => rfl, fun _ _ _ => rfl⟩
theorem Fr.trans {o1 o2 o3 : Own} {A B C : World} (h : Fr o1 o2 A B) (k : Fr o2 o3 B C) : Fr o1 o3 A C :=
  ⟨k.os.trans h.os, k.tape.trans h.tape, k.output.trans h.output, Nat.le_trans h.size k.size,
    fun i hi => (k.keep i (Nat.lt_of_lt_of_le hi h.size)).trans (h.keep i hi),
    fun i hi hn => (k.same i (Nat.lt_of_lt_of_le hi h.size) ((h.keep i hi).trans hn)).trans (h.same i hi hn)⟩
theorem Fr.drewN (own : Own) (w : World) (q : Nat) : Fr own own w (w.drewN q) := ⟨rfl, rfl, rfl, Nat.le_refl _, fun _ _ => rfl, fun _ _ _ => rfl⟩
theorem Fr.below {own own' : Own} {w w' : World} {B : Nat} (h : Fr own own' w w') (hB : B ≤ w.heap.size) (hn : ∀ k, k < B → own k = none) : Below B w w' :=
  ⟨h.os, h.tape, h.output, h.size, fun k hk => h.same k (Nat.lt_of_lt_of_le hk hB) (hn k hk)⟩
theorem Fr.of_below {own : Own} {w w' : World} (h : Below w.heap.size w w') : Fr own own w w' :=
  ⟨h.os, h.tape, h.output, h.size, fun _ _ => rfl, fun k hk _ => h.block k hk⟩

theorem RowAt.moved {L : Lay α} {w w' : World} {own own' : Own} {a f : Nat} {v : Value} {xs : List Value} (h : RowAt L w own a f v xs) (hb : ∀ g, v.ownBlock = some g → w'.heap[g]? = w.heap[g]?) (ho : ∀ g, v.ownBlock = some g → own' g = own g) : RowAt L w' own' a f v xs := by
  refine ⟨⟨h.row.1, ?_⟩, fun g hg => (ho g hg).trans (h.mine g hg)⟩
  rcases h.row.2 with hn | ⟨g, cap, cur, hv, h0, hg, rest⟩
  · exact .inl hn
  · exact .inr ⟨g, cap, cur, hv, h0, (hb g (by rw [hv]; rfl)).trans hg, rest⟩
theorem Heap.block_lt {L : Lay α} {w : World} {own : Own} {H : HP α} (h : Heap L w own H) {k : Nat} {o : Nat × Nat} (hk : own k = some o) : k < w.heap.size := h.lt k o hk
/-- Worlds with the same blocks of the bag. -/
theorem Heap.moved {L : Lay α} {w w' : World} {own own' : Own} {H : HP α} (h : Heap L w own H) (hs : ∀ k o, own' k = some o → k < w'.heap.size) (hb : ∀ k, own k ≠ none → w'.heap[k]? = w.heap[k]?) (ho : ∀ k, own' k = own k) : Heap L w' own' H where
  node := fun a nd ha => by
    obtain ⟨v0, v1, v2, hn⟩ := h.node a nd ha
    refine ⟨v0, v1, v2, (hb a (by rw [hn.mine]; simp)).trans hn.cell, (ho a).trans hn.mine, hn.r0.moved ?_ fun g _ => ho g, hn.r1.moved ?_ fun g _ => ho g, hn.r2.moved ?_ fun g _ => ho g⟩
    · intro g hg; exact hb g (by rw [hn.r0.mine g hg]; simp)
    · intro g hg; exact hb g (by rw [hn.r1.mine g hg]; simp)
    · intro g hg; exact hb g (by rw [hn.r2.mine g hg]; simp)
  lt := hs
  dom := fun a ha => h.dom a ((ho a).symm.trans ha)
theorem Heap.below {L : Lay α} {w w' : World} {own : Own} {H : HP α} (h : Heap L w own H) (hb : Below w.heap.size w w') : Heap L w' own H :=
  h.moved (fun k o hk => Nat.lt_of_lt_of_le (h.lt k o hk) hb.size) (fun k hk => by
    obtain ⟨o, ho⟩ := Option.ne_none_iff_exists'.1 hk
    exact hb.block k (h.lt k o ho)) (fun _ => rfl)
theorem Heap.drewN {L : Lay α} {w : World} {own : Own} {H : HP α} (h : Heap L w own H) (q : Nat) : Heap L (w.drewN q) own H := h.moved (fun k o hk => h.lt k o hk) (fun _ _ => rfl) (fun _ => rfl)
theorem Heap.frame {L : Lay α} {w w' : World} {own : Own} {H : HP α} (h : Heap L w own H) (hs : w.heap.size ≤ w'.heap.size) (hb : ∀ k, own k ≠ none → w'.heap[k]? = w.heap[k]?) : Heap L w' own H :=
  h.moved (fun k o hk => Nat.lt_of_lt_of_le (h.lt k o hk) hs) hb (fun _ => rfl)

def upd (H : HP α) (a : Nat) (nd : Nd α) : HP α := fun k => if k = a then some nd else H k
theorem upd_same (H : HP α) (a : Nat) (nd : Nd α) : upd H a nd a = some nd := if_pos rfl
theorem upd_other (H : HP α) (a k : Nat) (nd : Nd α) (h : k ≠ a) : upd H a nd k = H k := if_neg h

theorem heap_setCell3 {w : World} {a t : Nat} {v0 v1 v2 : Value} (hc : w.heap[a]? = some (.cells #[v0, v1, v2] t (0, 0))) (f : Nat) (v : Value) :
    (w.setCell ⟨a, f, none⟩ v).heap[a]? = some (.cells (#[v0, v1, v2].setIfInBounds f v) t (0, 0)) := by
  rw [setCell_eq_setRow w a f _ t (0, 0) v hc]
  exact setRow_heap w a _ _ t _ hc

theorem grown_setCell (w : World) (a f : Nat) (v : Value) : w.grownBy (w.setCell ⟨a, f, none⟩ v) (some a) :=
  ⟨rfl, rfl, rfl, by simp [World.setCell], fun k hk hne => Below.heap_setCell w ⟨a, f, none⟩ v k (fun e => hne (by rw [e]))⟩

theorem own_lt' {w : World} {base e n : Nat} {v : Value} {xs : List Value} (h : w.ownsRow base e 1 v n xs) {g : Nat} (hg : v.ownBlock = some g) : g < w.heap.size := (h.lt g hg).2
theorem cell3 {w : World} {a t f : Nat} {v0 v1 v2 v : Value} (hc : w.heap[a]? = some (.cells #[v0, v1, v2] t (0, 0))) (hf : f < 3) (hv : w.cell? ⟨a, f, none⟩ = some v) : #[v0, v1, v2][f]? = some v := by
  rw [cell_of_row w a f _ t (0, 0) hc] at hv
  exact hv
def slot (f : Nat) (v0 v1 v2 : Value) : Value := match f with | 0 => v0 | 1 => v1 | _ => v2
theorem NodeAt.row {L : Lay α} {w : World} {own : Own} {a : Nat} {nd : Nd α} {v0 v1 v2 : Value} (h : NodeAt L w own a nd v0 v1 v2) : ∀ f, f < 3 → RowAt L w own a f (slot f v0 v1 v2) (nd.row L f)
  | 0, _ => h.r0
  | 1, _ => h.r1
  | 2, _ => h.r2
  | f + 3, hf => by omega
theorem NodeAt.of_rows {L : Lay α} {w : World} {own : Own} {a : Nat} {nd : Nd α} {v0 v1 v2 : Value} (hc : w.heap[a]? = some (.cells #[v0, v1, v2] L.tN (0, 0))) (hm : own a = some (a, 3)) (h : ∀ f, f < 3 → RowAt L w own a f (slot f v0 v1 v2) (nd.row L f)) : NodeAt L w own a nd v0 v1 v2 :=
  ⟨hc, hm, h 0 (by omega), h 1 (by omega), h 2 (by omega)⟩
/-- A row of a node turns; all else is as it was. -/
theorem Heap.change {L : Lay α} {w w2 : World} {own : Own} {H : HP α} (h : Heap L w own H) {a : Nat} {nd nd' : Nd α} (ha : H a = some nd) (f : Nat) (hf : f < 3) {v v' : Value}
    (hv : w.cell? ⟨a, f, none⟩ = some v) (hos : w2.os = w.os) (htp : w2.tape = w.tape) (hout : w2.output = w.output) (hs : w.heap.size ≤ w2.heap.size)
    (hoth : ∀ k, k < w.heap.size → k ≠ a → some k ≠ v.ownBlock → w2.heap[k]? = w.heap[k]?)
    (hnode : ∀ v0 v1 v2, w.heap[a]? = some (.cells #[v0, v1, v2] L.tN (0, 0)) → w2.heap[a]? = some (.cells (#[v0, v1, v2].setIfInBounds f v') L.tN (0, 0)))
    (hown : w2.ownsRow 0 (L.ty f) 1 v' (nd'.row L f).length (nd'.row L f)) (hblk : v'.ownBlock = v.ownBlock ∨ ∀ g, v'.ownBlock = some g → w.heap.size ≤ g)
    (hrow : ∀ j, j < 3 → j ≠ f → nd'.row L j = nd.row L j) : ∃ own', Heap L w2 own' (upd H a nd') ∧ Fr own own' w w2 := by
  obtain ⟨v0, v1, v2, hn⟩ := h.node a nd ha
  have hvs : slot f v0 v1 v2 = v := by
    have := cell3 hn.cell hf hv
    rcases f with _ | _ | _ | f
    · exact Option.some.inj this
    · exact Option.some.inj this
    · exact Option.some.inj this
    · omega
  have hR := hn.row f hf
  rw [hvs] at hR
  have hva : ∀ g, v.ownBlock = some g → own g = some (a, f) := hR.mine
  have hal : a < w.heap.size := h.lt _ _ hn.mine
  let own' : Own := fun k => if v'.ownBlock = some k then some (a, f) else own k
  have hk : ∀ k, k < w.heap.size → own' k = own k := by
    intro k hk
    show (if v'.ownBlock = some k then some (a, f) else own k) = own k
    by_cases e : v'.ownBlock = some k
    · rw [if_pos e]
      rcases hblk with e2 | e2
      · exact (hva k (e2 ▸ e)).symm
      · have := e2 k e; omega
    · rw [if_neg e]
  have hva' : v'.ownBlock ≠ some a := by
    intro e
    rcases hblk with e2 | e2
    · have := (hva a (e2 ▸ e)).symm.trans hn.mine
      injection this with this
      injection this with _ this
      omega
    · have := e2 a e; omega
  have hrows : ∀ b j (u : Value) (xs : List Value), j < 3 → (b, j) ≠ (a, f) → RowAt L w own b j u xs → RowAt L w2 own' b j u xs := by
    intro b j u xs hj hne hr
    refine hr.moved (fun g hg => ?_) (fun g hg => hk g (h.lt _ _ (hr.mine g hg)))
    have ho := hr.mine g hg
    refine hoth g (h.lt _ _ ho) ?_ ?_
    · rintro rfl
      have := ho.symm.trans hn.mine
      injection this with this
      injection this with _ this
      omega
    · intro e
      exact hne (Option.some.inj (ho.symm.trans (hva g e.symm)))
  refine ⟨own', ⟨fun b ndb hb => ?_, fun k o ho => ?_, fun b hb => ?_⟩, hos, htp, hout, hs, hk, fun k hlt hnone => ?_⟩
  · by_cases e : b = a
    · subst e
      rw [upd_same] at hb
      obtain rfl := Option.some.inj hb
      have hc2 := hnode v0 v1 v2 hn.cell
      have hm : own' b = some (b, 3) := (hk b hal).trans hn.mine
      have hnew : RowAt L w2 own' b f v' (nd'.row L f) := ⟨hown, fun g hg => by show (if v'.ownBlock = some g then some (b, f) else own g) = _; rw [if_pos hg]⟩
      have hold : ∀ j, j < 3 → j ≠ f → RowAt L w2 own' b j (slot j v0 v1 v2) (nd'.row L j) := fun j hj hne => by
        rw [hrow j hj hne]
        exact hrows b j _ _ hj (fun e => hne (by injection e)) (hn.row j hj)
      rcases f with _ | _ | _ | f
      · exact ⟨v', v1, v2, hc2, hm, hnew, hold 1 (by omega) (by omega), hold 2 (by omega) (by omega)⟩
      · exact ⟨v0, v', v2, hc2, hm, hold 0 (by omega) (by omega), hnew, hold 2 (by omega) (by omega)⟩
      · exact ⟨v0, v1, v', hc2, hm, hold 0 (by omega) (by omega), hold 1 (by omega) (by omega), hnew⟩
      · omega
    · rw [upd_other _ _ _ _ e] at hb
      obtain ⟨u0, u1, u2, hb⟩ := h.node b ndb hb
      have hbl := h.lt _ _ hb.mine
      refine ⟨u0, u1, u2, .of_rows ((hoth b hbl e ?_).trans hb.cell) ((hk b hbl).trans hb.mine) fun j hj => hrows b j _ _ hj (fun e2 => e (by injection e2)) (hb.row j hj)⟩
      intro e2
      have := (hva b e2.symm).symm.trans hb.mine
      injection this with this
      injection this with _ this
      omega
  · have ho' : (if v'.ownBlock = some k then some (a, f) else own k) = some o := ho
    by_cases e : v'.ownBlock = some k
    · exact own_lt' hown e
    · rw [if_neg e] at ho'
      exact Nat.lt_of_lt_of_le (h.lt k o ho') hs
  · have hb' : (if v'.ownBlock = some b then some (a, f) else own b) = some (b, 3) := hb
    by_cases e : v'.ownBlock = some b
    · rw [if_pos e] at hb'
      injection hb' with hb'
      injection hb' with _ hb'
      omega
    · rw [if_neg e] at hb'
      by_cases e2 : b = a
      · subst e2; rw [upd_same]; simp
      · rw [upd_other _ _ _ _ e2]; exact h.dom b hb'
  · refine hoth k hlt ?_ ?_
    · rintro rfl; rw [hn.mine] at hnone; cases hnone
    · intro e; rw [hva k e.symm] at hnone; cases hnone
/-- A row is stored into a node. -/
theorem Heap.store {L : Lay α} {w w1 : World} {own : Own} {H : HP α} (h : Heap L w own H) {a : Nat} {nd : Nd α} (nd' : Nd α) (ha : H a = some nd) (f : Nat) (hf : f < 3) {v v' : Value}
    (hv : w.cell? ⟨a, f, none⟩ = some v) {ys : List Value} (hop : RowOp w w1 (L.ty f) v v' ys) (hys : nd'.row L f = ys) (hrow : ∀ j, j < 3 → j ≠ f → nd'.row L j = nd.row L j) :
    ∃ own', Heap L (w1.setCell ⟨a, f, none⟩ v') own' (upd H a nd') ∧ Fr own own' w (w1.setCell ⟨a, f, none⟩ v') := by
  obtain ⟨v0, v1, v2, hn⟩ := h.node a nd ha
  have hal : a < w.heap.size := h.lt _ _ hn.mine
  have hvs : slot f v0 v1 v2 = v := by
    have := cell3 hn.cell hf hv
    rcases f with _ | _ | _ | f
    · exact Option.some.inj this
    · exact Option.some.inj this
    · exact Option.some.inj this
    · omega
  have hR := hn.row f hf
  rw [hvs] at hR
  have hav : some a ≠ v.ownBlock := fun e => by
    have := (hR.mine a e.symm).symm.trans hn.mine
    injection this with this
    injection this with _ this
    omega
  have hsc := grown_setCell w1 a f v'
  refine h.change ha f hf hv (hsc.os.trans hop.grow.os) (hsc.tape.trans hop.grow.tape) (hsc.output.trans hop.grow.output) (Nat.le_trans hop.grow.size hsc.size) (fun k hk hka hkv => ?_) (fun u0 u1 u2 hu => ?_) (v' := v') ?_ hop.blk hrow
  · exact (hsc.block k (Nat.lt_of_lt_of_le hk hop.grow.size) (fun e => hka (by injection e))).trans (hop.grow.block k hk hkv)
  · exact heap_setCell3 ((hop.grow.block a hal hav).trans hu) f v'
  · rw [hys]
    refine hop.own.kept hsc (.inr fun e => ?_)
    rcases hop.blk with e2 | e2
    · exact hav (e.symm.trans e2)
    · have := e2 a e; omega
/-- A cell of a row is stored into. -/
theorem Heap.storeCell {L : Lay α} {w : World} {own : Own} {H : HP α} (h : Heap L w own H) {a : Nat} {nd : Nd α} (nd' : Nd α) (ha : H a = some nd) (f : Nat) (hf : f < 3) {g n c i : Nat} {u : Value}
    (hv : w.cell? ⟨a, f, none⟩ = some (.slice (some ⟨g, 0, none⟩) n c)) (hi : i < n) (hys : nd'.row L f = (nd.row L f).set i u) (hrow : ∀ j, j < 3 → j ≠ f → nd'.row L j = nd.row L j) :
    ∃ own', Heap L (w.setCell ⟨g, i, none⟩ u) own' (upd H a nd') ∧ Fr own own' w (w.setCell ⟨g, i, none⟩ u) := by
  obtain ⟨v0, v1, v2, hn⟩ := h.node a nd ha
  have hal : a < w.heap.size := h.lt _ _ hn.mine
  have hvs : slot f v0 v1 v2 = .slice (some ⟨g, 0, none⟩) n c := by
    have := cell3 hn.cell hf hv
    rcases f with _ | _ | _ | f
    · exact Option.some.inj this
    · exact Option.some.inj this
    · exact Option.some.inj this
    · omega
  have hR := hn.row f hf
  rw [hvs] at hR
  have hga : g ≠ a := fun e => by
    have := (hR.mine g rfl).symm.trans (e ▸ hn.mine)
    injection this with this
    injection this with _ this
    omega
  have hsc := grown_setCell w g i u
  have hfm := own_form hR.row
  rcases hfm with ⟨e, _⟩ | ⟨g', cap, cur, e, hg, h1, h2, h3, h4⟩
  · cases e
  injection e with e1 e2 e3
  injection e1 with e1
  injection e1 with e1
  subst e1; subst e2; subst e3
  refine h.change ha f hf hv rfl rfl rfl hsc.size (fun k hk hka hkv => hsc.block k hk hkv) (fun u0 u1 u2 hu => ?_) (v' := .slice (some ⟨g, 0, none⟩) (nd.row L f).length c) ?_ (.inl rfl) hrow
  · have hw := (hsc.block a hal (fun e => hga (by injection e with e; exact e.symm))).trans hu
    rw [hw]
    congr 2
    have := hn.cell.symm.trans hu
    injection this with this
    injection this with this
    rw [← this]
    rcases f with _ | _ | _ | f
    · have : v0 = _ := hvs; subst this; rfl
    · have : v1 = _ := hvs; subst this; rfl
    · have : v2 = _ := hvs; subst this; rfl
    · omega
  · rw [hys, List.length_set]
    refine own_mk (cur := cur.setIfInBounds i u) ?_ h1 h2 (by simpa using h3) ?_
    · rw [setCell_eq_setRow w g i cur _ (0, 0) u hg]; exact setRow_heap w g cur _ _ _ hg
    · rw [Array.toList_setIfInBounds, List.take_set, h4]
/-- A new node. -/
theorem Heap.new {L : Lay α} {w0 w : World} {own : Own} {H : HP α} (h : Heap L w0 own H) (hb : Below w0.heap.size w0 w) (nd : Nd α) {v0 v1 v2 : Value}
    (h0 : w.ownsRow w0.heap.size (L.ty 0) 1 v0 (nd.row L 0).length (nd.row L 0)) (h1 : w.ownsRow w0.heap.size (L.ty 1) 1 v1 (nd.row L 1).length (nd.row L 1)) (h2 : w.ownsRow w0.heap.size (L.ty 2) 1 v2 (nd.row L 2).length (nd.row L 2))
    (n01 : v0.ownBlock = none ∨ v0.ownBlock ≠ v1.ownBlock) (n02 : v2.ownBlock = none ∨ v0.ownBlock ≠ v2.ownBlock ∧ v1.ownBlock ≠ v2.ownBlock) :
    ∃ own', Heap L (w.alloc (.cells #[v0, v1, v2] L.tN)) own' (upd H w.heap.size nd) ∧ Fr own own' w0 (w.alloc (.cells #[v0, v1, v2] L.tN)) ∧ H w.heap.size = none := by
  have ge : ∀ {j : Nat} {v : Value} {n : Nat} {xs : List Value}, w.ownsRow w0.heap.size (L.ty j) 1 v n xs → ∀ g, v.ownBlock = some g → w0.heap.size ≤ g ∧ g < w.heap.size := fun hr g hg => hr.lt g hg
  have hfree : ∀ k, w0.heap.size ≤ k → own k = none := fun k hk => by
    cases e : own k with
    | none => rfl
    | some o => have := h.lt k o e; omega
  let own' : Own := fun k => if k = w.heap.size then some (w.heap.size, 3) else if v0.ownBlock = some k then some (w.heap.size, 0) else if v1.ownBlock = some k then some (w.heap.size, 1) else if v2.ownBlock = some k then some (w.heap.size, 2) else own k
  have hle := hb.size
  have hk : ∀ k, k < w0.heap.size → own' k = own k := fun k hk => by
    show (if k = w.heap.size then some (w.heap.size, 3) else if v0.ownBlock = some k then some (w.heap.size, 0) else if v1.ownBlock = some k then some (w.heap.size, 1) else if v2.ownBlock = some k then some (w.heap.size, 2) else own k) = own k
    rw [if_neg (by omega), if_neg (fun e => by have := ge h0 k e; omega), if_neg (fun e => by have := ge h1 k e; omega), if_neg (fun e => by have := ge h2 k e; omega)]
  have hHn : H w.heap.size = none := by
    cases e : H w.heap.size with
    | none => rfl
    | some nd =>
      obtain ⟨_, _, _, hn⟩ := h.node _ _ e
      have := h.lt _ _ hn.mine
      omega
  have hold : ∀ k, k < w0.heap.size → (w.alloc (.cells #[v0, v1, v2] L.tN)).heap[k]? = w0.heap[k]? := fun k hk' => (Below.heap_alloc w _ k (by omega)).trans (hb.block k hk')
  refine ⟨own', ⟨fun b ndb hbn => ?_, fun k o ho => ?_, fun b hbo => ?_⟩, ⟨hb.os, hb.tape, hb.output, by simp; omega, hk, fun k hlt _ => hold k hlt⟩, hHn⟩
  · by_cases e : b = w.heap.size
    · subst e
      rw [upd_same] at hbn
      obtain rfl := Option.some.inj hbn
      have ro : ∀ {j : Nat} {v : Value} {xs : List Value}, w.ownsRow w0.heap.size (L.ty j) 1 v xs.length xs → (w.alloc (.cells #[v0, v1, v2] L.tN)).ownsRow 0 (L.ty j) 1 v xs.length xs := fun hr => by
        refine ⟨hr.1, ?_⟩
        rcases (hr.alloc (.cells #[v0, v1, v2] L.tN)).2 with hn | ⟨g, cap, cur, hv, _, rest⟩
        · exact .inl hn
        · exact .inr ⟨g, cap, cur, hv, Nat.zero_le _, rest⟩
      refine ⟨v0, v1, v2, heap_alloc_new w _, if_pos rfl, ⟨ro h0, fun g hg => ?_⟩, ⟨ro h1, fun g hg => ?_⟩, ⟨ro h2, fun g hg => ?_⟩⟩
      · have := ge h0 g hg
        show (if g = w.heap.size then some (w.heap.size, 3) else if v0.ownBlock = some g then some (w.heap.size, 0) else _) = _
        rw [if_neg (by omega), if_pos hg]
      · have := ge h1 g hg
        show (if g = w.heap.size then some (w.heap.size, 3) else if v0.ownBlock = some g then some (w.heap.size, 0) else if v1.ownBlock = some g then some (w.heap.size, 1) else _) = _
        rw [if_neg (by omega), if_neg (fun e => ?_), if_pos hg]
        rcases n01 with n | n
        · rw [n] at e; cases e
        · exact n (e.trans hg.symm)
      · have := ge h2 g hg
        show (if g = w.heap.size then some (w.heap.size, 3) else if v0.ownBlock = some g then some (w.heap.size, 0) else if v1.ownBlock = some g then some (w.heap.size, 1) else if v2.ownBlock = some g then some (w.heap.size, 2) else _) = _
        rcases n02 with n | ⟨n, n'⟩
        · rw [n] at hg; cases hg
        · rw [if_neg (by omega), if_neg (fun e => n (e.trans hg.symm)), if_neg (fun e => n' (e.trans hg.symm)), if_pos hg]
    · rw [upd_other _ _ _ _ e] at hbn
      obtain ⟨u0, u1, u2, hbn⟩ := h.node b ndb hbn
      have hbl := h.lt _ _ hbn.mine
      exact ⟨u0, u1, u2, .of_rows ((hold b hbl).trans hbn.cell) ((hk b hbl).trans hbn.mine) fun j hj => (hbn.row j hj).moved (fun g hg => hold g (h.lt _ _ ((hbn.row j hj).mine g hg))) (fun g hg => hk g (h.lt _ _ ((hbn.row j hj).mine g hg)))⟩
  · have ho' : (if k = w.heap.size then some (w.heap.size, 3) else if v0.ownBlock = some k then some (w.heap.size, 0) else if v1.ownBlock = some k then some (w.heap.size, 1) else if v2.ownBlock = some k then some (w.heap.size, 2) else own k) = some o := ho
    rw [World.size_alloc]
    split at ho'
    · omega
    split at ho'
    · have := ge h0 k (by assumption); omega
    split at ho'
    · have := ge h1 k (by assumption); omega
    split at ho'
    · have := ge h2 k (by assumption); omega
    · have := h.lt k o ho'; omega
  · have ho' : (if b = w.heap.size then some (w.heap.size, 3) else if v0.ownBlock = some b then some (w.heap.size, 0) else if v1.ownBlock = some b then some (w.heap.size, 1) else if v2.ownBlock = some b then some (w.heap.size, 2) else own b) = some (b, 3) := hbo
    by_cases e : b = w.heap.size
    · subst e; rw [upd_same]; simp
    · rw [upd_other _ _ _ _ e]
      rw [if_neg e] at ho'
      split at ho'
      · injection ho' with ho'; injection ho' with _ ho'; omega
      split at ho'
      · injection ho' with ho'; injection ho' with _ ho'; omega
      split at ho'
      · injection ho' with ho'; injection ho' with _ ho'; omega
      · exact h.dom b ho'

/-! ### reading -/
theorem Heap.lt_of {L : Lay α} {w : World} {own : Own} {H : HP α} (h : Heap L w own H) {a : Nat} {nd : Nd α} (ha : H a = some nd) : a < w.heap.size := by
  obtain ⟨_, _, _, hn⟩ := h.node a nd ha
  exact h.lt _ _ hn.mine
/-- A node's three slices, as a walk wants them. -/
theorem Heap.slices {L : Lay α} {w : World} {own : Own} {H : HP α} (h : Heap L w own H) {a : Nat} {nd : Nd α} (ha : H a = some nd) : ∃ A0 c0 A1 c1 A2 c2,
    NodeAt L w own a nd (.slice A0 nd.ks.length c0) (.slice A1 nd.vs.length c1) (.slice A2 nd.cs.length c2) ∧ nd.ks.length ≤ c0 ∧ nd.vs.length ≤ c1 ∧ nd.cs.length ≤ c2 := by
  obtain ⟨v0, v1, v2, hn⟩ := h.node a nd ha
  obtain ⟨A0, c0, rfl, l0⟩ := own_slice hn.r0.row
  obtain ⟨A1, c1, rfl, l1⟩ := own_slice hn.r1.row
  obtain ⟨A2, c2, rfl, l2⟩ := own_slice hn.r2.row
  simp only [Nd.row, List.length_map] at hn l0 l1 l2
  exact ⟨A0, c0, A1, c1, A2, c2, hn, l0, l1, l2⟩
theorem NodeAt.cells {L : Lay α} {w : World} {own : Own} {a : Nat} {nd : Nd α} {v0 v1 v2 : Value} (h : NodeAt L w own a nd v0 v1 v2) : w.cell? ⟨a, 0, none⟩ = some v0 ∧ w.cell? ⟨a, 1, none⟩ = some v1 ∧ w.cell? ⟨a, 2, none⟩ = some v2 := by
  refine ⟨?_, ?_, ?_⟩ <;> (rw [cell_of_row w a _ _ L.tN (0, 0) h.cell]; rfl)
theorem NodeAt.frozen {L : Lay α} {w : World} {own : Own} {a : Nat} {nd : Nd α} {v0 v1 v2 : Value} (h : NodeAt L w own a nd v0 v1 v2) (j : Nat) : w.frozen? ⟨a, j, none⟩ = false := by
  simp [World.frozen?, h.cell]
/-- A row that has elements lies in a block; its cells. -/
theorem RowAt.isBlock {L : Lay α} {w : World} {own : Own} {a f : Nat} {A : Option Addr} {n c : Nat} {xs : List Value} (h : RowAt L w own a f (.slice A n c) xs) (hn : 0 < n) :
    ∃ g cur, A = some ⟨g, 0, none⟩ ∧ xs.length = n ∧ n ≤ c ∧ c ≤ maxLen ∧ cur.size = c ∧ w.heap[g]? = some (.cells cur (L.ty f) (0, 0)) ∧ cur.toList.take n = xs ∧ own g = some (a, f) ∧ ∀ j, j < n → w.cell? ⟨g, j, none⟩ = xs[j]? := by
  rcases own_form h.row with ⟨e, _⟩ | ⟨g, cap, cur, e, hg, h1, h2, h3, h4⟩
  · injection e with e1 e2; omega
  injection e with e1 e2 e3
  subst e1; subst e2; subst e3
  refine ⟨g, cur, rfl, rfl, h1, h2, h3, hg, h4, h.mine g rfl, fun j hj => ?_⟩
  rw [cell_of_row w g j _ _ (0, 0) hg, ← h4, List.getElem?_take_of_lt hj, Array.getElem?_toList]
end Go.Proofs.Ytkfcflflgecljaa.H
