/- The stand-in for a disk: what lies where; Blocks, Read, Write, Flush. -/
import Derived.Test.YthgefgjaihagoaaWLast
import Derived.Test.YthgefgjaihagoaaHMake
import Derived.Test.YthgefgjaihagoaaHAnyL
import Derived.Test.YthgefgjaihagoaaHRF
import Derived.Test.YthgefgjaihagoaaProg
import Derived.Deep.QuietTactic
import Derived.BigQuiet
import Derived.Lib.Hide
import Derived.Laws.CopyRow
import Derived.Laws.Tables
set_option linter.unusedVariables false
set_option linter.unusedSimpArgs false
namespace Go.Proofs.Ythgefgjaihagoaa.H
open Go.RowKit Go.Proofs.YthgefgjaihagoaaW.PrintWords Go.Proofs.YthgefgjaihagoaaW.PrintLast
set_option maxRecDepth 100000
/-- A disk lies in D: its blocks g1 (flushed), g2 (read), its loose writes lv. -/
structure DiskAt (w : World) (D g1 g2 : Nat) (sf nw : List ByteArray) (lv : Value) (m : Nat) : Prop where
  cell : ∃ ops, w.heap[D]? = some (.cells #[.slice (some ⟨g1, 0, none⟩) 256 256, .slice (some ⟨g2, 0, none⟩) 256 256, lv, .int .i64 ops, .int .i64 (-1), .bool false] 95 (0, 0))
  safe : w.heap[g1]? = some (.cells (sf.map Value.string).toArray 9 (0, 0))
  now : w.heap[g2]? = some (.cells (nw.map Value.string).toArray 9 (0, 0))
  l1 : sf.length = 256
  l2 : nw.length = 256
  d12 : g1 ≠ g2
  loose : ∃ n inner, w.ownsRow 0 100 2 lv n inner ∧ n ≤ m
/-- What becomes of the rest. -/
structure DKeep (D g1 g2 : Nat) (lv lv' : Value) (w w' : World) : Prop where
  os : w'.os = w.os
  tape : w'.tape = w.tape
  output : w'.output = w.output
  size : w.heap.size ≤ w'.heap.size
  same : ∀ k, k < w.heap.size → k ≠ D → k ≠ g1 → k ≠ g2 → some k ≠ lv.ownBlock → w'.heap[k]? = w.heap[k]?
  lvb : ∀ g, lv'.ownBlock = some g → lv.ownBlock = some g ∨ w.heap.size ≤ g
theorem DKeep.refl (D g1 g2 : Nat) (lv : Value) (w : World) : DKeep D g1 g2 lv lv w w := ⟨rfl, rfl, rfl, Nat.le_refl _, fun _ _ _ _ _ _ => rfl, fun g h => .inl h⟩
theorem DKeep.trans {D g1 g2 : Nat} {l1 l2 l3 : Value} {A B C : World} (h : DKeep D g1 g2 l1 l2 A B) (k : DKeep D g1 g2 l2 l3 B C) : DKeep D g1 g2 l1 l3 A C :=
  ⟨k.os.trans h.os, k.tape.trans h.tape, k.output.trans h.output, Nat.le_trans h.size k.size, fun i hi h1 h2 h3 h4 =>
    (k.same i (Nat.lt_of_lt_of_le hi h.size) h1 h2 h3 (fun e => by
      rcases h.lvb i e.symm with h5 | h5
      · exact h4 h5.symm
      · omega)).trans (h.same i hi h1 h2 h3 h4),
    fun g hg => by
      rcases k.lvb g hg with h5 | h5
      · exact h.lvb g h5
      · exact .inr (Nat.le_trans h.size h5)⟩
theorem DKeep.of_below {D g1 g2 : Nat} {lv : Value} {w w' : World} (h : Below w.heap.size w w') : DKeep D g1 g2 lv lv w w' :=
  ⟨h.os, h.tape, h.output, h.size, fun k hk _ _ _ _ => h.block k hk, fun g h => .inl h⟩
section
variable {w w' : World} {D g1 g2 m : Nat} {sf nw : List ByteArray} {lv : Value}
theorem DiskAt.still (h : DiskAt w D g1 g2 sf nw lv m) (hb : Below w.heap.size w w') : DiskAt w' D g1 g2 sf nw lv m := by
  obtain ⟨ops, hc⟩ := h.cell
  obtain ⟨n, inner, ho, hn⟩ := h.loose
  exact ⟨⟨ops, (hb.block D (Array.getElem?_eq_some_iff.1 hc).1).trans hc⟩, (hb.block g1 (Array.getElem?_eq_some_iff.1 h.safe).1).trans h.safe, (hb.block g2 (Array.getElem?_eq_some_iff.1 h.now).1).trans h.now, h.l1, h.l2, h.d12,
    n, inner, own_move ho (fun k hk => hb.block k (own_lt ho k hk)), hn⟩
theorem DiskAt.ne (h : DiskAt w D g1 g2 sf nw lv m) : D ≠ g1 ∧ D ≠ g2 ∧ (∀ g, lv.ownBlock = some g → g ≠ D ∧ g ≠ g1 ∧ g ≠ g2) := by
  obtain ⟨ops, hc⟩ := h.cell
  obtain ⟨n, inner, ho, _⟩ := h.loose
  refine ⟨?_, ?_, fun g hg => ?_⟩
  · rintro rfl
    have := hc.symm.trans h.safe
    injection this with this; injection this with _ this; exact absurd this (by decide)
  · rintro rfl
    have := hc.symm.trans h.now
    injection this with this; injection this with _ this; exact absurd this (by decide)
  · obtain ⟨cells, hg'⟩ := own_typed ho g hg
    refine ⟨?_, ?_, ?_⟩ <;> rintro rfl
    · have := hc.symm.trans hg'
      injection this with this; injection this with _ this; exact absurd this (by decide)
    · have := h.safe.symm.trans hg'
      injection this with this; injection this with _ this; exact absurd this (by decide)
    · have := h.now.symm.trans hg'
      injection this with this; injection this with _ this; exact absurd this (by decide)
theorem DiskAt.lt (h : DiskAt w D g1 g2 sf nw lv m) : D < w.heap.size ∧ g1 < w.heap.size ∧ g2 < w.heap.size := by
  obtain ⟨ops, hc⟩ := h.cell
  exact ⟨(Array.getElem?_eq_some_iff.1 hc).1, (Array.getElem?_eq_some_iff.1 h.safe).1, (Array.getElem?_eq_some_iff.1 h.now).1⟩
theorem DiskAt.fields (h : DiskAt w D g1 g2 sf nw lv m) : ∃ ops, w.cell? ⟨D, 0, none⟩ = some (.slice (some ⟨g1, 0, none⟩) 256 256) ∧ w.cell? ⟨D, 1, none⟩ = some (.slice (some ⟨g2, 0, none⟩) 256 256) ∧ w.cell? ⟨D, 2, none⟩ = some lv ∧ w.cell? ⟨D, 3, none⟩ = some (.int .i64 ops) ∧
    w.cell? ⟨D, 4, none⟩ = some (.int .i64 (-1)) ∧ w.cell? ⟨D, 5, none⟩ = some (.bool false) ∧ ∀ j, w.frozen? ⟨D, j, none⟩ = false := by
  obtain ⟨ops, hc⟩ := h.cell
  refine ⟨ops, ?_, ?_, ?_, ?_, ?_, ?_, fun j => Lib.frozen_of_heap hc j⟩ <;> (rw [Lib.cell_of_heap hc]; rfl)
end
set_option maxHeartbeats 4000000 in
theorem doff.calls {D g1 g2 m : Nat} {sf nw : List ByteArray} {lv : Value} (w : World) (h : DiskAt w D g1 g2 sf nw lv m) :
    Calls Try.prog 76 #[.pointer (some ⟨D, 0, none⟩)] w (fun e w' => e = .returned (.bool false) ∧ Below w.heap.size w w') := by
  obtain ⟨ops, c0, c1, c2, c3, c4, c5, fz⟩ := h.fields
  have HB := Aside0.mk (show ∀ q, Below w.heap.size w (w.drewN q) from fun q => pw_below_drewN (Below.refl _ w) q)
  have HB0 := Aside0.mk (Below.refl w.heap.size w)
  clear h c0 c1 c2
  go_enter Try.func76, Try.ntmps76
  go_wp2_with fail
  go_quiet (fail)
  have HQ := Aside0.mk (HB.out nq)
  go_wp2_with fail
  first | exact ⟨rfl, HQ.out⟩ | (go_ret; exact ⟨rfl, HQ.out⟩)
theorem dblocks.calls {D g1 g2 m : Nat} {sf nw : List ByteArray} {lv : Value} (w : World) (h : DiskAt w D g1 g2 sf nw lv m) :
    Calls Try.prog 32 #[.pointer (some ⟨D, 0, none⟩)] w (fun e w' => e = .returned (.int .i64 256) ∧ w' = w) := by
  obtain ⟨ops, c0, c1, c2, c3, c4, c5, fz⟩ := h.fields
  clear h c0 c2 c3 c4 c5 fz
  go_enter Try.func32, Try.ntmps32
  go_wp2_with fail
  first | exact ⟨rfl, rfl⟩ | (go_ret; exact ⟨rfl, rfl⟩)
theorem hset {w : World} {b ty : Nat} {cur : Array Value} (hc : w.heap[b]? = some (.cells cur ty (0, 0))) (j : Nat) (v : Value) : (w.setCell ⟨b, j, none⟩ v).heap[b]? = some (.cells (cur.setIfInBounds j v) ty (0, 0)) := by
  rw [setCell_eq_setRow w b j _ ty (0, 0) v hc]
  exact setRow_heap w b _ _ ty _ hc
theorem hfar (w : World) (b j k : Nat) (v : Value) (h : k ≠ b) : (w.setCell ⟨b, j, none⟩ v).heap[k]? = w.heap[k]? := Below.heap_setCell w ⟨b, j, none⟩ v k h
theorem hsize (w : World) (b j : Nat) (v : Value) : (w.setCell ⟨b, j, none⟩ v).heap.size = w.heap.size := by simp
theorem DiskAt.wrote {w w1 : World} {D g1 g2 m : Nat} {sf nw : List ByteArray} {lv lv' : Value} (h : DiskAt w D g1 g2 sf nw lv m) (p : Nat) (hp : p < 256) (s : ByteArray) {n : Nat} {inner : List Value} (hg : w.grownBy w1 lv.ownBlock)
    (ho : w1.ownsRow 0 100 2 lv' n inner) {m' : Nat} (hn : n ≤ m') (hat : lv'.ownBlock = lv.ownBlock ∨ ∃ b, lv'.ownBlock = some b ∧ w.heap.size ≤ b) (ops : Int) :
    DiskAt (((w1.setCell ⟨D, 2, none⟩ lv').setCell ⟨g2, p, none⟩ (.string s)).setCell ⟨D, 3, none⟩ (.int .i64 ops)) D g1 g2 sf (nw.set p s) lv' m' ∧ DKeep D g1 g2 lv lv' w (((w1.setCell ⟨D, 2, none⟩ lv').setCell ⟨g2, p, none⟩ (.string s)).setCell ⟨D, 3, none⟩ (.int .i64 ops)) := by
  obtain ⟨ne1, ne2, ne3⟩ := h.ne
  obtain ⟨lD, lg1, lg2⟩ := h.lt
  obtain ⟨ops0, hc⟩ := h.cell
  have hlb : ∀ g, lv'.ownBlock = some g → g ≠ D ∧ g ≠ g1 ∧ g ≠ g2 := fun g hgb => by
    rcases hat with e | ⟨b, e, hb⟩
    · exact ne3 g (e ▸ hgb)
    · rw [e] at hgb; injection hgb with hgb; subst hgb
      refine ⟨by omega, by omega, by omega⟩
  have keep : ∀ k, k < w.heap.size → some k ≠ lv.ownBlock → w1.heap[k]? = w.heap[k]? := fun k hk hne => hg.block k hk hne
  have d1 : w1.heap[D]? = _ := (keep D lD (fun e => (ne3 D e.symm).1 rfl)).trans hc
  have s1 : w1.heap[g1]? = _ := (keep g1 lg1 (fun e => (ne3 g1 e.symm).2.1 rfl)).trans h.safe
  have n1 : w1.heap[g2]? = _ := (keep g2 lg2 (fun e => (ne3 g2 e.symm).2.2 rfl)).trans h.now
  refine ⟨⟨⟨ops, ?_⟩, ?_, ?_, h.l1, by rw [List.length_set]; exact h.l2, h.d12, n, inner, ?_, hn⟩, ?_⟩
  · have e1 := hset d1 2 lv'
    have e2 : ((w1.setCell ⟨D, 2, none⟩ lv').setCell ⟨g2, p, none⟩ (.string s)).heap[D]? = _ := (hfar _ g2 p D _ ne2).trans e1
    have e3 := hset e2 3 (.int .i64 ops)
    exact e3
  · rw [hfar _ D 3 g1 _ (Ne.symm ne1), hfar _ g2 p g1 _ h.d12, hfar _ D 2 g1 _ (Ne.symm ne1)]; exact s1
  · have e1 : (w1.setCell ⟨D, 2, none⟩ lv').heap[g2]? = _ := (hfar _ D 2 g2 _ (Ne.symm ne2)).trans n1
    have e2 := hset e1 p (.string s)
    rw [hfar _ D 3 g2 _ (Ne.symm ne2), e2]
    congr 2
    rw [List.map_set, List.setIfInBounds_toArray]
  · refine own_move ho fun k hk => ?_
    obtain ⟨a1, a2, a3⟩ := hlb k hk
    rw [hfar _ D 3 k _ a1, hfar _ g2 p k _ a3, hfar _ D 2 k _ a1]
  · refine ⟨hg.os, hg.tape, hg.output, by rw [hsize, hsize, hsize]; exact hg.size, fun k hk h1 h2 h3 h4 => ?_, fun g hgb => ?_⟩
    · rw [hfar _ D 3 k _ h1, hfar _ g2 p k _ h3, hfar _ D 2 k _ h1]; exact keep k hk h4
    · rcases hat with e | ⟨b, e, hb⟩
      · exact .inl (e ▸ hgb)
      · rw [e] at hgb; injection hgb with hgb; exact .inr (by omega)
theorem sWrite : (Try.prog.info? 100).map (fun i => (i.zero, i.size, i.bytes)) = some (some (.agg #[.int .i64 0, .string ⟨#[]⟩]), 2, 24) := by kernel_rfl
theorem gateD {P : Program} {ops : Array Oper} {rest : List Oper} {o : Oper} {a : Act} {Q : Exit → Act → World → Prop} {W : World} {b : Builtin} {xs : Array Operand} {ts : Array TypeId} (_ho : o.op = .call { callee := .builtin b, args := xs, argTypes := ts }) (h : wpList P ops Q (o :: rest) a W) : wpList P ops Q (o :: rest) a W := h
set_option maxHeartbeats 8000000 in
theorem dwrite.calls {D g1 g2 m : Nat} {sf nw : List ByteArray} {lv : Value} (w : World) (h : DiskAt w D g1 g2 sf nw lv m) (hm : m ≤ 1000) (p : Nat) (hp : p < 256) (s : ByteArray) (hs : s.size = 512) :
    Calls Try.prog 37 #[.pointer (some ⟨D, 0, none⟩), .int .i64 (p : Int), .string s] w (fun e w' => ∃ lv', e = .returned (.int .i64 0) ∧ DiskAt w' D g1 g2 sf (nw.set p s) lv' (m + 1) ∧ DKeep D g1 g2 lv lv' w w') := by
  obtain ⟨n, inner, ho, hn⟩ := h.loose
  have HOF := Aside0.mk (doff.calls w h)
  have HD := Aside0.mk h
  have HO := Aside0.mk ho
  have HNN := Aside0.mk hn
  have hu := Try.underlying100
  have hss : ((s.size : Int) != 512) = false := by simp [hs]
  have hp0 : decide ((p : Int) < 0) = false := decide_eq_false (by omega)
  have hp1 : decide ((256 : Int) ≤ (p : Int)) = false := decide_eq_false (by omega)
  have hp2 : (0 : Int) ≤ (p : Int) := by omega
  have hp3 : (p : Int) < 256 := by omega
  clear h ho hn
  go_enter Try.func37, Try.ntmps37
  go_wp2_with fail
  refine HOF.out.mono ?_
  rintro e w1 ⟨rfl, hb1⟩
  have D1 := HD.out.still hb1
  obtain ⟨ops, c0, c1, c2, c3, c4, c5, fz⟩ := D1.fields
  have HD1 := Aside0.mk D1
  have HO1 := Aside0.mk (own_move HO.out (fun k hk => hb1.block k (own_lt HO.out k hk)))
  have HB1 := Aside0.mk hb1
  clear hb1 D1 HOF HD
  go_wp2_with (first
    | ((with_reducible refine gateD (b := .append) (xs := #[.tmp 33, .tmp 37]) rfl ?_); at_builtin; refine Aside0.out ?_))
  refine ⟨?_⟩
  refine print_append_cells (w0 := w1) 0 rfl (.tmp 33) (.tmp 37) 93 100 (.agg #[.int .i64 0, .string ⟨#[]⟩]) 2 24 rfl Try.underlying93 sWrite rfl (by decide) (by omega) lv n inner [.int .i64 (p : Int), .string s] rfl rfl rfl (by intro u hu; rcases List.mem_cons.1 hu with rfl | hu; rfl; rcases List.mem_cons.1 hu with rfl | hu; rfl; simp at hu) HO1.out (Below.refl 0 w1) (Nat.zero_le _) (by have := HNN.out; omega) ?_
  intro lv' w2 ho2 hb2 hg2 hat2
  obtain ⟨g', cap', rfl⟩ := ownsRow_succ ho2
  obtain ⟨R1, R2⟩ := HD1.out.wrote p hp s hg2 ho2 (m' := m + 1) (by have := HNN.out; omega) hat2 (wrap64 (ops + 1))
  have hD2 : ∀ k, k < w1.heap.size → some k ≠ lv.ownBlock → w2.heap[k]? = w1.heap[k]? := fun k hk hne => hg2.block k hk hne
  obtain ⟨ne1, ne2, ne3⟩ := HD1.out.ne
  obtain ⟨lD, lg1, lg2⟩ := HD1.out.lt
  have kD := hD2 D lD (fun e => (ne3 D e.symm).1 rfl)
  have kG := hD2 g2 lg2 (fun e => (ne3 g2 e.symm).2.2 rfl)
  obtain ⟨W2, hW2⟩ : ∃ W2, w2.setCell ⟨D, 2, none⟩ (.slice (some ⟨g', 0, none⟩) (n + 1) cap') = W2 := ⟨_, rfl⟩
  obtain ⟨W3, hW3⟩ : ∃ W3, W2.setCell ⟨g2, p, none⟩ (.string s) = W3 := ⟨_, rfl⟩
  have a2 : w2.cell? ⟨D, 2, none⟩ = some lv := (World.cell?_of_block kD).trans c2
  have af : w2.frozen? ⟨D, 2, none⟩ = false := (World.frozen?_of_block kD).trans (fz 2)
  have b1 : W2.cell? ⟨D, 1, none⟩ = some (.slice (some ⟨g2, 0, none⟩) 256 256) := by
    rw [← hW2, World.cell?_setCell_other w2 _ _ _ (by intro e; injection e with _ e; omega)]; exact (World.cell?_of_block kD).trans c1
  have kG2 : W2.heap[g2]? = some (.cells (nw.map Value.string).toArray 9 (0, 0)) := by rw [← hW2, hfar _ D 2 g2 _ (Ne.symm ne2)]; exact kG.trans HD1.out.now
  have bf : W2.frozen? ⟨g2, p, none⟩ = false := Lib.frozen_of_heap kG2 p
  have b2 : W2.cell? ⟨g2, p, none⟩ = some (.string (nw[p]'(by rw [HD1.out.l2]; exact hp))) := by
    rw [Lib.cell_of_heap kG2]
    simp [HD1.out.l2, hp]
  have kD3 : W3.heap[D]? = W2.heap[D]? := by rw [← hW3]; exact hfar _ g2 p D _ ne2
  have d3 : W3.cell? ⟨D, 3, none⟩ = some (.int .i64 ops) := by
    refine (World.cell?_of_block kD3).trans ?_
    rw [← hW2, World.cell?_setCell_other w2 _ _ _ (by intro e; injection e with _ e; omega)]; exact (World.cell?_of_block kD).trans c3
  have df : W3.frozen? ⟨D, 3, none⟩ = false := by
    refine (World.frozen?_of_block kD3).trans ?_
    rw [← hW2]
    exact (World.frozen?_setCells D [_] 2 w2 _).trans ((World.frozen?_of_block kD).trans (fz 3))
  rw [hW2, hW3] at R1 R2
  have HR := Aside0.mk (And.intro R1 R2)
  have HK := Aside0.mk (show DKeep D g1 g2 lv lv w w1 from DKeep.of_below HB1.out)
  clear R1 R2 hD2 kD kG kG2 kD3 ho2 hb2 hg2 hat2 ne3 c0 c1 c2 c3 c4 c5 fz
  go_wp2_with fail
  go_ret
  exact ⟨_, rfl, HR.out.1, HK.out.trans HR.out.2⟩
theorem dread.calls {D g1 g2 m : Nat} {sf nw : List ByteArray} {lv : Value} (w : World) (h : DiskAt w D g1 g2 sf nw lv m) (p : Nat) (hp : p < 256) (s : ByteArray) (hs : nw.getD p ⟨#[]⟩ = s) :
    Calls Try.prog 13 #[.pointer (some ⟨D, 0, none⟩), .int .i64 (p : Int)] w (fun e w' => e = .returned (.tuple #[.string s, .int .i64 0]) ∧ w' = w) := by
  obtain ⟨ops, c0, c1, c2, c3, c4, c5, fz⟩ := h.fields
  have b2 : w.cell? ⟨g2, p, none⟩ = some (.string s) := by
    rw [Lib.cell_of_heap h.now, ← hs, List.getD_eq_getElem?_getD]
    simp [h.l2, hp]
  have hp0 : decide ((p : Int) < 0) = false := decide_eq_false (by omega)
  have hp1 : decide ((256 : Int) ≤ (p : Int)) = false := decide_eq_false (by omega)
  have hp2 : (0 : Int) ≤ (p : Int) := by omega
  have hp3 : (p : Int) < 256 := by omega
  clear h c0 c2 c3 c4 c5 fz hs
  go_enter Try.func13, Try.ntmps13
  go_wp2_with fail
  first | exact ⟨rfl, rfl⟩ | (go_ret2; exact ⟨rfl, rfl⟩)
theorem infoS : (Try.prog.info? 9).map (·.size) = some 1 := by kernel_rfl
set_option maxHeartbeats 8000000 in
theorem dflush.calls {D g1 g2 m : Nat} {sf nw : List ByteArray} {lv : Value} (w : World) (h : DiskAt w D g1 g2 sf nw lv m) :
    Calls Try.prog 39 #[.pointer (some ⟨D, 0, none⟩)] w (fun e w' => e = .returned (.int .i64 0) ∧ DiskAt w' D g1 g2 nw nw (.slice none 0 0) 0 ∧ DKeep D g1 g2 lv (.slice none 0 0) w w') := by
  have HOF := Aside0.mk (doff.calls w h)
  have HD := Aside0.mk h
  clear h
  go_enter Try.func39, Try.ntmps39
  go_wp2_with fail
  refine HOF.out.mono ?_
  rintro e w1 ⟨rfl, hb1⟩
  have D1 := HD.out.still hb1
  obtain ⟨ops, c0, c1, c2, c3, c4, c5, fz⟩ := D1.fields
  have HD1 := Aside0.mk D1
  have HB1 := Aside0.mk hb1
  clear hb1 D1 HOF HD c4 c5
  go_wp2_with fail
  refine startL (fun W => W.cell? ⟨D, 0, none⟩ = some (.slice (some ⟨g1, 0, none⟩) 256 256) ∧ W.cell? ⟨D, 1, none⟩ = some (.slice (some ⟨g2, 0, none⟩) 256 256)) [] (by kernel_rfl) ?_
  change WalkL _ _ _ _ _ _ 9 #[false, false, false, false, false, false, false, false, false] _ _
  have hS : w1.drew.cell? ⟨D, 0, none⟩ = some (.slice (some ⟨g1, 0, none⟩) 256 256) ∧ w1.drew.cell? ⟨D, 1, none⟩ = some (.slice (some ⟨g2, 0, none⟩) 256 256) := ⟨c0, c1⟩
  refine pu 0 (.pointer (some ⟨D, 0, none⟩)) hS rfl ?_
  refine pu 1 (.pointer (some ⟨D, 0, none⟩)) hS rfl ?_
  refine pu 2 (.pointer (some ⟨D, 0, none⟩)) hS rfl ?_
  refine ld 3 (.slice (some ⟨g1, 0, none⟩) 256 256) hS rfl ?_
  refine pu 4 (.pointer (some ⟨D, 0, none⟩)) hS rfl ?_
  refine pu 5 (.pointer (some ⟨D, 0, none⟩)) hS rfl ?_
  refine pu 6 (.pointer (some ⟨D, 1, none⟩)) hS rfl ?_
  refine ld 7 (.slice (some ⟨g2, 0, none⟩) 256 256) hS rfl ?_
  have hlen : (nw.map Value.string).length = 256 := by rw [List.length_map]; exact HD1.out.l2
  have hcp : ∀ ty, (Builtin.copy_ #[35, 35] ty #[.slice (some ⟨g1, 0, none⟩) 256 256, .slice (some ⟨g2, 0, none⟩) 256 256]).run Try.prog w1.drew = .ok (goInt 256) (w1.drew.setRow g1 (nw.map Value.string).toArray) := fun ty => by
    have hh := run_copy_row (P := Try.prog) w1.drew 35 35 ty 9 g1 0 256 256 ⟨g2, 0, none⟩ 256 256 (sf.map Value.string).toArray 9 (nw.map Value.string) Try.underlying35 infoS HD1.out.safe (by rw [hlen]; rfl) (fun j v hj => by
      have e : w1.drew.cell? ((⟨g2, 0, none⟩ : Addr).add j) = w1.cell? ⟨g2, j, none⟩ := by rw [add_at, Nat.zero_add]; rfl
      rw [e, Lib.cell_of_heap HD1.out.now]
      simpa using hj) (by rw [hlen]; simp [HD1.out.l1]) (fun v hv => by obtain ⟨x, _, rfl⟩ := List.mem_map.1 hv; rfl)
    rw [hlen] at hh
    rw [hh]
    congr 2
    rw [List.take_zero, List.nil_append, List.drop_eq_nil_of_le (by simp [HD1.out.l1]), List.append_nil]
  obtain ⟨ne1, ne2, ne3⟩ := HD1.out.ne
  obtain ⟨lD, lg1, lg2⟩ := HD1.out.lt
  obtain ⟨W2, hW2⟩ : ∃ W2, w1.drew.setRow g1 (nw.map Value.string).toArray = W2 := ⟨_, rfl⟩
  rw [hW2] at hcp
  have hk : ∀ k, k ≠ g1 → W2.heap[k]? = w1.heap[k]? := fun k hne => by rw [← hW2]; exact setRow_other w1.drew g1 k _ hne
  have hg1 : W2.heap[g1]? = some (.cells (nw.map Value.string).toArray 9 (0, 0)) := by rw [← hW2]; exact setRow_heap w1.drew g1 _ _ 9 (0, 0) HD1.out.safe
  have hz2 : W2.heap.size = w1.heap.size := by rw [← hW2]; simp
  have hos : W2.os = w1.os ∧ W2.tape = w1.tape ∧ W2.output = w1.output := by rw [← hW2]; exact ⟨rfl, rfl, rfl⟩
  have hS2 : W2.cell? ⟨D, 0, none⟩ = some (.slice (some ⟨g1, 0, none⟩) 256 256) ∧ W2.cell? ⟨D, 1, none⟩ = some (.slice (some ⟨g2, 0, none⟩) 256 256) := ⟨(World.cell?_of_block (hk D ne1)).trans c0, (World.cell?_of_block (hk D ne1)).trans c1⟩
  refine vl 8 (goInt 256) (hcp 3) (by kernel_rfl) rfl hS2 ?_
  refine doneL (by kernel_rfl) ?_ _
  obtain ⟨ops', hc⟩ := HD1.out.cell
  have hD2 : W2.heap[D]? = _ := (hk D ne1).trans hc
  have a2 : W2.cell? ⟨D, 2, none⟩ = some lv := (World.cell?_of_block (hk D ne1)).trans c2
  have af : W2.frozen? ⟨D, 2, none⟩ = false := (World.frozen?_of_block (hk D ne1)).trans (fz 2)
  obtain ⟨W3, hW3⟩ : ∃ W3, W2.setCell ⟨D, 2, none⟩ (.slice none 0 0) = W3 := ⟨_, rfl⟩
  have hD3 := hset hD2 2 (.slice none 0 0)
  rw [hW3] at hD3
  have d3 : W3.cell? ⟨D, 3, none⟩ = some (.int .i64 ops) := by
    rw [← hW3, World.cell?_setCell_other W2 _ _ _ (by intro e; injection e with _ e; omega)]; exact (World.cell?_of_block (hk D ne1)).trans c3
  have df : W3.frozen? ⟨D, 3, none⟩ = false := by
    rw [← hW3]
    exact (World.frozen?_setCells D [_] 2 W2 _).trans ((World.frozen?_of_block (hk D ne1)).trans (fz 3))
  have hD4 := hset hD3 3 (.int .i64 (wrap64 (ops + 1)))
  have hk4 : ∀ k, k ≠ D → (W3.setCell ⟨D, 3, none⟩ (.int .i64 (wrap64 (ops + 1)))).heap[k]? = W2.heap[k]? := fun k hne => by rw [hfar _ D 3 k _ hne, ← hW3, hfar _ D 2 k _ hne]
  have hz4 : (W3.setCell ⟨D, 3, none⟩ (.int .i64 (wrap64 (ops + 1)))).heap.size = w1.heap.size := by rw [hsize, ← hW3, hsize, hz2]
  have R1 : DiskAt (W3.setCell ⟨D, 3, none⟩ (.int .i64 (wrap64 (ops + 1)))) D g1 g2 nw nw (.slice none 0 0) 0 :=
    ⟨⟨_, hD4⟩, (hk4 g1 (Ne.symm ne1)).trans hg1, (hk4 g2 (Ne.symm ne2)).trans ((hk g2 (Ne.symm HD1.out.d12)).trans HD1.out.now), HD1.out.l2, HD1.out.l2, HD1.out.d12, 0, [], World.ownsRow_nil _ _ _ _, Nat.le_refl _⟩
  have R2 : DKeep D g1 g2 lv (.slice none 0 0) w (W3.setCell ⟨D, 3, none⟩ (.int .i64 (wrap64 (ops + 1)))) := by
    have hb := HB1.out
    refine ⟨?_, ?_, ?_, by rw [hz4]; exact hb.size, fun k hk' h1 h2 h3 _ => ?_, fun g hg => by simp [Value.ownBlock] at hg⟩
    · rw [← hW3]; exact hos.1.trans hb.os
    · rw [← hW3]; exact hos.2.1.trans hb.tape
    · rw [← hW3]; exact hos.2.2.trans hb.output
    · rw [hk4 k h1, hk k h2]; exact hb.block k hk'
  have HR := Aside0.mk (And.intro R1 R2)
  clear R1 R2 hk4 hz4 hD4 hD3 hD2 hk hg1 hz2 hos hS2 hcp hlen hS ne3 hc c0 c1 c2 c3 fz
  go_wp2_with fail
  first | exact ⟨rfl, HR.out⟩ | (go_ret; exact ⟨rfl, HR.out⟩)
end Go.Proofs.Ythgefgjaihagoaa.H
