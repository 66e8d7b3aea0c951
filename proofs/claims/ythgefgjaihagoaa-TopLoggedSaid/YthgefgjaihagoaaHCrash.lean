/- disk.Crash of a disk without loose writes. -/
import Derived.Test.YthgefgjaihagoaaHDiskR
import Derived.Test.YthgefgjaihagoaaHRW
import Derived.RangeFuncBox
import Derived.Lib.LazyBuf
import Derived.Lib.SliceRun
import Derived.Lib.AppendZerosOnto
import Derived.Maps.AppendAt
set_option linter.unusedVariables false
set_option linter.unusedSimpArgs false
namespace Go.Proofs.Ythgefgjaihagoaa.Q
open Go.RowKit Go.Proofs.Ythgefgjaihagoaa.H Go.Proofs.YthgefgjaihagoaaW.PrintWords Go.Proofs.YthgefgjaihagoaaW.PrintLast
set_option maxRecDepth 100000
attribute [local go_sem] Oper.semAt_some
/-- What a disk reads. -/
def ReadAt (w : World) (D : Nat) (nw : List ByteArray) : Prop := ∃ g2, w.cell? ⟨D, 1, none⟩ = some (.slice (some ⟨g2, 0, none⟩) 256 256) ∧ w.heap[g2]? = some (.cells (nw.map Value.string).toArray 9 (0, 0)) ∧ nw.length = 256
theorem ReadAt.still {w w' : World} {D : Nat} {nw : List ByteArray} (h : ReadAt w D nw) (hb : Below w.heap.size w w') : ReadAt w' D nw := by
  obtain ⟨g2, h1, h2, h3⟩ := h
  exact ⟨g2, (hb.cell (World.block_lt_of_cell? w _ h1)).trans h1, (hb.block g2 (Array.getElem?_eq_some_iff.1 h2).1).trans h2, h3⟩
theorem ReadAt.read {nw : List ByteArray} {D : Nat} (w : World) (h : ReadAt w D nw) (p : Nat) (hp : p < 256) (s : ByteArray) (hs : nw.getD p ⟨#[]⟩ = s) :
    Calls Try.prog 13 #[.pointer (some ⟨D, 0, none⟩), .int .i64 (p : Int)] w (fun e w' => e = .returned (.tuple #[.string s, .int .i64 0]) ∧ w' = w) := by
  obtain ⟨g2, c1, hn, hl⟩ := h
  have b2 : w.cell? ⟨g2, p, none⟩ = some (.string s) := by
    rw [Lib.cell_of_heap hn, ← hs, List.getD_eq_getElem?_getD]
    simp [hl, hp]
  have hp0 : decide ((p : Int) < 0) = false := decide_eq_false (by omega)
  have hp1 : decide ((256 : Int) ≤ (p : Int)) = false := decide_eq_false (by omega)
  have hp2 : (0 : Int) ≤ (p : Int) := by omega
  have hp3 : (p : Int) < 256 := by omega
  clear hs hn hl
  go_enter Try.func13, Try.ntmps13
  go_wp2_with fail
  first | exact ⟨rfl, rfl⟩ | (go_ret2; exact ⟨rfl, rfl⟩)
set_option maxHeartbeats 8000000 in
theorem dof2.calls (g1 c : Nat) (sf : List ByteArray) (w : World) (hg : ∀ j u, (sf.map Value.string)[j]? = some u → w.cell? ⟨g1, j, none⟩ = some u) (hl : sf.length = 256) :
    Calls Try.prog 29 #[.slice (some ⟨g1, 0, none⟩) 256 c] w (fun e w' => ∃ D, e = .returned (.pointer (some ⟨D, 0, none⟩)) ∧ ReadAt w' D sf ∧ Below w.heap.size w w') := by
  have hmk := mk256 w
  obtain ⟨G, hG⟩ : ∃ G, w.heap.size = G := ⟨_, rfl⟩
  obtain ⟨w1, hw1⟩ : ∃ w1, w.alloc (.cells ((List.replicate 256 (⟨#[]⟩ : ByteArray)).map Value.string).toArray 9) = w1 := ⟨_, rfl⟩
  rw [hw1, hG] at hmk
  have hb1 : Below G w w1 := by rw [← hw1]; exact (Below.refl G w).alloc (by omega) _
  have h1 : w1.heap[G]? = some (.cells ((List.replicate 256 (⟨#[]⟩ : ByteArray)).map Value.string).toArray 9 (0, 0)) := by
    rw [← hw1, ← hG]; show (w.heap.push _)[w.heap.size]? = _; exact Array.getElem?_push_size
  have h2 : ∀ j u, (sf.map Value.string)[j]? = some u → w1.cell? ⟨g1, j, none⟩ = some u := fun j u hj => (hb1.cell (by have := World.block_lt_of_cell? w _ (hg j u hj); rw [hG] at this; exact this)).trans (hg j u hj)
  have hs1 : w1.heap.size = G + 1 := by rw [← hw1]; simp [hG]
  have hlen : (sf.map Value.string).length = 256 := by rw [List.length_map]; exact hl
  have hcp : ∀ ty, (Builtin.copy_ #[35, 35] ty #[.slice (some ⟨G, 0, none⟩) 256 256, .slice (some ⟨g1, 0, none⟩) 256 c]).run Try.prog w1 = .ok (goInt 256) (w1.setRow G (sf.map Value.string).toArray) := fun ty => by
    have hh := run_copy_row (P := Try.prog) w1 35 35 ty 9 G 0 256 256 ⟨g1, 0, none⟩ 256 c _ 9 (sf.map Value.string) Try.underlying35 infoS h1 (by rw [hlen]; rfl) (fun j v hj => by
      rw [add_at, Nat.zero_add]
      exact h2 j v hj) (by rw [hlen]; simp) (fun v hv => by obtain ⟨x, _, rfl⟩ := List.mem_map.1 hv; rfl)
    rw [hlen] at hh
    rw [hh]
    congr 2
    rw [List.take_zero, List.nil_append, List.drop_eq_nil_of_le (by simp), List.append_nil]
  obtain ⟨w2, hw2⟩ : ∃ w2, w1.setRow G (sf.map Value.string).toArray = w2 := ⟨_, rfl⟩
  rw [hw2] at hcp
  have q1 : w2.heap[G]? = some (.cells (sf.map Value.string).toArray 9 (0, 0)) := by rw [← hw2]; exact setRow_heap w1 G _ _ 9 (0, 0) h1
  have hs2 : w2.heap.size = G + 1 := by rw [← hw2]; simp [hs1]
  have hb2 : Below G w w2 := by
    rw [← hw2]
    exact ⟨hb1.os, hb1.tape, hb1.output, by simp [hs1]; omega, fun k hk => by rw [setRow_other w1 G k _ (by omega)]; exact hb1.block k hk⟩
  obtain ⟨w3, hw3⟩ : ∃ w3, w2.alloc (.cells #[.slice (some ⟨g1, 0, none⟩) 256 c, .slice (some ⟨G, 0, none⟩) 256 256, .slice none 0 0, .int .i64 0, .int .i64 (-1), .bool false] 95) = w3 := ⟨_, rfl⟩
  have r3 : w3.heap[G + 1]? = some (.cells #[.slice (some ⟨g1, 0, none⟩) 256 c, .slice (some ⟨G, 0, none⟩) 256 256, .slice none 0 0, .int .i64 0, .int .i64 (-1), .bool false] 95 (0, 0)) := by
    rw [← hw3, ← hs2]; show (w2.heap.push _)[w2.heap.size]? = _; exact Array.getElem?_push_size
  have hb3 : Below w2.heap.size w2 w3 := by rw [← hw3]; exact (Below.refl _ w2).alloc (Nat.le_refl _) _
  have HR := Aside0.mk (show ReadAt w3 (G + 1) sf ∧ Below G w w3 from
    ⟨⟨G, by rw [Lib.cell_of_heap r3]; rfl, (hb3.block G (by omega)).trans q1, hl⟩, hb2.trans (hb3.mono (by omega))⟩)
  have hu := Try.underlying95
  clear hg hl hb1 h1 h2 hlen q1 hb2 r3 hb3
  go_enter Try.func29, Try.ntmps29
  go_wp2_with fail
  go_ret
  exact ⟨G + 1, rfl, HR.out.1, by rw [hG]; exact HR.out.2⟩
set_option maxHeartbeats 4000000 in
theorem dclone.calls (b n c : Nat) (xs : List Value) (w : World) (hn : xs.length = n) (h0 : 0 < n) (hc : ∀ j u, xs[j]? = some u → w.cell? ⟨b, j, none⟩ = some u) (hxs : ∀ u ∈ xs, u.oneCell' = true) (hlen : n ≤ 1000) :
    Calls Try.prog 42 #[.slice (some ⟨b, 0, none⟩) n c] w (fun e w' => ∃ g k, e = .returned (.slice (some ⟨g, 0, none⟩) n k) ∧ (∀ j u, xs[j]? = some u → w'.cell? ⟨g, j, none⟩ = some u) ∧ Below w.heap.size w w' ∧ w.heap.size ≤ g) := by
  obtain ⟨i0, hi0, hz0, hz1, hz2⟩ := info_parts infoS3
  have he := Go.run_eql_slice_nil (P := Try.prog) w 35 9 (some ⟨b, 0, none⟩) n c Try.underlying35
  have hown0 : (w.alloc (.cells #[] 9)).ownsRow w.heap.size 9 1 (.slice (some ⟨w.heap.size, 0, none⟩) 0 0) 0 [] := World.ownsRow_lit (base := w.heap.size) (e := 9) (size := 1) w #[] 0 (Nat.le_refl _) (by decide) rfl
  have hb0 : Below w.heap.size w (w.alloc (.cells #[] 9)) := (Below.refl _ w).alloc (Nat.le_refl _) _
  obtain ⟨v', w', hr, hown', hgrow, _, hblk⟩ := run_append_own_at (P := Try.prog) (w.alloc (.cells #[] 9)) w.heap.size 35 35 9 i0 _ 1 16 Try.underlying35 hi0 hz0 hz1 hz2 rfl (by omega) (.slice (some ⟨w.heap.size, 0, none⟩) 0 0) 0 [] hown0 ⟨b, 0, none⟩ n c xs (by omega)
    (fun j u hj => by rw [Addr.add_lit, Nat.zero_add, Go.Lib.cell?_alloc_some _ (hc j u hj)]) hxs (by simp only [maxLen]; omega) (by omega) (by simp)
  rw [Nat.zero_add, List.nil_append] at hown'
  have hbw : Below w.heap.size w w' := hb0.grown hgrow (by simp) fun j ej => by
      have : w.heap.size = j := by simpa [Value.ownBlock] using ej
      omega
  obtain ⟨g, k, rfl, hcs, hgs⟩ : ∃ g k, v' = .slice (some ⟨g, 0, none⟩) n k ∧ (∀ j u, xs[j]? = some u → w'.cell? ⟨g, j, none⟩ = some u) ∧ w.heap.size ≤ g := by
    rcases hown'.2 with ⟨_, e⟩ | ⟨g, cap, cur, rfl, hb, _⟩
    · omega
    · refine ⟨g, cap, rfl, fun j u hj => ?_, hb⟩
      have := hown'.cells (g := g) rfl j u hj
      rwa [add_at, Nat.zero_add] at this
  have HE := Aside0.mk (And.intro hcs (And.intro hbw hgs))
  have HR := Aside0.mk hr
  clear hbw hr hown' hgrow hblk hown0 hb0 hc hxs hi0 hz0 hz1 hz2 hn hcs hgs
  go_enter Try.func42, Try.ntmps42
  go_wp2_with (at_builtin; refine Go.Lib.wpList_append_run _ rfl (.tmp 5) (.tmp 6) 35 35 rfl _ _ rfl rfl _ _ HR.out ?_)
  go_ret
  exact ⟨g, k, rfl, HE.out⟩
theorem left.calls (D : Nat) (kp tn : Int) (w : World) : Calls Try.prog 43 #[.pointer (some ⟨D, 0, none⟩), .agg #[.int .u64 kp, .int .i64 tn]] w fun e w' =>
    e = .returned (.func (.func 77) #[] #[.pointer (some ⟨w.heap.size, 0, none⟩), .pointer (some ⟨w.heap.size + 1, 0, none⟩)]) ∧
      w' = (w.alloc (.cells #[.pointer (some ⟨D, 0, none⟩)] 27)).alloc (.cells #[.int .u64 kp, .int .i64 tn] 25) := by
  go_enter Try.func43, Try.ntmps43
  go_wp2_with fail
  go_ret
  exact ⟨rfl, rfl⟩
set_option maxHeartbeats 4000000 in
theorem left_seq (n : Nat) (h1n : 1 ≤ n) (D B1 B2 : Nat) (w : World) (h1 : w.cell? ⟨B1, 0, none⟩ = some (.pointer (some ⟨D, 0, none⟩))) (h2 : w.cell? ⟨D, 2, none⟩ = some (.slice none 0 0)) :
    SeqN Fence.wide n Try.prog 77 #[.pointer (some ⟨B1, 0, none⟩), .pointer (some ⟨B2, 0, none⟩)]
      (fun _ => #[.agg #[.int .i64 0, .string ⟨#[]⟩], .int .i64 0]) (fun _ => False) (fun _ => False) (fun _ => False) 0 w := fun lo J Jx W hW hJ hJx hY h0 => by
  have c1 : W.cell? ⟨B1, 0, none⟩ = some (.pointer (some ⟨D, 0, none⟩)) := (hW.cell (World.block_lt_of_cell? w _ h1)).trans h1
  have c2 : W.cell? ⟨D, 2, none⟩ = some (.slice none 0 0) := (hW.cell (World.block_lt_of_cell? w _ h2)).trans h2
  clear h1 h2 hW hY
  refine callsIn_of_wp Try.func77 rfl trivial ?_ rfl
  simp only [Try.ntmps77, List.size_toArray, List.length_cons, List.length_nil, Nat.reduceAdd, Nat.reduceSub, Array.replicate_succ, Array.replicate_zero, List.push_toArray, List.append_toArray, List.nil_append, List.cons_append]
  gi_wp2
  gi_loopw [12] (fun i wr => i = .int .i64 0 ∧ J 0 wr) (fun i _ => 0)
  case atStart => exact ⟨rfl, h0⟩
  case round =>
    obtain ⟨rfl, hJs⟩ := hrel
    gi_wp2
    go_end0
    exact ⟨⟨_, rfl⟩, .inl hJs⟩
set_option maxHeartbeats 8000000 in
theorem crash.calls {D g1 g2 : Nat} {sf nw : List ByteArray} (kp tn : Int) (w : World) (h : DiskAt w D g1 g2 sf nw (.slice none 0 0) 0) :
    Calls Try.prog 12 #[.pointer (some ⟨D, 0, none⟩), .agg #[.int .u64 kp, .int .i64 tn]] w (fun e w' => ∃ D', e = .returned (.pointer (some ⟨D', 0, none⟩)) ∧ ReadAt w' D' sf ∧ Below w.heap.size w w') := by
  obtain ⟨base, hbase⟩ : ∃ base, w.heap.size = base := ⟨_, rfl⟩
  rw [hbase]
  obtain ⟨w1, hw1⟩ : ∃ w1, w.alloc (.cells #[.int .u64 kp, .int .i64 tn] 25) = w1 := ⟨_, rfl⟩
  have hb1 : Below w.heap.size w w1 := by rw [← hw1]; exact (Below.refl _ w).alloc (Nat.le_refl _) _
  have hf1 : w1.heap[base]? = some (.cells #[.int .u64 kp, .int .i64 tn] 25 (0, 0)) := by rw [← hw1, ← hbase]; exact World.alloc_heap_new w _
  have hz1 : w1.heap.size = base + 1 := by rw [← hw1]; simp [hbase]
  have D1 := h.still hb1
  obtain ⟨ops, c0, c1, c2, c3, c4, c5, fz⟩ := D1.fields
  have HD1 := Aside0.mk D1
  have HB1 := Aside0.mk hb1
  have f0 : w1.cell? ⟨base, 0, none⟩ = some (.int .u64 kp) := by rw [Lib.cell_of_heap hf1]; rfl
  have f1 : w1.cell? ⟨base, 1, none⟩ = some (.int .i64 tn) := by rw [Lib.cell_of_heap hf1]; rfl
  clear h hb1 D1 hf1 c1 c2 c3 c4 c5 fz
  refine (callsIn_wide (n := 10)).1 ?_
  refine callsIn_of_wp_marks Try.func12 rfl trivial ?_ rfl
  simp only [Try.ntmps12, List.size_toArray, List.length_cons, List.length_nil, Nat.reduceAdd, Nat.reduceSub, Array.replicate_succ, Array.replicate_zero, List.push_toArray, List.append_toArray, List.nil_append, List.cons_append]
  gi_wp2_with fail
  refine wpIn_scope ?_
  gi_wp2_with fail
  have hcs : ∀ j u, (sf.map Value.string)[j]? = some u → w1.cell? ⟨g1, j, none⟩ = some u := fun j u hj => by
    rw [Lib.cell_of_heap HD1.out.safe]; simpa using hj
  refine ⟨trivial, (callsIn_wide.2 (dclone.calls g1 256 256 (sf.map Value.string) w1 (by rw [List.length_map]; exact HD1.out.l1) (by omega) hcs (fun u hu => by obtain ⟨x, _, rfl⟩ := List.mem_map.1 hu; rfl) (by omega))).mono ?_⟩
  rintro e w2 ⟨G, ck, rfl, hG2, hb2, hGs⟩
  clear hcs
  have D2 := HD1.out.still hb2
  obtain ⟨ops, d0, d1, d2, d3, d4, d5, fz⟩ := D2.fields
  have hz2 := hb2.size
  have f02 : w2.cell? ⟨base, 0, none⟩ = some (.int .u64 kp) := (hb2.cell (World.block_lt_of_cell? w1 _ f0)).trans f0
  have f12 : w2.cell? ⟨base, 1, none⟩ = some (.int .i64 tn) := (hb2.cell (World.block_lt_of_cell? w1 _ f1)).trans f1
  have HB2 := Aside0.mk (HB1.out.trans (hb2.mono HB1.out.size))
  obtain ⟨H, hH⟩ : ∃ H, w2.heap.size = H := ⟨_, rfl⟩
  obtain ⟨w3, hw3⟩ : ∃ w3, w2.alloc (.cells #[.slice (some ⟨G, 0, none⟩) 256 ck] 35) = w3 := ⟨_, rfl⟩
  have hb3 : Below w2.heap.size w2 w3 := by rw [← hw3]; exact (Below.refl _ w2).alloc (Nat.le_refl _) _
  have hz3 : w3.heap.size = H + 1 := by rw [← hw3]; simp [hH]
  have hB3 : w3.cell? ⟨H, 0, none⟩ = some (.slice (some ⟨G, 0, none⟩) 256 ck) := by rw [← hw3, ← hH]; exact (Boxed.new w2 _ _).cell
  have f03 : w3.cell? ⟨base, 0, none⟩ = some (.int .u64 kp) := (hb3.cell (World.block_lt_of_cell? w2 _ f02)).trans f02
  have f13 : w3.cell? ⟨base, 1, none⟩ = some (.int .i64 tn) := (hb3.cell (World.block_lt_of_cell? w2 _ f12)).trans f12
  have e2 : w3.cell? ⟨D, 2, none⟩ = some (.slice none 0 0) := (hb3.cell (World.block_lt_of_cell? w2 _ d2)).trans d2
  have HG3 := Aside0.mk (show ∀ j u, (sf.map Value.string)[j]? = some u → w3.cell? ⟨G, j, none⟩ = some u from fun j u hj => (hb3.cell (World.block_lt_of_cell? w2 _ (hG2 j u hj))).trans (hG2 j u hj))
  have HB3 := Aside0.mk (HB2.out.trans (hb3.mono HB2.out.size))
  have hG2lt : G < w2.heap.size := World.block_lt_of_cell? w2 _ (hG2 0 (.string (sf[0]'(by rw [HD1.out.l1]; omega))) (by simp))
  clear hb2 hG2 D2 d0 d1 d2 d3 d4 d5 fz f0 f1 f02 f12 hb3 c0
  gi_wp2_with fail
  refine wpIn_label ?_
  gi_wp2_with fail
  refine ⟨trivial, (callsIn_wide.2 (left.calls D kp tn _)).mono ?_⟩
  rintro e w4 ⟨rfl, hw4⟩
  rw [hz3]
  have hz4 : w4.heap.size = H + 3 := by rw [hw4]; simp [hz3]
  have hb4 : Below w3.heap.size w3 w4 := by rw [hw4]; exact ((Below.refl _ w3).alloc (Nat.le_refl _) _).alloc (by simp) _
  have g1' : w4.cell? ⟨H + 1, 0, none⟩ = some (.pointer (some ⟨D, 0, none⟩)) := by
    rw [hw4]
    have := ((Boxed.new w3 27 (.pointer (some ⟨D, 0, none⟩))).alloc (.cells #[.int .u64 kp, .int .i64 tn] 25)).cell
    rwa [hz3] at this
  have e24 : w4.cell? ⟨D, 2, none⟩ = some (.slice none 0 0) := (hb4.cell (World.block_lt_of_cell? w3 _ e2)).trans e2
  have hB4 : Boxed w4 H 35 (.slice (some ⟨G, 0, none⟩) 256 ck) := (hb4.block H (by omega)).trans (by rw [← hw3, ← hH]; exact Boxed.new w2 _ _)
  have HG4 := Aside0.mk (show ∀ j u, (sf.map Value.string)[j]? = some u → w4.cell? ⟨G, j, none⟩ = some u from fun j u hj => (hb4.cell (World.block_lt_of_cell? w3 _ (HG3.out j u hj))).trans (HG3.out j u hj))
  have HB4 := Aside0.mk (HB3.out.trans (hb4.mono HB3.out.size))
  have HGH := Aside0.mk (show G < H ∧ base ≤ H from ⟨by
    have := World.block_lt_of_cell? w3 _ (HG3.out 0 (.string (sf[0]'(by rw [HD1.out.l1]; omega))) (by simp))
    have h0 := (hG2lt : G < w2.heap.size)
    omega, by omega⟩)
  clear hw4 hb4 hB3 f03 f13 e2 HG3 HB3
  gi_wp2_with fail
  have st : ∀ own : Nat → Prop, (∀ k, own k → k = H + 3 ∨ k = H + 3 + 1) → Stands own (fun _ => False) (fun W => Boxed W H 35 (.slice (some ⟨G, 0, none⟩) 256 ck) ∧ (∀ j u, (sf.map Value.string)[j]? = some u → W.cell? ⟨G, j, none⟩ = some u) ∧ Below base w W) := fun own ho =>
    (stands_box _ _ _ (fun h => by have := ho _ h; omega)).and ((show Stands own (fun _ => False) (fun W => ∀ j u, (sf.map Value.string)[j]? = some u → W.cell? ⟨G, j, none⟩ = some u) from fun X Y h ht j u hj => stands_cell ⟨G, j, none⟩ _ (fun h => by have h1 := ho _ h; have h2 := HGH.out.1; simp only at h1; omega) X Y (h j u hj) ht).and (stands_below (by omega) (fun q h => by have h1 := ho _ h; have h2 := HGH.out.2; omega)))
  refine wpIn_rangeW rfl (by omega) (gf := 77) (lb := #[.pointer (some ⟨H + 1, 0, none⟩), .pointer (some ⟨H + 1 + 1, 0, none⟩)]) rfl trivial (enters_of Try.func77 (by kernel_rfl) rfl)
    (left_seq 9 (by omega) D (H + 1) (H + 1 + 1) w4 g1' e24) (Below.refl _ _) (fun _ => rfl) (fun h => h) (fun h => h) (fun h => h)
    (fun k W => Boxed W H 35 (.slice (some ⟨G, 0, none⟩) 256 ck) ∧ (∀ j u, (sf.map Value.string)[j]? = some u → W.cell? ⟨G, j, none⟩ = some u) ∧ Below base w W)
    (fun _ _ _ => False)
    (fun k => st _ (fun k h => by rw [hz4] at h; rcases h with h | h | h; exact h.elim; exact .inl h; exact .inr h))
    (fun _ _ _ _ h _ => h)
    ⟨hB4, HG4.out, by rw [← hbase]; exact HB4.out⟩
    (fun k V => { tmps := #[.pointer (some ⟨D, 0, none⟩), .agg #[.int .u64 kp, .int .i64 tn], undef, .pointer (some ⟨base, 0, none⟩), .pointer none, .pointer (some ⟨H, 0, none⟩), .pointer (some ⟨V.heap.size, 0, none⟩), .int .i64 0, .pointer (some ⟨D, 0, none⟩), .bool false, .pointer (some ⟨D, 0, none⟩), .pointer (some ⟨D, 0, none⟩), .pointer (some ⟨D, 0, none⟩), .slice (some ⟨g1, 0, none⟩) 256 256, .slice (some ⟨G, 0, none⟩) 256 ck, .pointer (some ⟨D, 0, none⟩), .agg #[.int .u64 kp, .int .i64 tn], .func (.func 77) #[] #[.pointer (some ⟨H + 1, 0, none⟩), .pointer (some ⟨H + 1 + 1, 0, none⟩)], .agg #[.int .i64 0, .string ⟨#[]⟩], .int .i64 0, undef, undef, undef, undef, undef, undef, undef, undef, undef, undef, undef, undef, undef, undef, undef, undef, undef, undef, undef, undef], defers := [] })
    (fun k V => V.alloc (.cells #[.int .i64 0, .string ⟨#[]⟩] 100))
    (fun k V => (Below.refl _ _).alloc (Nat.le_refl _) _) ?assign ?body ?done ?stop
  case assign =>
    intro lo k W K _ hK
    gi_wp2
    exact hK
  case body => intro lo k V W hk; omega
  case done =>
    rintro W ⟨b1, hGW, hB⟩ hWs hD
    rw [hz4] at hD
    have c0 := b1.cell
    have HGW := Aside0.mk hGW
    have HBW := Aside0.mk hB
    clear hGW hB
    gi_wp2_with fail
    refine ⟨trivial, (callsIn_wide.2 (dof2.calls G ck sf W HGW.out HD1.out.l1)).mono ?_⟩
    rintro e W5 ⟨D', rfl, hR, hb5⟩
    gi_wp2
    refine ⟨by simp, .inl ⟨_, _, rfl, run_takeDeferred ((hb5.block _ (Array.getElem?_eq_some_iff.1 hD).1).trans hD), ?_⟩⟩
    refine ⟨_, results_tmp rfl _ _ _, D', rfl, ?_, ?_⟩
    · obtain ⟨g2', r1, r2, r3⟩ := hR
      have hD5 := (hb5.block _ (Array.getElem?_eq_some_iff.1 hD).1).trans hD
      have n1 : D' ≠ H + 3 := by
        rintro rfl
        obtain ⟨o, ho, hc⟩ := cells_of_cell r1
        have e := ho.symm.trans hD5
        injection e with e; subst e; cases hc
      have n2 : g2' ≠ H + 3 := by
        rintro rfl
        have e := r2.symm.trans hD5
        injection e with e; cases e
      exact ⟨g2', (World.cell?_of_block (World.putObj_heap_other n1)).trans r1, (World.putObj_heap_other n2).trans r2, r3⟩
    · have hD5 := (hb5.block _ (Array.getElem?_eq_some_iff.1 hD).1).trans hD
      have hbw := HBW.out
      have hbb := hbw.trans (hb5.mono (show base ≤ W.heap.size by rw [← hbase]; exact hbw.size))
      exact hbb.trans (belowK_b (w := w4) (by have := HGH.out.2; omega) W5 _ _ _ (by omega) hD5 rfl rfl)
  case stop =>
    intro c k W _ h
    exact h.elim
end Go.Proofs.Ythgefgjaihagoaa.Q
