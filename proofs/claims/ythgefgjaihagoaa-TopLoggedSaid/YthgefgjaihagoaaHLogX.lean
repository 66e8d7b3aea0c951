/- log.Write: the walk. -/
import Derived.Test.YthgefgjaihagoaaHLogW
set_option linter.unusedVariables false
set_option linter.unusedSimpArgs false
namespace Go.Proofs.Ythgefgjaihagoaa.Q
open Go.RowKit Go.Proofs.Ythgefgjaihagoaa.H Go.Proofs.YthgefgjaihagoaaW.PrintWords Go.Proofs.YthgefgjaihagoaaW.PrintLast
set_option maxRecDepth 100000
theorem zRec : (Try.prog.info? 86).map (fun i => (i.zero, i.size, i.bytes)) = some (some (.agg #[.int .u64 0, .int .u64 0, .bool false, .bool false, .int .i64 0, .slice none 0 0]), 6, 56) := by kernel_rfl
theorem sEnt : (Try.prog.info? 43).map (fun i => (i.zero, i.size, i.bytes)) = some (some (.agg #[.int .i64 0, .int .u32 0, .int .u32 0, .int .u32 0]), 4, 24) := by kernel_rfl
theorem sInt : (Try.prog.info? 3).map (fun i => (i.zero, i.size, i.bytes)) = some (some (.int .i64 0), 1, 8) := by kernel_rfl
/-- What Write needs. -/
structure WIn (w : World) (L D g1 g2 p : Nat) (seq : Int) (next : Nat) (nw : List ByteArray) (A : Option Addr) (c : Nat) (l : List It) : Prop where
  lg : LogAt w L D (p : Int) seq (next : Int)
  d : DiskAt w D g1 g2 nw nw (.slice none 0 0) 0
  i : Kd.C kIt w A l.length l
  cap : l.length ≤ c
  room : l.length ≤ 15 - p % 16
  low : 16 ≤ p
  high : p < 256
  n0 : 1 ≤ next
  n1 : next ≤ 15
  s0 : 1 ≤ seq
  s1 : seq ≤ 900
def atsL (p j : Nat) : List Int := (List.range j).map fun (i : Nat) => (p : Int) + 1 + (i : Int)
theorem atsL_succ (p j : Nat) : atsL p (j + 1) = atsL p j ++ [(p : Int) + 1 + (j : Int)] := by simp [atsL, List.range_succ]
theorem atsL_len (p j : Nat) : (atsL p j).length = j := by simp [atsL]
/-- The blocks that are written behind p. -/
def putAll : List ByteArray → Nat → List ByteArray → List ByteArray
  | nw, _, [] => nw
  | nw, p, b :: bs => putAll (nw.set p b) (p + 1) bs
theorem putAll_snoc (b : ByteArray) : ∀ (bs nw : List ByteArray) (q : Nat), putAll nw q (bs ++ [b]) = (putAll nw q bs).set (q + bs.length) b
  | [], nw, q => rfl
  | x :: bs, nw, q => by
    show putAll (nw.set q x) (q + 1) (bs ++ [b]) = _
    rw [putAll_snoc b bs (nw.set q x) (q + 1)]
    show _ = (putAll (nw.set q x) (q + 1) bs).set (q + (bs.length + 1)) b
    congr 1; omega
/-- All but the disk and the log is as it was. -/
structure XFr (L D g1 g2 : Nat) (w w' : World) : Prop where
  os : w'.os = w.os
  tape : w'.tape = w.tape
  output : w'.output = w.output
  size : w.heap.size ≤ w'.heap.size
  same : ∀ k, k < w.heap.size → k ≠ L → k ≠ D → k ≠ g1 → k ≠ g2 → w'.heap[k]? = w.heap[k]?
/-- What Write leaves. -/
def WPost (w : World) (L D g1 g2 p : Nat) (seq : Int) (next : Nat) (nw : List ByteArray) (l : List It) (e : Ending) (w' : World) : Prop :=
  (∃ er : Int, er ≠ 0 ∧ e = .returned (.tuple #[.slice none 0 0, .int .i64 er]) ∧ Below w.heap.size w w') ∨
  (∃ (v : Value) (t : ByteArray), e = .returned (.tuple #[v, .int .i64 0]) ∧ (∀ x ∈ l, x.2.size ≤ 508) ∧ Kd.R (Kd.int .i64) 3 w' w.heap.size anyK v (atsL p l.length) ∧ LogAt w' L D (goesAt p l.length next : Int) (seq + 1) (goesNext p l.length next : Int) ∧
    DiskAt w' D g1 g2 ((putAll nw (p + 1) (l.map fun x => wrapB x.2)).set p t) ((putAll nw (p + 1) (l.map fun x => wrapB x.2)).set p t) (.slice none 0 0) 0 ∧ XFr L D g1 g2 w w')
theorem L_ne {w : World} {L D g1 g2 m : Nat} {a s n : Int} {sf nw : List ByteArray} {lv : Value} (h : LogAt w L D a s n) (hD : DiskAt w D g1 g2 sf nw lv m) : D ≠ L ∧ g1 ≠ L ∧ g2 ≠ L := by
  obtain ⟨ops, hc⟩ := hD.cell
  refine ⟨?_, ?_, ?_⟩
  · rintro rfl
    have e := hc.symm.trans h
    injection e with e; injection e with _ e; exact absurd e (by decide)
  · rintro rfl
    have e := hD.safe.symm.trans h
    injection e with e; injection e with _ e; exact absurd e (by decide)
  · rintro rfl
    have e := hD.now.symm.trans h
    injection e with e; injection e with _ e; exact absurd e (by decide)
theorem disk_far {w w' : World} {L D g1 g2 : Nat} {sf nw : List ByteArray} (h : DiskAt w D g1 g2 sf nw (.slice none 0 0) 0) (hf : LFr L w w') (hne : (D ≠ L ∧ g1 ≠ L ∧ g2 ≠ L) ∧ ((.slice none 0 0 : Value).ownBlock = none)) : DiskAt w' D g1 g2 sf nw (.slice none 0 0) 0 := by
  obtain ⟨ops, hc⟩ := h.cell
  obtain ⟨h1, h2, h3⟩ := h.lt
  exact ⟨⟨ops, (hf.same D h1 hne.1.1).trans hc⟩, (hf.same g1 h2 hne.1.2.1).trans h.safe, (hf.same g2 h3 hne.1.2.2).trans h.now, h.l1, h.l2, h.d12, 0, [], World.ownsRow_nil _ _ _ _, Nat.le_refl _⟩
theorem xfr_of {w w6 w8 w9 : World} {L D g1 g2 base : Nat} (hbase : w.heap.size = base) (hb : Below base w w6) (hK : DKeep D g1 g2 (.slice none 0 0) (.slice none 0 0) w6 w8) (hf : LFr L w8 w9) : XFr L D g1 g2 w w9 := by
  subst hbase
  refine ⟨hf.os.trans (hK.os.trans hb.os), hf.tape.trans (hK.tape.trans hb.tape), hf.output.trans (hK.output.trans hb.output), Nat.le_trans hb.size (Nat.le_trans hK.size hf.size), fun k hk h1 h2 h3 h4 => ?_⟩
  have k6 : k < w6.heap.size := Nat.lt_of_lt_of_le hk hb.size
  have k8 : k < w8.heap.size := Nat.lt_of_lt_of_le k6 hK.size
  exact (hf.same k k8 h1).trans ((hK.same k k6 h2 h3 h4 (by simp [Value.ownBlock])).trans (hb.block k hk))
set_option maxHeartbeats 16000000 in
theorem lwrite.calls {L D g1 g2 p next c : Nat} {seq : Int} {nw : List ByteArray} {A : Option Addr} {l : List It} (w : World) (h : WIn w L D g1 g2 p seq next nw A c l) :
    Calls Try.prog 11 #[.pointer (some ⟨L, 0, none⟩), .int .u64 1, .slice A l.length c, .bool false, .bool false] w (WPost w L D g1 g2 p seq next nw l) := by
  obtain ⟨Q, hQ⟩ : ∃ Q : Ending → World → Prop, WPost w L D g1 g2 p seq next nw l = Q := ⟨_, rfl⟩
  rw [hQ]
  have HQ := Aside0.mk hQ
  clear hQ
  obtain ⟨base, hbase⟩ : ∃ base, w.heap.size = base := ⟨_, rfl⟩
  obtain ⟨n, hn⟩ : ∃ n, l.length = n := ⟨_, rfl⟩
  obtain ⟨w1, hw1⟩ : ∃ w1, w.alloc (.cells #[.pointer (some ⟨L, 0, none⟩)] 31) = w1 := ⟨_, rfl⟩
  have hb1 : Below base w w1 := by rw [← hw1]; exact (Below.refl _ w).alloc (by omega) _
  have hbx : w1.heap[base]? = some (.cells #[.pointer (some ⟨L, 0, none⟩)] 31 (0, 0)) := by rw [← hw1, ← hbase]; exact World.alloc_heap_new w _
  have hz1 : w1.heap.size = base + 1 := by rw [← hw1]; simp [hbase]
  have c0 : w1.cell? ⟨base, 0, none⟩ = some (.pointer (some ⟨L, 0, none⟩)) := by rw [Lib.cell_of_heap hbx]; rfl
  have hL1 : LogAt w1 L D (p : Int) seq (next : Int) := h.lg.still (by rw [hbase]; exact hb1)
  obtain ⟨k0, k1, k2, k3, kf⟩ := hL1.fields
  have HROOM := Aside0.mk (lroom.calls p w1 hL1)
  have hnx : ((next : Int) == 0) = false := by have := h.n0; simp; omega
  have hroom : decide (((15 - p % 16 : Nat) : Int) < (n : Int)) = false := decide_eq_false (by have := h.room; omega)
  have hroom' : decide (15 - p % 16 < n) = false := decide_eq_false (by have := h.room; omega)
  have H := Aside0.mk h
  have HB1 := Aside0.mk hb1
  have HBX := Aside0.mk hbx
  rw [hn]
  clear h hb1 hbx hL1 k0 k1 k2 kf
  go_enter Try.func11, Try.ntmps11
  go_wp2_with fail
  refine HROOM.out.mono ?_
  rintro e w2 ⟨rfl, hd⟩
  obtain ⟨q, rfl⟩ := hd.out
  obtain ⟨w2, hw2⟩ : ∃ w2, w1.drewN q = w2 := ⟨_, rfl⟩
  rw [hw2]
  have hb2 : Below w1.heap.size w1 w2 := by rw [← hw2]; exact pw_below_drewN (Below.refl _ _) q
  clear c0 k3 hd HROOM hnx
  go_wp2_with fail
  obtain ⟨R, hR⟩ : ∃ R, w2.heap.size = R := ⟨_, rfl⟩
  have hu := Try.underlying86
  have HB2 := Aside0.mk (HB1.out.trans (hb2.mono (by omega)))
  have hL2 : LogAt w2 L D (p : Int) seq (next : Int) := H.out.lg.still (by rw [hbase]; exact HB2.out)
  have hbx2 := (hb2.block base (by omega)).trans HBX.out
  obtain ⟨k0, k1, k2, k3, kf⟩ := hL2.fields
  have c0 : w2.cell? ⟨base, 0, none⟩ = some (.pointer (some ⟨L, 0, none⟩)) := by rw [Lib.cell_of_heap hbx2]; rfl
  have HL2 := Aside0.mk hL2
  have HBX2 := Aside0.mk hbx2
  clear hL2 hbx2 k0 k1 kf hw2 HB1 HBX
  refine startL (fun W => W.cell? ⟨base, 0, none⟩ = some (.pointer (some ⟨L, 0, none⟩)) ∧ W.cell? ⟨L, 2, none⟩ = some (.int .u64 seq) ∧ W.cell? ⟨L, 3, none⟩ = some (.int .i64 (next : Int))) [13] (by kernel_rfl) ?_
  change WalkL _ _ _ _ _ _ 14 #[false, false, false, false, false, false, false, false, false, false, false, false, false, false] _ _
  have hS : w2.drew.cell? ⟨base, 0, none⟩ = some (.pointer (some ⟨L, 0, none⟩)) ∧ w2.drew.cell? ⟨L, 2, none⟩ = some (.int .u64 seq) ∧ w2.drew.cell? ⟨L, 3, none⟩ = some (.int .i64 (next : Int)) := ⟨c0, k2, k3⟩
  refine ld 0 (.pointer (some ⟨L, 0, none⟩)) hS rfl ?_
  refine pu 1 (.pointer (some ⟨L, 0, none⟩)) hS rfl ?_
  refine pu 2 (.pointer (some ⟨L, 2, none⟩)) hS rfl ?_
  refine ld 3 (.int .u64 seq) hS rfl ?_
  refine pu 4 (.int .u64 1) hS rfl ?_
  refine pu 5 (.bool false) hS rfl ?_
  refine pu 6 (.bool false) hS rfl ?_
  refine ld 7 (.pointer (some ⟨L, 0, none⟩)) hS rfl ?_
  refine pu 8 (.pointer (some ⟨L, 0, none⟩)) hS rfl ?_
  refine pu 9 (.pointer (some ⟨L, 3, none⟩)) hS rfl ?_
  refine ld 10 (.int .i64 (next : Int)) hS rfl ?_
  refine pu 11 (.agg #[.int .u64 seq, .int .u64 1, .bool false, .bool false, .int .i64 (next : Int), .slice none 0 0]) hS rfl ?_
  have hS2 : (w2.drew.alloc (.cells #[.int .u64 0, .int .u64 0, .bool false, .bool false, .int .i64 0, .slice none 0 0] 86)).cell? ⟨base, 0, none⟩ = some (.pointer (some ⟨L, 0, none⟩)) ∧ (w2.drew.alloc (.cells #[.int .u64 0, .int .u64 0, .bool false, .bool false, .int .i64 0, .slice none 0 0] 86)).cell? ⟨L, 2, none⟩ = some (.int .u64 seq) ∧ (w2.drew.alloc (.cells #[.int .u64 0, .int .u64 0, .bool false, .bool false, .int .i64 0, .slice none 0 0] 86)).cell? ⟨L, 3, none⟩ = some (.int .i64 (next : Int)) := by
    have hb : Below w2.heap.size w2 (w2.drew.alloc (.cells #[.int .u64 0, .int .u64 0, .bool false, .bool false, .int .i64 0, .slice none 0 0] 86)) := (Below.drew w2).alloc (Nat.le_refl _) _
    exact ⟨(hb.cell (World.block_lt_of_cell? w2 _ c0)).trans c0, (hb.cell (World.block_lt_of_cell? w2 _ k2)).trans k2, (hb.cell (World.block_lt_of_cell? w2 _ k3)).trans k3⟩
  refine al 12 (.pointer (some ⟨w2.heap.size, 0, none⟩)) (w2.drew.alloc (.cells #[.int .u64 0, .int .u64 0, .bool false, .bool false, .int .i64 0, .slice none 0 0] 86)) (by kernel_rfl) rfl hS2 ?_
  refine st 13 _ (by kernel_rfl) rfl ?_
  refine doneL (by kernel_rfl) ?_ _
  obtain ⟨w3, hw3⟩ : ∃ w3, (w2.alloc (.cells #[.int .u64 seq, .int .u64 1, .bool false, .bool false, .int .i64 (next : Int), .slice none 0 0] 86)).drew = w3 := ⟨_, rfl⟩
  have hb3 : Below w2.heap.size w2 w3 := by rw [← hw3]; exact ((Below.refl _ w2).alloc (Nat.le_refl _) _).drew
  have hr3 : w3.heap[R]? = some (.cells #[.int .u64 seq, .int .u64 1, .bool false, .bool false, .int .i64 (next : Int), .slice none 0 0] 86 (0, 0)) := by rw [← hw3, ← hR]; exact World.alloc_heap_new w2 _
  have W0 := Aside0.mk (show WSt base R L w seq (next : Int) [] [] [] (.slice none 0 0) (.slice none 0 0) (.slice none 0 0) w3 from
    ⟨HB2.out.trans (hb3.mono (by have := hb2.size; omega)), by have := hb2.size; have := hb3.size; omega, (hb3.block base (by have := hb2.size; omega)).trans HBX2.out, hr3, Kd.R_nil _ _ _ _ _, Kd.R_nil _ _ _ _ _, Kd.R_nil _ _ _ _ _⟩)
  have HRB := Aside0.mk (show base ≤ R by have := hb2.size; omega)
  rw [hw3, hR]
  clear hS hS2 hb3 hr3 hw3 c0 k2 k3 hb2 HL2 HBX2 HB2 hroom hroom' hu
  go_wp2_with fail
  go_loopg [13, 14, 53] n (fun gg s13 s14 s53 wr => ∃ (j : Nat) (vE vA vB : Value), s53 = .int .i64 (j : Int) ∧ vA = s13 ∧ vB = s14 ∧ j + gg = n ∧ Aside0 (WSt base R L w seq (next : Int) ((l.take j).map Prod.fst) (atsL p j) ((l.take j).map fun x => wrapB x.2) vE vA vB wr ∧ ∀ x ∈ l.take j, x.2.size ≤ 508))
  case atStart => exact ⟨0, _, _, _, rfl, rfl, rfl, by omega, ⟨W0.out, fun x hx => by simp at hx⟩⟩
  case round =>
    obtain ⟨j, vE, vA, vB, rfl, rfl, rfl, hj, U⟩ := hrel
    clear W0
    by_cases hlt : j < n
    · have hd : decide ((j : Int) < (n : Int)) = true := decide_eq_true (by omega)
      have hjl : j < l.length := by rw [hn]; exact hlt
      obtain ⟨x, hx⟩ : ∃ x, l[j]? = some x := ⟨_, List.getElem?_eq_getElem hjl⟩
      have hCw : Kd.C kIt wr A l.length l := Kd.C_below H.out.i (by rw [hbase]; exact U.out.1.below)
      obtain ⟨ad, rfl, i0, i1, i2, i3, i4⟩ := at_It hCw j x hx
      have hj0 : (0 : Int) ≤ (j : Int) := by omega
      have hj1 : (j : Int) < (n : Int) := by omega
      have HXJ := Aside0.mk hx
      clear hCw hjl hx
      obtain ⟨⟨f0, f1, f2, f3⟩, ct⟩ := x
      go_wp2_with fail
      obtain ⟨X, hX⟩ : ∃ X, wr.heap.size = X := ⟨_, rfl⟩
      obtain ⟨w4, hw4⟩ : ∃ w4, wr.alloc (.cells #[.int .i64 f0, .int .u32 f1, .int .u32 f2, .int .u32 f3, .string ct] 45) = w4 := ⟨_, rfl⟩
      have hb4 : Below wr.heap.size wr w4 := by rw [← hw4]; exact (Below.refl _ wr).alloc (Nat.le_refl _) _
      have hx4 : w4.heap[X]? = some (.cells #[.int .i64 f0, .int .u32 f1, .int .u32 f2, .int .u32 f3, .string ct] 45 (0, 0)) := by rw [← hw4, ← hX]; exact World.alloc_heap_new wr _
      have U4 := Aside0.mk (And.intro (U.out.1.still hb4) hx4)
      have UC := Aside0.mk U.out.2
      rw [hX, hw4]
      clear i0 i1 i2 i3 i4 hb4 hx4 U
      by_cases hct : ct.size ≤ 508
      · have HW := Aside0.mk (record_Wrap.calls ct (wrapB ct) 0 w4 (wrap_yes ct hct))
        obtain ⟨bl, hbl⟩ : ∃ bl, wrapB ct = bl := ⟨_, rfl⟩
        rw [hbl] at HW
        have HBL := Aside0.mk hbl
        have HCT := Aside0.mk hct
        clear hbl hct
        refine HW.out.mono ?_
        rintro e w5 ⟨rfl, hb5⟩
        have hx5 := (hb5.block X (Array.getElem?_eq_some_iff.1 U4.out.2).1).trans U4.out.2
        have U5 := Aside0.mk (U4.out.1.still hb5)
        have x0 : w5.cell? ⟨X, 0, none⟩ = some (.int .i64 f0) := by rw [Lib.cell_of_heap hx5]; rfl
        have x1 : w5.cell? ⟨X, 1, none⟩ = some (.int .u32 f1) := by rw [Lib.cell_of_heap hx5]; rfl
        have x2 : w5.cell? ⟨X, 2, none⟩ = some (.int .u32 f2) := by rw [Lib.cell_of_heap hx5]; rfl
        have x3 : w5.cell? ⟨X, 3, none⟩ = some (.int .u32 f3) := by rw [Lib.cell_of_heap hx5]; rfl
        have x5 : w5.cell? ⟨R, 5, none⟩ = some vE := by rw [Lib.cell_of_heap U5.out.r]; rfl
        clear hb5 hx5 U4 HW
        go_wp2_with (first
          | ((with_reducible refine gateD (b := .append) (xs := #[.tmp 67, .tmp 70]) rfl ?_); at_builtin; refine Aside0.out ?_))
        refine ⟨?_⟩
        refine Kd.R_append k43 (w0 := w) base rfl (.tmp 67) (.tmp 70) 84 43 (.agg #[.int .i64 0, .int .u32 0, .int .u32 0, .int .u32 0]) 24 rfl Try.underlying84 sEnt rfl (by decide) (by omega) vE ((l.take j).map Prod.fst) ⟨f0, f1, f2, f3⟩ [.int .i64 f0, .int .u32 f1, .int .u32 f2, .int .u32 f3] anyK (fun _ => False) rfl rfl (k43_mkM _ _ _ _) (fun _ hk => hk.elim) (fun _ _ => trivial) U5.out.e U5.out.below U5.out.size (by rw [List.length_map, List.length_take]; have := H.out.room; omega) ?_
        intro vE' w6 ho hb hg hat
        obtain ⟨A6, n6, c6, rfl⟩ : ∃ A n c, vE' = .slice A n c := by
          obtain ⟨A', c', e⟩ := Kd.R_slice ho
          exact ⟨_, _, _, e⟩
        obtain ⟨i5, ho5⟩ := Kd.R_own U5.out.e
        have hr6 := blk_other U5.out.r ho5 (by decide) hg
        have y5 : w6.cell? ⟨R, 5, none⟩ = some vE := by rw [Lib.cell_of_heap hr6]; rfl
        have yf : w6.frozen? ⟨R, 5, none⟩ = false := Lib.frozen_of_heap hr6 5
        obtain ⟨w7, hw7⟩ : ∃ w7, w6.setCell ⟨R, 5, none⟩ (.slice A6 n6 c6) = w7 := ⟨_, rfl⟩
        have U7 := Aside0.mk (by have := U5.out.appE ho hb hg HRB.out; rw [hw7] at this; exact this)
        have q0 : w7.cell? ⟨base, 0, none⟩ = some (.pointer (some ⟨L, 0, none⟩)) := by rw [Lib.cell_of_heap U7.out.b1]; rfl
        have q1 : w7.cell? ⟨L, 1, none⟩ = some (.int .i64 (p : Int)) := (H.out.lg.still (by rw [hbase]; exact U7.out.below)).fields.2.1
        have hp1 : (p : Int) ≤ 255 := by have := H.out.high; omega
        have hp0 : (0 : Int) ≤ (p : Int) := by omega
        have hn15 : n ≤ 15 := by have := H.out.room; omega
        clear ho hb hg hat ho5 hr6 x0 x1 x2 x3 x5 U5
        go_wp2_with (first
          | ((with_reducible refine gateD (b := .append) (xs := #[.tmp 73, .tmp 81]) rfl ?_); at_builtin; refine Aside0.out ?_))
        refine ⟨?_⟩
        refine Kd.R_append (Kd.int .i64) (w0 := w) base rfl (.tmp 73) (.tmp 81) 34 3 (.int .i64 0) 8 rfl Try.underlying34 sInt rfl (by decide) (by omega) vA (atsL p j) ((p : Int) + 1 + (j : Int)) [.int .i64 ((p : Int) + 1 + (j : Int))] anyK (fun _ => False) rfl rfl rfl (fun _ hk => hk.elim) (fun _ _ => trivial) U7.out.a U7.out.below U7.out.size (by rw [atsL_len]; omega) ?_
        intro vA' w8 ho hb hg hat
        have U8 := Aside0.mk (U7.out.appA ho hb hg)
        clear ho hb hg hat q0 q1 hw7 y5 yf U7
        go_wp2_with (first
          | ((with_reducible refine gateD (b := .append) (xs := #[.tmp 83, .tmp 85]) rfl ?_); at_builtin; refine Aside0.out ?_))
        refine ⟨?_⟩
        refine Kd.R_append Kd.string (w0 := w) base rfl (.tmp 83) (.tmp 85) 35 9 (.string ⟨#[]⟩) 16 rfl Try.underlying35 infoS3 rfl (by decide) (by omega) vB ((l.take j).map fun x => wrapB x.2) bl [.string bl] anyK (fun _ => False) rfl rfl rfl (fun _ hk => hk.elim) (fun _ _ => trivial) U8.out.b U8.out.below U8.out.size (by rw [List.length_map, List.length_take]; omega) ?_
        intro vB' w9 ho hb hg hat
        have hjl : j < l.length := by rw [hn]; exact hlt
        have hx := HXJ.out
        have et : l.take (j + 1) = l.take j ++ [(⟨f0, f1, f2, f3⟩, ct)] := by
          rw [List.take_add_one, hx]; rfl
        have U9 := Aside0.mk (show WSt base R L w seq (next : Int) ((l.take (j + 1)).map Prod.fst) (atsL p (j + 1)) ((l.take (j + 1)).map fun x => wrapB x.2) (.slice A6 n6 c6) vA' vB' w9 ∧ ∀ x ∈ l.take (j + 1), x.2.size ≤ 508 from by
          rw [et, atsL_succ]
          have := U8.out.appB ho hb hg
          rw [← HBL.out] at this
          refine ⟨by simpa using this, fun x hx => ?_⟩
          rcases List.mem_append.1 hx with h1 | h1
          · exact UC.out x h1
          · obtain rfl := List.mem_singleton.1 h1
            exact HCT.out)
        have ew : IntKind.i64.wrap ((j : Int) + 1) = ((j : Int) + 1) := by rw [IntKind.wrap_i64]; omega
        clear ho hb hg hat U8 et hx hjl
        go_wp2_with fail
        go_roundg (n - (j + 1))
        case rel => exact ⟨j + 1, _, _, _, by first | rfl | (rw [ew]; rfl), rfl, rfl, by omega, U9⟩
        case measure => omega
      · have HW := Aside0.mk (record_Wrap.calls ct ⟨#[]⟩ 70 w4 (wrap_no ct (by omega)))
        have HB4 := Aside0.mk U4.out.1.below
        refine HW.out.mono ?_
        rintro e w5 ⟨rfl, hb5⟩
        clear HW U4
        have hq : Q (.returned (.tuple #[.slice none 0 0, .int .i64 2])) w5 := by
          rw [← HQ.out]
          exact .inl ⟨2, by decide, rfl, by rw [hbase]; exact HB4.out.trans (hb5.mono (by have := HB4.out.size; omega))⟩
        have HQ2 := Aside0.mk hq
        clear hq hb5 HB4
        go_wp2_with fail
        first | exact HQ2.out | (go_ret2; exact HQ2.out)
    · have hjn : j = n := by omega
      subst hjn
      have hd : decide ((j : Int) < (j : Int)) = false := decide_eq_false (by omega)
      have hd' : decide (j < j) = false := decide_eq_false (by omega)
      obtain ⟨U1, UC⟩ := U.out
      rw [List.take_of_length_le (by omega)] at U1 UC
      obtain ⟨AE, cE, rfl, hcE, hCE⟩ := Kd.R_reads U1.e
      have HE := Aside0.mk (recE.calls seq 1 false false (next : Int) AE cE (l.map Prod.fst) wr hCE hcE ⟨by have := H.out.s0; omega, by have := H.out.s1; omega⟩ ⟨by omega, by omega⟩)
      rw [List.length_map, hn] at HE
      have hr := U1.r
      rw [List.length_map, hn] at hr
      have r0 : wr.cell? ⟨R, 0, none⟩ = some (.int .u64 seq) := by rw [Lib.cell_of_heap hr]; rfl
      have r1 : wr.cell? ⟨R, 1, none⟩ = some (.int .u64 1) := by rw [Lib.cell_of_heap hr]; rfl
      have r2 : wr.cell? ⟨R, 2, none⟩ = some (.bool false) := by rw [Lib.cell_of_heap hr]; rfl
      have r3 : wr.cell? ⟨R, 3, none⟩ = some (.bool false) := by rw [Lib.cell_of_heap hr]; rfl
      have r4 : wr.cell? ⟨R, 4, none⟩ = some (.int .i64 (next : Int)) := by rw [Lib.cell_of_heap hr]; rfl
      have r5 : wr.cell? ⟨R, 5, none⟩ = some (.slice AE j cE) := by rw [Lib.cell_of_heap hr]; rfl
      have V0 := Aside0.mk U1
      have VC := Aside0.mk UC
      clear U U1 UC hcE hCE hr hlt
      go_wp2_with fail
      refine HE.out.mono ?_
      rintro e w5 ⟨⟨t, r, rfl, ht⟩, hb5⟩
      have V5 := Aside0.mk (V0.out.still hb5)
      have HT := Aside0.mk ht
      clear hb5 ht HE V0 r0 r1 r2 r3 r4 r5
      by_cases hr0 : r = 0
      · subst hr0
        obtain ⟨H2, hH2⟩ : ∃ H2, w5.heap.size = H2 := ⟨_, rfl⟩
        obtain ⟨w6, hw6⟩ : ∃ w6, w5.alloc (.cells #[.string t] 9) = w6 := ⟨_, rfl⟩
        have hb6 : Below w5.heap.size w5 w6 := by rw [← hw6]; exact (Below.refl _ w5).alloc (Nat.le_refl _) _
        have hh6 : w6.heap[H2]? = some (.cells #[.string t] 9 (0, 0)) := by rw [← hw6, ← hH2]; exact World.alloc_heap_new w5 _
        have V6' := V5.out.still hb6
        obtain ⟨AA, cA, rfl, hcA, hCA⟩ := Kd.R_reads V6'.a
        obtain ⟨AB, cB, rfl, hcB, hCB⟩ := Kd.R_reads V6'.b
        have hlt3 := H.out.d.lt
        rw [hbase] at hlt3
        have HLT := Aside0.mk hlt3
        have lA := atsL_len p j
        have lB : (l.map fun x => wrapB x.2).length = j := by rw [List.length_map]; exact hn
        rw [lA, lB] at V6'
        rw [List.length_map, hn] at V6'
        have HB6 := Aside0.mk V6'.below
        have X6 := Aside0.mk (show WS2 base R L D H2 seq (next : Int) p t (atsL p j) (l.map fun x => wrapB x.2) (.slice AE j cE) (.slice AA j cA) (.slice AB j cB) w6 from
          ⟨V6'.b1, V6'.r, hh6, H.out.lg.still (by rw [hbase]; exact V6'.below), V6'.a, V6'.b⟩)
        have D6 := Aside0.mk (H.out.d.still (by rw [hbase]; exact V6'.below))
        rw [lA, lB]
        have LAB := Aside0.mk (And.intro lA lB)
        clear hcA hCA hcB hCB V6' hlt3 lA lB hb6 hh6 V5
        go_wp2_with fail
        go_loopg [97] j (fun gg s97 wr => ∃ (i : Nat), s97 = .int .i64 (i : Int) ∧ i + gg = j ∧ Aside0 (∃ lv, WS2 base R L D H2 seq (next : Int) p t (atsL p j) (l.map fun x => wrapB x.2) (.slice AE j cE) (.slice AA j cA) (.slice AB j cB) wr ∧ DiskAt wr D g1 g2 nw (putAll nw (p + 1) ((l.map fun x => wrapB x.2).take i)) lv i ∧ DKeep D g1 g2 (.slice none 0 0) lv w6 wr))
        case atStart => exact ⟨0, rfl, by omega, ⟨_, X6.out, D6.out, DKeep.refl _ _ _ _ _⟩⟩
        case round =>
          obtain ⟨i, rfl, hi, Y⟩ := hrel
          clear X6 D6
          obtain ⟨lv, Y1, Y2, Y3⟩ := Y.out
          clear Y
          by_cases hij : i < j
          · have hd3 : decide ((i : Int) < (j : Int)) = true := decide_eq_true (by omega)
            have hd4 : decide (i < j) = true := decide_eq_true hij
            have hil : i < l.length := by rw [hn]; exact hij
            obtain ⟨x, hx⟩ : ∃ x, l[i]? = some x := ⟨_, List.getElem?_eq_getElem hil⟩
            have hi0 : (0 : Int) ≤ (i : Int) := by omega
            have hi1 : (i : Int) < (j : Int) := by omega
            obtain ⟨b, hb⟩ : ∃ b, wrapB x.2 = b := ⟨_, rfl⟩
            have hbx : (l.map fun x => wrapB x.2)[i]? = some b := by rw [List.getElem?_map, hx, ← hb]; rfl
            have hbs : b.size = 512 := by rw [← hb]; exact wrapB_size _ (VC.out x (List.mem_of_getElem? hx))
            have rows : ∀ (W : World), WS2 base R L D H2 seq (next : Int) p t (atsL p j) (l.map fun x => wrapB x.2) (.slice AE j cE) (.slice AA j cA) (.slice AB j cB) W → (∃ ad, AB = some ad ∧ W.cell? (ad.add i) = some (.string b)) ∧ (∃ ad, AA = some ad ∧ W.cell? (ad.add i) = some (.int .i64 ((p : Int) + 1 + (i : Int)))) := fun W h => by
              have r1 := (Kd.R_reads' h.b).2.2
              have r2 := (Kd.R_reads' h.a).2.2
              obtain ⟨ad, e0, g0⟩ := Kd.at_string r1 (i : Int) hi0 (by rw [LAB.out.2]; exact hi1)
              obtain ⟨ad2, e2, g2⟩ := Kd.at_int r2 (i : Int) hi0 (by rw [LAB.out.1]; exact hi1)
              rw [Int.toNat_natCast] at g0 g2
              refine ⟨⟨ad, e0, ?_⟩, ⟨ad2, e2, ?_⟩⟩
              · rw [g0]; congr 2
                unfold rdOf
                rw [Int.toNat_natCast, List.getD_eq_getElem?_getD, hbx]; rfl
              · rw [g2]; congr 2
                unfold rd atsL
                rw [Int.toNat_natCast, List.getD_eq_getElem?_getD, List.getElem?_map, List.getElem?_range hij]; rfl
            obtain ⟨⟨adB, rfl, z0⟩, ⟨adA, rfl, z1⟩⟩ := rows wr Y1
            have ROWS := Aside0.mk rows
            have Y1A := Aside0.mk Y1
            have Y2A := Aside0.mk Y2
            have Y3A := Aside0.mk Y3
            obtain ⟨f0, f1⟩ := Y1.fields
            have HBX := Aside0.mk (And.intro hbx hbs)
            have hi15 : i ≤ 15 := by have := H.out.room; omega
            have hp256 : p + 1 + i < 256 := by have := H.out.room; have := H.out.high; omega
            clear rows Y1 Y2 Y3 hil hx hbx hbs hb
            go_wp2_with fail
            refine startL (fun W => W.cell? ⟨base, 0, none⟩ = some (.pointer (some ⟨L, 0, none⟩)) ∧ W.cell? ⟨L, 0, none⟩ = some (.pointer (some ⟨D, 0, none⟩)) ∧ W.cell? (adA.add i) = some (.int .i64 ((p : Int) + 1 + (i : Int)))) [] (by kernel_rfl) ?_
            change WalkL _ _ _ _ _ _ 11 #[false, false, false, false, false, false, false, false, false, false, false] _ _
            have hS : wr.drew.cell? ⟨base, 0, none⟩ = some (.pointer (some ⟨L, 0, none⟩)) ∧ wr.drew.cell? ⟨L, 0, none⟩ = some (.pointer (some ⟨D, 0, none⟩)) ∧ wr.drew.cell? (adA.add i) = some (.int .i64 ((p : Int) + 1 + (i : Int))) := ⟨f0, f1, z1⟩
            refine ld 0 (.pointer (some ⟨L, 0, none⟩)) hS rfl ?_
            refine pu 1 (.pointer (some ⟨L, 0, none⟩)) hS rfl ?_
            refine pu 2 (.pointer (some ⟨L, 0, none⟩)) hS rfl ?_
            refine ld 3 (.pointer (some ⟨D, 0, none⟩)) hS rfl ?_
            refine pu 4 (.slice (some adA) j cA) hS rfl ?_
            refine pu 5 (.int .i64 (i : Int)) hS rfl ?_
            refine pu 6 (.pointer (some (adA.add i))) hS rfl ?_
            refine ld 7 (.int .i64 ((p : Int) + 1 + (i : Int))) hS rfl ?_
            refine pu 8 (.string b) hS rfl ?_
            have HWR := dwrite.calls wr.drew (Y2A.out.still (Below.drew wr)) (by omega) (p + 1 + i) hp256 b HBX.out.2
            rw [show ((p + 1 + i : Nat) : Int) = (p : Int) + 1 + (i : Int) by omega] at HWR
            have HWRA := Aside0.mk HWR
            clear HWR
            refine callL 9 111 (f := 37) (args := #[.pointer (some ⟨D, 0, none⟩), .int .i64 ((p : Int) + 1 + (i : Int)), .string b]) (by kernel_rfl) rfl rfl (by kernel_rfl) (by go_simp) HWRA.out rfl ?_
            rintro e w7 ⟨lv', rfl, r1, r2⟩
            have hK7 := (DKeep.of_below (Below.drew wr)).trans r2
            have Z1 := Y1A.out.next Y2A.out hK7 HLT.out
            have hS7 : w7.cell? ⟨base, 0, none⟩ = some (.pointer (some ⟨L, 0, none⟩)) ∧ w7.cell? ⟨L, 0, none⟩ = some (.pointer (some ⟨D, 0, none⟩)) ∧ w7.cell? (adA.add i) = some (.int .i64 ((p : Int) + 1 + (i : Int))) := by
              obtain ⟨a2, e2, g2⟩ := (ROWS.out w7 Z1).2
              injection e2 with e2
              subst e2
              exact ⟨Z1.fields.1, Z1.fields.2, g2⟩
            have Y7 := Aside0.mk (show ∃ lv, WS2 base R L D H2 seq (next : Int) p t (atsL p j) (l.map fun x => wrapB x.2) (.slice AE j cE) (.slice (some adA) j cA) (.slice (some adB) j cB) w7 ∧ DiskAt w7 D g1 g2 nw (putAll nw (p + 1) ((l.map fun x => wrapB x.2).take (i + 1))) lv (i + 1) ∧ DKeep D g1 g2 (.slice none 0 0) lv w6 w7 from by
              refine ⟨lv', Z1, ?_, Y3A.out.trans hK7⟩
              rw [List.take_add_one, HBX.out.1]
              show DiskAt w7 D g1 g2 nw (putAll nw (p + 1) (_ ++ [b])) lv' (i + 1)
              rw [putAll_snoc, List.length_take, LAB.out.2, Nat.min_eq_left (by omega)]
              exact r1)
            refine ⟨_, rfl, fun _ => hS7, _, rfl, ?_⟩
            refine pu 10 (.int .i64 0) hS7 rfl ?_
            refine doneL (by kernel_rfl) ?_ _
            have ew : IntKind.i64.wrap ((i : Int) + 1) = ((i : Int) + 1) := by rw [IntKind.wrap_i64]; omega
            clear hS hS7 r1 r2 hK7 Z1 HWRA z0 z1 f0 f1 Y1A Y2A Y3A ROWS
            go_wp2_with fail
            go_roundg (j - (i + 1))
            case rel => exact ⟨i + 1, by first | rfl | (rw [ew]; rfl), by omega, Y7⟩
            case measure => omega
          · have hij2 : i = j := by omega
            subst hij2
            have hd3 : decide ((i : Int) < (i : Int)) = false := decide_eq_false (by omega)
            have hd4 : decide (i < i) = false := decide_eq_false (by omega)
            rw [List.take_of_length_le (by rw [LAB.out.2]; exact Nat.le_refl _)] at Y2
            obtain ⟨nw2, hnw2⟩ : ∃ nw2, putAll nw (p + 1) (l.map fun x => wrapB x.2) = nw2 := ⟨_, rfl⟩
            rw [hnw2] at Y2
            have HNW := Aside0.mk hnw2
            have Y1A := Aside0.mk Y1
            have Y2A := Aside0.mk Y2
            have Y3A := Aside0.mk Y3
            obtain ⟨f0, f1⟩ := Y1.fields
            clear Y1 Y2 Y3 hnw2 hij
            go_wp2_with fail
            refine startL (fun W => W.cell? ⟨base, 0, none⟩ = some (.pointer (some ⟨L, 0, none⟩)) ∧ W.cell? ⟨L, 0, none⟩ = some (.pointer (some ⟨D, 0, none⟩))) [] (by kernel_rfl) ?_
            change WalkL _ _ _ _ _ _ 14 #[false, false, false, false, false, false, false, false, false, false, false, false, false, false] _ _
            have hS : wr.drew.cell? ⟨base, 0, none⟩ = some (.pointer (some ⟨L, 0, none⟩)) ∧ wr.drew.cell? ⟨L, 0, none⟩ = some (.pointer (some ⟨D, 0, none⟩)) := ⟨f0, f1⟩
            refine ld 0 (.pointer (some ⟨L, 0, none⟩)) hS rfl ?_
            refine pu 1 (.pointer (some ⟨L, 0, none⟩)) hS rfl ?_
            refine pu 2 (.pointer (some ⟨L, 0, none⟩)) hS rfl ?_
            refine ld 3 (.pointer (some ⟨D, 0, none⟩)) hS rfl ?_
            refine pu 4 (.func (.func 39) #[.pointer (some ⟨D, 0, none⟩)] #[]) hS rfl ?_
            refine pu 5 (.func (.func 40) #[] #[.pointer (some ⟨base, 0, none⟩), .pointer (some ⟨H2, 0, none⟩)]) hS rfl ?_
            refine ld 6 (.pointer (some ⟨L, 0, none⟩)) hS rfl ?_
            refine pu 7 (.pointer (some ⟨L, 0, none⟩)) hS rfl ?_
            refine pu 8 (.pointer (some ⟨L, 0, none⟩)) hS rfl ?_
            refine ld 9 (.pointer (some ⟨D, 0, none⟩)) hS rfl ?_
            refine pu 10 (.func (.func 39) #[.pointer (some ⟨D, 0, none⟩)] #[]) hS rfl ?_
            obtain ⟨w7, hw7⟩ : ∃ w7, wr.drew.alloc (.cells #[.func (.func 39) #[.pointer (some ⟨D, 0, none⟩)] #[], .func (.func 40) #[] #[.pointer (some ⟨base, 0, none⟩), .pointer (some ⟨H2, 0, none⟩)], .func (.func 39) #[.pointer (some ⟨D, 0, none⟩)] #[]] 90) = w7 := ⟨_, rfl⟩
            obtain ⟨B3, hB3⟩ : ∃ B3, wr.heap.size = B3 := ⟨_, rfl⟩
            have hb7 : Below wr.heap.size wr w7 := by rw [← hw7]; exact (Below.drew wr).alloc (Nat.le_refl _) _
            have h7 : w7.heap[B3]? = some (.cells #[.func (.func 39) #[.pointer (some ⟨D, 0, none⟩)] #[], .func (.func 40) #[] #[.pointer (some ⟨base, 0, none⟩), .pointer (some ⟨H2, 0, none⟩)], .func (.func 39) #[.pointer (some ⟨D, 0, none⟩)] #[]] 90 (0, 0)) := by rw [← hw7, ← hB3]; exact World.alloc_heap_new wr.drew _
            have Y17 := Y1A.out.still hb7
            have Y27 := Y2A.out.still hb7
            have hS7 : w7.cell? ⟨base, 0, none⟩ = some (.pointer (some ⟨L, 0, none⟩)) ∧ w7.cell? ⟨L, 0, none⟩ = some (.pointer (some ⟨D, 0, none⟩)) := Y17.fields
            have HFI := lfirst.calls w7 p Y17.lg Y27 (by have := H.out.room; omega) H.out.high base H2 B3 t (HT.out trivial).1 Y17.b1 Y17.h2 h7
            refine al 11 (.slice (some ⟨B3, 0, none⟩) 3 3) w7 (by kernel_rfl) rfl hS7 ?_ (hv := by go_simp; first | done | (rw [hw7, ← hB3]; rfl))
            refine callL 12 128 (f := 38) (args := #[.slice (some ⟨B3, 0, none⟩) 3 3]) (by kernel_rfl) rfl rfl (by kernel_rfl) (by go_simp) HFI rfl ?_
            rintro e w8 ⟨rfl, r1, r2⟩
            have Z1 := Y17.next Y27 r2 HLT.out
            have hS8 : w8.cell? ⟨base, 0, none⟩ = some (.pointer (some ⟨L, 0, none⟩)) ∧ w8.cell? ⟨L, 0, none⟩ = some (.pointer (some ⟨D, 0, none⟩)) := Z1.fields
            refine ⟨_, rfl, fun _ => hS8, _, rfl, ?_⟩
            refine pu 13 (.int .i64 0) hS8 rfl ?_
            refine doneL (by kernel_rfl) ?_ _
            have K8 := Aside0.mk ((Y3A.out.trans (DKeep.of_below hb7)).trans r2)
            have D8 := Aside0.mk r1
            have Z8 := Aside0.mk Z1
            have HG := Aside0.mk (lgoes.calls p i next w8 Z1.lg seq 1 false false AE cE (by have := H.out.high; omega) (by have := H.out.room; omega) (by have := H.out.n1; omega) (by have := H.out.s0; omega) (by have := H.out.s1; omega))
            have hr := Z1.r
            have c0 := hS8.1
            have q0 : w8.cell? ⟨R, 0, none⟩ = some (.int .u64 seq) := by rw [Lib.cell_of_heap hr]; rfl
            have q1 : w8.cell? ⟨R, 1, none⟩ = some (.int .u64 1) := by rw [Lib.cell_of_heap hr]; rfl
            have q2 : w8.cell? ⟨R, 2, none⟩ = some (.bool false) := by rw [Lib.cell_of_heap hr]; rfl
            have q3 : w8.cell? ⟨R, 3, none⟩ = some (.bool false) := by rw [Lib.cell_of_heap hr]; rfl
            have q4 : w8.cell? ⟨R, 4, none⟩ = some (.int .i64 (next : Int)) := by rw [Lib.cell_of_heap hr]; rfl
            have q5 : w8.cell? ⟨R, 5, none⟩ = some (.slice AE i cE) := by rw [Lib.cell_of_heap hr]; rfl
            clear hS hS7 hS8 r1 r2 Z1 HFI Y17 Y27 h7 hb7 hw7 hB3 f0 f1 Y1A Y2A Y3A hr
            go_wp2_with fail
            refine HG.out.mono ?_
            rintro e w9 ⟨⟨v9, rfl⟩, g1', g2'⟩
            have hq : Q (.returned (.tuple #[.slice AA i cA, .int .i64 0])) w9 := by
              rw [← HQ.out]
              have hLb : L < base := by have := (Array.getElem?_eq_some_iff.1 H.out.lg).1; omega
              have hll := HLT.out
              obtain ⟨ne1, ne2, ne3⟩ := D8.out.ne
              refine .inr ⟨_, t, rfl, VC.out, ?_, ?_, ?_, ?_⟩
              · rw [hbase, hn]
                refine Kd.R_mono (Kd.R_step (Kd.R_bound Z8.out.a) (fun k hk hlt => ?_)) (fun _ _ => trivial)
                exact g2'.same k hlt (by have := hk.2.1; omega)
              · rw [hn]; exact g1'
              · rw [HNW.out]
                refine disk_far D8.out g2' ?_
                exact ⟨L_ne H.out.lg H.out.d, by simp [Value.ownBlock]⟩
              · exact xfr_of hbase HB6.out K8.out g2'
            have HQ2 := Aside0.mk hq
            clear hq g1' g2' HG q0 q1 q2 q3 q4 q5 c0 D8 Z8 K8
            go_wp2_with fail
            first | exact HQ2.out | (go_ret2; exact HQ2.out)
      · have hr1 : (r == 0) = false := by simpa using hr0
        have hr2 : (r != 0) = true := by simpa using hr0
        have hq : Q (.returned (.tuple #[.slice none 0 0, .int .i64 2])) (w5.alloc (.cells #[.string t] 9)) := by
          rw [← HQ.out]
          exact .inl ⟨2, by decide, rfl, by rw [hbase]; exact V5.out.below.alloc V5.out.size _⟩
        have HQ2 := Aside0.mk hq
        clear hq V5
        go_wp2_with fail
        first | exact HQ2.out | (go_ret2; exact HQ2.out)
end Go.Proofs.Ythgefgjaihagoaa.Q
