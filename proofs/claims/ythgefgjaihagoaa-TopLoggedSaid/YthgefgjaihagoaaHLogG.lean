/- The log: goes. -/
import Derived.Test.YthgefgjaihagoaaHLog
set_option linter.unusedVariables false
set_option linter.unusedSimpArgs false
namespace Go.Proofs.Ythgefgjaihagoaa.Q
open Go.RowKit Go.Proofs.Ythgefgjaihagoaa.H Go.Proofs.YthgefgjaihagoaaW.PrintWords Go.Proofs.YthgefgjaihagoaaW.PrintLast
set_option maxRecDepth 100000
/-- All but the log is as it was. -/
structure LFr (L : Nat) (w w' : World) : Prop where
  os : w'.os = w.os
  tape : w'.tape = w.tape
  output : w'.output = w.output
  size : w.heap.size ≤ w'.heap.size
  same : ∀ k, k < w.heap.size → k ≠ L → w'.heap[k]? = w.heap[k]?
theorem LFr.trans {L : Nat} {A B C : World} (h : LFr L A B) (k : LFr L B C) : LFr L A C :=
  ⟨k.os.trans h.os, k.tape.trans h.tape, k.output.trans h.output, Nat.le_trans h.size k.size, fun i hi hne => (k.same i (Nat.lt_of_lt_of_le hi h.size) hne).trans (h.same i hi hne)⟩
theorem LFr.of_below {L : Nat} {w w' : World} (h : Below w.heap.size w w') : LFr L w w' := ⟨h.os, h.tape, h.output, h.size, fun k hk _ => h.block k hk⟩
theorem LFr.set (L j : Nat) (v : Value) (w : World) : LFr L w (w.setCell ⟨L, j, none⟩ v) := ⟨rfl, rfl, rfl, by simp, fun k _ hne => hfar w L j k v hne⟩
section
variable {w w' : World} {L D : Nat} {a s n : Int}
theorem LogAt.set1 (h : LogAt w L D a s n) (x : Int) : LogAt (w.setCell ⟨L, 1, none⟩ (.int .i64 x)) L D x s n := hset h 1 _
theorem LogAt.set2 (h : LogAt w L D a s n) (x : Int) : LogAt (w.setCell ⟨L, 2, none⟩ (.int .u64 x)) L D a x n := hset h 2 _
theorem LogAt.set3 (h : LogAt w L D a s n) (x : Int) : LogAt (w.setCell ⟨L, 3, none⟩ (.int .i64 x)) L D a s x := hset h 3 _
end
/-- Where a log goes on behind a record of n blocks. -/
def goesAt (a n x : Nat) : Nat := if (a + n + 1) % 16 = 0 ∨ (a + n + 1) % 16 = 15 then x * 16 else a + n + 1
def goesNext (a n x : Nat) : Nat := if (a + n + 1) % 16 = 0 ∨ (a + n + 1) % 16 = 15 then 0 else x
theorem isLast_f (x : Nat) : log_isLast.f (x : Int) = some (decide (x % 16 = 15)) := by
  unfold log_isLast.f
  rw [Int.tmod_eq_emod_of_nonneg (by omega)]
  congr 1
  by_cases h : x % 16 = 15
  · rw [decide_eq_true h]; simp; omega
  · rw [decide_eq_false h]; simp; omega
theorem jump_facts (w : World) (base L D : Nat) (a s : Int) (x : Nat) (H : LogAt w L D a s (x : Int)) {q0 q1 : Int} {b0 b1 : Bool} {v : Value} (hr : w.heap[base]? = some (.cells #[.int .u64 q0, .int .u64 q1, .bool b0, .bool b1, .int .i64 (x : Int), v] 86 (0, 0))) (hne : L ≠ base) :
    w.cell? ⟨base, 4, none⟩ = some (.int .i64 (x : Int)) ∧ w.cell? ⟨L, 3, none⟩ = some (.int .i64 (x : Int)) ∧ w.frozen? ⟨L, 3, none⟩ = false ∧ (w.setCell ⟨L, 3, none⟩ (.int .i64 0)).cell? ⟨L, 1, none⟩ = some (.int .i64 a) ∧ (w.setCell ⟨L, 3, none⟩ (.int .i64 0)).frozen? ⟨L, 1, none⟩ = false := by
  have h2 := (H.set3 0).fields
  exact ⟨by rw [Lib.cell_of_heap hr]; rfl, H.fields.2.2.2.1, H.fields.2.2.2.2 3, h2.2.1, h2.2.2.2.2 1⟩
set_option maxHeartbeats 8000000 in
theorem lgoes.calls {L D : Nat} {s : Int} (a n x : Nat) (w : World) (h : LogAt w L D (a : Int) s (x : Int)) (q0 q1 : Int) (b0 b1 : Bool) (A : Option Addr) (c : Nat) (ha : a ≤ 1000) (hn : n ≤ 100) (hx : x ≤ 1000) (h0 : 0 ≤ s) (h1 : s ≤ 1000) :
    Calls Try.prog 41 #[.pointer (some ⟨L, 0, none⟩), .agg #[.int .u64 q0, .int .u64 q1, .bool b0, .bool b1, .int .i64 (x : Int), .slice A n c]] w (fun e w' => (∃ v, e = .returned v) ∧ LogAt w' L D (goesAt a n x : Int) (s + 1) (goesNext a n x : Int) ∧ LFr L w w') := by
  obtain ⟨base, hbase⟩ : ∃ base, w.heap.size = base := ⟨_, rfl⟩
  obtain ⟨w1, hw1⟩ : ∃ w1, w.alloc (.cells #[.int .u64 q0, .int .u64 q1, .bool b0, .bool b1, .int .i64 (x : Int), .slice A n c] 86) = w1 := ⟨_, rfl⟩
  have hb1 : Below w.heap.size w w1 := by rw [← hw1]; exact (Below.refl _ w).alloc (Nat.le_refl _) _
  have hr1 : w1.heap[base]? = some (.cells #[.int .u64 q0, .int .u64 q1, .bool b0, .bool b1, .int .i64 (x : Int), .slice A n c] 86 (0, 0)) := by rw [← hw1, ← hbase]; exact World.alloc_heap_new w _
  have H1 := h.still hb1
  have hLb : L ≠ base := by have := (Array.getElem?_eq_some_iff.1 h).1; omega
  obtain ⟨c0, c1, c2, c3, fz⟩ := H1.fields
  have r4 : w1.cell? ⟨base, 4, none⟩ = some (.int .i64 (x : Int)) := by rw [Lib.cell_of_heap hr1]; rfl
  have r5 : w1.cell? ⟨base, 5, none⟩ = some (.slice A n c) := by rw [Lib.cell_of_heap hr1]; rfl
  have e1 : IntKind.i64.wrap ((a : Int) + (n : Int)) = ((a + n : Nat) : Int) := by rw [IntKind.wrap_i64]; omega
  have e2 : IntKind.i64.wrap (((a + n : Nat) : Int) + 1) = ((a + n + 1 : Nat) : Int) := by rw [IntKind.wrap_i64]; omega
  have HS := Aside0.mk (show IntKind.u64.wrap (s + 1) = s + 1 by rw [IntKind.wrap_u64]; omega)
  have H1A := Aside0.mk H1
  have HB1 := Aside0.mk hb1
  have HR1 := Aside0.mk hr1
  clear h hb1 H1 hr1 c0 c2 c3 fz
  go_enter Try.func41, Try.ntmps41
  go_wp2_with fail
  go_quiet (fail)
  rw [show (a : Int) + (n : Int) + 1 = ((a + n + 1 : Nat) : Int) by omega]
  obtain ⟨E, hE⟩ : ∃ E, a + n + 1 = E := ⟨_, rfl⟩
  rw [hE]
  have hE0 : 0 ≤ (E : Int) := by omega
  have hE1 : (E : Int) ≤ 2000 := by omega
  obtain ⟨w2, hw2⟩ : ∃ w2, w1.drewN nq = w2 := ⟨_, rfl⟩
  have hb2 : Below w1.heap.size w1 w2 := by rw [← hw2]; exact pw_below_drewN (Below.refl _ _) nq
  rw [hw2]
  have H2 := H1A.out.still hb2
  have hr2 := (hb2.block base (Array.getElem?_eq_some_iff.1 HR1.out).1).trans HR1.out
  obtain ⟨d0, d1, d2, d3, fz⟩ := H2.fields
  obtain ⟨w3, hw3⟩ : ∃ w3, w2.setCell ⟨L, 2, none⟩ (.int .u64 (s + 1)) = w3 := ⟨_, rfl⟩
  have H3 : LogAt w3 L D (a : Int) (s + 1) (x : Int) := by rw [← hw3]; exact H2.set2 (s + 1)
  have hr3 := (show w3.heap[base]? = w2.heap[base]? by rw [← hw3]; exact hfar w2 L 2 base _ (Ne.symm hLb)).trans hr2
  have r4' : w3.cell? ⟨base, 4, none⟩ = some (.int .i64 (x : Int)) := by rw [Lib.cell_of_heap hr3]; rfl
  obtain ⟨k0, k1, k2, k3, fz3⟩ := H3.fields
  obtain ⟨w4, hw4⟩ : ∃ w4, w3.setCell ⟨L, 3, none⟩ (.int .i64 (x : Int)) = w4 := ⟨_, rfl⟩
  have H4 : LogAt w4 L D (a : Int) (s + 1) (x : Int) := by rw [← hw4]; exact H3.set3 (x : Int)
  have hr4 := (show w4.heap[base]? = w3.heap[base]? by rw [← hw4]; exact hfar w3 L 3 base _ (Ne.symm hLb)).trans hr3
  have F4 := Aside0.mk (show LFr L w w4 from by
    refine (LFr.of_below HB1.out).trans ((LFr.of_below hb2).trans (LFr.trans (B := w3) ?_ ?_))
    · rw [← hw3]; exact LFr.set L 2 _ w2
    · rw [← hw4]; exact LFr.set L 3 _ w3)
  have H4A := Aside0.mk H4
  have HR4 := Aside0.mk hr4
  have hws : IntKind.u64.wrap (s + 1) = s + 1 := HS.out
  clear hb2 H2 hr2 H3 hr3 H4 hr4 d0 d1 d3 k0 k1 k2 hw2 r4 r5 c1 HB1 HR1 H1A e1 e2
  by_cases hm : E % 16 = 0
  · have hmod : Int.tmod (E : Int) 16 = 0 := by rw [Int.tmod_eq_emod_of_nonneg hE0]; omega
    have HJ := jump_facts w4 base L D (a : Int) (s + 1) x H4A.out HR4.out hLb
    obtain ⟨j4, j3, jf, v1, vf⟩ := HJ
    obtain ⟨w5, hw5⟩ : ∃ w5, (w4).setCell ⟨L, 3, none⟩ (.int .i64 0) = w5 := ⟨_, rfl⟩
    rw [hw5] at v1 vf
    have HX := Aside0.mk (show LogAt (w5.setCell ⟨L, 1, none⟩ (.int .i64 ((x : Int) * 16))) L D ((x : Int) * 16) (s + 1) ((0 : Nat) : Int) ∧ LFr L w (w5.setCell ⟨L, 1, none⟩ (.int .i64 ((x : Int) * 16))) from by
      rw [← hw5]
      exact ⟨(LogAt.set3 H4A.out 0).set1 _, F4.out.trans ((LFr.set L 3 _ _).trans (LFr.set L 1 _ _))⟩)
    have GA := Aside0.mk (show goesAt a n x = x * 16 ∧ goesNext a n x = 0 from by unfold goesAt goesNext; rw [hE, if_pos (Or.inl hm), if_pos (Or.inl hm)]; exact ⟨rfl, rfl⟩)
    clear hE
    go_wp2_with fail
    go_end0
    exact ⟨⟨_, rfl⟩, by rw [GA.out.1, GA.out.2, Int.natCast_mul]; exact HX.out.1, HX.out.2⟩
  · have hmod : (Int.tmod (E : Int) 16 == 0) = false := by rw [Int.tmod_eq_emod_of_nonneg hE0]; simp; omega
    have hmod1 : ¬ Int.tmod (E : Int) 16 = 0 := by rw [Int.tmod_eq_emod_of_nonneg hE0]; omega
    have hmod2 : decide (Int.tmod (E : Int) 16 = 0) = false := decide_eq_false hmod1
    have HL := Aside0.mk (log_isLast.calls (E : Int) _ w4 (isLast_f E))
    obtain ⟨y1, y2⟩ := (show w4.cell? ⟨L, 1, none⟩ = some (.int .i64 (a : Int)) ∧ ∀ j, w4.frozen? ⟨L, j, none⟩ = false from ⟨H4A.out.fields.2.1, H4A.out.fields.2.2.2.2⟩)
    by_cases hl : E % 16 = 15
    · rw [decide_eq_true hl] at HL
      clear y1 y2
      go_wp2_with fail
      refine HL.out.mono ?_
      rintro e w6 ⟨rfl, hd⟩
      obtain ⟨q, rfl⟩ := hd.out
      obtain ⟨w7, hw7⟩ : ∃ w7, w4.drewN q = w7 := ⟨_, rfl⟩
      have hb7 : Below w4.heap.size w4 w7 := by rw [← hw7]; exact pw_below_drewN (Below.refl _ _) q
      rw [hw7]
      have H7 := H4A.out.still hb7
      have HR7 := (hb7.block base (Array.getElem?_eq_some_iff.1 HR4.out).1).trans HR4.out
      have F7 := F4.out.trans (LFr.of_below hb7)
      have H7A := Aside0.mk H7
      have HR7A := Aside0.mk HR7
      have F7A := Aside0.mk F7
      clear H7 HR7 F7 hb7 hw7 hd
      have HJ := jump_facts w7 base L D (a : Int) (s + 1) x H7A.out HR7A.out hLb
      obtain ⟨j4, j3, jf, v1, vf⟩ := HJ
      obtain ⟨w5, hw5⟩ : ∃ w5, (w7).setCell ⟨L, 3, none⟩ (.int .i64 0) = w5 := ⟨_, rfl⟩
      rw [hw5] at v1 vf
      have HX := Aside0.mk (show LogAt (w5.setCell ⟨L, 1, none⟩ (.int .i64 ((x : Int) * 16))) L D ((x : Int) * 16) (s + 1) ((0 : Nat) : Int) ∧ LFr L w (w5.setCell ⟨L, 1, none⟩ (.int .i64 ((x : Int) * 16))) from by
        rw [← hw5]
        exact ⟨(LogAt.set3 H7A.out 0).set1 _, F7A.out.trans ((LFr.set L 3 _ _).trans (LFr.set L 1 _ _))⟩)
      have GA := Aside0.mk (show goesAt a n x = x * 16 ∧ goesNext a n x = 0 from by unfold goesAt goesNext; rw [hE, if_pos (Or.inr hl), if_pos (Or.inr hl)]; exact ⟨rfl, rfl⟩)
      clear hE
      go_wp2_with fail
      go_end0
      exact ⟨⟨_, rfl⟩, by rw [GA.out.1, GA.out.2, Int.natCast_mul]; exact HX.out.1, HX.out.2⟩
    · rw [decide_eq_false hl] at HL
      have GA := Aside0.mk (show goesAt a n x = E ∧ goesNext a n x = x from by unfold goesAt goesNext; rw [hE, if_neg (by omega), if_neg (by omega)]; exact ⟨rfl, rfl⟩)
      clear hE
      go_wp2_with fail
      refine HL.out.mono ?_
      rintro e w6 ⟨rfl, hd⟩
      obtain ⟨q, rfl⟩ := hd.out
      obtain ⟨w7, hw7⟩ : ∃ w7, w4.drewN q = w7 := ⟨_, rfl⟩
      have hb7 : Below w4.heap.size w4 w7 := by rw [← hw7]; exact pw_below_drewN (Below.refl _ _) q
      rw [hw7]
      have H7 := H4A.out.still hb7
      have F7 := F4.out.trans (LFr.of_below hb7)
      obtain ⟨x0, x1, x2, x3, xf⟩ := H7.fields
      have HX := Aside0.mk (show LogAt (w7.setCell ⟨L, 1, none⟩ (.int .i64 (E : Int))) L D (E : Int) (s + 1) (x : Int) ∧ LFr L w (w7.setCell ⟨L, 1, none⟩ (.int .i64 (E : Int))) from
        ⟨H7.set1 _, F7.trans (LFr.set L 1 _ _)⟩)
      clear H7 F7 hb7 hw7 hd x0 x2 x3 y1 y2
      go_wp2_with fail
      go_end0
      exact ⟨⟨_, rfl⟩, by rw [GA.out.1, GA.out.2]; exact HX.out.1, HX.out.2⟩
end Go.Proofs.Ythgefgjaihagoaa.Q
