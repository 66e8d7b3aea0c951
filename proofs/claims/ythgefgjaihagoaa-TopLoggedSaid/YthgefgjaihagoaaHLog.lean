/- The log: Begin, Next, SetNext, Room, goes, first. -/
import Derived.Test.YthgefgjaihagoaaQ13
import Derived.Test.YthgefgjaihagoaaHCrash
set_option linter.unusedVariables false
set_option linter.unusedSimpArgs false
namespace Go.Proofs.Ythgefgjaihagoaa.Q
open Go.RowKit Go.Proofs.Ythgefgjaihagoaa.H Go.Proofs.YthgefgjaihagoaaW.PrintWords Go.Proofs.YthgefgjaihagoaaW.PrintLast
set_option maxRecDepth 100000
/-- A log lies in L. -/
def LogAt (w : World) (L D : Nat) (at_ seq next : Int) : Prop := w.heap[L]? = some (.cells #[.pointer (some ⟨D, 0, none⟩), .int .i64 at_, .int .u64 seq, .int .i64 next] 82 (0, 0))
theorem LogAt.still {w w' : World} {L D : Nat} {a s n : Int} (h : LogAt w L D a s n) (hb : Below w.heap.size w w') : LogAt w' L D a s n := (hb.block L (Array.getElem?_eq_some_iff.1 h).1).trans h
theorem LogAt.fields {w : World} {L D : Nat} {a s n : Int} (h : LogAt w L D a s n) : w.cell? ⟨L, 0, none⟩ = some (.pointer (some ⟨D, 0, none⟩)) ∧ w.cell? ⟨L, 1, none⟩ = some (.int .i64 a) ∧ w.cell? ⟨L, 2, none⟩ = some (.int .u64 s) ∧ w.cell? ⟨L, 3, none⟩ = some (.int .i64 n) ∧ ∀ j, w.frozen? ⟨L, j, none⟩ = false := by
  refine ⟨?_, ?_, ?_, ?_, fun j => Lib.frozen_of_heap h j⟩ <;> (rw [Lib.cell_of_heap h]; rfl)
set_option maxHeartbeats 4000000 in
theorem isSeg.calls {D g1 g2 m : Nat} {sf nw : List ByteArray} {lv : Value} (w : World) (h : DiskAt w D g1 g2 sf nw lv m) (n : Int) (h1 : 0 < n) (h2 : n < 16) :
    Calls Try.prog 34 #[.pointer (some ⟨D, 0, none⟩), .int .i64 n] w (fun e w' => e = .returned (.bool true) ∧ w' = w) := by
  have HB := Aside0.mk (dblocks.calls w h)
  have d1 : decide (0 < n) = true := decide_eq_true h1
  have d2 : decide (n < 16) = true := decide_eq_true h2
  clear h
  go_enter Try.func34, Try.ntmps34
  go_wp2_with fail
  refine HB.out.mono ?_
  rintro e w1 ⟨rfl, rfl⟩
  go_wp2_with fail
  first | exact ⟨rfl, rfl⟩ | (go_ret; exact ⟨rfl, rfl⟩)
set_option maxHeartbeats 4000000 in
theorem lnext.calls {L D : Nat} {a s n : Int} (w : World) (h : LogAt w L D a s n) :
    Calls Try.prog 8 #[.pointer (some ⟨L, 0, none⟩)] w (fun e w' => e = .returned (.int .i64 n) ∧ w' = w) := by
  obtain ⟨c0, c1, c2, c3, fz⟩ := h.fields
  clear h c0 c1 c2 fz
  go_enter Try.func8, Try.ntmps8
  go_wp2_with fail
  first | exact ⟨rfl, rfl⟩ | (go_ret; exact ⟨rfl, rfl⟩)
set_option maxHeartbeats 4000000 in
theorem lroom.calls {L D : Nat} {s n : Int} (a : Nat) (w : World) (h : LogAt w L D (a : Int) s n) :
    Calls Try.prog 10 #[.pointer (some ⟨L, 0, none⟩)] w (fun e w' => e = .returned (.int .i64 ((15 - a % 16 : Nat) : Int)) ∧ Drawn0 w w') := by
  have hr : record_Room.f (a : Int) = some ((15 - a % 16 : Nat) : Int) := by
    unfold record_Room.f
    rw [if_neg (by omega), Int.tmod_eq_emod_of_nonneg (by omega)]
    congr 1
    unfold wrap64; omega
  have HR := record_Room.calls (a : Int) _ w hr
  obtain ⟨c0, c1, c2, c3, fz⟩ := h.fields
  clear h c0 c2 c3 fz hr
  go_enter Try.func10, Try.ntmps10
  go_wp2_with fail
  refine HR.mono ?_
  rintro e w1 ⟨rfl, hd⟩
  have HD := Aside0.mk hd
  clear hd HR
  go_wp2_with fail
  first | exact ⟨rfl, HD.out⟩ | (go_ret; exact ⟨rfl, HD.out⟩)
set_option maxHeartbeats 4000000 in
theorem lsetnext.calls {L D g1 g2 m : Nat} {sf nw : List ByteArray} {lv : Value} {a s n : Int} (w : World) (h : LogAt w L D a s n) (hD : DiskAt w D g1 g2 sf nw lv m) (n' : Int) (h1 : 0 < n') (h2 : n' < 16) :
    Calls Try.prog 9 #[.pointer (some ⟨L, 0, none⟩), .int .i64 n'] w (fun e w' => e = .returned (.int .i64 0) ∧ w' = w.setCell ⟨L, 3, none⟩ (.int .i64 n')) := by
  have HI := Aside0.mk (isSeg.calls w hD n' h1 h2)
  obtain ⟨c0, c1, c2, c3, fz⟩ := h.fields
  clear h c1 c2 hD
  go_enter Try.func9, Try.ntmps9
  go_wp2_with fail
  refine HI.out.mono ?_
  rintro e w1 ⟨rfl, rfl⟩
  go_wp2_with fail
  first | exact ⟨rfl, rfl⟩ | (go_ret; exact ⟨rfl, rfl⟩)
set_option maxHeartbeats 4000000 in
theorem lbegin.calls {D g1 g2 m : Nat} {sf nw : List ByteArray} {lv : Value} (w : World) (h : DiskAt w D g1 g2 sf nw lv m) :
    Calls Try.prog 7 #[.pointer (some ⟨D, 0, none⟩), .int .i64 16, .int .u64 1, .int .i64 2] w (fun e w' => ∃ L, e = .returned (.tuple #[.pointer (some ⟨L, 0, none⟩), .int .i64 0]) ∧ LogAt w' L D 16 1 2 ∧ Below w.heap.size w w' ∧ w.heap.size ≤ L) := by
  have HB := Aside0.mk (fun W (hb : Below w.heap.size w W) => dblocks.calls W (h.still hb))
  have HS := Aside0.mk (fun W (hb : Below w.heap.size w W) => isSeg.calls W (h.still hb) 2 (by omega) (by omega))
  have HL := Aside0.mk (fun W => log_isLast.calls 16 false W (by kernel_rfl))
  clear h
  have hu := Try.underlying82
  go_enter Try.func7, Try.ntmps7
  go_wp2_with fail
  refine (HB.out w (Below.refl _ _)).mono ?_
  rintro e w1 ⟨rfl, rfl⟩
  go_wp2_with fail
  refine (HL.out _).mono ?_
  rintro e w2 ⟨rfl, hd⟩
  obtain ⟨q, rfl⟩ := hd.out
  go_wp2_with fail
  refine (HS.out _ (pw_below_drewN (Below.refl _ _) q)).mono ?_
  rintro e w3 ⟨rfl, rfl⟩
  go_wp2_with fail
  go_ret2
  refine ⟨_, rfl, ?_, ?_, Nat.le_refl _⟩
  · exact World.alloc_heap_new _ _
  · exact (pw_below_drewN (Below.refl _ _) q).alloc (Nat.le_refl _) _
end Go.Proofs.Ythgefgjaihagoaa.Q
