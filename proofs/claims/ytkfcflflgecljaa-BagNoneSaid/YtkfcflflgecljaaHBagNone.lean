/- nautiluslaw02.BagNone: the calls of a nil bag. -/
import Derived.Test.YtkfcflflgecljaaHBagShown
set_option linter.unusedVariables false
set_option linter.unusedSimpArgs false
namespace Go.Proofs.Ytkfcflflgecljaa.H
open Go.RowKit Go.Proofs.YtkfcflflgecljaaW.PrintWords Go.Proofs.YtkfcflflgecljaaW.PrintLast
set_option maxRecDepth 100000
theorem getNil (at_ : Int) (w : World) (Q : Ending → World → Prop) (hQ : Q (.returned (.tuple #[.string ⟨#[]⟩, .bool false])) w) : Calls Try.prog 25 #[.pointer none, .int .i64 at_] w Q := by
  have HQ := Aside0.mk hQ
  clear hQ
  go_enter Try.func25, Try.ntmps25
  go_wp2_with fail
  first | exact HQ.out | (go_ret; exact HQ.out) | exact bodyPost_end (v := .tuple #[.string ⟨#[]⟩, .bool false]) (by simp [results, Try.results25, go_sem]) (by rfl) HQ.out
theorem putNil (at_ : Int) (v : ByteArray) (w : World) (Q : Ending → World → Prop) (hQ : Q (.returned (.bool false)) w) : Calls Try.prog 27 #[.pointer none, .int .i64 at_, .string v] w Q := by
  have HQ := Aside0.mk hQ
  clear hQ
  go_enter Try.func27, Try.ntmps27
  go_wp2_with fail
  with_reducible refine wp_scope_straight ?_
  go_wp2_with fail
  first | exact HQ.out | (go_ret; exact HQ.out) | exact bodyPost_end (v := .bool false) (by simp [results, Try.results27, go_sem]) (by rfl) HQ.out
theorem dropNil (at_ : Int) (w : World) (Q : Ending → World → Prop) (hQ : Q (.returned (.bool false)) w) : Calls Try.prog 28 #[.pointer none, .int .i64 at_] w Q := by
  have HQ := Aside0.mk hQ
  clear hQ
  have HG := Aside0.mk (getNil at_ w (fun e w' => e = .returned (.tuple #[.string ⟨#[]⟩, .bool false]) ∧ w' = w) ⟨rfl, rfl⟩)
  go_enter Try.func28, Try.ntmps28
  go_wp2_with (go_at_call 25; refine HG.out.mono ?_; rintro e w' ⟨rfl, hw⟩; obtain rfl := hw.symm; clear hw)
  first | exact HQ.out | (go_ret; exact HQ.out) | exact bodyPost_end (v := .bool false) (by simp [results, Try.results28, go_sem]) (by rfl) HQ.out
theorem lenNil (w : World) (Q : Ending → World → Prop) (hQ : Q (.returned (.int .i64 0)) w) : Calls Try.prog 23 #[.pointer none] w Q := by
  have HQ := Aside0.mk hQ
  clear hQ
  go_enter Try.func23, Try.ntmps23
  go_wp2_with fail
  first | exact HQ.out | (go_ret; exact HQ.out) | exact bodyPost_end (v := .int .i64 0) (by simp [results, Try.results23, go_sem]) (by rfl) HQ.out
theorem shapeNil (w : World) (Q : Ending → World → Prop) (hQ : Q (.returned (.slice none 0 0)) w) : Calls Try.prog 24 #[.pointer none] w Q := by
  have HQ := Aside0.mk hQ
  clear hQ
  go_enter Try.func24, Try.ntmps24
  go_wp2_with fail
  first | exact HQ.out | (go_ret; exact HQ.out) | exact bodyPost_end (v := .slice none 0 0) (by simp [results, Try.results24, go_sem]) (by rfl) HQ.out
theorem keysNil (at_ too : Int) (w : World) (Q : Ending → World → Prop) (hQ : ∀ o, Q (.returned (.slice none 0 0)) (w.alloc o)) : Calls Try.prog 29 #[.pointer none, .int .i64 at_, .int .i64 too] w Q := by
  have HQ := Aside0.mk hQ
  clear hQ
  go_enter Try.func29, Try.ntmps29
  go_wp2_with fail
  first | exact HQ.out _ | (go_ret; exact HQ.out _) | exact bodyPost_end (v := .slice none 0 0) (by simp [results, Try.results29, go_sem]) (by rfl) (HQ.out _)
theorem nextNil (at_ : Int) (w : World) (Q : Ending → World → Prop) (hQ : ∀ w', Below w.heap.size w w' → Q (.returned (.tuple #[.int .i64 0, .bool false])) w') : Calls Try.prog 26 #[.pointer none, .int .i64 at_] w Q := by
  have HQ := Aside0.mk hQ
  clear hQ
  go_enter Try.func26, Try.ntmps26
  go_wp2_with fail
  have hs : (w.alloc (Obj.cells #[.int .i64 0] 2)).heap.size = w.heap.size + 1 := by show (w.heap.push _).size = _; simp
  have c0 : ((w.alloc (Obj.cells #[.int .i64 0] 2)).alloc (Obj.cells #[.bool false] 4)).cell? ⟨w.heap.size, 0, none⟩ = some (.int .i64 0) := by
    rw [cell_of_row _ w.heap.size 0 #[.int .i64 0] 2 (0, 0) (by
      show ((w.heap.push _).push _)[w.heap.size]? = _
      rw [Array.getElem?_push_lt (by simp)]; simp)]; rfl
  have c1 : ((w.alloc (Obj.cells #[.int .i64 0] 2)).alloc (Obj.cells #[.bool false] 4)).cell? ⟨w.heap.size + 1, 0, none⟩ = some (.bool false) := by
    rw [cell_of_row _ (w.heap.size + 1) 0 #[.bool false] 4 (0, 0) (by
      have h9 := Array.getElem?_push_size (xs := (w.alloc (Obj.cells #[.int .i64 0] 2)).heap) (x := Obj.cells #[.bool false] 4)
      rw [hs] at h9; exact h9)]; rfl
  have hq := HQ.out _ (((Below.refl _ w).alloc (Nat.le_refl _) (Obj.cells #[.int .i64 0] 2)).alloc (by rw [hs]; omega) (Obj.cells #[.bool false] 4))
  generalize ((w.alloc (Obj.cells #[.int .i64 0] 2)).alloc (Obj.cells #[.bool false] 4)) = w2 at c0 c1 hq ⊢
  generalize w.heap.size + 1 = b1 at c1 ⊢
  generalize w.heap.size = b0 at c0 ⊢
  exact bodyPost_end (v := .tuple #[.int .i64 0, .bool false]) (by simp [results, Try.results26, go_sem, c0, c1]) (by rfl) hq
set_option maxHeartbeats 4000000 in
theorem none.calls (at_ too : Int) (w : World) : Calls Try.prog 7 #[.int .i64 at_, .int .i64 too] w (fun e w' => e = .returned (.bool true) ∧ Below w.heap.size w w') := by
  obtain ⟨base, hbase⟩ : ∃ base, w.heap.size = base := ⟨_, rfl⟩
  rw [hbase]
  have H1 := Aside0.mk (shown.calls base w w (Below.refl _ _) (by omega))
  obtain ⟨Q, hQ⟩ : ∃ Q : Ending → World → Prop, (fun (e : Ending) (w' : World) => e = .returned (.bool true) ∧ Below base w w') = Q := ⟨_, rfl⟩
  rw [hQ]
  have HQ := Aside0.mk hQ
  clear hQ hbase
  go_enter Try.func7, Try.ntmps7
  go_wp2_with fail
  refine H1.out.mono ?_
  rintro e w1 ⟨rfl, hb1, hs1⟩
  have B1 := Aside0.mk (And.intro hb1 hs1)
  clear H1 hb1 hs1
  go_wp2_with (go_at_call 25; refine getNil _ _ _ ?_)
  refine nextNil _ _ _ fun w2 hw2 => ?_
  obtain ⟨hb1, hs1⟩ := B1.out
  have B2 := Aside0.mk (show Below base w w2 ∧ base ≤ w2.heap.size from ⟨⟨hw2.os.trans hb1.os, hw2.tape.trans hb1.tape, hw2.output.trans hb1.output, Nat.le_trans hb1.size hw2.size, fun k hk => (hw2.block k (Nat.lt_of_lt_of_le hk hs1)).trans (hb1.block k hk)⟩, Nat.le_trans hs1 hw2.size⟩)
  clear B1 hb1 hs1 hw2
  go_wp2_with (first | (go_at_call 27; refine putNil _ _ _ _ ?_) | (go_at_call 28; refine dropNil _ _ _ ?_) | (go_at_call 23; refine lenNil _ _ ?_) | (go_at_call 24; refine shapeNil _ _ ?_) | (go_at_call 29; refine keysNil _ _ _ _ fun o => ?_))
  first | go_ret | skip
  rw [← HQ.out]
  exact ⟨rfl, B2.out.1.alloc B2.out.2 _⟩
end Go.Proofs.Ytkfcflflgecljaa.H
