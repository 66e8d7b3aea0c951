/- nautilusref10.Right: may an inode be? -/
import Derived.Test.YtpcokafalmafgaaQ6
import Derived.Test.YtpcokafalmafgaaHIMapR
import Derived.Test.YtpcokafalmafgaaHIRgt
import Derived.Lib.QuietBelow
set_option linter.unusedVariables false
set_option linter.unusedSimpArgs false
namespace Go.Proofs.Ytpcokafalmafgaa.Q
open Go.RowKit Go.Sort Go.Proofs.Ytpcokafalmafgaa.H Go.Proofs.YtpcokafalmafgaaW.PrintWords Go.Proofs.YtpcokafalmafgaaW.PrintLast Go.Proofs.YtpcokafalmafgaaW.PrintMore
attribute [local go_sem] Oper.semAt_some
attribute [local go_sem high] inoEq12
set_option maxRecDepth 100000

def nautilusref10_Right.f (a0 a1 a2 a3 a4 a5 a6 a7 a8 a9 a10 a11 : Int) : Option Bool := if (a0 == 0 && (a1 == 0 && (a2 == 0 && (a3 == 0 && (a4 == 0 && (a5 == 0 && ((a6 == 0 && (a7 == 0 && (a8 == 0 && (a9 == 0 && (a10 == 0 && (a11 == 0))))))))))))) = true then some true else if a0 ≥ 1 then (if a0 ≤ 3 then (if a1 ≤ 4095 then
 (if a3 ≤ 8193532 then (if a4 < 281474976710656 then ((nautilusref10_Depth.f a3).bind fun t => if a5 = t then nautilusref10_mapped.f a6 a7 a8 a9 a10 a11 a3 else some false) else some false) else some false) else some false) else some false) else some false
set_option maxHeartbeats 4000000 in
theorem nautilusref10_Right.calls (a0 a1 a2 a3 a4 a5 a6 a7 a8 a9 a10 a11 : Int) (r : Bool) (w : World) (h : nautilusref10_Right.f a0 a1 a2 a3 a4 a5 a6 a7 a8 a9 a10 a11 = some r) :
  Calls Try.prog 37 #[.agg #[.int .i64 a0, .int .u16 a1, .int .u16 a2, .int .u32 a3, .int .u64 a4, .int .i64 a5, .int .u32 a6, .int .u32 a7, .int .u32 a8, .int .u32 a9, .int .u32 a10, .int .u32 a11]] w fun e w' => e = .returned (.bool r) ∧ Below w.heap.size w w' := by
 unfold nautilusref10_Right.f at h
 have HB := Aside0.mk ((Below.refl w.heap.size w).alloc (Nat.le_refl _) (.cells #[.int .i64 a0, .int .u16 a1, .int .u16 a2, .int .u32 a3, .int .u64 a4, .int .i64 a5, .int .u32 a6, .int .u32 a7, .int .u32 a8, .int .u32 a9, .int .u32 a10, .int .u32 a11] 42))
 by_cases cz : (a0 == 0 && (a1 == 0 && (a2 == 0 && (a3 == 0 && (a4 == 0 && (a5 == 0 && ((a6 == 0 && (a7 == 0 && (a8 == 0 && (a9 == 0 && (a10 == 0 && (a11 == 0))))))))))))) = true
 ·rw [if_pos cz] at h
  obtain rfl := Option.some.inj h
  clear h
  go_enter Try.func37, Try.ntmps37
  go_wp2
  go_ret
  exact ⟨rfl, HB.out⟩
 ·rw [if_neg cz] at h
  have dz : (a0 == 0 && (a1 == 0 && (a2 == 0 && (a3 == 0 && (a4 == 0 && (a5 == 0 && ((a6 == 0 && (a7 == 0 && (a8 == 0 && (a9 == 0 && (a10 == 0 && (a11 == 0))))))))))))) = false := by simpa using cz
  clear cz HB
  by_cases c1 : a0 ≥ 1
  ·have d1 : decide (1 ≤ a0) = true := decide_eq_true c1
   rw [if_pos c1] at h
   clear c1
   by_cases c2 : a0 ≤ 3
   ·have d2 : decide (a0 ≤ 3) = true := decide_eq_true c2
    rw [if_pos c2] at h
    clear c2
    by_cases c3 : a1 ≤ 4095
    ·have d3 : decide (a1 ≤ 4095) = true := decide_eq_true c3
     rw [if_pos c3] at h
     clear c3
     by_cases c4 : a3 ≤ 8193532
     ·have d4 : decide (a3 ≤ 8193532) = true := decide_eq_true c4
      rw [if_pos c4] at h
      clear c4
      by_cases c5 : a4 < 281474976710656
      ·have d5 : decide (a4 < 281474976710656) = true := decide_eq_true c5
       rw [if_pos c5] at h
       clear c5
       obtain ⟨t, ht, h⟩ := Option.bind_eq_some_iff.mp h
       have HT := Aside0.mk ht
       clear ht
       by_cases c6 : a5 = t
       ·have d6 : (a5 == t) = true := beq_iff_eq.2 c6
        rw [if_pos c6] at h
        clear c6
        have HM := Aside0.mk h
        clear h
        go_enter Try.func37, Try.ntmps37
        go_wp2_with fail
        obtain ⟨W1, hW1⟩ : ∃ W1, w.alloc (.cells #[.int .i64 a0, .int .u16 a1, .int .u16 a2, .int .u32 a3, .int .u64 a4, .int .i64 a5, .int .u32 a6, .int .u32 a7, .int .u32 a8, .int .u32 a9, .int .u32 a10, .int .u32 a11] 42) = W1 := ⟨_, rfl⟩
        have hx : W1.heap[w.heap.size]? = some (.cells #[.int .i64 a0, .int .u16 a1, .int .u16 a2, .int .u32 a3, .int .u64 a4, .int .i64 a5, .int .u32 a6, .int .u32 a7, .int .u32 a8, .int .u32 a9, .int .u32 a10, .int .u32 a11] 42 (0, 0)) := by rw [← hW1]; exact World.alloc_heap_new w _
        have hB : Below w.heap.size w W1 := by rw [← hW1]; exact (Below.refl _ w).alloc (Nat.le_refl _) _
        rw [hW1]
        clear hW1
        have x0 : ∀ d os, (grow (redrawn W1 d) os).cell? ⟨w.heap.size, 0, none⟩ = some (.int .i64 a0) := fun d os => cell_regrown (by rw [Lib.cell_of_heap hx]; rfl) d os
        have x1 : ∀ d os, (grow (redrawn W1 d) os).cell? ⟨w.heap.size, 1, none⟩ = some (.int .u16 a1) := fun d os => cell_regrown (by rw [Lib.cell_of_heap hx]; rfl) d os
        have x3 : ∀ d os, (grow (redrawn W1 d) os).cell? ⟨w.heap.size, 3, none⟩ = some (.int .u32 a3) := fun d os => cell_regrown (by rw [Lib.cell_of_heap hx]; rfl) d os
        have x4 : ∀ d os, (grow (redrawn W1 d) os).cell? ⟨w.heap.size, 4, none⟩ = some (.int .u64 a4) := fun d os => cell_regrown (by rw [Lib.cell_of_heap hx]; rfl) d os
        have x5 : ∀ d os, (grow (redrawn W1 d) os).cell? ⟨w.heap.size, 5, none⟩ = some (.int .i64 a5) := fun d os => cell_regrown (by rw [Lib.cell_of_heap hx]; rfl) d os
        have x6 : ∀ d os, (grow (redrawn W1 d) os).cell? ⟨w.heap.size, 6, none⟩ = some (.int .u32 a6) := fun d os => cell_regrown (by rw [Lib.cell_of_heap hx]; rfl) d os
        have x7 : ∀ d os, (grow (redrawn W1 d) os).cell? ⟨w.heap.size, 7, none⟩ = some (.int .u32 a7) := fun d os => cell_regrown (by rw [Lib.cell_of_heap hx]; rfl) d os
        have x8 : ∀ d os, (grow (redrawn W1 d) os).cell? ⟨w.heap.size, 8, none⟩ = some (.int .u32 a8) := fun d os => cell_regrown (by rw [Lib.cell_of_heap hx]; rfl) d os
        have x9 : ∀ d os, (grow (redrawn W1 d) os).cell? ⟨w.heap.size, 9, none⟩ = some (.int .u32 a9) := fun d os => cell_regrown (by rw [Lib.cell_of_heap hx]; rfl) d os
        have x10 : ∀ d os, (grow (redrawn W1 d) os).cell? ⟨w.heap.size, 10, none⟩ = some (.int .u32 a10) := fun d os => cell_regrown (by rw [Lib.cell_of_heap hx]; rfl) d os
        have x11 : ∀ d os, (grow (redrawn W1 d) os).cell? ⟨w.heap.size, 11, none⟩ = some (.int .u32 a11) := fun d os => cell_regrown (by rw [Lib.cell_of_heap hx]; rfl) d os
        clear hx
        have kd : ∀ d os, Calls Try.prog 36 #[.int .u32 a3] (grow (redrawn W1 d) os) fun e w'' => e = .returned (.int .i64 t) ∧ ∃ p : Regrown, w'' = grow (redrawn W1 p.d) p.os := fun d os => Calls.regrown_of ((nautilusref10_Depth.calls a3 t _ HT.out).mono fun _ _ ⟨he, hd⟩ => ⟨he, hd.below⟩)
        have km : ∀ d os, Calls Try.prog 51 #[.agg #[.int .u32 a6, .int .u32 a7, .int .u32 a8, .int .u32 a9, .int .u32 a10, .int .u32 a11], .int .u32 a3] (grow (redrawn W1 d) os) fun e w'' => e = .returned (.bool r) ∧ ∃ p : Regrown, w'' = grow (redrawn W1 p.d) p.os := fun d os => Calls.regrown_of (nautilusref10_mapped.calls a6 a7 a8 a9 a10 a11 a3 r _ HM.out)
        refine wp_region_quiet_below (by rfl) (by kernel_rfl) ?_
        repeat (quiet_step (fail))
        quiet_step (exact kd _ _)
        repeat (quiet_step (fail))
        quiet_step (exact km _ _)
        repeat (quiet_step (fail))
        refine wpQuiet_nil ?_
        rintro _ ⟨⟨dq, osq⟩, rfl⟩
        go_wp2
        go_ret
        exact ⟨rfl, hB.trans ((below_regrown W1 dq osq).mono hB.size)⟩
       ·have d6 : (a5 == t) = false := beq_false_of_ne c6
        rw [if_neg c6] at h
        clear c6
        obtain rfl := Option.some.inj h
        clear h
        go_enter Try.func37, Try.ntmps37
        go_wp2_with fail
        obtain ⟨W1, hW1⟩ : ∃ W1, w.alloc (.cells #[.int .i64 a0, .int .u16 a1, .int .u16 a2, .int .u32 a3, .int .u64 a4, .int .i64 a5, .int .u32 a6, .int .u32 a7, .int .u32 a8, .int .u32 a9, .int .u32 a10, .int .u32 a11] 42) = W1 := ⟨_, rfl⟩
        have hx : W1.heap[w.heap.size]? = some (.cells #[.int .i64 a0, .int .u16 a1, .int .u16 a2, .int .u32 a3, .int .u64 a4, .int .i64 a5, .int .u32 a6, .int .u32 a7, .int .u32 a8, .int .u32 a9, .int .u32 a10, .int .u32 a11] 42 (0, 0)) := by rw [← hW1]; exact World.alloc_heap_new w _
        have hB : Below w.heap.size w W1 := by rw [← hW1]; exact (Below.refl _ w).alloc (Nat.le_refl _) _
        rw [hW1]
        clear hW1
        have x0 : ∀ d os, (grow (redrawn W1 d) os).cell? ⟨w.heap.size, 0, none⟩ = some (.int .i64 a0) := fun d os => cell_regrown (by rw [Lib.cell_of_heap hx]; rfl) d os
        have x1 : ∀ d os, (grow (redrawn W1 d) os).cell? ⟨w.heap.size, 1, none⟩ = some (.int .u16 a1) := fun d os => cell_regrown (by rw [Lib.cell_of_heap hx]; rfl) d os
        have x3 : ∀ d os, (grow (redrawn W1 d) os).cell? ⟨w.heap.size, 3, none⟩ = some (.int .u32 a3) := fun d os => cell_regrown (by rw [Lib.cell_of_heap hx]; rfl) d os
        have x4 : ∀ d os, (grow (redrawn W1 d) os).cell? ⟨w.heap.size, 4, none⟩ = some (.int .u64 a4) := fun d os => cell_regrown (by rw [Lib.cell_of_heap hx]; rfl) d os
        have x5 : ∀ d os, (grow (redrawn W1 d) os).cell? ⟨w.heap.size, 5, none⟩ = some (.int .i64 a5) := fun d os => cell_regrown (by rw [Lib.cell_of_heap hx]; rfl) d os
        clear hx
        have kd : ∀ d os, Calls Try.prog 36 #[.int .u32 a3] (grow (redrawn W1 d) os) fun e w'' => e = .returned (.int .i64 t) ∧ ∃ p : Regrown, w'' = grow (redrawn W1 p.d) p.os := fun d os => Calls.regrown_of ((nautilusref10_Depth.calls a3 t _ HT.out).mono fun _ _ ⟨he, hd⟩ => ⟨he, hd.below⟩)
        refine wp_region_quiet_below (by rfl) (by kernel_rfl) ?_
        repeat (quiet_step (fail))
        quiet_step (exact kd _ _)
        repeat (quiet_step (fail))
        refine wpQuiet_nil ?_
        rintro _ ⟨⟨dq, osq⟩, rfl⟩
        go_wp2
        go_ret
        exact ⟨rfl, hB.trans ((below_regrown W1 dq osq).mono hB.size)⟩
      ·have d5 : decide (a4 < 281474976710656) = false := decide_eq_false c5
       rw [if_neg c5] at h
       clear c5
       obtain rfl := Option.some.inj h
       clear h
       go_enter Try.func37, Try.ntmps37
       go_wp2_with fail
       obtain ⟨W1, hW1⟩ : ∃ W1, w.alloc (.cells #[.int .i64 a0, .int .u16 a1, .int .u16 a2, .int .u32 a3, .int .u64 a4, .int .i64 a5, .int .u32 a6, .int .u32 a7, .int .u32 a8, .int .u32 a9, .int .u32 a10, .int .u32 a11] 42) = W1 := ⟨_, rfl⟩
       have hx : W1.heap[w.heap.size]? = some (.cells #[.int .i64 a0, .int .u16 a1, .int .u16 a2, .int .u32 a3, .int .u64 a4, .int .i64 a5, .int .u32 a6, .int .u32 a7, .int .u32 a8, .int .u32 a9, .int .u32 a10, .int .u32 a11] 42 (0, 0)) := by rw [← hW1]; exact World.alloc_heap_new w _
       have hB : Below w.heap.size w W1 := by rw [← hW1]; exact (Below.refl _ w).alloc (Nat.le_refl _) _
       rw [hW1]
       clear hW1
       have x0 : ∀ d os, (grow (redrawn W1 d) os).cell? ⟨w.heap.size, 0, none⟩ = some (.int .i64 a0) := fun d os => cell_regrown (by rw [Lib.cell_of_heap hx]; rfl) d os
       have x1 : ∀ d os, (grow (redrawn W1 d) os).cell? ⟨w.heap.size, 1, none⟩ = some (.int .u16 a1) := fun d os => cell_regrown (by rw [Lib.cell_of_heap hx]; rfl) d os
       have x3 : ∀ d os, (grow (redrawn W1 d) os).cell? ⟨w.heap.size, 3, none⟩ = some (.int .u32 a3) := fun d os => cell_regrown (by rw [Lib.cell_of_heap hx]; rfl) d os
       have x4 : ∀ d os, (grow (redrawn W1 d) os).cell? ⟨w.heap.size, 4, none⟩ = some (.int .u64 a4) := fun d os => cell_regrown (by rw [Lib.cell_of_heap hx]; rfl) d os
       clear hx
       refine wp_region_quiet_below (by rfl) (by kernel_rfl) ?_
       repeat (quiet_step (fail))
       refine wpQuiet_nil ?_
       rintro _ ⟨⟨dq, osq⟩, rfl⟩
       go_wp2
       go_ret
       exact ⟨rfl, hB.trans ((below_regrown W1 dq osq).mono hB.size)⟩
     ·have d4 : decide (a3 ≤ 8193532) = false := decide_eq_false c4
      rw [if_neg c4] at h
      clear c4
      obtain rfl := Option.some.inj h
      clear h
      go_enter Try.func37, Try.ntmps37
      go_wp2_with fail
      obtain ⟨W1, hW1⟩ : ∃ W1, w.alloc (.cells #[.int .i64 a0, .int .u16 a1, .int .u16 a2, .int .u32 a3, .int .u64 a4, .int .i64 a5, .int .u32 a6, .int .u32 a7, .int .u32 a8, .int .u32 a9, .int .u32 a10, .int .u32 a11] 42) = W1 := ⟨_, rfl⟩
      have hx : W1.heap[w.heap.size]? = some (.cells #[.int .i64 a0, .int .u16 a1, .int .u16 a2, .int .u32 a3, .int .u64 a4, .int .i64 a5, .int .u32 a6, .int .u32 a7, .int .u32 a8, .int .u32 a9, .int .u32 a10, .int .u32 a11] 42 (0, 0)) := by rw [← hW1]; exact World.alloc_heap_new w _
      have hB : Below w.heap.size w W1 := by rw [← hW1]; exact (Below.refl _ w).alloc (Nat.le_refl _) _
      rw [hW1]
      clear hW1
      have x0 : ∀ d os, (grow (redrawn W1 d) os).cell? ⟨w.heap.size, 0, none⟩ = some (.int .i64 a0) := fun d os => cell_regrown (by rw [Lib.cell_of_heap hx]; rfl) d os
      have x1 : ∀ d os, (grow (redrawn W1 d) os).cell? ⟨w.heap.size, 1, none⟩ = some (.int .u16 a1) := fun d os => cell_regrown (by rw [Lib.cell_of_heap hx]; rfl) d os
      have x3 : ∀ d os, (grow (redrawn W1 d) os).cell? ⟨w.heap.size, 3, none⟩ = some (.int .u32 a3) := fun d os => cell_regrown (by rw [Lib.cell_of_heap hx]; rfl) d os
      clear hx
      refine wp_region_quiet_below (by rfl) (by kernel_rfl) ?_
      repeat (quiet_step (fail))
      refine wpQuiet_nil ?_
      rintro _ ⟨⟨dq, osq⟩, rfl⟩
      go_wp2
      go_ret
      exact ⟨rfl, hB.trans ((below_regrown W1 dq osq).mono hB.size)⟩
    ·have d3 : decide (a1 ≤ 4095) = false := decide_eq_false c3
     rw [if_neg c3] at h
     obtain rfl := Option.some.inj h
     clear h c3
     go_enter Try.func37, Try.ntmps37
     go_wp2_with fail
     obtain ⟨W1, hW1⟩ : ∃ W1, w.alloc (.cells #[.int .i64 a0, .int .u16 a1, .int .u16 a2, .int .u32 a3, .int .u64 a4, .int .i64 a5, .int .u32 a6, .int .u32 a7, .int .u32 a8, .int .u32 a9, .int .u32 a10, .int .u32 a11] 42) = W1 := ⟨_, rfl⟩
     have hx : W1.heap[w.heap.size]? = some (.cells #[.int .i64 a0, .int .u16 a1, .int .u16 a2, .int .u32 a3, .int .u64 a4, .int .i64 a5, .int .u32 a6, .int .u32 a7, .int .u32 a8, .int .u32 a9, .int .u32 a10, .int .u32 a11] 42 (0, 0)) := by rw [← hW1]; exact World.alloc_heap_new w _
     have hB : Below w.heap.size w W1 := by rw [← hW1]; exact (Below.refl _ w).alloc (Nat.le_refl _) _
     rw [hW1]
     clear hW1
     have x0 : ∀ d os, (grow (redrawn W1 d) os).cell? ⟨w.heap.size, 0, none⟩ = some (.int .i64 a0) := fun d os => cell_regrown (by rw [Lib.cell_of_heap hx]; rfl) d os
     have x1 : ∀ d os, (grow (redrawn W1 d) os).cell? ⟨w.heap.size, 1, none⟩ = some (.int .u16 a1) := fun d os => cell_regrown (by rw [Lib.cell_of_heap hx]; rfl) d os
     clear hx
     refine wp_region_quiet_below (by rfl) (by kernel_rfl) ?_
     repeat (quiet_step (fail))
     refine wpQuiet_nil ?_
     rintro _ ⟨⟨dq, osq⟩, rfl⟩
     go_wp2
     go_ret
     exact ⟨rfl, hB.trans ((below_regrown W1 dq osq).mono hB.size)⟩
   ·have d2 : decide (a0 ≤ 3) = false := decide_eq_false c2
    rw [if_neg c2] at h
    obtain rfl := Option.some.inj h
    clear h c2
    go_enter Try.func37, Try.ntmps37
    go_wp2_with fail
    obtain ⟨W1, hW1⟩ : ∃ W1, w.alloc (.cells #[.int .i64 a0, .int .u16 a1, .int .u16 a2, .int .u32 a3, .int .u64 a4, .int .i64 a5, .int .u32 a6, .int .u32 a7, .int .u32 a8, .int .u32 a9, .int .u32 a10, .int .u32 a11] 42) = W1 := ⟨_, rfl⟩
    have hx : W1.heap[w.heap.size]? = some (.cells #[.int .i64 a0, .int .u16 a1, .int .u16 a2, .int .u32 a3, .int .u64 a4, .int .i64 a5, .int .u32 a6, .int .u32 a7, .int .u32 a8, .int .u32 a9, .int .u32 a10, .int .u32 a11] 42 (0, 0)) := by rw [← hW1]; exact World.alloc_heap_new w _
    have hB : Below w.heap.size w W1 := by rw [← hW1]; exact (Below.refl _ w).alloc (Nat.le_refl _) _
    rw [hW1]
    clear hW1
    have x0 : ∀ d os, (grow (redrawn W1 d) os).cell? ⟨w.heap.size, 0, none⟩ = some (.int .i64 a0) := fun d os => cell_regrown (by rw [Lib.cell_of_heap hx]; rfl) d os
    clear hx
    refine wp_region_quiet_below (by rfl) (by kernel_rfl) ?_
    repeat (quiet_step (fail))
    refine wpQuiet_nil ?_
    rintro _ ⟨⟨dq, osq⟩, rfl⟩
    go_wp2
    go_ret
    exact ⟨rfl, hB.trans ((below_regrown W1 dq osq).mono hB.size)⟩
  ·have d1 : decide (1 ≤ a0) = false := decide_eq_false c1
   rw [if_neg c1] at h
   obtain rfl := Option.some.inj h
   clear h c1
   go_enter Try.func37, Try.ntmps37
   go_wp2_with fail
   obtain ⟨W1, hW1⟩ : ∃ W1, w.alloc (.cells #[.int .i64 a0, .int .u16 a1, .int .u16 a2, .int .u32 a3, .int .u64 a4, .int .i64 a5, .int .u32 a6, .int .u32 a7, .int .u32 a8, .int .u32 a9, .int .u32 a10, .int .u32 a11] 42) = W1 := ⟨_, rfl⟩
   have hx : W1.heap[w.heap.size]? = some (.cells #[.int .i64 a0, .int .u16 a1, .int .u16 a2, .int .u32 a3, .int .u64 a4, .int .i64 a5, .int .u32 a6, .int .u32 a7, .int .u32 a8, .int .u32 a9, .int .u32 a10, .int .u32 a11] 42 (0, 0)) := by rw [← hW1]; exact World.alloc_heap_new w _
   have hB : Below w.heap.size w W1 := by rw [← hW1]; exact (Below.refl _ w).alloc (Nat.le_refl _) _
   rw [hW1]
   clear hW1
   have x0 : ∀ d os, (grow (redrawn W1 d) os).cell? ⟨w.heap.size, 0, none⟩ = some (.int .i64 a0) := fun d os => cell_regrown (by rw [Lib.cell_of_heap hx]; rfl) d os
   clear hx
   refine wp_region_quiet_below (by rfl) (by kernel_rfl) ?_
   repeat (quiet_step (fail))
   refine wpQuiet_nil ?_
   rintro _ ⟨⟨dq, osq⟩, rfl⟩
   go_wp2
   go_ret
   exact ⟨rfl, hB.trans ((below_regrown W1 dq osq).mono hB.size)⟩
end Go.Proofs.Ytpcokafalmafgaa.Q
