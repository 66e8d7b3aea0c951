/- usage.Choose's three functions that compare. -/
import Derived.Test.YtklhmhliencgeaaQ0
import Derived.Test.YtklhmhliencgeaaQ4
import Derived.Test.YtklhmhliencgeaaQ5
import Derived.Test.YtklhmhliencgeaaQ6
import Derived.Test.YtklhmhliencgeaaHFuncs
import Derived.Test.YtklhmhliencgeaaHQuiet
import Derived.Test.YtklhmhliencgeaaHRF
import Derived.Lib.QuietBelow
import Derived.Deep.QuietTactic
import Derived.BigQuiet
set_option linter.unusedVariables false
set_option linter.unusedSimpArgs false
namespace Go.Proofs.Ytklhmhliencgeaa.Q
open Go.RowKit Go.Sort Go.Proofs.Ytklhmhliencgeaa.H Go.Proofs.YtklhmhliencgeaaW.PrintWords Go.Proofs.YtklhmhliencgeaaW.PrintLast

def ahead3 (now : Int) (x y : E) : Option Bool := (usage_benefit.f x.f0 x.f1 x.f2 now).bind fun a => (usage_benefit.f y.f0 y.f1 y.f2 now).bind fun b => some (decide (a > b))
set_option maxRecDepth 100000 in
set_option maxHeartbeats 4000000 in
theorem ahead3_calls (x y : E) (now : Int) (Bn : Nat) (r : Bool) (w : World) (hB : w.cell? ⟨Bn, 0, none⟩ = some (.int .u64 now)) (h : ahead3 now x y = some r) :
    Calls Try.prog 20 #[encE x, encE y, .pointer (some ⟨Bn, 0, none⟩)] w fun e w' => e = .returned (.bool r) ∧ Below w.heap.size w w' := by
  obtain ⟨a, ha, h⟩ := Option.bind_eq_some_iff.1 h
  obtain ⟨b, hb, h⟩ := Option.bind_eq_some_iff.1 h
  obtain rfl := Option.some.inj h
  unfold encE
  go_enter Try.func20, Try.ntmps20
  go_wp2
  obtain ⟨W1, hW1⟩ : ∃ W1, (w.alloc (.cells #[.int .i64 x.f0, .int .u64 x.f1, .int .i64 x.f2] 30)).alloc (.cells #[.int .i64 y.f0, .int .u64 y.f1, .int .i64 y.f2] 30) = W1 := ⟨_, rfl⟩
  have hb1 : Below w.heap.size w W1 := by rw [← hW1]; exact ((Below.refl _ w).alloc (Nat.le_refl _) _).alloc (by simp) _
  have hx : W1.heap[w.heap.size]? = some (.cells #[.int .i64 x.f0, .int .u64 x.f1, .int .i64 x.f2] 30 (0, 0)) := by
    rw [← hW1]; exact (Below.heap_alloc _ _ _ (by simp)).trans (World.alloc_heap_new w _)
  have hy : W1.heap[w.heap.size + 1]? = some (.cells #[.int .i64 y.f0, .int .u64 y.f1, .int .i64 y.f2] 30 (0, 0)) := by
    rw [← hW1]; have := World.alloc_heap_new (w.alloc (.cells #[.int .i64 x.f0, .int .u64 x.f1, .int .i64 x.f2] 30)) (.cells #[.int .i64 y.f0, .int .u64 y.f1, .int .i64 y.f2] 30); rwa [World.size_alloc] at this
  have hn : W1.cell? ⟨Bn, 0, none⟩ = some (.int .u64 now) := (hb1.cell (World.block_lt_of_cell? w _ hB)).trans hB
  simp only [World.size_alloc, hW1]
  clear hW1 hB
  have x0 : ∀ d os, (grow (redrawn W1 d) os).cell? ⟨w.heap.size, 0, none⟩ = some (.int .i64 x.f0) := fun d os => cell_regrown (by rw [Lib.cell_of_heap hx]; rfl) d os
  have x1 : ∀ d os, (grow (redrawn W1 d) os).cell? ⟨w.heap.size, 1, none⟩ = some (.int .u64 x.f1) := fun d os => cell_regrown (by rw [Lib.cell_of_heap hx]; rfl) d os
  have x2 : ∀ d os, (grow (redrawn W1 d) os).cell? ⟨w.heap.size, 2, none⟩ = some (.int .i64 x.f2) := fun d os => cell_regrown (by rw [Lib.cell_of_heap hx]; rfl) d os
  have y0 : ∀ d os, (grow (redrawn W1 d) os).cell? ⟨w.heap.size + 1, 0, none⟩ = some (.int .i64 y.f0) := fun d os => cell_regrown (by rw [Lib.cell_of_heap hy]; rfl) d os
  have y1 : ∀ d os, (grow (redrawn W1 d) os).cell? ⟨w.heap.size + 1, 1, none⟩ = some (.int .u64 y.f1) := fun d os => cell_regrown (by rw [Lib.cell_of_heap hy]; rfl) d os
  have y2 : ∀ d os, (grow (redrawn W1 d) os).cell? ⟨w.heap.size + 1, 2, none⟩ = some (.int .i64 y.f2) := fun d os => cell_regrown (by rw [Lib.cell_of_heap hy]; rfl) d os
  have nn : ∀ d os, (grow (redrawn W1 d) os).cell? ⟨Bn, 0, none⟩ = some (.int .u64 now) := fun d os => cell_regrown hn d os
  have c1 : ∀ d os, Calls Try.prog 21 #[.agg #[.int .i64 x.f0, .int .u64 x.f1, .int .i64 x.f2], .int .u64 now] (grow (redrawn W1 d) os) fun e w'' => e = .returned (.int .u64 a) ∧ ∃ p : Regrown, w'' = grow (redrawn W1 p.d) p.os := fun d os => Calls.regrown_of (usage_benefit.calls _ _ _ _ _ _ ha)
  have c2 : ∀ d os, Calls Try.prog 21 #[.agg #[.int .i64 y.f0, .int .u64 y.f1, .int .i64 y.f2], .int .u64 now] (grow (redrawn W1 d) os) fun e w'' => e = .returned (.int .u64 b) ∧ ∃ p : Regrown, w'' = grow (redrawn W1 p.d) p.os := fun d os => Calls.regrown_of (usage_benefit.calls _ _ _ _ _ _ hb)
  clear hx hy hn ha hb
  refine wp_region_quiet_below (by rfl) (by kernel_rfl) ?_
  iterate 2 quiet_step (fail)
  quiet_step (exact c1 _ _)
  iterate 2 quiet_step (fail)
  quiet_step (exact c2 _ _)
  iterate 2 quiet_step (fail)
  refine wpQuiet_nil ?_
  rintro _ ⟨⟨dq, osq⟩, rfl⟩
  go_wp2
  go_ret
  exact ⟨rfl, hb1.trans ((below_regrown W1 dq osq).mono hb1.size)⟩

/-- Is the one ahead of the other one? -/
def aheadV (way now : Int) (x y : E) : Option Bool := if way = 0 then usage_Choose_1.f x.f0 x.f1 x.f2 y.f0 y.f1 y.f2 else if way = 1 then usage_Choose_2.f x.f0 x.f1 x.f2 y.f0 y.f1 y.f2 else ahead3 now x y
/-- The function value that Choose compares with. -/
def aheadG (way : Int) : Nat := if way = 0 then 18 else if way = 1 then 19 else 20
def aheadC (way : Int) (Bn : Nat) : Array Value := if way = 0 then #[] else if way = 1 then #[] else #[.pointer (some ⟨Bn, 0, none⟩)]
theorem ahead_calls (way now : Int) (x y : E) (Bn : Nat) (r : Bool) (w : World) (hB : w.cell? ⟨Bn, 0, none⟩ = some (.int .u64 now)) (h : aheadV way now x y = some r) :
    Calls Try.prog (aheadG way) (#[encE x, encE y] ++ aheadC way Bn) w fun e w' => e = .returned (.bool r) ∧ Below w.heap.size w w' := by
  unfold aheadV at h
  unfold aheadG aheadC
  by_cases h0 : way = 0
  · rw [if_pos h0] at h ⊢; rw [if_pos h0]; exact usage_Choose_1.calls _ _ _ _ _ _ r w h
  · rw [if_neg h0] at h ⊢; rw [if_neg h0]
    by_cases h1 : way = 1
    · rw [if_pos h1] at h ⊢; rw [if_pos h1]; exact usage_Choose_2.calls _ _ _ _ _ _ r w h
    · rw [if_neg h1] at h ⊢; rw [if_neg h1]; exact ahead3_calls x y now Bn r w hB h
theorem ahead_some (way now : Int) (x y : E) (hx : 0 ≤ x.f0 ∧ x.f0 ≤ 16) (hy : 0 ≤ y.f0 ∧ y.f0 ≤ 16) : ∃ r, aheadV way now x y = some r := by
  have hq : ∀ z : E, 0 ≤ z.f0 ∧ z.f0 ≤ 16 → ∃ a, usage_benefit.f z.f0 z.f1 z.f2 now = some a := fun z hz => by
    have e : ¬ IntKind.u64.wrap (wrap64 (z.f0 + 1)) = 0 := by rw [IntWalk.wrap64_in _ (by omega), IntWalk.u64_in _ (by omega)]; omega
    unfold usage_benefit.f
    split <;> first | exact ⟨_, rfl⟩ | (rw [if_neg e]; exact ⟨_, rfl⟩)
  unfold aheadV
  split
  · exact ⟨_, rfl⟩
  · split
    · exact ⟨_, rfl⟩
    · obtain ⟨a, ha⟩ := hq x hx
      obtain ⟨b, hb⟩ := hq y hy
      exact ⟨_, by unfold ahead3; rw [ha, hb]; rfl⟩
end Go.Proofs.Ytklhmhliencgeaa.Q
