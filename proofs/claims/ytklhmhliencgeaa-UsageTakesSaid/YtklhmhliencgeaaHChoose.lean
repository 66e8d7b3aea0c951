/- usage.Choose. -/
import Derived.Test.YtklhmhliencgeaaQ0
import Derived.Test.YtklhmhliencgeaaQ7
import Derived.Test.YtklhmhliencgeaaHThose
import Derived.Test.YtklhmhliencgeaaHAhead
import Derived.Test.YtklhmhliencgeaaHRW
import Derived.Test.YtklhmhliencgeaaHMake
import Derived.Laws.EntriesVeiled
set_option linter.unusedVariables false
set_option linter.unusedSimpArgs false
namespace Go.Proofs.Ytklhmhliencgeaa.Q
open Go.RowKit Go.Sort Go.Proofs.Ytklhmhliencgeaa.H Go.Proofs.YtklhmhliencgeaaW.PrintWords Go.Proofs.YtklhmhliencgeaaW.PrintLast
attribute [local go_sem] Oper.semAt_some

/-- The one that is chosen, behind the first j that may be. -/
def stepB (l : List E) (way now : Int) (best i : Nat) : Nat := if best = 0 then i else if aheadV way now (atE l i) (atE l best) = some true then i else best
def bestJ (l : List E) (way now : Int) (j : Nat) : Nat := ((elig l l.length).take j).foldl (stepB l way now) 0
theorem bestJ_succ (l : List E) (way now : Int) (j : Nat) (h : j < (elig l l.length).length) : bestJ l way now (j + 1) = stepB l way now (bestJ l way now j) ((elig l l.length).getD j 0) := by
  unfold bestJ
  rw [List.take_add_one, List.foldl_append, List.getElem?_eq_getElem h, List.getD_eq_getElem?_getD, List.getElem?_eq_getElem h]
  rfl
theorem elig_lt (l : List E) (j : Nat) (h : j < (elig l l.length).length) : (elig l l.length).getD j 0 < l.length ∧ 0 < (elig l l.length).getD j 0 := by
  rw [List.getD_eq_getElem?_getD, List.getElem?_eq_getElem h, Option.getD_some]
  have hm := List.getElem_mem h
  unfold elig at hm
  obtain ⟨h1, h2⟩ := List.mem_filter.1 hm
  unfold eligB at h2
  simp only [Bool.and_eq_true, decide_eq_true_eq] at h2
  exact ⟨List.mem_range.1 h1, h2.1⟩
theorem bestJ_lt (l : List E) (way now : Int) : ∀ j, j ≤ (elig l l.length).length → bestJ l way now j = 0 ∨ bestJ l way now j < l.length
  | 0, _ => .inl rfl
  | j + 1, h => by
    have h1 := elig_lt l j h
    rw [bestJ_succ l way now j h]
    unfold stepB
    split
    · exact .inr h1.1
    · split
      · exact .inr h1.1
      · exact bestJ_lt l way now j (by omega)
theorem atE_mem {l : List E} {i : Nat} (h : i < l.length) : atE l i ∈ l := by
  unfold atE; rw [List.getD_eq_getElem?_getD, List.getElem?_eq_getElem h]; exact List.getElem_mem h

set_option maxRecDepth 100000 in
set_option maxHeartbeats 8000000 in
theorem choose_walk0 (A : Option Addr) (c : Nat) (l : List E) (now : Int) (w : World) (hC : Kd.C k30 w A l.length l) (hc : l.length ≤ c) (hR : usage_Right.f l = some true) (hall : ∀ x ∈ l, 0 ≤ x.f0 ∧ x.f0 ≤ 16) :
    Calls Try.prog 9 #[.slice A l.length c, .int .i64 0, .int .u64 now] w fun e w' => e = .returned (.tuple #[.int .i64 (bestJ l 0 now (elig l l.length).length : Nat), .bool (decide (0 < ((bestJ l 0 now (elig l l.length).length : Nat) : Int))), .int .i64 0]) ∧ Below w.heap.size w w' := by
  have hbig : l.length ≤ 9223372036854775807 := Kd.C_max hC
  refine (callsIn_wide (n := 10)).1 ?_
  refine callsIn_of_wp_marks Try.func9 rfl trivial ?_ rfl
  simp only [Try.ntmps9, List.size_toArray, List.length_cons, List.length_nil, Nat.reduceAdd, Nat.reduceSub, Array.replicate_succ, Array.replicate_zero, List.push_toArray, List.append_toArray, List.nil_append, List.cons_append]
  gi_wp2_with fail
  refine wpIn_scope ?_
  gi_wp2_with fail
  refine ⟨trivial, (callsIn_wide.2 (usage_Right.calls A c l true _ (Kd.C_alloc (Kd.C_alloc hC _) _) hc hR)).mono ?_⟩
  rintro e W1 ⟨rfl, hb1⟩
  have hS : w.heap.size + 2 ≤ W1.heap.size := by have := hb1.size; simp at this; omega
  have hbw : Below w.heap.size w W1 := (((Below.refl _ w).alloc (Nat.le_refl _) _).alloc (by simp) _).trans (hb1.mono (by simp; omega))
  have b0 : Boxed W1 w.heap.size 22 (.slice A l.length c) := by
    have h := (Boxed.new w 22 (.slice A l.length c)).alloc (.cells #[.int .u64 now] 23)
    exact (hb1.block _ (by simp; omega)).trans h
  have b1 : Boxed W1 (w.heap.size + 1) 23 (.int .u64 now) := by
    have h := Boxed.new (w.alloc (.cells #[.slice A l.length c] 22)) 23 (.int .u64 now)
    rw [World.size_alloc] at h
    exact (hb1.block _ (by simp)).trans h
  clear hb1
  have c0 := b0.cell
  have c1 := b1.cell
  have c2 := ((b0.alloc (.cells #[.func (.func 18) #[] #[]] 43)).alloc (.cells #[.int .i64 0] 3)).cell
  gi_wp2_with fail
  refine wpIn_label ?_
  gi_wp2_with fail
  refine ⟨trivial, (callsIn_wide.2 (those_calls A l.length c _)).mono ?_⟩
  rintro e W0 ⟨rfl, hW0⟩
  obtain ⟨H, hH⟩ : ∃ H, W1.heap.size = H := ⟨_, rfl⟩
  simp only [World.size_alloc, hH, Nat.add_assoc, Nat.reduceAdd]
  have hsz : W0.heap.size = H + 3 := by rw [hW0]; simp [hH]
  have hbl : Below H W1 W0 := by rw [hW0]; exact (((Below.refl H W1).alloc (by omega) _).alloc (by simp; omega) _).alloc (by simp; omega) _
  have h2 : W0.heap[H + 2]? = some (.cells #[.slice A l.length c] 22 (0, 0)) := by
    rw [hW0]; have := World.alloc_heap_new ((W1.alloc (.cells #[.func (.func 18) #[] #[]] 43)).alloc (.cells #[.int .i64 0] 3)) (.cells #[.slice A l.length c] 22); simpa [hH] using this
  have h1 : Boxed W0 (H + 1) 3 (.int .i64 0) := by
    rw [hW0]; have := (Boxed.new (W1.alloc (.cells #[.func (.func 18) #[] #[]] 43)) 3 (.int .i64 0)).alloc (.cells #[.slice A l.length c] 22); simpa [hH] using this
  have hf : Boxed W0 H 43 (.func (.func 18) #[] #[]) := by
    rw [hW0]; have := ((Boxed.new W1 43 (.func (.func 18) #[] #[])).alloc (.cells #[.int .i64 0] 3)).alloc (.cells #[.slice A l.length c] 22); rwa [hH] at this
  have hb0 : Below w.heap.size w W0 := hbw.trans (hbl.mono (by omega))
  have d0 : Boxed W0 w.heap.size 22 (.slice A l.length c) := (hbl.block _ (by omega)).trans b0
  have d1 : Boxed W0 (w.heap.size + 1) 23 (.int .u64 now) := (hbl.block _ (by omega)).trans b1
  clear hW0 hbl b0 b1 c0 c1 c2 hbw
  gi_wp2
  refine wpIn_rangeW rfl (by omega) (gf := 30) (lb := #[.pointer (some ⟨H + 2, 0, none⟩)]) rfl trivial (enters_of Try.func30 (by kernel_rfl) rfl)
    (those_seq 9 (by omega) A c l (H + 2) w W0 hC hb0 h2) (Below.refl _ _) (fun _ => rfl) (fun h => h) (fun h => h) (by omega)
    (fun k W => Boxed W w.heap.size 22 (.slice A l.length c) ∧ Boxed W (w.heap.size + 1) 23 (.int .u64 now) ∧ Boxed W H 43 (.func (.func 18) #[] #[]) ∧ Boxed W (H + 1) 3 (.int .i64 ((bestJ l 0 now k : Nat) : Int)) ∧ Below w.heap.size w W)
    (fun _ _ _ => False)
    (fun k => (stands_box _ _ _ (by rintro (h | h | h) <;> first | exact h | omega)).and ((stands_box _ _ _ (by rintro (h | h | h) <;> first | exact h | omega)).and ((stands_box _ _ _ (by rintro (h | h | h) <;> first | exact h | omega)).and ((stands_box _ _ _ (by rintro (h | h | h) <;> first | exact h | omega)).and (stands_below (by omega) (by rintro q (h | h | h) <;> first | exact h.elim | omega))))))
    (fun _ _ _ _ h _ => h)
    ⟨d0, d1, hf, h1, hb0⟩
    (fun k V => { tmps := #[.slice A l.length c, .int .i64 0, .int .u64 now, .pointer (some ⟨w.heap.size, 0, none⟩), undef, .pointer (some ⟨w.heap.size + 1, 0, none⟩), .int .i64 0, .bool false, .int .i64 0, .pointer (some ⟨H, 0, none⟩), .pointer (some ⟨H + 1, 0, none⟩), .int .i64 (((elig l l.length).getD k 0 : Nat) : Int), .pointer (some ⟨V.heap.size, 0, none⟩), .slice A l.length c, .bool true, .bool false, .int .i64 0, .bool true, .bool true, undef, undef, undef, undef, undef, .slice A l.length c, .func (.func 30) #[] #[.pointer (some ⟨H + 2, 0, none⟩)], .int .i64 (((elig l l.length).getD k 0 : Nat) : Int), encE (atE l ((elig l l.length).getD k 0)), undef, undef, undef, undef, undef, undef, undef, undef, undef, undef, undef, undef, undef, undef, undef, undef], defers := [] })
    (fun k V => V.alloc (.cells #[.int .i64 (atE l ((elig l l.length).getD k 0)).f0, .int .u64 (atE l ((elig l l.length).getD k 0)).f1, .int .i64 (atE l ((elig l l.length).getD k 0)).f2] 30))
    (fun k V => (Below.refl _ _).alloc (Nat.le_refl _) _) ?assign ?body ?done ?stop
  case assign =>
    intro lo k W K _ hK
    unfold thoseEnc encE
    unfold encE at hK
    gi_wp2
    exact hK
  case body =>
    rintro lo k V W hk hVs ⟨b0, b1, bf, bb, hB⟩ hsame hsz2
    obtain ⟨i, hi⟩ : ∃ i, (elig l l.length).getD k 0 = i := ⟨_, rfl⟩
    have hil := elig_lt l k hk
    have hnext := bestJ_succ l 0 now k hk
    have hbl := bestJ_lt l 0 now k (by omega)
    rw [hi] at hil hnext hsame hsz2
    rw [hi]
    obtain ⟨bst, hbst⟩ : ∃ b, bestJ l 0 now k = b := ⟨_, rfl⟩
    rw [hbst] at bb hnext hbl
    have hxr := hall _ (atE_mem hil.1)
    have bs : W.heap[V.heap.size]? = some (.cells #[.int .i64 (atE l i).f0, .int .u64 (atE l i).f1, .int .i64 (atE l i).f2] 30 (0, 0)) := (hsame _ (by omega)).trans (World.alloc_heap_new V _)
    have hib : i ≤ 9223372036854775807 := by omega
    have hbstb : bst ≤ 9223372036854775807 := by omega
    clear hsame hsz2 hi hbst
    unfold stepB at hnext
    obtain ⟨x, hx⟩ : ∃ x, atE l i = x := ⟨_, rfl⟩
    rw [hx] at hxr bs hnext
    rw [hx]
    have s0 : ∀ d os, (grow (redrawn W d) os).cell? ⟨V.heap.size, 0, none⟩ = some (.int .i64 x.f0) := fun d os => cell_regrown (by rw [Lib.cell_of_heap bs]; rfl) d os
    have s1 : ∀ d os, (grow (redrawn W d) os).cell? ⟨V.heap.size, 1, none⟩ = some (.int .u64 x.f1) := fun d os => cell_regrown (by rw [Lib.cell_of_heap bs]; rfl) d os
    have s2 : ∀ d os, (grow (redrawn W d) os).cell? ⟨V.heap.size, 2, none⟩ = some (.int .i64 x.f2) := fun d os => cell_regrown (by rw [Lib.cell_of_heap bs]; rfl) d os
    have q0 : ∀ d os, (grow (redrawn W d) os).cell? ⟨w.heap.size, 0, none⟩ = some (.slice A l.length c) := fun d os => cell_regrown b0.cell d os
    have q1 : ∀ d os, (grow (redrawn W d) os).cell? ⟨H, 0, none⟩ = some (.func (.func 18) #[] #[]) := fun d os => cell_regrown bf.cell d os
    have q2 : ∀ d os, (grow (redrawn W d) os).cell? ⟨H + 1, 0, none⟩ = some (.int .i64 (bst : Int)) := fun d os => cell_regrown bb.cell d os
    -- what a round leaves that takes another one
    have fin : ∀ dq osq, bestJ l 0 now (k + 1) = i → KeepsOthers W ((grow (redrawn W dq) osq).setCell ⟨H + 1, 0, none⟩ (.int .i64 (i : Int))) ∧ KeepAt (fun j => j = H + 2 ∨ j < w.heap.size) W ((grow (redrawn W dq) osq).setCell ⟨H + 1, 0, none⟩ (.int .i64 (i : Int))) ∧
        Boxed ((grow (redrawn W dq) osq).setCell ⟨H + 1, 0, none⟩ (.int .i64 (i : Int))) w.heap.size 22 (.slice A l.length c) ∧ Boxed ((grow (redrawn W dq) osq).setCell ⟨H + 1, 0, none⟩ (.int .i64 (i : Int))) (w.heap.size + 1) 23 (.int .u64 now) ∧ Boxed ((grow (redrawn W dq) osq).setCell ⟨H + 1, 0, none⟩ (.int .i64 (i : Int))) H 43 (.func (.func 18) #[] #[]) ∧ Boxed ((grow (redrawn W dq) osq).setCell ⟨H + 1, 0, none⟩ (.int .i64 (i : Int))) (H + 1) 3 (.int .i64 ((bestJ l 0 now (k + 1) : Nat) : Int)) ∧ Below w.heap.size w ((grow (redrawn W dq) osq).setCell ⟨H + 1, 0, none⟩ (.int .i64 (i : Int))) := fun dq osq he => by
      have hbr := below_regrown W dq osq
      have up : ∀ {B : Nat} {t : TypeId} {v : Value}, Boxed W B t v → Boxed (grow (redrawn W dq) osq) B t v := fun h => (hbr.block _ h.lt).trans h
      refine ⟨(KeepsOthers.trans ⟨hbr.size, fun j o h1 _ => (hbr.block j (Array.getElem?_eq_some_iff.1 h1).1).trans h1⟩ (KeepsOthers.setCell _ _ _)), (KeepAt.of_below hbr).setCell _ _ (by rintro (h | h) <;> simp at h <;> omega), (up b0).other (by omega) _, (up b1).other (by omega) _, (up bf).other (by omega) _, ?_, below_set (hB.trans (hbr.mono hB.size)) (by omega)⟩
      rw [he]; exact (up bb).set _
    by_cases hz : bst = 0
    · rw [if_pos hz] at hnext
      have hz1 : decide (0 < (bst : Int)) = false := decide_eq_false (by omega)
      have hz2 : decide (0 < bst) = false := decide_eq_false (by omega)
      clear hbl
      gi_wp2_with fail
      refine wpIn_quiet_round rfl (by rfl) (by kernel_rfl) (by kernel_rfl) ?_
      iterate 12 (refine wpQuietIn_step (fun _ _ _ _ => trivial) (fun K hK => ?_); go_simp; (first | (refine hK _ ?_; clear hK K) | (apply Exists.intro; refine ⟨fun _ => ?_, hK _ ?_⟩; (fail); clear hK K)))
      refine wpQuietIn_nil ?_
      rintro _ ⟨⟨dq, osq⟩, rfl⟩
      have Bq : Boxed (grow (redrawn W dq) osq) (H + 1) 3 (.int .i64 (bst : Int)) := ((below_regrown W dq osq).block _ bb.lt).trans bb
      have cq := Bq.cell
      have fq := Bq.frozen
      gi_wp2
      exact fin dq osq hnext
    · rw [if_neg hz] at hnext
      have hz1 : decide (0 < (bst : Int)) = true := decide_eq_true (by omega)
      have hz2 : decide (0 < bst) = true := decide_eq_true (by omega)
      have hbl2 : bst < l.length := by omega
      have hyr := hall _ (atE_mem hbl2)
      obtain ⟨ad, rfl, g0, g1, g2⟩ := at_T30 hC bst (by omega) (by omega)
      simp only [Int.toNat_natCast] at g0 g1 g2
      have e0 : rd_T30 l bst = atE l bst := by simp [rd_T30, atE, z30]
      rw [e0] at g0 g1 g2
      obtain ⟨y, hy⟩ : ∃ y, atE l bst = y := ⟨_, rfl⟩
      rw [hy] at g0 g1 g2 hyr hnext
      have up : ∀ {a : Addr} {v : Value}, w.cell? a = some v → ∀ d os, (grow (redrawn W d) os).cell? a = some v := fun h d os => cell_regrown ((hB.cell (World.block_lt_of_cell? w _ h)).trans h) d os
      have t0 := up g0
      have t1 := up g1
      have t2 := up g2
      have hlt1 : decide ((bst : Int) < (l.length : Int)) = true := decide_eq_true (by omega)
      have hlt2 : (bst : Int) < (l.length : Int) := by omega
      have hge : (0 : Int) ≤ (bst : Int) := by omega
      obtain ⟨r, hr⟩ := ahead_some 0 now x y hxr hyr
      have hcl : ∀ d os, CallsIn Fence.wide 7 Try.prog 18 #[.agg #[.int .i64 x.f0, .int .u64 x.f1, .int .i64 x.f2], .agg #[.int .i64 y.f0, .int .u64 y.f1, .int .i64 y.f2]] (grow (redrawn W d) os) fun e w'' => e = .returned (.bool r) ∧ ∃ p : Regrown, w'' = grow (redrawn W p.d) p.os :=
        fun d os => CallsIn.regrown_of (callsIn_wide.2 (by have h := ahead_calls 0 now x y (w.heap.size + 1) r _ (cell_regrown b1.cell d os) hr; simpa [encE, aheadG, aheadC] using h))
      rw [hr] at hnext
      clear hbl hx hy e0 g0 g1 g2 up hr hxr hyr hall
      gi_wp2_with fail
      refine wpIn_quiet_round rfl (by rfl) (by kernel_rfl) (by kernel_rfl) ?_
      iterate 9 (refine wpQuietIn_step (fun _ _ _ _ => trivial) (fun K hK => ?_); go_simp; (first | (refine hK _ ?_; clear hK K) | (apply Exists.intro; refine ⟨fun _ => ?_, hK _ ?_⟩; (fail); clear hK K)))
      (refine wpQuietIn_step (fun _ _ _ _ => trivial) (fun K hK => ?_); go_simp; (first | (refine hK _ ?_; clear hK K) | (apply Exists.intro; refine ⟨fun _ => ?_, hK _ ?_⟩; (exact hcl _ _); clear hK K)))
      iterate 2 (refine wpQuietIn_step (fun _ _ _ _ => trivial) (fun K hK => ?_); go_simp; (first | (refine hK _ ?_; clear hK K) | (apply Exists.intro; refine ⟨fun _ => ?_, hK _ ?_⟩; (fail); clear hK K)))
      refine wpQuietIn_nil ?_
      rintro _ ⟨⟨dq, osq⟩, rfl⟩
      have Bq : Boxed (grow (redrawn W dq) osq) (H + 1) 3 (.int .i64 (bst : Int)) := ((below_regrown W dq osq).block _ bb.lt).trans bb
      have cq := Bq.cell
      have fq := Bq.frozen
      cases r with
      | true =>
        gi_wp2
        exact fin dq osq (by rw [hnext]; simp)
      | false =>
        gi_wp2
        have hbr := below_regrown W dq osq
        have up : ∀ {B : Nat} {t : TypeId} {v : Value}, Boxed W B t v → Boxed (grow (redrawn W dq) osq) B t v := fun h => (hbr.block _ h.lt).trans h
        refine ⟨⟨hbr.size, fun j o h1 _ => (hbr.block j (Array.getElem?_eq_some_iff.1 h1).1).trans h1⟩, KeepAt.of_below hbr, up b0, up b1, up bf, ?_, hB.trans (hbr.mono hB.size)⟩
        rw [hnext, if_neg (by decide)]; exact Bq
  case done =>
    rintro W ⟨b0, b1, bf, bb, hB⟩ hWs hD
    have cc : ∀ d os, (grow (redrawn W d) os).cell? ⟨H + 1, 0, none⟩ = some (.int .i64 ((bestJ l 0 now (elig l l.length).length : Nat) : Int)) := fun d os => cell_regrown bb.cell d os
    gi_wp2_with fail
    refine wpIn_region_quiet_below rfl (by rfl) (by kernel_rfl) ?_
    iterate 6 (refine wpQuietIn_step (fun _ _ _ _ => trivial) (fun K hK => ?_); go_simp; (first | (refine hK _ ?_; clear hK K) | (apply Exists.intro; refine ⟨fun _ => ?_, hK _ ?_⟩; (fail); clear hK K)))
    refine wpQuietIn_nil ?_
    rintro _ ⟨⟨dq, osq⟩, rfl⟩
    have hD2 : (grow (redrawn W dq) osq).heap[W0.heap.size]? = some (.deferred (some [])) := ((below_regrown W dq osq).block _ (Array.getElem?_eq_some_iff.1 hD).1).trans hD
    rw [hsz] at hD2
    gi_wp2
    refine ⟨by simp, .inl ⟨_, _, rfl, run_takeDeferred hD2, ?_⟩⟩
    refine ⟨_, results_tmp3 rfl _ _ _, ⟨by first | rfl | (simp; done) | (simp [← Int.natCast_pos]; done), ?_⟩⟩
    exact (hB.trans ((below_regrown W dq osq).mono hB.size)).trans (belowK_b (w := w) (by omega) (grow (redrawn W dq) osq) _ _ _ (by omega) hD2 rfl rfl)
  case stop =>
    intro cd k W _ h
    exact h.elim

set_option maxRecDepth 100000 in
set_option maxHeartbeats 8000000 in
theorem choose_walk1 (A : Option Addr) (c : Nat) (l : List E) (now : Int) (w : World) (hC : Kd.C k30 w A l.length l) (hc : l.length ≤ c) (hR : usage_Right.f l = some true) (hall : ∀ x ∈ l, 0 ≤ x.f0 ∧ x.f0 ≤ 16) :
    Calls Try.prog 9 #[.slice A l.length c, .int .i64 1, .int .u64 now] w fun e w' => e = .returned (.tuple #[.int .i64 (bestJ l 1 now (elig l l.length).length : Nat), .bool (decide (0 < ((bestJ l 1 now (elig l l.length).length : Nat) : Int))), .int .i64 0]) ∧ Below w.heap.size w w' := by
  have hbig : l.length ≤ 9223372036854775807 := Kd.C_max hC
  refine (callsIn_wide (n := 10)).1 ?_
  refine callsIn_of_wp_marks Try.func9 rfl trivial ?_ rfl
  simp only [Try.ntmps9, List.size_toArray, List.length_cons, List.length_nil, Nat.reduceAdd, Nat.reduceSub, Array.replicate_succ, Array.replicate_zero, List.push_toArray, List.append_toArray, List.nil_append, List.cons_append]
  gi_wp2_with fail
  refine wpIn_scope ?_
  gi_wp2_with fail
  refine ⟨trivial, (callsIn_wide.2 (usage_Right.calls A c l true _ (Kd.C_alloc (Kd.C_alloc hC _) _) hc hR)).mono ?_⟩
  rintro e W1 ⟨rfl, hb1⟩
  have hS : w.heap.size + 2 ≤ W1.heap.size := by have := hb1.size; simp at this; omega
  have hbw : Below w.heap.size w W1 := (((Below.refl _ w).alloc (Nat.le_refl _) _).alloc (by simp) _).trans (hb1.mono (by simp; omega))
  have b0 : Boxed W1 w.heap.size 22 (.slice A l.length c) := by
    have h := (Boxed.new w 22 (.slice A l.length c)).alloc (.cells #[.int .u64 now] 23)
    exact (hb1.block _ (by simp; omega)).trans h
  have b1 : Boxed W1 (w.heap.size + 1) 23 (.int .u64 now) := by
    have h := Boxed.new (w.alloc (.cells #[.slice A l.length c] 22)) 23 (.int .u64 now)
    rw [World.size_alloc] at h
    exact (hb1.block _ (by simp)).trans h
  clear hb1
  have c0 := b0.cell
  have c1 := b1.cell
  have c2 := ((b0.alloc (.cells #[.func (.func 19) #[] #[]] 43)).alloc (.cells #[.int .i64 0] 3)).cell
  gi_wp2_with fail
  refine wpIn_label ?_
  gi_wp2_with fail
  refine ⟨trivial, (callsIn_wide.2 (those_calls A l.length c _)).mono ?_⟩
  rintro e W0 ⟨rfl, hW0⟩
  obtain ⟨H, hH⟩ : ∃ H, W1.heap.size = H := ⟨_, rfl⟩
  simp only [World.size_alloc, hH, Nat.add_assoc, Nat.reduceAdd]
  have hsz : W0.heap.size = H + 3 := by rw [hW0]; simp [hH]
  have hbl : Below H W1 W0 := by rw [hW0]; exact (((Below.refl H W1).alloc (by omega) _).alloc (by simp; omega) _).alloc (by simp; omega) _
  have h2 : W0.heap[H + 2]? = some (.cells #[.slice A l.length c] 22 (0, 0)) := by
    rw [hW0]; have := World.alloc_heap_new ((W1.alloc (.cells #[.func (.func 19) #[] #[]] 43)).alloc (.cells #[.int .i64 0] 3)) (.cells #[.slice A l.length c] 22); simpa [hH] using this
  have h1 : Boxed W0 (H + 1) 3 (.int .i64 0) := by
    rw [hW0]; have := (Boxed.new (W1.alloc (.cells #[.func (.func 19) #[] #[]] 43)) 3 (.int .i64 0)).alloc (.cells #[.slice A l.length c] 22); simpa [hH] using this
  have hf : Boxed W0 H 43 (.func (.func 19) #[] #[]) := by
    rw [hW0]; have := ((Boxed.new W1 43 (.func (.func 19) #[] #[])).alloc (.cells #[.int .i64 0] 3)).alloc (.cells #[.slice A l.length c] 22); rwa [hH] at this
  have hb0 : Below w.heap.size w W0 := hbw.trans (hbl.mono (by omega))
  have d0 : Boxed W0 w.heap.size 22 (.slice A l.length c) := (hbl.block _ (by omega)).trans b0
  have d1 : Boxed W0 (w.heap.size + 1) 23 (.int .u64 now) := (hbl.block _ (by omega)).trans b1
  clear hW0 hbl b0 b1 c0 c1 c2 hbw
  gi_wp2
  refine wpIn_rangeW rfl (by omega) (gf := 30) (lb := #[.pointer (some ⟨H + 2, 0, none⟩)]) rfl trivial (enters_of Try.func30 (by kernel_rfl) rfl)
    (those_seq 9 (by omega) A c l (H + 2) w W0 hC hb0 h2) (Below.refl _ _) (fun _ => rfl) (fun h => h) (fun h => h) (by omega)
    (fun k W => Boxed W w.heap.size 22 (.slice A l.length c) ∧ Boxed W (w.heap.size + 1) 23 (.int .u64 now) ∧ Boxed W H 43 (.func (.func 19) #[] #[]) ∧ Boxed W (H + 1) 3 (.int .i64 ((bestJ l 1 now k : Nat) : Int)) ∧ Below w.heap.size w W)
    (fun _ _ _ => False)
    (fun k => (stands_box _ _ _ (by rintro (h | h | h) <;> first | exact h | omega)).and ((stands_box _ _ _ (by rintro (h | h | h) <;> first | exact h | omega)).and ((stands_box _ _ _ (by rintro (h | h | h) <;> first | exact h | omega)).and ((stands_box _ _ _ (by rintro (h | h | h) <;> first | exact h | omega)).and (stands_below (by omega) (by rintro q (h | h | h) <;> first | exact h.elim | omega))))))
    (fun _ _ _ _ h _ => h)
    ⟨d0, d1, hf, h1, hb0⟩
    (fun k V => { tmps := #[.slice A l.length c, .int .i64 1, .int .u64 now, .pointer (some ⟨w.heap.size, 0, none⟩), undef, .pointer (some ⟨w.heap.size + 1, 0, none⟩), .int .i64 0, .bool false, .int .i64 0, .pointer (some ⟨H, 0, none⟩), .pointer (some ⟨H + 1, 0, none⟩), .int .i64 (((elig l l.length).getD k 0 : Nat) : Int), .pointer (some ⟨V.heap.size, 0, none⟩), .slice A l.length c, .bool true, .bool false, .int .i64 1, .bool false, .bool false, .bool true, .bool true, undef, undef, undef, .slice A l.length c, .func (.func 30) #[] #[.pointer (some ⟨H + 2, 0, none⟩)], .int .i64 (((elig l l.length).getD k 0 : Nat) : Int), encE (atE l ((elig l l.length).getD k 0)), undef, undef, undef, undef, undef, undef, undef, undef, undef, undef, undef, undef, undef, undef, undef, undef], defers := [] })
    (fun k V => V.alloc (.cells #[.int .i64 (atE l ((elig l l.length).getD k 0)).f0, .int .u64 (atE l ((elig l l.length).getD k 0)).f1, .int .i64 (atE l ((elig l l.length).getD k 0)).f2] 30))
    (fun k V => (Below.refl _ _).alloc (Nat.le_refl _) _) ?assign ?body ?done ?stop
  case assign =>
    intro lo k W K _ hK
    unfold thoseEnc encE
    unfold encE at hK
    gi_wp2
    exact hK
  case body =>
    rintro lo k V W hk hVs ⟨b0, b1, bf, bb, hB⟩ hsame hsz2
    obtain ⟨i, hi⟩ : ∃ i, (elig l l.length).getD k 0 = i := ⟨_, rfl⟩
    have hil := elig_lt l k hk
    have hnext := bestJ_succ l 1 now k hk
    have hbl := bestJ_lt l 1 now k (by omega)
    rw [hi] at hil hnext hsame hsz2
    rw [hi]
    obtain ⟨bst, hbst⟩ : ∃ b, bestJ l 1 now k = b := ⟨_, rfl⟩
    rw [hbst] at bb hnext hbl
    have hxr := hall _ (atE_mem hil.1)
    have bs : W.heap[V.heap.size]? = some (.cells #[.int .i64 (atE l i).f0, .int .u64 (atE l i).f1, .int .i64 (atE l i).f2] 30 (0, 0)) := (hsame _ (by omega)).trans (World.alloc_heap_new V _)
    have hib : i ≤ 9223372036854775807 := by omega
    have hbstb : bst ≤ 9223372036854775807 := by omega
    clear hsame hsz2 hi hbst
    unfold stepB at hnext
    obtain ⟨x, hx⟩ : ∃ x, atE l i = x := ⟨_, rfl⟩
    rw [hx] at hxr bs hnext
    rw [hx]
    have s0 : ∀ d os, (grow (redrawn W d) os).cell? ⟨V.heap.size, 0, none⟩ = some (.int .i64 x.f0) := fun d os => cell_regrown (by rw [Lib.cell_of_heap bs]; rfl) d os
    have s1 : ∀ d os, (grow (redrawn W d) os).cell? ⟨V.heap.size, 1, none⟩ = some (.int .u64 x.f1) := fun d os => cell_regrown (by rw [Lib.cell_of_heap bs]; rfl) d os
    have s2 : ∀ d os, (grow (redrawn W d) os).cell? ⟨V.heap.size, 2, none⟩ = some (.int .i64 x.f2) := fun d os => cell_regrown (by rw [Lib.cell_of_heap bs]; rfl) d os
    have q0 : ∀ d os, (grow (redrawn W d) os).cell? ⟨w.heap.size, 0, none⟩ = some (.slice A l.length c) := fun d os => cell_regrown b0.cell d os
    have q1 : ∀ d os, (grow (redrawn W d) os).cell? ⟨H, 0, none⟩ = some (.func (.func 19) #[] #[]) := fun d os => cell_regrown bf.cell d os
    have q2 : ∀ d os, (grow (redrawn W d) os).cell? ⟨H + 1, 0, none⟩ = some (.int .i64 (bst : Int)) := fun d os => cell_regrown bb.cell d os
    -- what a round leaves that takes another one
    have fin : ∀ dq osq, bestJ l 1 now (k + 1) = i → KeepsOthers W ((grow (redrawn W dq) osq).setCell ⟨H + 1, 0, none⟩ (.int .i64 (i : Int))) ∧ KeepAt (fun j => j = H + 2 ∨ j < w.heap.size) W ((grow (redrawn W dq) osq).setCell ⟨H + 1, 0, none⟩ (.int .i64 (i : Int))) ∧
        Boxed ((grow (redrawn W dq) osq).setCell ⟨H + 1, 0, none⟩ (.int .i64 (i : Int))) w.heap.size 22 (.slice A l.length c) ∧ Boxed ((grow (redrawn W dq) osq).setCell ⟨H + 1, 0, none⟩ (.int .i64 (i : Int))) (w.heap.size + 1) 23 (.int .u64 now) ∧ Boxed ((grow (redrawn W dq) osq).setCell ⟨H + 1, 0, none⟩ (.int .i64 (i : Int))) H 43 (.func (.func 19) #[] #[]) ∧ Boxed ((grow (redrawn W dq) osq).setCell ⟨H + 1, 0, none⟩ (.int .i64 (i : Int))) (H + 1) 3 (.int .i64 ((bestJ l 1 now (k + 1) : Nat) : Int)) ∧ Below w.heap.size w ((grow (redrawn W dq) osq).setCell ⟨H + 1, 0, none⟩ (.int .i64 (i : Int))) := fun dq osq he => by
      have hbr := below_regrown W dq osq
      have up : ∀ {B : Nat} {t : TypeId} {v : Value}, Boxed W B t v → Boxed (grow (redrawn W dq) osq) B t v := fun h => (hbr.block _ h.lt).trans h
      refine ⟨(KeepsOthers.trans ⟨hbr.size, fun j o h1 _ => (hbr.block j (Array.getElem?_eq_some_iff.1 h1).1).trans h1⟩ (KeepsOthers.setCell _ _ _)), (KeepAt.of_below hbr).setCell _ _ (by rintro (h | h) <;> simp at h <;> omega), (up b0).other (by omega) _, (up b1).other (by omega) _, (up bf).other (by omega) _, ?_, below_set (hB.trans (hbr.mono hB.size)) (by omega)⟩
      rw [he]; exact (up bb).set _
    by_cases hz : bst = 0
    · rw [if_pos hz] at hnext
      have hz1 : decide (0 < (bst : Int)) = false := decide_eq_false (by omega)
      have hz2 : decide (0 < bst) = false := decide_eq_false (by omega)
      clear hbl
      gi_wp2_with fail
      refine wpIn_quiet_round rfl (by rfl) (by kernel_rfl) (by kernel_rfl) ?_
      iterate 12 (refine wpQuietIn_step (fun _ _ _ _ => trivial) (fun K hK => ?_); go_simp; (first | (refine hK _ ?_; clear hK K) | (apply Exists.intro; refine ⟨fun _ => ?_, hK _ ?_⟩; (fail); clear hK K)))
      refine wpQuietIn_nil ?_
      rintro _ ⟨⟨dq, osq⟩, rfl⟩
      have Bq : Boxed (grow (redrawn W dq) osq) (H + 1) 3 (.int .i64 (bst : Int)) := ((below_regrown W dq osq).block _ bb.lt).trans bb
      have cq := Bq.cell
      have fq := Bq.frozen
      gi_wp2
      exact fin dq osq hnext
    · rw [if_neg hz] at hnext
      have hz1 : decide (0 < (bst : Int)) = true := decide_eq_true (by omega)
      have hz2 : decide (0 < bst) = true := decide_eq_true (by omega)
      have hbl2 : bst < l.length := by omega
      have hyr := hall _ (atE_mem hbl2)
      obtain ⟨ad, rfl, g0, g1, g2⟩ := at_T30 hC bst (by omega) (by omega)
      simp only [Int.toNat_natCast] at g0 g1 g2
      have e0 : rd_T30 l bst = atE l bst := by simp [rd_T30, atE, z30]
      rw [e0] at g0 g1 g2
      obtain ⟨y, hy⟩ : ∃ y, atE l bst = y := ⟨_, rfl⟩
      rw [hy] at g0 g1 g2 hyr hnext
      have up : ∀ {a : Addr} {v : Value}, w.cell? a = some v → ∀ d os, (grow (redrawn W d) os).cell? a = some v := fun h d os => cell_regrown ((hB.cell (World.block_lt_of_cell? w _ h)).trans h) d os
      have t0 := up g0
      have t1 := up g1
      have t2 := up g2
      have hlt1 : decide ((bst : Int) < (l.length : Int)) = true := decide_eq_true (by omega)
      have hlt2 : (bst : Int) < (l.length : Int) := by omega
      have hge : (0 : Int) ≤ (bst : Int) := by omega
      obtain ⟨r, hr⟩ := ahead_some 1 now x y hxr hyr
      have hcl : ∀ d os, CallsIn Fence.wide 7 Try.prog 19 #[.agg #[.int .i64 x.f0, .int .u64 x.f1, .int .i64 x.f2], .agg #[.int .i64 y.f0, .int .u64 y.f1, .int .i64 y.f2]] (grow (redrawn W d) os) fun e w'' => e = .returned (.bool r) ∧ ∃ p : Regrown, w'' = grow (redrawn W p.d) p.os :=
        fun d os => CallsIn.regrown_of (callsIn_wide.2 (by have h := ahead_calls 1 now x y (w.heap.size + 1) r _ (cell_regrown b1.cell d os) hr; simpa [encE, aheadG, aheadC] using h))
      rw [hr] at hnext
      clear hbl hx hy e0 g0 g1 g2 up hr hxr hyr hall
      gi_wp2_with fail
      refine wpIn_quiet_round rfl (by rfl) (by kernel_rfl) (by kernel_rfl) ?_
      iterate 9 (refine wpQuietIn_step (fun _ _ _ _ => trivial) (fun K hK => ?_); go_simp; (first | (refine hK _ ?_; clear hK K) | (apply Exists.intro; refine ⟨fun _ => ?_, hK _ ?_⟩; (fail); clear hK K)))
      (refine wpQuietIn_step (fun _ _ _ _ => trivial) (fun K hK => ?_); go_simp; (first | (refine hK _ ?_; clear hK K) | (apply Exists.intro; refine ⟨fun _ => ?_, hK _ ?_⟩; (exact hcl _ _); clear hK K)))
      iterate 2 (refine wpQuietIn_step (fun _ _ _ _ => trivial) (fun K hK => ?_); go_simp; (first | (refine hK _ ?_; clear hK K) | (apply Exists.intro; refine ⟨fun _ => ?_, hK _ ?_⟩; (fail); clear hK K)))
      refine wpQuietIn_nil ?_
      rintro _ ⟨⟨dq, osq⟩, rfl⟩
      have Bq : Boxed (grow (redrawn W dq) osq) (H + 1) 3 (.int .i64 (bst : Int)) := ((below_regrown W dq osq).block _ bb.lt).trans bb
      have cq := Bq.cell
      have fq := Bq.frozen
      cases r with
      | true =>
        gi_wp2
        exact fin dq osq (by rw [hnext]; simp)
      | false =>
        gi_wp2
        have hbr := below_regrown W dq osq
        have up : ∀ {B : Nat} {t : TypeId} {v : Value}, Boxed W B t v → Boxed (grow (redrawn W dq) osq) B t v := fun h => (hbr.block _ h.lt).trans h
        refine ⟨⟨hbr.size, fun j o h1 _ => (hbr.block j (Array.getElem?_eq_some_iff.1 h1).1).trans h1⟩, KeepAt.of_below hbr, up b0, up b1, up bf, ?_, hB.trans (hbr.mono hB.size)⟩
        rw [hnext, if_neg (by decide)]; exact Bq
  case done =>
    rintro W ⟨b0, b1, bf, bb, hB⟩ hWs hD
    have cc : ∀ d os, (grow (redrawn W d) os).cell? ⟨H + 1, 0, none⟩ = some (.int .i64 ((bestJ l 1 now (elig l l.length).length : Nat) : Int)) := fun d os => cell_regrown bb.cell d os
    gi_wp2_with fail
    refine wpIn_region_quiet_below rfl (by rfl) (by kernel_rfl) ?_
    iterate 6 (refine wpQuietIn_step (fun _ _ _ _ => trivial) (fun K hK => ?_); go_simp; (first | (refine hK _ ?_; clear hK K) | (apply Exists.intro; refine ⟨fun _ => ?_, hK _ ?_⟩; (fail); clear hK K)))
    refine wpQuietIn_nil ?_
    rintro _ ⟨⟨dq, osq⟩, rfl⟩
    have hD2 : (grow (redrawn W dq) osq).heap[W0.heap.size]? = some (.deferred (some [])) := ((below_regrown W dq osq).block _ (Array.getElem?_eq_some_iff.1 hD).1).trans hD
    rw [hsz] at hD2
    gi_wp2
    refine ⟨by simp, .inl ⟨_, _, rfl, run_takeDeferred hD2, ?_⟩⟩
    refine ⟨_, results_tmp3 rfl _ _ _, ⟨by first | rfl | (simp; done) | (simp [← Int.natCast_pos]; done), ?_⟩⟩
    exact (hB.trans ((below_regrown W dq osq).mono hB.size)).trans (belowK_b (w := w) (by omega) (grow (redrawn W dq) osq) _ _ _ (by omega) hD2 rfl rfl)
  case stop =>
    intro cd k W _ h
    exact h.elim

set_option maxRecDepth 100000 in
set_option maxHeartbeats 8000000 in
theorem choose_walk2 (A : Option Addr) (c : Nat) (l : List E) (now : Int) (w : World) (hC : Kd.C k30 w A l.length l) (hc : l.length ≤ c) (hR : usage_Right.f l = some true) (hall : ∀ x ∈ l, 0 ≤ x.f0 ∧ x.f0 ≤ 16) :
    Calls Try.prog 9 #[.slice A l.length c, .int .i64 2, .int .u64 now] w fun e w' => e = .returned (.tuple #[.int .i64 (bestJ l 2 now (elig l l.length).length : Nat), .bool (decide (0 < ((bestJ l 2 now (elig l l.length).length : Nat) : Int))), .int .i64 0]) ∧ Below w.heap.size w w' := by
  have hbig : l.length ≤ 9223372036854775807 := Kd.C_max hC
  refine (callsIn_wide (n := 10)).1 ?_
  refine callsIn_of_wp_marks Try.func9 rfl trivial ?_ rfl
  simp only [Try.ntmps9, List.size_toArray, List.length_cons, List.length_nil, Nat.reduceAdd, Nat.reduceSub, Array.replicate_succ, Array.replicate_zero, List.push_toArray, List.append_toArray, List.nil_append, List.cons_append]
  gi_wp2_with fail
  refine wpIn_scope ?_
  gi_wp2_with fail
  refine ⟨trivial, (callsIn_wide.2 (usage_Right.calls A c l true _ (Kd.C_alloc (Kd.C_alloc hC _) _) hc hR)).mono ?_⟩
  rintro e W1 ⟨rfl, hb1⟩
  have hS : w.heap.size + 2 ≤ W1.heap.size := by have := hb1.size; simp at this; omega
  have hbw : Below w.heap.size w W1 := (((Below.refl _ w).alloc (Nat.le_refl _) _).alloc (by simp) _).trans (hb1.mono (by simp; omega))
  have b0 : Boxed W1 w.heap.size 22 (.slice A l.length c) := by
    have h := (Boxed.new w 22 (.slice A l.length c)).alloc (.cells #[.int .u64 now] 23)
    exact (hb1.block _ (by simp; omega)).trans h
  have b1 : Boxed W1 (w.heap.size + 1) 23 (.int .u64 now) := by
    have h := Boxed.new (w.alloc (.cells #[.slice A l.length c] 22)) 23 (.int .u64 now)
    rw [World.size_alloc] at h
    exact (hb1.block _ (by simp)).trans h
  clear hb1
  have c0 := b0.cell
  have c1 := b1.cell
  have c2 := ((b0.alloc (.cells #[.func (.func 20) #[] #[.pointer (some ⟨w.heap.size + 1, 0, none⟩)]] 43)).alloc (.cells #[.int .i64 0] 3)).cell
  gi_wp2_with fail
  refine wpIn_label ?_
  gi_wp2_with fail
  refine ⟨trivial, (callsIn_wide.2 (those_calls A l.length c _)).mono ?_⟩
  rintro e W0 ⟨rfl, hW0⟩
  obtain ⟨H, hH⟩ : ∃ H, W1.heap.size = H := ⟨_, rfl⟩
  simp only [World.size_alloc, hH, Nat.add_assoc, Nat.reduceAdd]
  have hsz : W0.heap.size = H + 3 := by rw [hW0]; simp [hH]
  have hbl : Below H W1 W0 := by rw [hW0]; exact (((Below.refl H W1).alloc (by omega) _).alloc (by simp; omega) _).alloc (by simp; omega) _
  have h2 : W0.heap[H + 2]? = some (.cells #[.slice A l.length c] 22 (0, 0)) := by
    rw [hW0]; have := World.alloc_heap_new ((W1.alloc (.cells #[.func (.func 20) #[] #[.pointer (some ⟨w.heap.size + 1, 0, none⟩)]] 43)).alloc (.cells #[.int .i64 0] 3)) (.cells #[.slice A l.length c] 22); simpa [hH] using this
  have h1 : Boxed W0 (H + 1) 3 (.int .i64 0) := by
    rw [hW0]; have := (Boxed.new (W1.alloc (.cells #[.func (.func 20) #[] #[.pointer (some ⟨w.heap.size + 1, 0, none⟩)]] 43)) 3 (.int .i64 0)).alloc (.cells #[.slice A l.length c] 22); simpa [hH] using this
  have hf : Boxed W0 H 43 (.func (.func 20) #[] #[.pointer (some ⟨w.heap.size + 1, 0, none⟩)]) := by
    rw [hW0]; have := ((Boxed.new W1 43 (.func (.func 20) #[] #[.pointer (some ⟨w.heap.size + 1, 0, none⟩)])).alloc (.cells #[.int .i64 0] 3)).alloc (.cells #[.slice A l.length c] 22); rwa [hH] at this
  have hb0 : Below w.heap.size w W0 := hbw.trans (hbl.mono (by omega))
  have d0 : Boxed W0 w.heap.size 22 (.slice A l.length c) := (hbl.block _ (by omega)).trans b0
  have d1 : Boxed W0 (w.heap.size + 1) 23 (.int .u64 now) := (hbl.block _ (by omega)).trans b1
  clear hW0 hbl b0 b1 c0 c1 c2 hbw
  gi_wp2
  refine wpIn_rangeW rfl (by omega) (gf := 30) (lb := #[.pointer (some ⟨H + 2, 0, none⟩)]) rfl trivial (enters_of Try.func30 (by kernel_rfl) rfl)
    (those_seq 9 (by omega) A c l (H + 2) w W0 hC hb0 h2) (Below.refl _ _) (fun _ => rfl) (fun h => h) (fun h => h) (by omega)
    (fun k W => Boxed W w.heap.size 22 (.slice A l.length c) ∧ Boxed W (w.heap.size + 1) 23 (.int .u64 now) ∧ Boxed W H 43 (.func (.func 20) #[] #[.pointer (some ⟨w.heap.size + 1, 0, none⟩)]) ∧ Boxed W (H + 1) 3 (.int .i64 ((bestJ l 2 now k : Nat) : Int)) ∧ Below w.heap.size w W)
    (fun _ _ _ => False)
    (fun k => (stands_box _ _ _ (by rintro (h | h | h) <;> first | exact h | omega)).and ((stands_box _ _ _ (by rintro (h | h | h) <;> first | exact h | omega)).and ((stands_box _ _ _ (by rintro (h | h | h) <;> first | exact h | omega)).and ((stands_box _ _ _ (by rintro (h | h | h) <;> first | exact h | omega)).and (stands_below (by omega) (by rintro q (h | h | h) <;> first | exact h.elim | omega))))))
    (fun _ _ _ _ h _ => h)
    ⟨d0, d1, hf, h1, hb0⟩
    (fun k V => { tmps := #[.slice A l.length c, .int .i64 2, .int .u64 now, .pointer (some ⟨w.heap.size, 0, none⟩), undef, .pointer (some ⟨w.heap.size + 1, 0, none⟩), .int .i64 0, .bool false, .int .i64 0, .pointer (some ⟨H, 0, none⟩), .pointer (some ⟨H + 1, 0, none⟩), .int .i64 (((elig l l.length).getD k 0 : Nat) : Int), .pointer (some ⟨V.heap.size, 0, none⟩), .slice A l.length c, .bool true, .bool false, .int .i64 2, .bool false, .bool false, .bool false, .bool false, .bool true, .bool true, .func (.func 20) #[] #[.pointer (some ⟨w.heap.size + 1, 0, none⟩)], .slice A l.length c, .func (.func 30) #[] #[.pointer (some ⟨H + 2, 0, none⟩)], .int .i64 (((elig l l.length).getD k 0 : Nat) : Int), encE (atE l ((elig l l.length).getD k 0)), undef, undef, undef, undef, undef, undef, undef, undef, undef, undef, undef, undef, undef, undef, undef, undef], defers := [] })
    (fun k V => V.alloc (.cells #[.int .i64 (atE l ((elig l l.length).getD k 0)).f0, .int .u64 (atE l ((elig l l.length).getD k 0)).f1, .int .i64 (atE l ((elig l l.length).getD k 0)).f2] 30))
    (fun k V => (Below.refl _ _).alloc (Nat.le_refl _) _) ?assign ?body ?done ?stop
  case assign =>
    intro lo k W K _ hK
    unfold thoseEnc encE
    unfold encE at hK
    gi_wp2
    exact hK
  case body =>
    rintro lo k V W hk hVs ⟨b0, b1, bf, bb, hB⟩ hsame hsz2
    obtain ⟨i, hi⟩ : ∃ i, (elig l l.length).getD k 0 = i := ⟨_, rfl⟩
    have hil := elig_lt l k hk
    have hnext := bestJ_succ l 2 now k hk
    have hbl := bestJ_lt l 2 now k (by omega)
    rw [hi] at hil hnext hsame hsz2
    rw [hi]
    obtain ⟨bst, hbst⟩ : ∃ b, bestJ l 2 now k = b := ⟨_, rfl⟩
    rw [hbst] at bb hnext hbl
    have hxr := hall _ (atE_mem hil.1)
    have bs : W.heap[V.heap.size]? = some (.cells #[.int .i64 (atE l i).f0, .int .u64 (atE l i).f1, .int .i64 (atE l i).f2] 30 (0, 0)) := (hsame _ (by omega)).trans (World.alloc_heap_new V _)
    have hib : i ≤ 9223372036854775807 := by omega
    have hbstb : bst ≤ 9223372036854775807 := by omega
    clear hsame hsz2 hi hbst
    unfold stepB at hnext
    obtain ⟨x, hx⟩ : ∃ x, atE l i = x := ⟨_, rfl⟩
    rw [hx] at hxr bs hnext
    rw [hx]
    have s0 : ∀ d os, (grow (redrawn W d) os).cell? ⟨V.heap.size, 0, none⟩ = some (.int .i64 x.f0) := fun d os => cell_regrown (by rw [Lib.cell_of_heap bs]; rfl) d os
    have s1 : ∀ d os, (grow (redrawn W d) os).cell? ⟨V.heap.size, 1, none⟩ = some (.int .u64 x.f1) := fun d os => cell_regrown (by rw [Lib.cell_of_heap bs]; rfl) d os
    have s2 : ∀ d os, (grow (redrawn W d) os).cell? ⟨V.heap.size, 2, none⟩ = some (.int .i64 x.f2) := fun d os => cell_regrown (by rw [Lib.cell_of_heap bs]; rfl) d os
    have q0 : ∀ d os, (grow (redrawn W d) os).cell? ⟨w.heap.size, 0, none⟩ = some (.slice A l.length c) := fun d os => cell_regrown b0.cell d os
    have q1 : ∀ d os, (grow (redrawn W d) os).cell? ⟨H, 0, none⟩ = some (.func (.func 20) #[] #[.pointer (some ⟨w.heap.size + 1, 0, none⟩)]) := fun d os => cell_regrown bf.cell d os
    have q2 : ∀ d os, (grow (redrawn W d) os).cell? ⟨H + 1, 0, none⟩ = some (.int .i64 (bst : Int)) := fun d os => cell_regrown bb.cell d os
    -- what a round leaves that takes another one
    have fin : ∀ dq osq, bestJ l 2 now (k + 1) = i → KeepsOthers W ((grow (redrawn W dq) osq).setCell ⟨H + 1, 0, none⟩ (.int .i64 (i : Int))) ∧ KeepAt (fun j => j = H + 2 ∨ j < w.heap.size) W ((grow (redrawn W dq) osq).setCell ⟨H + 1, 0, none⟩ (.int .i64 (i : Int))) ∧
        Boxed ((grow (redrawn W dq) osq).setCell ⟨H + 1, 0, none⟩ (.int .i64 (i : Int))) w.heap.size 22 (.slice A l.length c) ∧ Boxed ((grow (redrawn W dq) osq).setCell ⟨H + 1, 0, none⟩ (.int .i64 (i : Int))) (w.heap.size + 1) 23 (.int .u64 now) ∧ Boxed ((grow (redrawn W dq) osq).setCell ⟨H + 1, 0, none⟩ (.int .i64 (i : Int))) H 43 (.func (.func 20) #[] #[.pointer (some ⟨w.heap.size + 1, 0, none⟩)]) ∧ Boxed ((grow (redrawn W dq) osq).setCell ⟨H + 1, 0, none⟩ (.int .i64 (i : Int))) (H + 1) 3 (.int .i64 ((bestJ l 2 now (k + 1) : Nat) : Int)) ∧ Below w.heap.size w ((grow (redrawn W dq) osq).setCell ⟨H + 1, 0, none⟩ (.int .i64 (i : Int))) := fun dq osq he => by
      have hbr := below_regrown W dq osq
      have up : ∀ {B : Nat} {t : TypeId} {v : Value}, Boxed W B t v → Boxed (grow (redrawn W dq) osq) B t v := fun h => (hbr.block _ h.lt).trans h
      refine ⟨(KeepsOthers.trans ⟨hbr.size, fun j o h1 _ => (hbr.block j (Array.getElem?_eq_some_iff.1 h1).1).trans h1⟩ (KeepsOthers.setCell _ _ _)), (KeepAt.of_below hbr).setCell _ _ (by rintro (h | h) <;> simp at h <;> omega), (up b0).other (by omega) _, (up b1).other (by omega) _, (up bf).other (by omega) _, ?_, below_set (hB.trans (hbr.mono hB.size)) (by omega)⟩
      rw [he]; exact (up bb).set _
    by_cases hz : bst = 0
    · rw [if_pos hz] at hnext
      have hz1 : decide (0 < (bst : Int)) = false := decide_eq_false (by omega)
      have hz2 : decide (0 < bst) = false := decide_eq_false (by omega)
      clear hbl
      gi_wp2_with fail
      refine wpIn_quiet_round rfl (by rfl) (by kernel_rfl) (by kernel_rfl) ?_
      iterate 12 (refine wpQuietIn_step (fun _ _ _ _ => trivial) (fun K hK => ?_); go_simp; (first | (refine hK _ ?_; clear hK K) | (apply Exists.intro; refine ⟨fun _ => ?_, hK _ ?_⟩; (fail); clear hK K)))
      refine wpQuietIn_nil ?_
      rintro _ ⟨⟨dq, osq⟩, rfl⟩
      have Bq : Boxed (grow (redrawn W dq) osq) (H + 1) 3 (.int .i64 (bst : Int)) := ((below_regrown W dq osq).block _ bb.lt).trans bb
      have cq := Bq.cell
      have fq := Bq.frozen
      gi_wp2
      exact fin dq osq hnext
    · rw [if_neg hz] at hnext
      have hz1 : decide (0 < (bst : Int)) = true := decide_eq_true (by omega)
      have hz2 : decide (0 < bst) = true := decide_eq_true (by omega)
      have hbl2 : bst < l.length := by omega
      have hyr := hall _ (atE_mem hbl2)
      obtain ⟨ad, rfl, g0, g1, g2⟩ := at_T30 hC bst (by omega) (by omega)
      simp only [Int.toNat_natCast] at g0 g1 g2
      have e0 : rd_T30 l bst = atE l bst := by simp [rd_T30, atE, z30]
      rw [e0] at g0 g1 g2
      obtain ⟨y, hy⟩ : ∃ y, atE l bst = y := ⟨_, rfl⟩
      rw [hy] at g0 g1 g2 hyr hnext
      have up : ∀ {a : Addr} {v : Value}, w.cell? a = some v → ∀ d os, (grow (redrawn W d) os).cell? a = some v := fun h d os => cell_regrown ((hB.cell (World.block_lt_of_cell? w _ h)).trans h) d os
      have t0 := up g0
      have t1 := up g1
      have t2 := up g2
      have hlt1 : decide ((bst : Int) < (l.length : Int)) = true := decide_eq_true (by omega)
      have hlt2 : (bst : Int) < (l.length : Int) := by omega
      have hge : (0 : Int) ≤ (bst : Int) := by omega
      obtain ⟨r, hr⟩ := ahead_some 2 now x y hxr hyr
      have hcl : ∀ d os, CallsIn Fence.wide 7 Try.prog 20 #[.agg #[.int .i64 x.f0, .int .u64 x.f1, .int .i64 x.f2], .agg #[.int .i64 y.f0, .int .u64 y.f1, .int .i64 y.f2], .pointer (some ⟨w.heap.size + 1, 0, none⟩)] (grow (redrawn W d) os) fun e w'' => e = .returned (.bool r) ∧ ∃ p : Regrown, w'' = grow (redrawn W p.d) p.os :=
        fun d os => CallsIn.regrown_of (callsIn_wide.2 (by have h := ahead_calls 2 now x y (w.heap.size + 1) r _ (cell_regrown b1.cell d os) hr; simpa [encE, aheadG, aheadC] using h))
      rw [hr] at hnext
      clear hbl hx hy e0 g0 g1 g2 up hr hxr hyr hall
      gi_wp2_with fail
      refine wpIn_quiet_round rfl (by rfl) (by kernel_rfl) (by kernel_rfl) ?_
      iterate 9 (refine wpQuietIn_step (fun _ _ _ _ => trivial) (fun K hK => ?_); go_simp; (first | (refine hK _ ?_; clear hK K) | (apply Exists.intro; refine ⟨fun _ => ?_, hK _ ?_⟩; (fail); clear hK K)))
      (refine wpQuietIn_step (fun _ _ _ _ => trivial) (fun K hK => ?_); go_simp; (first | (refine hK _ ?_; clear hK K) | (apply Exists.intro; refine ⟨fun _ => ?_, hK _ ?_⟩; (exact hcl _ _); clear hK K)))
      iterate 2 (refine wpQuietIn_step (fun _ _ _ _ => trivial) (fun K hK => ?_); go_simp; (first | (refine hK _ ?_; clear hK K) | (apply Exists.intro; refine ⟨fun _ => ?_, hK _ ?_⟩; (fail); clear hK K)))
      refine wpQuietIn_nil ?_
      rintro _ ⟨⟨dq, osq⟩, rfl⟩
      have Bq : Boxed (grow (redrawn W dq) osq) (H + 1) 3 (.int .i64 (bst : Int)) := ((below_regrown W dq osq).block _ bb.lt).trans bb
      have cq := Bq.cell
      have fq := Bq.frozen
      cases r with
      | true =>
        gi_wp2
        exact fin dq osq (by rw [hnext]; simp)
      | false =>
        gi_wp2
        have hbr := below_regrown W dq osq
        have up : ∀ {B : Nat} {t : TypeId} {v : Value}, Boxed W B t v → Boxed (grow (redrawn W dq) osq) B t v := fun h => (hbr.block _ h.lt).trans h
        refine ⟨⟨hbr.size, fun j o h1 _ => (hbr.block j (Array.getElem?_eq_some_iff.1 h1).1).trans h1⟩, KeepAt.of_below hbr, up b0, up b1, up bf, ?_, hB.trans (hbr.mono hB.size)⟩
        rw [hnext, if_neg (by decide)]; exact Bq
  case done =>
    rintro W ⟨b0, b1, bf, bb, hB⟩ hWs hD
    have cc : ∀ d os, (grow (redrawn W d) os).cell? ⟨H + 1, 0, none⟩ = some (.int .i64 ((bestJ l 2 now (elig l l.length).length : Nat) : Int)) := fun d os => cell_regrown bb.cell d os
    gi_wp2_with fail
    refine wpIn_region_quiet_below rfl (by rfl) (by kernel_rfl) ?_
    iterate 6 (refine wpQuietIn_step (fun _ _ _ _ => trivial) (fun K hK => ?_); go_simp; (first | (refine hK _ ?_; clear hK K) | (apply Exists.intro; refine ⟨fun _ => ?_, hK _ ?_⟩; (fail); clear hK K)))
    refine wpQuietIn_nil ?_
    rintro _ ⟨⟨dq, osq⟩, rfl⟩
    have hD2 : (grow (redrawn W dq) osq).heap[W0.heap.size]? = some (.deferred (some [])) := ((below_regrown W dq osq).block _ (Array.getElem?_eq_some_iff.1 hD).1).trans hD
    rw [hsz] at hD2
    gi_wp2
    refine ⟨by simp, .inl ⟨_, _, rfl, run_takeDeferred hD2, ?_⟩⟩
    refine ⟨_, results_tmp3 rfl _ _ _, ⟨by first | rfl | (simp; done) | (simp [← Int.natCast_pos]; done), ?_⟩⟩
    exact (hB.trans ((below_regrown W dq osq).mono hB.size)).trans (belowK_b (w := w) (by omega) (grow (redrawn W dq) osq) _ _ _ (by omega) hD2 rfl rfl)
  case stop =>
    intro cd k W _ h
    exact h.elim

set_option maxRecDepth 100000 in
set_option maxHeartbeats 4000000 in
theorem choose_bad (A : Option Addr) (c : Nat) (l : List E) (way now : Int) (w : World) (hC : Kd.C k30 w A l.length l) (hc : l.length ≤ c) (hR : usage_Right.f l = some false) :
    Calls Try.prog 9 #[.slice A l.length c, .int .i64 way, .int .u64 now] w fun e w' => e = .returned (.tuple #[.int .i64 0, .bool false, .int .i64 60]) ∧ Below w.heap.size w w' := by
  go_enter Try.func9, Try.ntmps9
  iterate 4 ((try go_wp2_with (refine (usage_Right.calls A c l false _ (Kd.C_alloc (Kd.C_alloc hC _) _) hc hR).mono ?_; rintro e w' ⟨rfl, hb1⟩)); (try first | (with_reducible refine wp_scope_straight ?_) | (with_reducible refine wp_label ?_)))
  (try simp only [Exit.noGoto]); go_ret3
  exact ⟨rfl, (((Below.refl _ w).alloc (Nat.le_refl _) _).alloc (by simp) _).trans (hb1.mono (by simp; omega))⟩

set_option maxRecDepth 100000 in
set_option maxHeartbeats 4000000 in
theorem choose_none (A : Option Addr) (c : Nat) (l : List E) (way now : Int) (w : World) (hC : Kd.C k30 w A l.length l) (hc : l.length ≤ c) (hR : usage_Right.f l = some true) (h0 : ¬ way = 0) (h1 : ¬ way = 1) (h2 : ¬ way = 2) :
    Calls Try.prog 9 #[.slice A l.length c, .int .i64 way, .int .u64 now] w fun e w' => e = .returned (.tuple #[.int .i64 0, .bool false, .int .i64 2]) ∧ Below w.heap.size w w' := by
  have e0 : (way == 0) = false := beq_eq_false_iff_ne.2 h0
  have e1 : (way == 1) = false := beq_eq_false_iff_ne.2 h1
  have e2 : (way == 2) = false := beq_eq_false_iff_ne.2 h2
  go_enter Try.func9, Try.ntmps9
  iterate 4 ((try go_wp2_with (refine (usage_Right.calls A c l true _ (Kd.C_alloc (Kd.C_alloc hC _) _) hc hR).mono ?_; rintro e w' ⟨rfl, hb1⟩)); (try first | (with_reducible refine wp_scope_straight ?_) | (with_reducible refine wp_label ?_)))
  (try simp only [Exit.noGoto]); go_ret3
  exact ⟨rfl, ((((Below.refl _ w).alloc (Nat.le_refl _) _).alloc (by simp) _).trans (hb1.mono (by simp; omega))).alloc (by have := hb1.size; simp at this; omega) _⟩

def rangeB (x : E) : Bool := decide (0 ≤ x.f0) && decide (x.f0 ≤ 16)
/-- usage.Choose -/
def usage_Choose.f (l : List E) (way now : Int) : Option (Int × Bool × Int) := (usage_Right.f l).bind fun b =>
  if b = true then (if way = 0 ∨ way = 1 ∨ way = 2 then (if l.all rangeB = true then some (((bestJ l way now (elig l l.length).length : Nat) : Int), decide (0 < ((bestJ l way now (elig l l.length).length : Nat) : Int)), 0) else none) else some (0, false, 2)) else some (0, false, 60)
theorem usage_Choose.calls (A0 : Option Addr) (c0 : Nat) (l0 : List E) (a1 a2 : Int) (r1 : Int) (r2 : Bool) (r3 : Int) (w : World) (hr0 : Kd.C k30 w A0 l0.length l0) (hc0 : l0.length ≤ c0) (h : usage_Choose.f l0 a1 a2 = some (r1, r2, r3)) :
    Calls Try.prog 9 #[.slice A0 l0.length c0, .int .i64 a1, .int .u64 a2] w fun e w' => e = .returned (.tuple #[.int .i64 r1, .bool r2, .int .i64 r3]) ∧ Below w.heap.size w w' := by
  obtain ⟨b, hb, h⟩ := Option.bind_eq_some_iff.1 h
  cases b with
  | false =>
    rw [if_neg (by decide)] at h
    simp only [Option.some.injEq, Prod.mk.injEq] at h
    obtain ⟨rfl, rfl, rfl⟩ := h
    exact choose_bad A0 c0 l0 a1 a2 w hr0 hc0 hb
  | true =>
    rw [if_pos rfl] at h
    by_cases hw : a1 = 0 ∨ a1 = 1 ∨ a1 = 2
    · rw [if_pos hw] at h
      by_cases ha : l0.all rangeB = true
      · rw [if_pos ha] at h
        have hall : ∀ x ∈ l0, 0 ≤ x.f0 ∧ x.f0 ≤ 16 := fun x hx => by
          have := List.all_eq_true.1 ha x hx
          unfold rangeB at this
          simpa using this
        rcases hw with rfl | rfl | rfl
        · simp only [Option.some.injEq, Prod.mk.injEq] at h
          obtain ⟨rfl, rfl, rfl⟩ := h
          exact choose_walk0 A0 c0 l0 a2 w hr0 hc0 hb hall
        · simp only [Option.some.injEq, Prod.mk.injEq] at h
          obtain ⟨rfl, rfl, rfl⟩ := h
          exact choose_walk1 A0 c0 l0 a2 w hr0 hc0 hb hall
        · simp only [Option.some.injEq, Prod.mk.injEq] at h
          obtain ⟨rfl, rfl, rfl⟩ := h
          exact choose_walk2 A0 c0 l0 a2 w hr0 hc0 hb hall
      · rw [if_neg ha] at h; cases h
    · rw [if_neg hw] at h
      simp only [Option.some.injEq, Prod.mk.injEq] at h
      obtain ⟨rfl, rfl, rfl⟩ := h
      exact choose_none A0 c0 l0 a1 a2 w hr0 hc0 hb (fun e => hw (.inl e)) (fun e => hw (.inr (.inl e))) (fun e => hw (.inr (.inr e)))
end Go.Proofs.Ytklhmhliencgeaa.Q
