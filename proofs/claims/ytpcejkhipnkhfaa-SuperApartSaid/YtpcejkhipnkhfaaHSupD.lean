/- super.Decode: the super block of bytes. -/
import Derived.Test.YtpcejkhipnkhfaaQ4
import Derived.Test.YtpcejkhipnkhfaaQ6
import Derived.Test.YtpcejkhipnkhfaaHSupE
import Derived.Lib.QuietBelow
import Derived.Laws.CopyOwn
set_option linter.unusedVariables false
set_option linter.unusedSimpArgs false
namespace Go.Proofs.Ytpcejkhipnkhfaa.Q
open Go.RowKit Go.Shelf Go.Proofs.Ytpcejkhipnkhfaa.H Go.Proofs.YtpcejkhipnkhfaaW.PrintWords Go.Proofs.YtpcejkhipnkhfaaW.PrintLast Go.Proofs.YtpcejkhipnkhfaaW.PrintMore
attribute [local go_sem] Oper.semAt_some
set_option maxRecDepth 100000

def super_Decode.f (b : ByteArray) : Option (Int × Int × Int × Int × Int) :=
  if b.size = 512 then (num_Take.f 12 b 4 4).bind fun t1 => (num_Take.f 12 b 8 6).bind fun t2 => (num_Take.f 12 b 14 4).bind fun t3 => (num_Take.f 12 b 18 6).bind fun t4 =>
    (super_Encode.f (wrap64 t1.1) t2.1 (wrap64 t3.1) t4.1).bind fun e =>
      if e.2 = 0 then (if e.1.extract 0 256 = b.extract 0 256 then some (wrap64 t1.1, t2.1, wrap64 t3.1, t4.1, 0) else some (0, 0, 0, 0, 50)) else some (0, 0, 0, 0, 50)
  else some (0, 0, 0, 0, 50)

theorem four_cells {W : World} {G : Nat} {t : TypeId} {o0 o1 o2 o3 : Value} (h : W.heap[G]? = some (.cells #[o0, o1, o2, o3] t (0, 0))) (v0 v1 v2 v3 : Value) :
    ((((W.setCell ⟨G, 0, none⟩ v0).setCell ⟨G, 1, none⟩ v1).setCell ⟨G, 2, none⟩ v2).setCell ⟨G, 3, none⟩ v3).heap[G]? = some (.cells #[v0, v1, v2, v3] t (0, 0)) := by
  simp [World.setCell, Array.getElem?_modify, h]
theorem four_below {w W : World} {n G : Nat} (h : Below n w W) (hn : n ≤ G) (v0 v1 v2 v3 : Value) :
    Below n w ((((W.setCell ⟨G, 0, none⟩ v0).setCell ⟨G, 1, none⟩ v1).setCell ⟨G, 2, none⟩ v2).setCell ⟨G, 3, none⟩ v3) :=
  (((h.setCell (p := ⟨G, 0, none⟩) hn v0).setCell (p := ⟨G, 1, none⟩) hn v1).setCell (p := ⟨G, 2, none⟩) hn v2).setCell (p := ⟨G, 3, none⟩) hn v3
theorem drawn_heap {w w' : World} (h : Drawn0 w w') : w'.heap = w.heap := by obtain ⟨n, rfl⟩ := h.out; rfl
theorem encB_size (a b c d : Int) : (encB a b c d).size = 512 := by simp [encB, encL, supB, supL, ByteArray.size, lowBytes_length]
theorem encode_size {a b c d r2 : Int} {r1 : ByteArray} (h : super_Encode.f a b c d = some (r1, r2)) (h0 : r2 = 0) : r1.size = 512 := by
  unfold super_Encode.f at h
  obtain ⟨r, hr, h⟩ := Option.bind_eq_some_iff.mp h
  split at h
  · cases h; exact encB_size _ _ _ _
  · cases h; cases h0
set_option maxHeartbeats 4000000 in
theorem decTake_calls (s : ByteArray) (n wd r1 r2 : Int) (B : Nat) (w : World) (hB : w.cell? ⟨B, 0, none⟩ = some (.string s)) (h : num_Take.f 12 s n wd = some (r1, r2)) :
    Calls Try.prog 24 #[.int .i64 n, .int .i64 wd, .pointer (some ⟨B, 0, none⟩)] w fun e w' => e = .returned (.int .u64 r1) ∧ Drawn0 w w' := by
  go_enter Try.func24, Try.ntmps24
  go_wp2_with (first | (go_at_call 25; refine (num_Take.calls 12 s n wd r1 r2 _ h).mono ?_; rintro e w1 ⟨rfl, hb1⟩))
  go_ret
  exact ⟨rfl, hb1⟩

set_option maxHeartbeats 8000000 in
theorem super_Decode.calls (b : ByteArray) (r1 r2 r3 r4 r5 : Int) (w : World) (h : super_Decode.f b = some (r1, r2, r3, r4, r5)) :
    Calls Try.prog 11 #[.string b] w fun e w' => e = .returned (.tuple #[.agg #[.int .i64 r1, .int .u64 r2, .int .i64 r3, .int .u64 r4], .int .i64 r5]) ∧ Below w.heap.size w w' := by
  have hu := Try.underlying24
  unfold super_Decode.f at h
  by_cases hsz : b.size = 512
  · rw [if_pos hsz] at h
    obtain ⟨⟨t1, u1⟩, h1, h⟩ := Option.bind_eq_some_iff.mp h
    obtain ⟨⟨t2, u2⟩, h2, h⟩ := Option.bind_eq_some_iff.mp h
    obtain ⟨⟨t3, u3⟩, h3, h⟩ := Option.bind_eq_some_iff.mp h
    obtain ⟨⟨t4, u4⟩, h4, h⟩ := Option.bind_eq_some_iff.mp h
    obtain ⟨⟨eb, ee⟩, h5, h⟩ := Option.bind_eq_some_iff.mp h
    have hs1 : ((b.size : Int) != 512) = false := by simp; omega
    have hs2 : (256 : Int) ≤ (b.size : Int) := by omega
    have A1 := Aside0.mk h1
    have A2 := Aside0.mk h2
    have A3 := Aside0.mk h3
    have A4 := Aside0.mk h4
    have A5 := Aside0.mk h5
    have A6 := Aside0.mk h
    clear h1 h2 h3 h4 h5 h hsz
    go_enter Try.func11, Try.ntmps11
    go_wp2_with fail
    obtain ⟨H, hH⟩ : ∃ H, w.heap.size = H := ⟨_, rfl⟩
    rw [hH]
    have hb0 : Below H w ((w.alloc (.cells #[.string b] 9)).alloc (.cells #[.int .i64 0, .int .u64 0, .int .i64 0, .int .u64 0] 24)) := ((Below.refl H w).alloc (by omega) _).alloc (by simp; omega) _
    have hx0 : ((w.alloc (.cells #[.string b] 9)).alloc (.cells #[.int .i64 0, .int .u64 0, .int .i64 0, .int .u64 0] 24)).heap[H]? = some (.cells #[.string b] 9 (0, 0)) := by
      rw [← hH]; exact (Below.heap_alloc _ _ _ (by simp)).trans (World.alloc_heap_new w _)
    have hz0 : ((w.alloc (.cells #[.string b] 9)).alloc (.cells #[.int .i64 0, .int .u64 0, .int .i64 0, .int .u64 0] 24)).heap[H + 1]? = some (.cells #[.int .i64 0, .int .u64 0, .int .i64 0, .int .u64 0] 24 (0, 0)) := by
      rw [← hH]; have := World.alloc_heap_new (w.alloc (.cells #[.string b] 9)) (.cells #[.int .i64 0, .int .u64 0, .int .i64 0, .int .u64 0] 24); simpa using this
    have hs0 : ((w.alloc (.cells #[.string b] 9)).alloc (.cells #[.int .i64 0, .int .u64 0, .int .i64 0, .int .u64 0] 24)).heap.size = H + 2 := by simp [hH]
    generalize (w.alloc (.cells #[.string b] 9)).alloc (.cells #[.int .i64 0, .int .u64 0, .int .i64 0, .int .u64 0] 24) = W0 at hb0 hx0 hz0 hs0 ⊢
    have hc0 : W0.cell? ⟨H, 0, none⟩ = some (.string b) := by rw [Lib.cell_of_heap hx0]; rfl
    refine (decTake_calls b 4 4 t1 u1 H W0 hc0 A1.out).mono ?_
    rintro e w1 ⟨rfl, hD1⟩
    have hh1 := drawn_heap hD1
    have hc1 : w1.cell? ⟨H, 0, none⟩ = some (.string b) := by rw [Lib.cell_of_heap (show w1.heap[H]? = _ by rw [hh1]; exact hx0)]; rfl
    go_wp2_with fail
    refine (decTake_calls b 8 6 t2 u2 H w1 hc1 A2.out).mono ?_
    rintro e w2 ⟨rfl, hD2⟩
    have hh2 := (drawn_heap hD2).trans hh1
    have hc2 : w2.cell? ⟨H, 0, none⟩ = some (.string b) := by rw [Lib.cell_of_heap (show w2.heap[H]? = _ by rw [hh2]; exact hx0)]; rfl
    go_wp2_with fail
    refine (decTake_calls b 14 4 t3 u3 H w2 hc2 A3.out).mono ?_
    rintro e w3 ⟨rfl, hD3⟩
    have hh3 := (drawn_heap hD3).trans hh2
    have hc3 : w3.cell? ⟨H, 0, none⟩ = some (.string b) := by rw [Lib.cell_of_heap (show w3.heap[H]? = _ by rw [hh3]; exact hx0)]; rfl
    go_wp2_with fail
    refine (decTake_calls b 18 6 t4 u4 H w3 hc3 A4.out).mono ?_
    rintro e w4 ⟨rfl, hD4⟩
    have hh4 := (drawn_heap hD4).trans hh3
    have hbd : Below H w w4 := hb0.trans (((hD1.below.trans (hD2.below.mono (by rw [hh1]; exact Nat.le_refl _))).trans ((hD3.below.mono (by rw [hh2]; exact Nat.le_refl _)))).trans (hD4.below.mono (by rw [hh3]; exact Nat.le_refl _)) |>.mono (by omega))
    have hx4 : w4.heap[H]? = some (.cells #[.string b] 9 (0, 0)) := by rw [hh4]; exact hx0
    have hz4 : w4.heap[H + 1]? = some (.cells #[.int .i64 0, .int .u64 0, .int .i64 0, .int .u64 0] 24 (0, 0)) := by rw [hh4]; exact hz0
    have hs4 : w4.heap.size = H + 2 := by rw [hh4]; exact hs0
    clear hD1 hD2 hD3 hD4 hb0 hx0 hz0 hs0 hc0 hh1 hh2 hh3 hh4 hc1 hc2 hc3
    go_wp2_with fail
    refine (super_Encode.calls _ _ _ _ _ _ _ A5.out).mono ?_
    rintro e w5 ⟨rfl, hb5⟩
    have hb5' : Below (H + 2) w4 w5 := by rw [← hs4]; exact ((Below.refl _ w4).alloc (Nat.le_refl _) _).trans (hb5.mono (by simp))
    have hx5 : w5.heap[H]? = some (.cells #[.string b] 9 (0, 0)) := (hb5'.block H (by omega)).trans hx4
    have hz5 : w5.heap[H + 1]? = some (.cells #[.int .i64 0, .int .u64 0, .int .i64 0, .int .u64 0] 24 (0, 0)) := (hb5'.block (H + 1) (by omega)).trans hz4
    have hc5 : w5.cell? ⟨H, 0, none⟩ = some (.string b) := by rw [Lib.cell_of_heap hx5]; rfl
    have hy5 : w5.heap[H + 2]? = some (.cells #[.int .i64 (wrap64 t1), .int .u64 t2, .int .i64 (wrap64 t3), .int .u64 t4] 24 (0, 0)) := by
      have := World.alloc_heap_new w4 (.cells #[.int .i64 (wrap64 t1), .int .u64 t2, .int .i64 (wrap64 t3), .int .u64 t4] 24)
      rw [hs4] at this
      exact (hb5.block _ (by simp [hs4])).trans this
    have hbe : Below H w w5 := hbd.trans (hb5'.mono (by omega))
    clear hb5 hb5' hbd hx4 hz4
    have hee := encode_size A5.out
    have hr := A6.out
    by_cases he : ee = 0
    · rw [if_pos he] at hr
      have he1 : (ee != 0) = false := by simp [he]
      have hse : (256 : Int) ≤ (eb.size : Int) := by have := hee he; omega
      have hq : (eb.extract 0 256 = b.extract 0 256) ↔ ((eb.extract 0 256).toList = (b.extract 0 256).toList) := ⟨fun h => by rw [h], fun h => by rw [ByteArray.toList_eq, ByteArray.toList_eq] at h; exact ByteArray.ext (Array.toList_inj.1 h)⟩
      go_wp2_with fail
      go_quiet (fail)
      have hz6 : (w5.drewN nq).heap[H + 1]? = some (.cells #[.int .i64 0, .int .u64 0, .int .i64 0, .int .u64 0] 24 (0, 0)) := hz5
      have hy0 : (w5.drewN nq).cell? ⟨H + 2, 0, none⟩ = some (.int .i64 (wrap64 t1)) := by rw [Lib.cell_of_heap (show (w5.drewN nq).heap[H + 2]? = _ from hy5)]; rfl
      have hy1 : (w5.drewN nq).cell? ⟨H + 2, 1, none⟩ = some (.int .u64 t2) := by rw [Lib.cell_of_heap (show (w5.drewN nq).heap[H + 2]? = _ from hy5)]; rfl
      have hy2 : (w5.drewN nq).cell? ⟨H + 2, 2, none⟩ = some (.int .i64 (wrap64 t3)) := by rw [Lib.cell_of_heap (show (w5.drewN nq).heap[H + 2]? = _ from hy5)]; rfl
      have hy3 : (w5.drewN nq).cell? ⟨H + 2, 3, none⟩ = some (.int .u64 t4) := by rw [Lib.cell_of_heap (show (w5.drewN nq).heap[H + 2]? = _ from hy5)]; rfl
      have hB6 : Below H w (w5.drewN nq) := pw_below_drewN hbe nq
      generalize w5.drewN nq = w6 at hz6 hy0 hy1 hy2 hy3 hB6 ⊢
      by_cases hx : eb.extract 0 256 = b.extract 0 256
      · rw [if_pos hx] at hr
        simp only [Option.some.injEq, Prod.mk.injEq] at hr
        obtain ⟨rfl, rfl, rfl, rfl, rfl⟩ := hr
        have hx1 : ((eb.extract 0 256).toList == (b.extract 0 256).toList) = true := by rw [hx]; simp
        simp only [hx1, Bool.not_true]
        clear hx hq hx1 A5 A6
        have hf0 : w6.frozen? ⟨H + 1, 0, none⟩ = false := Lib.frozen_of_heap hz6 0
        have hf1 : w6.frozen? ⟨H + 1, 1, none⟩ = false := Lib.frozen_of_heap hz6 1
        have hf2 : w6.frozen? ⟨H + 1, 2, none⟩ = false := Lib.frozen_of_heap hz6 2
        have hf3 : w6.frozen? ⟨H + 1, 3, none⟩ = false := Lib.frozen_of_heap hz6 3
        have hg0 : w6.cell? ⟨H + 1, 0, none⟩ = some (.int .i64 0) := by rw [Lib.cell_of_heap hz6]; rfl
        have hg1 : w6.cell? ⟨H + 1, 1, none⟩ = some (.int .u64 0) := by rw [Lib.cell_of_heap hz6]; rfl
        have hg2 : w6.cell? ⟨H + 1, 2, none⟩ = some (.int .i64 0) := by rw [Lib.cell_of_heap hz6]; rfl
        have hg3 : w6.cell? ⟨H + 1, 3, none⟩ = some (.int .u64 0) := by rw [Lib.cell_of_heap hz6]; rfl
        go_wp2
        refine bodyPost_ret (results_ct rfl _ _ (H + 1) 24 #[.int .i64 (wrap64 t1), .int .u64 t2, .int .i64 (wrap64 t3), .int .u64 t4] (0, 0) _ rfl (four_cells hz6 _ _ _ _) Try.underlying24 rfl (by kernel_rfl)) rfl ?_
        exact ⟨rfl, by rw [hH]; exact four_below hB6 (by omega) _ _ _ _⟩
      · rw [if_neg hx] at hr
        simp only [Option.some.injEq, Prod.mk.injEq] at hr
        obtain ⟨rfl, rfl, rfl, rfl, rfl⟩ := hr
        have hx1 : ((eb.extract 0 256).toList == (b.extract 0 256).toList) = false := by
          rw [beq_eq_false_iff_ne]; exact fun h => hx (hq.2 h)
        simp only [hx1, Bool.not_false]
        clear hx hq hx1 A5 A6
        have hf0 : w6.frozen? ⟨H + 1, 0, none⟩ = false := Lib.frozen_of_heap hz6 0
        have hf1 : w6.frozen? ⟨H + 1, 1, none⟩ = false := Lib.frozen_of_heap hz6 1
        have hf2 : w6.frozen? ⟨H + 1, 2, none⟩ = false := Lib.frozen_of_heap hz6 2
        have hf3 : w6.frozen? ⟨H + 1, 3, none⟩ = false := Lib.frozen_of_heap hz6 3
        have hg0 : w6.cell? ⟨H + 1, 0, none⟩ = some (.int .i64 0) := by rw [Lib.cell_of_heap hz6]; rfl
        have hg1 : w6.cell? ⟨H + 1, 1, none⟩ = some (.int .u64 0) := by rw [Lib.cell_of_heap hz6]; rfl
        have hg2 : w6.cell? ⟨H + 1, 2, none⟩ = some (.int .i64 0) := by rw [Lib.cell_of_heap hz6]; rfl
        have hg3 : w6.cell? ⟨H + 1, 3, none⟩ = some (.int .u64 0) := by rw [Lib.cell_of_heap hz6]; rfl
        go_wp2
        refine bodyPost_ret (results_ct rfl _ _ (H + 1) 24 #[.int .i64 0, .int .u64 0, .int .i64 0, .int .u64 0] (0, 0) _ rfl (four_cells hz6 _ _ _ _) Try.underlying24 rfl (by kernel_rfl)) rfl ?_
        exact ⟨rfl, by rw [hH]; exact four_below hB6 (by omega) _ _ _ _⟩
    · rw [if_neg he] at hr
      cases hr
      have he1 : (ee != 0) = true := by simp [he]
      go_wp2_with fail
      go_quiet (fail)
      have hz6 : (w5.drewN nq).heap[H + 1]? = some (.cells #[.int .i64 0, .int .u64 0, .int .i64 0, .int .u64 0] 24 (0, 0)) := hz5
      have hB6 : Below H w (w5.drewN nq) := pw_below_drewN hbe nq
      generalize w5.drewN nq = w6 at hz6 hB6 ⊢
      have hf0 : w6.frozen? ⟨H + 1, 0, none⟩ = false := Lib.frozen_of_heap hz6 0
      have hf1 : w6.frozen? ⟨H + 1, 1, none⟩ = false := Lib.frozen_of_heap hz6 1
      have hf2 : w6.frozen? ⟨H + 1, 2, none⟩ = false := Lib.frozen_of_heap hz6 2
      have hf3 : w6.frozen? ⟨H + 1, 3, none⟩ = false := Lib.frozen_of_heap hz6 3
      have hg0 : w6.cell? ⟨H + 1, 0, none⟩ = some (.int .i64 0) := by rw [Lib.cell_of_heap hz6]; rfl
      have hg1 : w6.cell? ⟨H + 1, 1, none⟩ = some (.int .u64 0) := by rw [Lib.cell_of_heap hz6]; rfl
      have hg2 : w6.cell? ⟨H + 1, 2, none⟩ = some (.int .i64 0) := by rw [Lib.cell_of_heap hz6]; rfl
      have hg3 : w6.cell? ⟨H + 1, 3, none⟩ = some (.int .u64 0) := by rw [Lib.cell_of_heap hz6]; rfl
      go_wp2
      refine bodyPost_ret (results_ct rfl _ _ (H + 1) 24 #[.int .i64 0, .int .u64 0, .int .i64 0, .int .u64 0] (0, 0) _ rfl (four_cells hz6 _ _ _ _) Try.underlying24 rfl (by kernel_rfl)) rfl ?_
      exact ⟨rfl, by rw [hH]; exact four_below hB6 (by omega) _ _ _ _⟩
  · rw [if_neg hsz] at h
    cases h
    have hs1 : ((b.size : Int) != 512) = true := by simp; omega
    clear hsz
    go_enter Try.func11, Try.ntmps11
    go_wp2_with fail
    have hz0 : ((w.alloc (.cells #[.string b] 9)).alloc (.cells #[.int .i64 0, .int .u64 0, .int .i64 0, .int .u64 0] 24)).heap[w.heap.size + 1]? = some (.cells #[.int .i64 0, .int .u64 0, .int .i64 0, .int .u64 0] 24 (0, 0)) := by
      have := World.alloc_heap_new (w.alloc (.cells #[.string b] 9)) (.cells #[.int .i64 0, .int .u64 0, .int .i64 0, .int .u64 0] 24); simpa using this
    refine bodyPost_ret (results_ct rfl _ _ (w.heap.size + 1) 24 #[.int .i64 0, .int .u64 0, .int .i64 0, .int .u64 0] (0, 0) _ rfl hz0 Try.underlying24 rfl (by kernel_rfl)) rfl ?_
    exact ⟨rfl, ((Below.refl _ w).alloc (by omega) _).alloc (by simp) _⟩
end Go.Proofs.Ytpcejkhipnkhfaa.Q
