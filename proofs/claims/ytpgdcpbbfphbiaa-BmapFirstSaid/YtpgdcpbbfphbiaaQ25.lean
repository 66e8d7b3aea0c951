/- Functions of the translation as plain Lean functions, and that the translation computes them: printed by this session's driver of the print. -/
import Derived.Test.YtpgdcpbbfphbiaaQ0
import Derived.Test.YtpgdcpbbfphbiaaQ1
import Derived.Test.YtpgdcpbbfphbiaaQ17
import Derived.Test.YtpgdcpbbfphbiaaQ18
import Derived.Test.YtpgdcpbbfphbiaaHBLay
import Derived.Test.YtpgdcpbbfphbiaaHBLayC
import Derived.Test.YtpgdcpbbfphbiaaHBNum
namespace Go.Proofs.Ytpgdcpbbfphbiaa.Q
open Go.Proofs.Ytpgdcpbbfphbiaa.H
open Go.RowKit Go.Proofs.YtpgdcpbbfphbiaaW.PrintWords Go.Proofs.YtpgdcpbbfphbiaaW.PrintLast Go.Proofs.YtpgdcpbbfphbiaaW.PrintMore
attribute [local go_sem] max2_int min2_int max_two min_two max_three min_three max_four min_four   -- for this text's walks alone
set_option linter.unusedVariables false
set_option linter.unusedSimpArgs false

attribute [local go_sem high] eqA32
/-! ### nautiluslaw13_BmapFirst: function 8 -/
mutual
def nautiluslaw13_BmapFirst.j0 : Nat → Int → List Int → List Int → Bool → Bool → Option (Bool)
  | 0, _, _, _, _, _ => none
  | k + 1, x0, x1, x2, x7, x23 => if x23 = true then (some x7) else ((bmap_Lay.f x0 x1 x2).bind fun bt330 => (if bt330.2.2.2.2.2.2.2 = 0 then (nautiluslaw13_BmapFirst.j1 k x0 x1 x2 x7 bt330.2.2.2.2.2.2.1 bt330.2.2.2.2.2.2.2 ((x2.length : Int) == 0) bt330.1 bt330.2.1 bt330.2.2.1 bt330.2.2.2.1 bt330.2.2.2.2.1 bt330.2.2.2.2.2.1) else (nautiluslaw13_BmapFirst.j1 k x0 x1 x2 x7 bt330.2.2.2.2.2.2.1 bt330.2.2.2.2.2.2.2 true bt330.1 bt330.2.1 bt330.2.2.1 bt330.2.2.2.1 bt330.2.2.2.2.1 bt330.2.2.2.2.2.1)))
def nautiluslaw13_BmapFirst.j1 : Nat → Int → List Int → List Int → Bool → List ByteArray → Int → Bool → Int → Int → Int → Int → Int → Int → Option (Bool)
  | 0, _, _, _, _, _, _, _, _, _, _, _, _, _ => none
  | k + 1, x0, x1, x2, x7, x9, x10, x39, x341000, x341001, x341002, x341003, x341004, x341005 => if x39 = true then (if x7 = true then (if x10 = 0 then (some ((x9.length : Int) == 0)) else (some true)) else (none)) else (if (x9.length : Int) = (x2.length : Int) then (if 0 < (x2.length : Int) then (nautiluslaw13_BmapFirst.j2 k x0 x1 x2 x7 x9 (!(x341000 == (rd x2 0)) || (!(x341001 == 0) || (!(x341002 == 0) || (!(x341003 == 0) || (!(x341004 == 0) || (!(x341005 == 0)))))))) else (none)) else (nautiluslaw13_BmapFirst.j2 k x0 x1 x2 x7 x9 true))
def nautiluslaw13_BmapFirst.j2 : Nat → Int → List Int → List Int → Bool → List ByteArray → Bool → Option (Bool)
  | 0, _, _, _, _, _, _ => none
  | k + 1, x0, x1, x2, x7, x9, x62 => if x62 = true then (none) else (if (x2.length : Int) = 1 then (if 0 < (x9.length : Int) then ((bmap_Numbers.f (rdOf ByteArray.empty x9 0)).bind fun bt343 => (if x7 = true then (if bt343.2 = 0 then (if (bt343.1.length : Int) = 127 then (if (x1.length : Int) ≤ 127 then (if 0 ≤ (x1.length : Int) then (if (x1.length : Int) ≤ (bt343.1.length : Int) then ((nautilusref13_Same.f k (bt343.1.take ((x1.length : Int) : Int).toNat) x1).bind fun t351 => (some t351)) else (none)) else (none)) else (none)) else (none)) else (none)) else (none))) else (none)) else (if 0 < (x9.length : Int) then ((bmap_Below.f x0 (rdOf ByteArray.empty x9 0)).bind fun bt353 => (if x7 = true then (if bt353.2 = 0 then (if 1 ≤ (x2.length : Int) then ((nautilusref13_Same.f k bt353.1 (x2.drop 1)).bind fun t358 => (some t358)) else (none)) else (none)) else (none))) else (none)))
end
def nautiluslaw13_BmapFirst.f (k : Nat) (a0 : Int) (l1 : List Int) (l2 : List Int) : Option (Bool) := (nautiluslaw13_shown.f k).bind fun t329 => (if (l1.length : Int) > 1000 then (nautiluslaw13_BmapFirst.j0 k a0 l1 l2 t329 true) else (nautiluslaw13_BmapFirst.j0 k a0 l1 l2 t329 (decide ((l2.length : Int) > 1000))))
theorem nautiluslaw13_BmapFirst.mono_l : ∀ k, (∀ y0 y1 y2 y3 y4, LeO (nautiluslaw13_BmapFirst.j0 k y0 y1 y2 y3 y4) (nautiluslaw13_BmapFirst.j0 (k + 1) y0 y1 y2 y3 y4)) ∧ (∀ y0 y1 y2 y3 y4 y5 y6 y7 y8 y9 y10 y11 y12, LeO (nautiluslaw13_BmapFirst.j1 k y0 y1 y2 y3 y4 y5 y6 y7 y8 y9 y10 y11 y12) (nautiluslaw13_BmapFirst.j1 (k + 1) y0 y1 y2 y3 y4 y5 y6 y7 y8 y9 y10 y11 y12)) ∧ (∀ y0 y1 y2 y3 y4 y5, LeO (nautiluslaw13_BmapFirst.j2 k y0 y1 y2 y3 y4 y5) (nautiluslaw13_BmapFirst.j2 (k + 1) y0 y1 y2 y3 y4 y5))
  | 0 => ⟨fun _ _ _ _ _ r h => by simp [nautiluslaw13_BmapFirst.j0] at h, fun _ _ _ _ _ _ _ _ _ _ _ _ _ r h => by simp [nautiluslaw13_BmapFirst.j1] at h, fun _ _ _ _ _ _ r h => by simp [nautiluslaw13_BmapFirst.j2] at h⟩
  | k + 1 => by
    obtain ⟨ih0, ih1, ih2⟩ := nautiluslaw13_BmapFirst.mono_l k
    refine ⟨?_, ?_, ?_⟩
    · intro y0 y1 y2 y3 y4
      unfold nautiluslaw13_BmapFirst.j0
      repeat' first
      | (with_reducible exact ih0 _ _ _ _ _)
      | (with_reducible exact ih1 _ _ _ _ _ _ _ _ _ _ _ _ _)
      | (with_reducible exact ih2 _ _ _ _ _ _)
      | (with_reducible exact nautiluslaw13_shown.mono _)
      | (with_reducible exact nautilusref13_Same.mono _ _ _)
      | (with_reducible exact LeO.refl _)
      | (with_reducible exact LeO.none _)
      | (with_reducible refine LeO.ite ?_ ?_)
      | (with_reducible refine LeO.bind ?_ (fun _ => ?_))
      | exact ih0 _ _ _ _ _
      | exact ih1 _ _ _ _ _ _ _ _ _ _ _ _ _
      | exact ih2 _ _ _ _ _ _
      | exact nautiluslaw13_shown.mono _
      | exact nautilusref13_Same.mono _ _ _
      | exact LeO.none _
      | refine LeO.ite ?_ ?_
      | refine LeO.bind ?_ (fun _ => ?_)
    · intro y0 y1 y2 y3 y4 y5 y6 y7 y8 y9 y10 y11 y12
      unfold nautiluslaw13_BmapFirst.j1
      repeat' first
      | (with_reducible exact ih0 _ _ _ _ _)
      | (with_reducible exact ih1 _ _ _ _ _ _ _ _ _ _ _ _ _)
      | (with_reducible exact ih2 _ _ _ _ _ _)
      | (with_reducible exact nautiluslaw13_shown.mono _)
      | (with_reducible exact nautilusref13_Same.mono _ _ _)
      | (with_reducible exact LeO.refl _)
      | (with_reducible exact LeO.none _)
      | (with_reducible refine LeO.ite ?_ ?_)
      | (with_reducible refine LeO.bind ?_ (fun _ => ?_))
      | exact ih0 _ _ _ _ _
      | exact ih1 _ _ _ _ _ _ _ _ _ _ _ _ _
      | exact ih2 _ _ _ _ _ _
      | exact nautiluslaw13_shown.mono _
      | exact nautilusref13_Same.mono _ _ _
      | exact LeO.none _
      | refine LeO.ite ?_ ?_
      | refine LeO.bind ?_ (fun _ => ?_)
    · intro y0 y1 y2 y3 y4 y5
      unfold nautiluslaw13_BmapFirst.j2
      repeat' first
      | (with_reducible exact ih0 _ _ _ _ _)
      | (with_reducible exact ih1 _ _ _ _ _ _ _ _ _ _ _ _ _)
      | (with_reducible exact ih2 _ _ _ _ _ _)
      | (with_reducible exact nautiluslaw13_shown.mono _)
      | (with_reducible exact nautilusref13_Same.mono _ _ _)
      | (with_reducible exact LeO.refl _)
      | (with_reducible exact LeO.none _)
      | (with_reducible refine LeO.ite ?_ ?_)
      | (with_reducible refine LeO.bind ?_ (fun _ => ?_))
      | exact ih0 _ _ _ _ _
      | exact ih1 _ _ _ _ _ _ _ _ _ _ _ _ _
      | exact ih2 _ _ _ _ _ _
      | exact nautiluslaw13_shown.mono _
      | exact nautilusref13_Same.mono _ _ _
      | exact LeO.none _
      | refine LeO.ite ?_ ?_
      | refine LeO.bind ?_ (fun _ => ?_)
theorem nautiluslaw13_BmapFirst.mono : ∀ a0 a1 a2 k, LeO (nautiluslaw13_BmapFirst.f k a0 a1 a2) (nautiluslaw13_BmapFirst.f (k + 1) a0 a1 a2) := by
  intro a0 a1 a2 k
  obtain ⟨ih0, ih1, ih2⟩ := nautiluslaw13_BmapFirst.mono_l k
  unfold nautiluslaw13_BmapFirst.f
  repeat' first
      | (with_reducible exact ih0 _ _ _ _ _)
      | (with_reducible exact ih1 _ _ _ _ _ _ _ _ _ _ _ _ _)
      | (with_reducible exact ih2 _ _ _ _ _ _)
      | (with_reducible exact nautiluslaw13_shown.mono _)
      | (with_reducible exact nautilusref13_Same.mono _ _ _)
      | (with_reducible exact LeO.refl _)
      | (with_reducible exact LeO.none _)
      | (with_reducible refine LeO.ite ?_ ?_)
      | (with_reducible refine LeO.bind ?_ (fun _ => ?_))
      | exact ih0 _ _ _ _ _
      | exact ih1 _ _ _ _ _ _ _ _ _ _ _ _ _
      | exact ih2 _ _ _ _ _ _
      | exact nautiluslaw13_shown.mono _
      | exact nautilusref13_Same.mono _ _ _
      | exact LeO.none _
      | refine LeO.ite ?_ ?_
      | refine LeO.bind ?_ (fun _ => ?_)
set_option maxHeartbeats 8000000 in
set_option maxRecDepth 100000 in
theorem nautiluslaw13_BmapFirst.calls (k : Nat) (a0 : Int) (A1 : Option Addr) (c1 : Nat) (l1 : List Int) (A2 : Option Addr) (c2 : Nat) (l2 : List Int) (r : Bool) (w : World) (hr1 : Kd.C (Kd.int .u32) w A1 l1.length l1) (hc1 : l1.length ≤ c1) (hr2 : Kd.C (Kd.int .u32) w A2 l2.length l2) (hc2 : l2.length ≤ c2) (h : nautiluslaw13_BmapFirst.f k a0 l1 l2 = some r) :
    Calls Try.prog 8 #[.int .u32 a0, .slice A1 l1.length c1, .slice A2 l2.length c2] w fun e w' => e = .returned (.bool r) ∧ Below w.heap.size w w' := by
  have hu32 := Try.underlying32
  have HR1 := Aside0.mk hr1
  have HC1 := Aside0.mk hc1
  clear hr1 hc1
  have HR2 := Aside0.mk hr2
  have HC2 := Aside0.mk hc2
  clear hr2 hc2
  have HB := Aside0.mk (Below.refl w.heap.size w)
  have H : ((nautiluslaw13_shown.f k).bind fun t329 => (if (l1.length : Int) > 1000 then (nautiluslaw13_BmapFirst.j0 k a0 l1 l2 t329 true) else (nautiluslaw13_BmapFirst.j0 k a0 l1 l2 t329 (decide ((l2.length : Int) > 1000))))) = some r := h
  clear h
  replace H := Option.bind_eq_some_iff.mp H
  obtain ⟨t329, A40, H⟩ := H
  replace H : (if (l1.length : Int) > 1000 then (nautiluslaw13_BmapFirst.j0 k a0 l1 l2 t329 true) else (nautiluslaw13_BmapFirst.j0 k a0 l1 l2 t329 (decide ((l2.length : Int) > 1000)))) = some r := H
  have A4 := Aside0.mk A40
  clear A40
  have HC5 := Aside0.mk H
  clear H
  go_enter Try.func8, Try.ntmps8
  go_upto_region 2 with (first | (go_at_call 9; (with_reducible refine (nautiluslaw13_shown.calls k  t329 _ A4.out).mono ?_); rintro e w6 ⟨rfl, hb⟩; have n0_ := Aside0.mk (below_step (by repeat (first | (with_reducible first | exact HB.out | apply below_alloc | apply pw_below_drewN | apply below_drew1) | exact HB.out)) hb); clear HB; have HB := n0_; clear n0_; (try clear hb); (try clear hb2); (try clear hk); (try clear hi)))
  repeat (go_quiet (first | (go_at_call 9; (with_reducible refine (nautiluslaw13_shown.calls k  t329 _ A4.out).mono ?_); rintro e w6 ⟨rfl, hb⟩; have n0_ := Aside0.mk (below_step (by repeat (first | (with_reducible first | exact HB.out | apply below_alloc | apply pw_below_drewN | apply below_drew1) | exact HB.out)) hb); clear HB; have HB := n0_; clear n0_; (try clear hb); (try clear hb2); (try clear hk); (try clear hi))); go_upto_region 2 with (first | (go_at_call 9; (with_reducible refine (nautiluslaw13_shown.calls k  t329 _ A4.out).mono ?_); rintro e w6 ⟨rfl, hb⟩; have n0_ := Aside0.mk (below_step (by repeat (first | (with_reducible first | exact HB.out | apply below_alloc | apply pw_below_drewN | apply below_drew1) | exact HB.out)) hb); clear HB; have HB := n0_; clear n0_; (try clear hb); (try clear hb2); (try clear hk); (try clear hi))))
  (try simp only [Act.put, List.setIfInBounds_toArray, List.set_cons_zero, List.set_cons_succ])
  go_cut [23] (fun v23 wc => ∃ (kq : Nat) (x23_4 : Bool), v23 = .bool x23_4 ∧ Aside0 (nautiluslaw13_BmapFirst.j0 kq a0 l1 l2 t329 x23_4 = some r) ∧ Aside0 (kq ≤ k) ∧ Aside0 (Below w.heap.size w wc))
  case first =>
    have H := HC5.out
    clear HC5
    by_cases c7 : (l1.length : Int) > 1000
    · rw [if_pos c7] at H
      have c7b0 : decide (1000 < (l1.length : Int)) = true := decide_eq_true c7
      have c7b1 : decide (1000 < l1.length) = true := decide_eq_true (by omega)
      clear c7
      (first | rw [c7b0] | (simp only [i64_w, i32_w]; rw [c7b0]) | skip)
      have H' := Aside0.mk H
      clear H
      go_wp2
      repeat (go_quiet (fail); try go_wp2)
      go_meet
      case rel => exact ⟨_, (true), (by first | rfl | (simp; done) | (simp [*]; done)), H', ⟨by first | omega | exact Nat.le_refl _⟩, ⟨by repeat (first | (with_reducible first | exact HB.out | apply below_alloc | apply pw_below_drewN | apply below_drew1) | exact HB.out)⟩⟩
    · rw [if_neg c7] at H
      have c7b0 : decide (1000 < (l1.length : Int)) = false := decide_eq_false c7
      have c7b1 : decide (1000 < l1.length) = false := decide_eq_false (by omega)
      clear c7
      (first | rw [c7b0] | (simp only [i64_w, i32_w]; rw [c7b0]) | skip)
      have H' := Aside0.mk H
      clear H
      go_wp2
      repeat (go_quiet (fail); try go_wp2)
      go_meet
      case rel => exact ⟨_, (decide ((l2.length : Int) > 1000)), (by first | rfl | (simp; done) | (simp [*]; done)), H', ⟨by first | omega | exact Nat.le_refl _⟩, ⟨by repeat (first | (with_reducible first | exact HB.out | apply below_alloc | apply pw_below_drewN | apply below_drew1) | exact HB.out)⟩⟩
  case rest =>
    clear HC5
    try clear c1
    try clear c2
    try clear p2
    try clear c7
    try clear c7b0
    try clear c7b1
    obtain ⟨kq, x23_4, rfl, HA, HJ4, HB⟩ := hcut
    cases kq with
    | zero => exact absurd HA.out (by simp [nautiluslaw13_BmapFirst.j0])
    | succ kj4 =>
      have H := HA.out
      clear HA
      simp only [nautiluslaw13_BmapFirst.j0] at H
      by_cases c8 : x23_4 = true
      · subst c8
        have H1 : (some t329) = some r := by rw [if_pos rfl] at H; exact H
        clear H
        have H := H1
        clear H1
        obtain rfl := Option.some.inj H
        go_wp2
        repeat (go_quiet (fail); try go_wp2)
        go_ret
        exact ⟨by first | rfl | (simp [errW_none, errW_some] <;> rfl) | (simp [*, errW_none, errW_some] <;> rfl) | (simp [show IntKind.u64.wrap 0 = 0 from rfl, Int.zero_tdiv]; done), by repeat (first | (with_reducible first | exact HB.out | apply below_alloc | apply pw_below_drewN | apply below_drew1) | exact HB.out)⟩
      · replace c8 := Bool.eq_false_iff.mpr c8
        subst c8
        have H1 : ((bmap_Lay.f a0 l1 l2).bind fun bt330 => (if bt330.2.2.2.2.2.2.2 = 0 then (nautiluslaw13_BmapFirst.j1 kj4 a0 l1 l2 t329 bt330.2.2.2.2.2.2.1 bt330.2.2.2.2.2.2.2 ((l2.length : Int) == 0) bt330.1 bt330.2.1 bt330.2.2.1 bt330.2.2.2.1 bt330.2.2.2.2.1 bt330.2.2.2.2.2.1) else (nautiluslaw13_BmapFirst.j1 kj4 a0 l1 l2 t329 bt330.2.2.2.2.2.2.1 bt330.2.2.2.2.2.2.2 true bt330.1 bt330.2.1 bt330.2.2.1 bt330.2.2.2.1 bt330.2.2.2.2.1 bt330.2.2.2.2.2.1))) = some r := by rw [if_neg (show ¬ (false = true) by decide)] at H; exact H
        clear H
        have H := H1
        clear H1
        replace H := Option.bind_eq_some_iff.mp H
        obtain ⟨⟨t330, t331, t332, t333, t334, t335, t336, t339⟩, A90, H⟩ := H
        replace H : (if t339 = 0 then (nautiluslaw13_BmapFirst.j1 kj4 a0 l1 l2 t329 t336 t339 ((l2.length : Int) == 0) t330 t331 t332 t333 t334 t335) else (nautiluslaw13_BmapFirst.j1 kj4 a0 l1 l2 t329 t336 t339 true t330 t331 t332 t333 t334 t335)) = some r := H
        have A9 := Aside0.mk A90
        clear A90
        have HC10 := Aside0.mk H
        clear H
        go_upto_region 5 with (first | (go_at_call 15; (with_reducible refine (bmap_Lay.calls a0 _ _ l1 _ _ l2 t330 t331 t332 t333 t334 t335 t336 t339 _ ?side1 ?side2 ?side3 ?side4 A9.out).mono ?_); (case side1 => repeat (first | exact (Kd.C_below HR1.out HB.out) | (with_reducible refine Kd.C_alloc ?_ _) | (with_reducible refine Kd.C_drewN ?_ _) | (with_reducible refine Kd.C_drew ?_))); (case side2 => exact HC1.out); (case side3 => repeat (first | exact (Kd.C_below HR2.out HB.out) | (with_reducible refine Kd.C_alloc ?_ _) | (with_reducible refine Kd.C_drewN ?_ _) | (with_reducible refine Kd.C_drew ?_))); (case side4 => exact HC2.out); rintro e w11 ⟨v337, rfl, ho0, hb⟩; have n0_ := Aside0.mk (Kd.R_lower ho0 (below_size (by repeat (first | (with_reducible first | exact HB.out | apply below_alloc | apply pw_below_drewN | apply below_drew1) | exact HB.out)))); have n1_ := Aside0.mk (below_step (by repeat (first | (with_reducible first | exact HB.out | apply below_alloc | apply pw_below_drewN | apply below_drew1) | exact HB.out)) hb); clear HB; have HO338 := n0_; have HB := n1_; clear n0_ n1_; (try clear hb); (try clear hb2); (try clear hk); (try clear hi); (try clear ho0)) | ((with_reducible refine gate_dst (N := 8) rfl ?_); (try (refine gate_guard (by rfl) ?_; dsimp only)); refine box_event ?hg (N := 8) ?hd (cs := #[.int .u32 0, .int .u32 0, .int .u32 0, .int .u32 0, .int .u32 0, .int .u32 0]) (t := 32) ?hr ?_; (case hd => rfl); (case hg => rfl); (case hr => first | (go_simp; done) | (go_simp; rfl)); intro gb340 hg w12 hbox hb; have n0_ := Aside0.mk (Kd.R_below (by (with_reducible repeat (first | apply Kd.R_alloc | apply Kd.R_drewN | apply Kd.R_drew)); exact HO338.out) hb); have n1_ := Aside0.mk (below_step (by repeat (first | (with_reducible first | exact HB.out | apply below_alloc | apply pw_below_drewN | apply below_drew1) | exact HB.out)) hb); have n2_ := Aside0.mk (hbox); have n3_ := Aside0.mk ((by rw [hg]; exact (below_size (by repeat (first | (with_reducible first | exact HB.out | apply below_alloc | apply pw_below_drewN | apply below_drew1) | exact HB.out))) : w.heap.size ≤ gb340)); have n4_ := Aside0.mk ((by rw [hg]; exact (below_size (by repeat (first | (with_reducible first | exact HB.out | apply below_alloc | apply pw_below_drewN | apply below_drew1) | exact HB.out))) : w.heap.size ≤ gb340)); clear HO338; clear HB; have HO338 := n0_; have HB := n1_; have BK340 := n2_; have GW340 := n3_; have GE340 := n4_; clear n0_ n1_ n2_ n3_ n4_; clear hb hbox hg; have hcz13_0 : w12.cell? ⟨gb340, 0, none⟩ = some (.int .u32 0) := (blk_cell BK340.out 0).trans rfl; have hcz13_1 : w12.cell? ⟨gb340, 1, none⟩ = some (.int .u32 0) := (blk_cell BK340.out 1).trans rfl; have hcz13_2 : w12.cell? ⟨gb340, 2, none⟩ = some (.int .u32 0) := (blk_cell BK340.out 2).trans rfl; have hcz13_3 : w12.cell? ⟨gb340, 3, none⟩ = some (.int .u32 0) := (blk_cell BK340.out 3).trans rfl; have hcz13_4 : w12.cell? ⟨gb340, 4, none⟩ = some (.int .u32 0) := (blk_cell BK340.out 4).trans rfl; have hcz13_5 : w12.cell? ⟨gb340, 5, none⟩ = some (.int .u32 0) := (blk_cell BK340.out 5).trans rfl; have hfz13_0 := blk_frozen BK340.out 0; have hfz13_1 := blk_frozen BK340.out 1; have hfz13_2 := blk_frozen BK340.out 2; have hfz13_3 := blk_frozen BK340.out 3; have hfz13_4 := blk_frozen BK340.out 4; have hfz13_5 := blk_frozen BK340.out 5))
        repeat (go_quiet (first | (go_at_call 15; (with_reducible refine (bmap_Lay.calls a0 _ _ l1 _ _ l2 t330 t331 t332 t333 t334 t335 t336 t339 _ ?side1 ?side2 ?side3 ?side4 A9.out).mono ?_); (case side1 => repeat (first | exact (Kd.C_below HR1.out HB.out) | (with_reducible refine Kd.C_alloc ?_ _) | (with_reducible refine Kd.C_drewN ?_ _) | (with_reducible refine Kd.C_drew ?_))); (case side2 => exact HC1.out); (case side3 => repeat (first | exact (Kd.C_below HR2.out HB.out) | (with_reducible refine Kd.C_alloc ?_ _) | (with_reducible refine Kd.C_drewN ?_ _) | (with_reducible refine Kd.C_drew ?_))); (case side4 => exact HC2.out); rintro e w11 ⟨v337, rfl, ho0, hb⟩; have n0_ := Aside0.mk (Kd.R_lower ho0 (below_size (by repeat (first | (with_reducible first | exact HB.out | apply below_alloc | apply pw_below_drewN | apply below_drew1) | exact HB.out)))); have n1_ := Aside0.mk (below_step (by repeat (first | (with_reducible first | exact HB.out | apply below_alloc | apply pw_below_drewN | apply below_drew1) | exact HB.out)) hb); clear HB; have HO338 := n0_; have HB := n1_; clear n0_ n1_; (try clear hb); (try clear hb2); (try clear hk); (try clear hi); (try clear ho0)) | ((with_reducible refine gate_dst (N := 8) rfl ?_); (try (refine gate_guard (by rfl) ?_; dsimp only)); refine box_event ?hg (N := 8) ?hd (cs := #[.int .u32 0, .int .u32 0, .int .u32 0, .int .u32 0, .int .u32 0, .int .u32 0]) (t := 32) ?hr ?_; (case hd => rfl); (case hg => rfl); (case hr => first | (go_simp; done) | (go_simp; rfl)); intro gb340 hg w12 hbox hb; have n0_ := Aside0.mk (Kd.R_below (by (with_reducible repeat (first | apply Kd.R_alloc | apply Kd.R_drewN | apply Kd.R_drew)); exact HO338.out) hb); have n1_ := Aside0.mk (below_step (by repeat (first | (with_reducible first | exact HB.out | apply below_alloc | apply pw_below_drewN | apply below_drew1) | exact HB.out)) hb); have n2_ := Aside0.mk (hbox); have n3_ := Aside0.mk ((by rw [hg]; exact (below_size (by repeat (first | (with_reducible first | exact HB.out | apply below_alloc | apply pw_below_drewN | apply below_drew1) | exact HB.out))) : w.heap.size ≤ gb340)); have n4_ := Aside0.mk ((by rw [hg]; exact (below_size (by repeat (first | (with_reducible first | exact HB.out | apply below_alloc | apply pw_below_drewN | apply below_drew1) | exact HB.out))) : w.heap.size ≤ gb340)); clear HO338; clear HB; have HO338 := n0_; have HB := n1_; have BK340 := n2_; have GW340 := n3_; have GE340 := n4_; clear n0_ n1_ n2_ n3_ n4_; clear hb hbox hg; have hcz13_0 : w12.cell? ⟨gb340, 0, none⟩ = some (.int .u32 0) := (blk_cell BK340.out 0).trans rfl; have hcz13_1 : w12.cell? ⟨gb340, 1, none⟩ = some (.int .u32 0) := (blk_cell BK340.out 1).trans rfl; have hcz13_2 : w12.cell? ⟨gb340, 2, none⟩ = some (.int .u32 0) := (blk_cell BK340.out 2).trans rfl; have hcz13_3 : w12.cell? ⟨gb340, 3, none⟩ = some (.int .u32 0) := (blk_cell BK340.out 3).trans rfl; have hcz13_4 : w12.cell? ⟨gb340, 4, none⟩ = some (.int .u32 0) := (blk_cell BK340.out 4).trans rfl; have hcz13_5 : w12.cell? ⟨gb340, 5, none⟩ = some (.int .u32 0) := (blk_cell BK340.out 5).trans rfl; have hfz13_0 := blk_frozen BK340.out 0; have hfz13_1 := blk_frozen BK340.out 1; have hfz13_2 := blk_frozen BK340.out 2; have hfz13_3 := blk_frozen BK340.out 3; have hfz13_4 := blk_frozen BK340.out 4; have hfz13_5 := blk_frozen BK340.out 5)); go_upto_region 5 with (first | (go_at_call 15; (with_reducible refine (bmap_Lay.calls a0 _ _ l1 _ _ l2 t330 t331 t332 t333 t334 t335 t336 t339 _ ?side1 ?side2 ?side3 ?side4 A9.out).mono ?_); (case side1 => repeat (first | exact (Kd.C_below HR1.out HB.out) | (with_reducible refine Kd.C_alloc ?_ _) | (with_reducible refine Kd.C_drewN ?_ _) | (with_reducible refine Kd.C_drew ?_))); (case side2 => exact HC1.out); (case side3 => repeat (first | exact (Kd.C_below HR2.out HB.out) | (with_reducible refine Kd.C_alloc ?_ _) | (with_reducible refine Kd.C_drewN ?_ _) | (with_reducible refine Kd.C_drew ?_))); (case side4 => exact HC2.out); rintro e w11 ⟨v337, rfl, ho0, hb⟩; have n0_ := Aside0.mk (Kd.R_lower ho0 (below_size (by repeat (first | (with_reducible first | exact HB.out | apply below_alloc | apply pw_below_drewN | apply below_drew1) | exact HB.out)))); have n1_ := Aside0.mk (below_step (by repeat (first | (with_reducible first | exact HB.out | apply below_alloc | apply pw_below_drewN | apply below_drew1) | exact HB.out)) hb); clear HB; have HO338 := n0_; have HB := n1_; clear n0_ n1_; (try clear hb); (try clear hb2); (try clear hk); (try clear hi); (try clear ho0)) | ((with_reducible refine gate_dst (N := 8) rfl ?_); (try (refine gate_guard (by rfl) ?_; dsimp only)); refine box_event ?hg (N := 8) ?hd (cs := #[.int .u32 0, .int .u32 0, .int .u32 0, .int .u32 0, .int .u32 0, .int .u32 0]) (t := 32) ?hr ?_; (case hd => rfl); (case hg => rfl); (case hr => first | (go_simp; done) | (go_simp; rfl)); intro gb340 hg w12 hbox hb; have n0_ := Aside0.mk (Kd.R_below (by (with_reducible repeat (first | apply Kd.R_alloc | apply Kd.R_drewN | apply Kd.R_drew)); exact HO338.out) hb); have n1_ := Aside0.mk (below_step (by repeat (first | (with_reducible first | exact HB.out | apply below_alloc | apply pw_below_drewN | apply below_drew1) | exact HB.out)) hb); have n2_ := Aside0.mk (hbox); have n3_ := Aside0.mk ((by rw [hg]; exact (below_size (by repeat (first | (with_reducible first | exact HB.out | apply below_alloc | apply pw_below_drewN | apply below_drew1) | exact HB.out))) : w.heap.size ≤ gb340)); have n4_ := Aside0.mk ((by rw [hg]; exact (below_size (by repeat (first | (with_reducible first | exact HB.out | apply below_alloc | apply pw_below_drewN | apply below_drew1) | exact HB.out))) : w.heap.size ≤ gb340)); clear HO338; clear HB; have HO338 := n0_; have HB := n1_; have BK340 := n2_; have GW340 := n3_; have GE340 := n4_; clear n0_ n1_ n2_ n3_ n4_; clear hb hbox hg; have hcz13_0 : w12.cell? ⟨gb340, 0, none⟩ = some (.int .u32 0) := (blk_cell BK340.out 0).trans rfl; have hcz13_1 : w12.cell? ⟨gb340, 1, none⟩ = some (.int .u32 0) := (blk_cell BK340.out 1).trans rfl; have hcz13_2 : w12.cell? ⟨gb340, 2, none⟩ = some (.int .u32 0) := (blk_cell BK340.out 2).trans rfl; have hcz13_3 : w12.cell? ⟨gb340, 3, none⟩ = some (.int .u32 0) := (blk_cell BK340.out 3).trans rfl; have hcz13_4 : w12.cell? ⟨gb340, 4, none⟩ = some (.int .u32 0) := (blk_cell BK340.out 4).trans rfl; have hcz13_5 : w12.cell? ⟨gb340, 5, none⟩ = some (.int .u32 0) := (blk_cell BK340.out 5).trans rfl; have hfz13_0 := blk_frozen BK340.out 0; have hfz13_1 := blk_frozen BK340.out 1; have hfz13_2 := blk_frozen BK340.out 2; have hfz13_3 := blk_frozen BK340.out 3; have hfz13_4 := blk_frozen BK340.out 4; have hfz13_5 := blk_frozen BK340.out 5)))
        (try simp only [Act.put, List.setIfInBounds_toArray, List.set_cons_zero, List.set_cons_succ])
        go_cut [39] (fun v39 wc => ∃ (kq : Nat) (x39_9 : Bool), v39 = .bool x39_9 ∧ Aside0 (nautiluslaw13_BmapFirst.j1 kq a0 l1 l2 t329 t336 t339 x39_9 t330 t331 t332 t333 t334 t335 = some r) ∧ Aside0 (kq ≤ kj4) ∧ Aside0 (Kd.R Kd.string 9 wc w.heap.size (fun _ => True) v337 t336) ∧ Aside0 (wc.heap[gb340]? = some (.cells #[.int .u32 t330, .int .u32 t331, .int .u32 t332, .int .u32 t333, .int .u32 t334, .int .u32 t335] 32 (0, 0))) ∧ Aside0 (Below w.heap.size w wc))
        case first =>
          have H := HC10.out
          clear HC10
          by_cases c14 : t339 = 0
          · rw [if_pos c14] at H
            have c14b0 : (t339 == 0) = true := beq_iff_eq.mpr c14
            have c14b1 : (t339 != 0) = false := bne_eq_false_iff_eq.mpr c14
            clear c14
            (first | rw [c14b0] | (simp only [i64_w, i32_w]; rw [c14b0]) | skip)
            have H' := Aside0.mk H
            clear H
            go_wp2
            repeat (go_quiet (fail); try go_wp2)
            go_meet
            case rel => exact ⟨_, (((l2.length : Int) == 0)), (by first | rfl | (simp; done) | (simp [*]; done)), H', ⟨by have := HJ4.out; first | omega | exact Nat.le_refl _⟩, ⟨by (with_reducible repeat (first | apply Kd.R_alloc | apply Kd.R_drewN | apply Kd.R_drew)); exact Kd.R_mono (Kd.R_far (p := ⟨gb340, 5, none⟩) (Kd.R_far (p := ⟨gb340, 4, none⟩) (Kd.R_far (p := ⟨gb340, 3, none⟩) (Kd.R_far (p := ⟨gb340, 2, none⟩) (Kd.R_far (p := ⟨gb340, 1, none⟩) (Kd.R_far (p := ⟨gb340, 0, none⟩) (Kd.R_types HO338.out BK340.out (by decide)) (fun _ hk => hk.2) (.int .u32 t330)) (fun _ hk => hk.2) (.int .u32 t331)) (fun _ hk => hk.2) (.int .u32 t332)) (fun _ hk => hk.2) (.int .u32 t333)) (fun _ hk => hk.2) (.int .u32 t334)) (fun _ hk => hk.2) (.int .u32 t335)) (fun _ hk => trivial)⟩, ⟨by (with_reducible repeat (first | refine blk_drewN ?_ _ | refine blk_drew ?_ | refine blk_alloc ?_ _)); refine blk_put (cs := #[.int .u32 t330, .int .u32 t331, .int .u32 t332, .int .u32 t333, .int .u32 t334, .int .u32 0]) ?_ 5 _ rfl; (with_reducible repeat (first | refine blk_drewN ?_ _ | refine blk_drew ?_ | refine blk_alloc ?_ _)); refine blk_put (cs := #[.int .u32 t330, .int .u32 t331, .int .u32 t332, .int .u32 t333, .int .u32 0, .int .u32 0]) ?_ 4 _ rfl; (with_reducible repeat (first | refine blk_drewN ?_ _ | refine blk_drew ?_ | refine blk_alloc ?_ _)); refine blk_put (cs := #[.int .u32 t330, .int .u32 t331, .int .u32 t332, .int .u32 0, .int .u32 0, .int .u32 0]) ?_ 3 _ rfl; (with_reducible repeat (first | refine blk_drewN ?_ _ | refine blk_drew ?_ | refine blk_alloc ?_ _)); refine blk_put (cs := #[.int .u32 t330, .int .u32 t331, .int .u32 0, .int .u32 0, .int .u32 0, .int .u32 0]) ?_ 2 _ rfl; (with_reducible repeat (first | refine blk_drewN ?_ _ | refine blk_drew ?_ | refine blk_alloc ?_ _)); refine blk_put (cs := #[.int .u32 t330, .int .u32 0, .int .u32 0, .int .u32 0, .int .u32 0, .int .u32 0]) ?_ 1 _ rfl; (with_reducible repeat (first | refine blk_drewN ?_ _ | refine blk_drew ?_ | refine blk_alloc ?_ _)); refine blk_put (cs := #[.int .u32 0, .int .u32 0, .int .u32 0, .int .u32 0, .int .u32 0, .int .u32 0]) ?_ 0 _ rfl; (with_reducible repeat (first | refine blk_drewN ?_ _ | refine blk_drew ?_ | refine blk_alloc ?_ _)); exact BK340.out⟩, ⟨by repeat (first | (with_reducible first | exact HB.out | apply below_alloc | apply pw_below_drewN | apply below_drew1 | refine below_set ?_ GE340.out) | exact HB.out)⟩⟩
          · rw [if_neg c14] at H
            have c14b0 : (t339 == 0) = false := beq_eq_false_iff_ne.mpr c14
            have c14b1 : (t339 != 0) = true := bne_iff_ne.mpr c14
            (first | rw [c14b0] | (simp only [i64_w, i32_w]; rw [c14b0]) | skip)
            have H' := Aside0.mk H
            clear H
            go_wp2
            repeat (go_quiet (fail); try go_wp2)
            go_meet
            case rel => exact ⟨_, (true), (by first | rfl | (simp; done) | (simp [*]; done)), H', ⟨by have := HJ4.out; first | omega | exact Nat.le_refl _⟩, ⟨by (with_reducible repeat (first | apply Kd.R_alloc | apply Kd.R_drewN | apply Kd.R_drew)); exact Kd.R_mono (Kd.R_far (p := ⟨gb340, 5, none⟩) (Kd.R_far (p := ⟨gb340, 4, none⟩) (Kd.R_far (p := ⟨gb340, 3, none⟩) (Kd.R_far (p := ⟨gb340, 2, none⟩) (Kd.R_far (p := ⟨gb340, 1, none⟩) (Kd.R_far (p := ⟨gb340, 0, none⟩) (Kd.R_types HO338.out BK340.out (by decide)) (fun _ hk => hk.2) (.int .u32 t330)) (fun _ hk => hk.2) (.int .u32 t331)) (fun _ hk => hk.2) (.int .u32 t332)) (fun _ hk => hk.2) (.int .u32 t333)) (fun _ hk => hk.2) (.int .u32 t334)) (fun _ hk => hk.2) (.int .u32 t335)) (fun _ hk => trivial)⟩, ⟨by (with_reducible repeat (first | refine blk_drewN ?_ _ | refine blk_drew ?_ | refine blk_alloc ?_ _)); refine blk_put (cs := #[.int .u32 t330, .int .u32 t331, .int .u32 t332, .int .u32 t333, .int .u32 t334, .int .u32 0]) ?_ 5 _ rfl; (with_reducible repeat (first | refine blk_drewN ?_ _ | refine blk_drew ?_ | refine blk_alloc ?_ _)); refine blk_put (cs := #[.int .u32 t330, .int .u32 t331, .int .u32 t332, .int .u32 t333, .int .u32 0, .int .u32 0]) ?_ 4 _ rfl; (with_reducible repeat (first | refine blk_drewN ?_ _ | refine blk_drew ?_ | refine blk_alloc ?_ _)); refine blk_put (cs := #[.int .u32 t330, .int .u32 t331, .int .u32 t332, .int .u32 0, .int .u32 0, .int .u32 0]) ?_ 3 _ rfl; (with_reducible repeat (first | refine blk_drewN ?_ _ | refine blk_drew ?_ | refine blk_alloc ?_ _)); refine blk_put (cs := #[.int .u32 t330, .int .u32 t331, .int .u32 0, .int .u32 0, .int .u32 0, .int .u32 0]) ?_ 2 _ rfl; (with_reducible repeat (first | refine blk_drewN ?_ _ | refine blk_drew ?_ | refine blk_alloc ?_ _)); refine blk_put (cs := #[.int .u32 t330, .int .u32 0, .int .u32 0, .int .u32 0, .int .u32 0, .int .u32 0]) ?_ 1 _ rfl; (with_reducible repeat (first | refine blk_drewN ?_ _ | refine blk_drew ?_ | refine blk_alloc ?_ _)); refine blk_put (cs := #[.int .u32 0, .int .u32 0, .int .u32 0, .int .u32 0, .int .u32 0, .int .u32 0]) ?_ 0 _ rfl; (with_reducible repeat (first | refine blk_drewN ?_ _ | refine blk_drew ?_ | refine blk_alloc ?_ _)); exact BK340.out⟩, ⟨by repeat (first | (with_reducible first | exact HB.out | apply below_alloc | apply pw_below_drewN | apply below_drew1 | refine below_set ?_ GE340.out) | exact HB.out)⟩⟩
        case rest =>
          clear HC10
          try clear c1
          try clear c2
          try clear p2
          try clear c7
          try clear c7b0
          try clear c7b1
          try clear c8
          try clear c14
          try clear c14b0
          try clear c14b1
          try clear hcz13_0
          try clear hcz13_1
          try clear hcz13_2
          try clear hcz13_3
          try clear hcz13_4
          try clear hcz13_5
          try clear hfz13_0
          try clear hfz13_1
          try clear hfz13_2
          try clear hfz13_3
          try clear hfz13_4
          try clear hfz13_5
          try clear p2
          obtain ⟨kq, x39_9, rfl, HA, HJ9, HO_9, BK340, HB⟩ := hcut
          cases kq with
          | zero => exact absurd HA.out (by simp [nautiluslaw13_BmapFirst.j1])
          | succ kj9 =>
            have H := HA.out
            clear HA
            simp only [nautiluslaw13_BmapFirst.j1] at H
            by_cases c15 : x39_9 = true
            · subst c15
              have H1 : (if t329 = true then (if t339 = 0 then (some ((t336.length : Int) == 0)) else (some true)) else (none)) = some r := by rw [if_pos rfl] at H; exact H
              clear H
              have H := H1
              clear H1
              by_cases c16 : t329 = true
              · subst c16
                have H1 : (if t339 = 0 then (some ((t336.length : Int) == 0)) else (some true)) = some r := by rw [if_pos rfl] at H; exact H
                clear H
                have H := H1
                clear H1
                by_cases c17 : t339 = 0
                · rw [if_pos c17] at H
                  have c17b0 : (t339 == 0) = true := beq_iff_eq.mpr c17
                  have c17b1 : (t339 != 0) = false := bne_eq_false_iff_eq.mpr c17
                  clear c17
                  obtain rfl := Option.some.inj H
                  obtain ⟨Ao18, co18, eo18⟩ := Kd.R_slice HO_9.out
                  subst eo18
                  go_wp2
                  repeat (go_quiet (fail); try go_wp2)
                  go_ret
                  exact ⟨by first | rfl | (simp [errW_none, errW_some] <;> rfl) | (simp [*, errW_none, errW_some] <;> rfl) | (simp [show IntKind.u64.wrap 0 = 0 from rfl, Int.zero_tdiv]; done), by repeat (first | (with_reducible first | exact HB.out | apply below_alloc | apply pw_below_drewN | apply below_drew1 | refine below_set ?_ GE340.out) | exact HB.out)⟩
                · rw [if_neg c17] at H
                  have c17b0 : (t339 == 0) = false := beq_eq_false_iff_ne.mpr c17
                  have c17b1 : (t339 != 0) = true := bne_iff_ne.mpr c17
                  obtain rfl := Option.some.inj H
                  go_wp2
                  repeat (go_quiet (fail); try go_wp2)
                  go_ret
                  exact ⟨by first | rfl | (simp [errW_none, errW_some] <;> rfl) | (simp [*, errW_none, errW_some] <;> rfl) | (simp [show IntKind.u64.wrap 0 = 0 from rfl, Int.zero_tdiv]; done), by repeat (first | (with_reducible first | exact HB.out | apply below_alloc | apply pw_below_drewN | apply below_drew1 | refine below_set ?_ GE340.out) | exact HB.out)⟩
              · replace c16 := Bool.eq_false_iff.mpr c16
                subst c16
                have H1 : (none) = some r := by rw [if_neg (show ¬ (false = true) by decide)] at H; exact H
                clear H
                have H := H1
                clear H1
                exact absurd H (by simp)
            · replace c15 := Bool.eq_false_iff.mpr c15
              subst c15
              have H1 : (if (t336.length : Int) = (l2.length : Int) then (if 0 < (l2.length : Int) then (nautiluslaw13_BmapFirst.j2 kj9 a0 l1 l2 t329 t336 (!(t330 == (rd l2 0)) || (!(t331 == 0) || (!(t332 == 0) || (!(t333 == 0) || (!(t334 == 0) || (!(t335 == 0)))))))) else (none)) else (nautiluslaw13_BmapFirst.j2 kj9 a0 l1 l2 t329 t336 true)) = some r := by rw [if_neg (show ¬ (false = true) by decide)] at H; exact H
              clear H
              have H := H1
              clear H1
              have HC19 := Aside0.mk H
              clear H
              go_upto_region 7 with (fail)
              repeat (go_quiet (fail); go_upto_region 7 with (fail))
              go_cut [62] (fun v62 wc => ∃ (kq : Nat) (x62_18 : Bool), v62 = .bool x62_18 ∧ Aside0 (nautiluslaw13_BmapFirst.j2 kq a0 l1 l2 t329 t336 x62_18 = some r) ∧ Aside0 (kq ≤ kj9) ∧ Aside0 (Kd.R Kd.string 9 wc w.heap.size (fun _ => True) v337 t336) ∧ Aside0 (wc.heap[gb340]? = some (.cells #[.int .u32 t330, .int .u32 t331, .int .u32 t332, .int .u32 t333, .int .u32 t334, .int .u32 t335] 32 (0, 0))) ∧ Aside0 (Below w.heap.size w wc))
              case first =>
                have H := HC19.out
                clear HC19
                by_cases c20 : (t336.length : Int) = (l2.length : Int)
                · rw [if_pos c20] at H
                  have c20b0 : ((t336.length : Int) == (l2.length : Int)) = true := beq_iff_eq.mpr c20
                  have c20b1 : ((t336.length : Int) != (l2.length : Int)) = false := bne_eq_false_iff_eq.mpr c20
                  have c20b2 : (t336.length == l2.length) = true := by first | simpa using c20 | (simp at c20 ⊢; omega)
                  clear c20
                  (first | rw [c20b0] | (simp only [i64_w, i32_w]; rw [c20b0]) | skip)
                  by_cases c21 : 0 < (l2.length : Int)
                  · rw [if_pos c21] at H
                    have c21b0 : decide (0 < (l2.length : Int)) = true := decide_eq_true c21
                    have c21b1 : decide (0 < l2.length) = true := decide_eq_true (by omega)
                    clear c21
                    have H' := Aside0.mk H
                    clear H
                    obtain ⟨Ao22, co22, eo22⟩ := Kd.R_slice HO_9.out
                    subst eo22
                    have hcz23_0 : wc.cell? ⟨gb340, 0, none⟩ = some (.int .u32 t330) := (blk_cell BK340.out 0).trans rfl
                    have hcz23_1 : wc.cell? ⟨gb340, 1, none⟩ = some (.int .u32 t331) := (blk_cell BK340.out 1).trans rfl
                    have hcz23_2 : wc.cell? ⟨gb340, 2, none⟩ = some (.int .u32 t332) := (blk_cell BK340.out 2).trans rfl
                    have hcz23_3 : wc.cell? ⟨gb340, 3, none⟩ = some (.int .u32 t333) := (blk_cell BK340.out 3).trans rfl
                    have hcz23_4 : wc.cell? ⟨gb340, 4, none⟩ = some (.int .u32 t334) := (blk_cell BK340.out 4).trans rfl
                    have hcz23_5 : wc.cell? ⟨gb340, 5, none⟩ = some (.int .u32 t335) := (blk_cell BK340.out 5).trans rfl
                    have hfz23_0 := blk_frozen BK340.out 0
                    have hfz23_1 := blk_frozen BK340.out 1
                    have hfz23_2 := blk_frozen BK340.out 2
                    have hfz23_3 := blk_frozen BK340.out 3
                    have hfz23_4 := blk_frozen BK340.out 4
                    have hfz23_5 := blk_frozen BK340.out 5
                    have p341 : 0 ≤ (0 : Int) := (by omega)
                    have q341 : 0 < (l2.length : Int) := of_decide_eq_true (by first | (with_reducible assumption) | assumption)
                    obtain ⟨ad341, e341, hx341_0⟩ := Kd.at_int HR2.out 0 p341 q341
                    cases e341
                    have qi341 : (0 < l2.length) = True := eq_true (by omega)
                    (try rw [show ((0 : Int)).toNat = 0 from rfl] at hx341_0)
                    (try rw [Addr.add_zero'] at hx341_0)
                    replace hx341_0 := (HB.out.cell (World.block_lt_of_cell? w _ hx341_0)).trans hx341_0
                    replace p341 := eq_true p341
                    replace q341 := eq_true q341
                    go_wp2
                    repeat (go_quiet (fail); try go_wp2)
                    go_meet
                    case rel => exact ⟨_, ((!(t330 == (rd l2 0)) || (!(t331 == 0) || (!(t332 == 0) || (!(t333 == 0) || (!(t334 == 0) || (!(t335 == 0)))))))), (by first | rfl | (simp; done) | (simp [*]; done)), H', ⟨by have := HJ4.out; have := HJ9.out; first | omega | exact Nat.le_refl _⟩, ⟨by (with_reducible repeat (first | apply Kd.R_alloc | apply Kd.R_drewN | apply Kd.R_drew)); exact HO_9.out⟩, ⟨by (with_reducible repeat (first | refine blk_drewN ?_ _ | refine blk_drew ?_ | refine blk_alloc ?_ _)); exact BK340.out⟩, ⟨by repeat (first | (with_reducible first | exact HB.out | apply below_alloc | apply pw_below_drewN | apply below_drew1 | refine below_set ?_ GE340.out) | exact HB.out)⟩⟩
                  · rw [if_neg c21] at H
                    exact absurd H (by simp)
                · rw [if_neg c20] at H
                  have c20b0 : ((t336.length : Int) == (l2.length : Int)) = false := beq_eq_false_iff_ne.mpr c20
                  have c20b1 : ((t336.length : Int) != (l2.length : Int)) = true := bne_iff_ne.mpr c20
                  have c20b2 : (t336.length == l2.length) = false := by first | simpa using c20 | (simp at c20 ⊢; omega)
                  (first | rw [c20b0] | (simp only [i64_w, i32_w]; rw [c20b0]) | skip)
                  have H' := Aside0.mk H
                  clear H
                  obtain ⟨Ao24, co24, eo24⟩ := Kd.R_slice HO_9.out
                  subst eo24
                  go_wp2
                  repeat (go_quiet (fail); try go_wp2)
                  go_meet
                  case rel => exact ⟨_, (true), (by first | rfl | (simp; done) | (simp [*]; done)), H', ⟨by have := HJ4.out; have := HJ9.out; first | omega | exact Nat.le_refl _⟩, ⟨by (with_reducible repeat (first | apply Kd.R_alloc | apply Kd.R_drewN | apply Kd.R_drew)); exact HO_9.out⟩, ⟨by (with_reducible repeat (first | refine blk_drewN ?_ _ | refine blk_drew ?_ | refine blk_alloc ?_ _)); exact BK340.out⟩, ⟨by repeat (first | (with_reducible first | exact HB.out | apply below_alloc | apply pw_below_drewN | apply below_drew1 | refine below_set ?_ GE340.out) | exact HB.out)⟩⟩
              case rest =>
                clear HC19
                try clear c1
                try clear c2
                try clear p2
                try clear p3
                try clear q3
                try clear hx3
                try clear qi3
                try clear c7
                try clear c7b0
                try clear c7b1
                try clear c8
                try clear c14
                try clear c14b0
                try clear c14b1
                try clear c15
                try clear c16
                try clear c17
                try clear c17b0
                try clear c17b1
                try clear c20
                try clear c20b0
                try clear c20b1
                try clear c20b2
                try clear c21
                try clear c21b0
                try clear c21b1
                try clear hcz13_0
                try clear hcz13_1
                try clear hcz13_2
                try clear hcz13_3
                try clear hcz13_4
                try clear hcz13_5
                try clear hcz23_0
                try clear hcz23_1
                try clear hcz23_2
                try clear hcz23_3
                try clear hcz23_4
                try clear hcz23_5
                try clear hfz13_0
                try clear hfz13_1
                try clear hfz13_2
                try clear hfz13_3
                try clear hfz13_4
                try clear hfz13_5
                try clear hfz23_0
                try clear hfz23_1
                try clear hfz23_2
                try clear hfz23_3
                try clear hfz23_4
                try clear hfz23_5
                try clear hx341_0
                try clear p2
                try clear p341
                try clear q341
                obtain ⟨kq, x62_18, rfl, HA, HJ18, HO_9, BK340, HB⟩ := hcut
                cases kq with
                | zero => exact absurd HA.out (by simp [nautiluslaw13_BmapFirst.j2])
                | succ kj18 =>
                  have H := HA.out
                  clear HA
                  simp only [nautiluslaw13_BmapFirst.j2] at H
                  by_cases c25 : x62_18 = true
                  · subst c25
                    have H1 : (none) = some r := by rw [if_pos rfl] at H; exact H
                    clear H
                    have H := H1
                    clear H1
                    exact absurd H (by simp)
                  · replace c25 := Bool.eq_false_iff.mpr c25
                    subst c25
                    have H1 : (if (l2.length : Int) = 1 then (if 0 < (t336.length : Int) then ((bmap_Numbers.f (rdOf ByteArray.empty t336 0)).bind fun bt343 => (if t329 = true then (if bt343.2 = 0 then (if (bt343.1.length : Int) = 127 then (if (l1.length : Int) ≤ 127 then (if 0 ≤ (l1.length : Int) then (if (l1.length : Int) ≤ (bt343.1.length : Int) then ((nautilusref13_Same.f kj18 (bt343.1.take ((l1.length : Int) : Int).toNat) l1).bind fun t351 => (some t351)) else (none)) else (none)) else (none)) else (none)) else (none)) else (none))) else (none)) else (if 0 < (t336.length : Int) then ((bmap_Below.f a0 (rdOf ByteArray.empty t336 0)).bind fun bt353 => (if t329 = true then (if bt353.2 = 0 then (if 1 ≤ (l2.length : Int) then ((nautilusref13_Same.f kj18 bt353.1 (l2.drop 1)).bind fun t358 => (some t358)) else (none)) else (none)) else (none))) else (none))) = some r := by rw [if_neg (show ¬ (false = true) by decide)] at H; exact H
                    clear H
                    have H := H1
                    clear H1
                    by_cases c26 : (l2.length : Int) = 1
                    · rw [if_pos c26] at H
                      have c26b0 : ((l2.length : Int) == 1) = true := beq_iff_eq.mpr c26
                      have c26b1 : ((l2.length : Int) != 1) = false := bne_eq_false_iff_eq.mpr c26
                      clear c26
                      by_cases c27 : 0 < (t336.length : Int)
                      · rw [if_pos c27] at H
                        have c27b0 : decide (0 < (t336.length : Int)) = true := decide_eq_true c27
                        have c27b1 : decide (0 < t336.length) = true := decide_eq_true (by omega)
                        clear c27
                        replace H := Option.bind_eq_some_iff.mp H
                        obtain ⟨⟨t343, t344⟩, A280, H⟩ := H
                        replace H : (if t329 = true then (if t344 = 0 then (if (t343.length : Int) = 127 then (if (l1.length : Int) ≤ 127 then (if 0 ≤ (l1.length : Int) then (if (l1.length : Int) ≤ (t343.length : Int) then ((nautilusref13_Same.f kj18 (t343.take ((l1.length : Int) : Int).toNat) l1).bind fun t351 => (some t351)) else (none)) else (none)) else (none)) else (none)) else (none)) else (none)) = some r := H
                        have A28 := Aside0.mk A280
                        clear A280
                        by_cases c29 : t329 = true
                        · subst c29
                          have H1 : (if t344 = 0 then (if (t343.length : Int) = 127 then (if (l1.length : Int) ≤ 127 then (if 0 ≤ (l1.length : Int) then (if (l1.length : Int) ≤ (t343.length : Int) then ((nautilusref13_Same.f kj18 (t343.take ((l1.length : Int) : Int).toNat) l1).bind fun t351 => (some t351)) else (none)) else (none)) else (none)) else (none)) else (none)) = some r := by rw [if_pos rfl] at H; exact H
                          clear H
                          have H := H1
                          clear H1
                          by_cases c30 : t344 = 0
                          · rw [if_pos c30] at H
                            have c30b0 : (t344 == 0) = true := beq_iff_eq.mpr c30
                            have c30b1 : (t344 != 0) = false := bne_eq_false_iff_eq.mpr c30
                            clear c30
                            by_cases c31 : (t343.length : Int) = 127
                            · rw [if_pos c31] at H
                              have c31b0 : ((t343.length : Int) == 127) = true := beq_iff_eq.mpr c31
                              have c31b1 : ((t343.length : Int) != 127) = false := bne_eq_false_iff_eq.mpr c31
                              clear c31
                              by_cases c32 : (l1.length : Int) ≤ 127
                              · rw [if_pos c32] at H
                                have c32b0 : decide ((l1.length : Int) ≤ 127) = true := decide_eq_true c32
                                have c32b1 : decide (l1.length ≤ 127) = true := decide_eq_true (by omega)
                                clear c32
                                by_cases c33 : 0 ≤ (l1.length : Int)
                                · rw [if_pos c33] at H
                                  have c33b0 := eq_true c33
                                  have c33b1 : decide (0 ≤ (l1.length : Int)) = true := decide_eq_true c33
                                  clear c33
                                  by_cases c34 : (l1.length : Int) ≤ (t343.length : Int)
                                  · rw [if_pos c34] at H
                                    have c34b0 := eq_true c34
                                    have c34b1 : decide ((l1.length : Int) ≤ (t343.length : Int)) = true := decide_eq_true c34
                                    clear c34
                                    obtain ⟨y347, hy347⟩ : ∃ y_ : List Int, y_ = (t343.take ((l1.length : Int) : Int).toNat) := ⟨_, rfl⟩
                                    replace H : ((nautilusref13_Same.f kj18 y347 l1).bind fun t351 => (some t351)) = some r := by first | (rw [hy347]; with_reducible exact H) | (have H2_ := (Option.bind_some _ _).symm.trans H; rw [hy347]; with_reducible exact H2_) | (have H2_ := (Option.bind_some _ _).symm.trans H; with_reducible exact H2_) | with_reducible exact H | (rw [hy347]; exact H) | exact H
                                    have Ny347 := Aside0.mk hy347
                                    clear hy347
                                    replace H := Option.bind_eq_some_iff.mp H
                                    obtain ⟨t351, A350, H⟩ := H
                                    replace H : (some t351) = some r := H
                                    have A35 := Aside0.mk A350
                                    clear A350
                                    obtain rfl := Option.some.inj H
                                    obtain ⟨Ao36, co36, eo36⟩ := Kd.R_slice HO_9.out
                                    subst eo36
                                    have p342 : 0 ≤ (0 : Int) := (by omega)
                                    have q342 : 0 < (t336.length : Int) := of_decide_eq_true (by first | (with_reducible assumption) | assumption)
                                    obtain ⟨ad342, e342, hx342_0⟩ := Kd.at_string (Kd.R_reads' HO_9.out).2.2 0 p342 q342
                                    cases e342
                                    have qi342 : (0 < t336.length) = True := eq_true (by omega)
                                    (try rw [show ((0 : Int)).toNat = 0 from rfl] at hx342_0)
                                    (try rw [Addr.add_zero'] at hx342_0)
                                    replace p342 := eq_true p342
                                    replace q342 := eq_true q342
                                    iterate 3 ((try go_wp2_with (first | (go_at_call 21; (with_reducible refine (bmap_Numbers.calls (rdOf ByteArray.empty t336 0) t343 t344 _ A28.out).mono ?_); rintro e w37 ⟨v345, rfl, ho0, hb⟩; have n0_ := Aside0.mk (Kd.R_below (by (with_reducible repeat (first | apply Kd.R_alloc | apply Kd.R_drewN | apply Kd.R_drew)); exact HO_9.out) hb); have n1_ := Aside0.mk (Kd.R_lower ho0 (below_size (by repeat (first | (with_reducible first | exact HB.out | apply below_alloc | apply pw_below_drewN | apply below_drew1 | refine below_set ?_ GE340.out) | exact HB.out)))); have n2_ := Aside0.mk (blk_below (g := gb340) (o := .cells #[.int .u32 t330, .int .u32 t331, .int .u32 t332, .int .u32 t333, .int .u32 t334, .int .u32 t335] 32 (0, 0)) (by (with_reducible repeat (first | refine blk_drewN ?_ _ | refine blk_drew ?_ | refine blk_alloc ?_ _)); exact BK340.out) hb); have n3_ := Aside0.mk (below_step (by repeat (first | (with_reducible first | exact HB.out | apply below_alloc | apply pw_below_drewN | apply below_drew1 | refine below_set ?_ GE340.out) | exact HB.out)) hb); clear HO_9; clear BK340; clear HB; have HO_9 := n0_; have HO346 := n1_; have BK340 := n2_; have HB := n3_; clear n0_ n1_ n2_ n3_; (try clear hb); (try clear hb2); (try clear hk); (try clear hi); (try clear ho0); obtain ⟨Ao38, co38, eo38⟩ := Kd.R_slice HO346.out; subst eo38; have q39 : ((l1.length : Int) : Int) ≤ ((t343.length : Int) : Int) := of_decide_eq_true (by first | (with_reducible assumption) | assumption); obtain ⟨i039, hi039, _, hsz39, _⟩ := info_parts info22; have hroom39 : t343.length ≤ co38 := (Kd.R_reads' HO346.out).2.1; have hC39 : Kd.C (Kd.int .u32) _ Ao38 t343.length t343 := (Kd.R_reads' HO346.out).2.2; have hcut39 := cut_to (P := Try.prog) 31 22 .i64 Try.underlying31 hi039 Ao38 t343.length co38 (l1.length : Int) (of_decide_eq_true (by first | (with_reducible assumption) | assumption)) q39 hroom39; have hr39 := Kd.C_take (m := ((l1.length : Int) : Int).toNat) hC39 (by omega); have hy39 : y347.length = ((l1.length : Int) : Int).toNat := (by rw [Ny347.out, List.length_take]; omega); rw [← Ny347.out] at hr39; rw [← hy39] at hcut39; have HR350 := Aside0.mk hr39; have HC350 := Aside0.mk (show y347.length ≤ co38 from by omega); clear hr39 hC39 hroom39 hi039 hsz39; have KY39 := Aside0.mk hy39; clear hy39; have KL39 := Aside0.mk (show ((l1.length : Int) : Int).toNat ≤ t343.length from by omega); replace q39 := eq_true q39) | (go_at_call 19; (with_reducible refine (nautilusref13_Same.calls kj18 _ _ y347 _ _ l1 t351 _ ?side1 ?side2 ?side3 ?side4 A35.out).mono ?_); (case side1 => repeat (first | exact (by repeat (first | (with_reducible exact HR350.out) | (with_reducible refine Kd.C_alloc ?_ _) | (with_reducible refine Kd.C_drewN ?_ _) | (with_reducible refine Kd.C_drew ?_) | exact HR350.out)) | (with_reducible refine Kd.C_alloc ?_ _) | (with_reducible refine Kd.C_drewN ?_ _) | (with_reducible refine Kd.C_drew ?_))); (case side2 => exact HC350.out); (case side3 => repeat (first | exact (Kd.C_below HR1.out HB.out) | (with_reducible refine Kd.C_alloc ?_ _) | (with_reducible refine Kd.C_drewN ?_ _) | (with_reducible refine Kd.C_drew ?_))); (case side4 => exact HC1.out); rintro e w' ⟨rfl, ⟨nd, rfl⟩⟩; (try first | exact ⟨rfl, _, World.drewN_drewN _ _ _⟩ | exact ⟨rfl, _, Eq.trans (World.drewN_drewN _ _ _) (congrArg (World.drewN _) (Nat.add_assoc _ _ _))⟩)))); (try go_quiet (first | (go_at_call 21; (with_reducible refine (bmap_Numbers.calls (rdOf ByteArray.empty t336 0) t343 t344 _ A28.out).mono ?_); rintro e w37 ⟨v345, rfl, ho0, hb⟩; have n0_ := Aside0.mk (Kd.R_below (by (with_reducible repeat (first | apply Kd.R_alloc | apply Kd.R_drewN | apply Kd.R_drew)); exact HO_9.out) hb); have n1_ := Aside0.mk (Kd.R_lower ho0 (below_size (by repeat (first | (with_reducible first | exact HB.out | apply below_alloc | apply pw_below_drewN | apply below_drew1 | refine below_set ?_ GE340.out) | exact HB.out)))); have n2_ := Aside0.mk (blk_below (g := gb340) (o := .cells #[.int .u32 t330, .int .u32 t331, .int .u32 t332, .int .u32 t333, .int .u32 t334, .int .u32 t335] 32 (0, 0)) (by (with_reducible repeat (first | refine blk_drewN ?_ _ | refine blk_drew ?_ | refine blk_alloc ?_ _)); exact BK340.out) hb); have n3_ := Aside0.mk (below_step (by repeat (first | (with_reducible first | exact HB.out | apply below_alloc | apply pw_below_drewN | apply below_drew1 | refine below_set ?_ GE340.out) | exact HB.out)) hb); clear HO_9; clear BK340; clear HB; have HO_9 := n0_; have HO346 := n1_; have BK340 := n2_; have HB := n3_; clear n0_ n1_ n2_ n3_; (try clear hb); (try clear hb2); (try clear hk); (try clear hi); (try clear ho0); obtain ⟨Ao38, co38, eo38⟩ := Kd.R_slice HO346.out; subst eo38; have q39 : ((l1.length : Int) : Int) ≤ ((t343.length : Int) : Int) := of_decide_eq_true (by first | (with_reducible assumption) | assumption); obtain ⟨i039, hi039, _, hsz39, _⟩ := info_parts info22; have hroom39 : t343.length ≤ co38 := (Kd.R_reads' HO346.out).2.1; have hC39 : Kd.C (Kd.int .u32) _ Ao38 t343.length t343 := (Kd.R_reads' HO346.out).2.2; have hcut39 := cut_to (P := Try.prog) 31 22 .i64 Try.underlying31 hi039 Ao38 t343.length co38 (l1.length : Int) (of_decide_eq_true (by first | (with_reducible assumption) | assumption)) q39 hroom39; have hr39 := Kd.C_take (m := ((l1.length : Int) : Int).toNat) hC39 (by omega); have hy39 : y347.length = ((l1.length : Int) : Int).toNat := (by rw [Ny347.out, List.length_take]; omega); rw [← Ny347.out] at hr39; rw [← hy39] at hcut39; have HR350 := Aside0.mk hr39; have HC350 := Aside0.mk (show y347.length ≤ co38 from by omega); clear hr39 hC39 hroom39 hi039 hsz39; have KY39 := Aside0.mk hy39; clear hy39; have KL39 := Aside0.mk (show ((l1.length : Int) : Int).toNat ≤ t343.length from by omega); replace q39 := eq_true q39) | (go_at_call 19; (with_reducible refine (nautilusref13_Same.calls kj18 _ _ y347 _ _ l1 t351 _ ?side1 ?side2 ?side3 ?side4 A35.out).mono ?_); (case side1 => repeat (first | exact (by repeat (first | (with_reducible exact HR350.out) | (with_reducible refine Kd.C_alloc ?_ _) | (with_reducible refine Kd.C_drewN ?_ _) | (with_reducible refine Kd.C_drew ?_) | exact HR350.out)) | (with_reducible refine Kd.C_alloc ?_ _) | (with_reducible refine Kd.C_drewN ?_ _) | (with_reducible refine Kd.C_drew ?_))); (case side2 => exact HC350.out); (case side3 => repeat (first | exact (Kd.C_below HR1.out HB.out) | (with_reducible refine Kd.C_alloc ?_ _) | (with_reducible refine Kd.C_drewN ?_ _) | (with_reducible refine Kd.C_drew ?_))); (case side4 => exact HC1.out); rintro e w' ⟨rfl, ⟨nd, rfl⟩⟩; (try first | exact ⟨rfl, _, World.drewN_drewN _ _ _⟩ | exact ⟨rfl, _, Eq.trans (World.drewN_drewN _ _ _) (congrArg (World.drewN _) (Nat.add_assoc _ _ _))⟩)))))
                                    go_ret
                                    exact ⟨by first | rfl | (simp [errW_none, errW_some] <;> rfl) | (simp [*, errW_none, errW_some] <;> rfl) | (simp [show IntKind.u64.wrap 0 = 0 from rfl, Int.zero_tdiv]; done), by repeat (first | (with_reducible first | exact HB.out | apply below_alloc | apply pw_below_drewN | apply below_drew1 | refine below_set ?_ GE340.out) | exact HB.out)⟩
                                  · rw [if_neg c34] at H
                                    exact absurd H (by simp)
                                · rw [if_neg c33] at H
                                  exact absurd H (by simp)
                              · rw [if_neg c32] at H
                                exact absurd H (by simp)
                            · rw [if_neg c31] at H
                              exact absurd H (by simp)
                          · rw [if_neg c30] at H
                            exact absurd H (by simp)
                        · replace c29 := Bool.eq_false_iff.mpr c29
                          subst c29
                          have H1 : (none) = some r := by rw [if_neg (show ¬ (false = true) by decide)] at H; exact H
                          clear H
                          have H := H1
                          clear H1
                          exact absurd H (by simp)
                      · rw [if_neg c27] at H
                        exact absurd H (by simp)
                    · rw [if_neg c26] at H
                      have c26b0 : ((l2.length : Int) == 1) = false := beq_eq_false_iff_ne.mpr c26
                      have c26b1 : ((l2.length : Int) != 1) = true := bne_iff_ne.mpr c26
                      by_cases c40 : 0 < (t336.length : Int)
                      · rw [if_pos c40] at H
                        have c40b0 : decide (0 < (t336.length : Int)) = true := decide_eq_true c40
                        have c40b1 : decide (0 < t336.length) = true := decide_eq_true (by omega)
                        clear c40
                        replace H := Option.bind_eq_some_iff.mp H
                        obtain ⟨⟨t353, t354⟩, A410, H⟩ := H
                        replace H : (if t329 = true then (if t354 = 0 then (if 1 ≤ (l2.length : Int) then ((nautilusref13_Same.f kj18 t353 (l2.drop 1)).bind fun t358 => (some t358)) else (none)) else (none)) else (none)) = some r := H
                        have A41 := Aside0.mk A410
                        clear A410
                        by_cases c42 : t329 = true
                        · subst c42
                          have H1 : (if t354 = 0 then (if 1 ≤ (l2.length : Int) then ((nautilusref13_Same.f kj18 t353 (l2.drop 1)).bind fun t358 => (some t358)) else (none)) else (none)) = some r := by rw [if_pos rfl] at H; exact H
                          clear H
                          have H := H1
                          clear H1
                          by_cases c43 : t354 = 0
                          · rw [if_pos c43] at H
                            have c43b0 : (t354 == 0) = true := beq_iff_eq.mpr c43
                            have c43b1 : (t354 != 0) = false := bne_eq_false_iff_eq.mpr c43
                            clear c43
                            by_cases c44 : 1 ≤ (l2.length : Int)
                            · rw [if_pos c44] at H
                              have c44b0 := eq_true c44
                              have c44b1 : decide (1 ≤ (l2.length : Int)) = true := decide_eq_true c44
                              clear c44
                              replace H := Option.bind_eq_some_iff.mp H
                              obtain ⟨t358, A450, H⟩ := H
                              replace H : (some t358) = some r := H
                              have A45 := Aside0.mk A450
                              clear A450
                              obtain rfl := Option.some.inj H
                              obtain ⟨Ao46, co46, eo46⟩ := Kd.R_slice HO_9.out
                              subst eo46
                              have p352 : 0 ≤ (0 : Int) := (by omega)
                              have q352 : 0 < (t336.length : Int) := of_decide_eq_true (by first | (with_reducible assumption) | assumption)
                              obtain ⟨ad352, e352, hx352_0⟩ := Kd.at_string (Kd.R_reads' HO_9.out).2.2 0 p352 q352
                              cases e352
                              have qi352 : (0 < t336.length) = True := eq_true (by omega)
                              (try rw [show ((0 : Int)).toNat = 0 from rfl] at hx352_0)
                              (try rw [Addr.add_zero'] at hx352_0)
                              replace p352 := eq_true p352
                              replace q352 := eq_true q352
                              iterate 3 ((try go_wp2_with (first | (go_at_call 20; (with_reducible refine (bmap_Below.calls a0 (rdOf ByteArray.empty t336 0) t353 t354 _ A41.out).mono ?_); rintro e w47 ⟨v355, rfl, ho0, hb⟩; have n0_ := Aside0.mk (Kd.R_below (by (with_reducible repeat (first | apply Kd.R_alloc | apply Kd.R_drewN | apply Kd.R_drew)); exact HO_9.out) hb); have n1_ := Aside0.mk (Kd.R_lower ho0 (below_size (by repeat (first | (with_reducible first | exact HB.out | apply below_alloc | apply pw_below_drewN | apply below_drew1 | refine below_set ?_ GE340.out) | exact HB.out)))); have n2_ := Aside0.mk (blk_below (g := gb340) (o := .cells #[.int .u32 t330, .int .u32 t331, .int .u32 t332, .int .u32 t333, .int .u32 t334, .int .u32 t335] 32 (0, 0)) (by (with_reducible repeat (first | refine blk_drewN ?_ _ | refine blk_drew ?_ | refine blk_alloc ?_ _)); exact BK340.out) hb); have n3_ := Aside0.mk (below_step (by repeat (first | (with_reducible first | exact HB.out | apply below_alloc | apply pw_below_drewN | apply below_drew1 | refine below_set ?_ GE340.out) | exact HB.out)) hb); clear HO_9; clear BK340; clear HB; have HO_9 := n0_; have HO356 := n1_; have BK340 := n2_; have HB := n3_; clear n0_ n1_ n2_ n3_; (try clear hb); (try clear hb2); (try clear hk); (try clear hi); (try clear ho0); obtain ⟨i048, hi048, _, hsz48, _⟩ := info_parts info22; obtain ⟨A48, hcut48, hA48, hC48⟩ := print_drop_of (P := Try.prog) (Value.int .u32) 0 31 22 .i64 Try.underlying31 hi048 hsz48 A2 c2 l2 1 (by omega) (of_decide_eq_true (by first | (with_reducible assumption) | assumption)) HC2.out; have HR357 := Aside0.mk (Kd.C_of_reads (h1 := fun _ => rfl) (hA48 _ (Kd.reads_of_C HR2.out))); have HC357 := Aside0.mk hC48; clear hA48 hC48 hi048 hsz48; obtain ⟨Ao49, co49, eo49⟩ := Kd.R_slice HO356.out; subst eo49) | (go_at_call 19; refine calls_of_args (args' := #[.slice Ao49 t353.length co49, .slice A48 (l2.drop 1).length (c2 - 1)]) (by first | (rw [show (l2.drop 1).length = (l2.length - 1) from List.length_drop] <;> rfl) | rfl) ?_; (with_reducible refine (nautilusref13_Same.calls kj18 _ _ t353 _ _ (l2.drop 1) t358 _ ?side1 ?side2 ?side3 ?side4 A45.out).mono ?_); (case side1 => repeat (first | exact (Kd.R_reads' HO356.out).2.2 | (with_reducible refine Kd.C_alloc ?_ _) | (with_reducible refine Kd.C_drewN ?_ _) | (with_reducible refine Kd.C_drew ?_))); (case side2 => exact (Kd.R_reads' HO356.out).2.1); (case side3 => repeat (first | exact (Kd.C_below HR357.out HB.out) | (with_reducible refine Kd.C_alloc ?_ _) | (with_reducible refine Kd.C_drewN ?_ _) | (with_reducible refine Kd.C_drew ?_))); (case side4 => exact HC357.out); rintro e w' ⟨rfl, ⟨nd, rfl⟩⟩; (try first | exact ⟨rfl, _, World.drewN_drewN _ _ _⟩ | exact ⟨rfl, _, Eq.trans (World.drewN_drewN _ _ _) (congrArg (World.drewN _) (Nat.add_assoc _ _ _))⟩)))); (try go_quiet (first | (go_at_call 20; (with_reducible refine (bmap_Below.calls a0 (rdOf ByteArray.empty t336 0) t353 t354 _ A41.out).mono ?_); rintro e w47 ⟨v355, rfl, ho0, hb⟩; have n0_ := Aside0.mk (Kd.R_below (by (with_reducible repeat (first | apply Kd.R_alloc | apply Kd.R_drewN | apply Kd.R_drew)); exact HO_9.out) hb); have n1_ := Aside0.mk (Kd.R_lower ho0 (below_size (by repeat (first | (with_reducible first | exact HB.out | apply below_alloc | apply pw_below_drewN | apply below_drew1 | refine below_set ?_ GE340.out) | exact HB.out)))); have n2_ := Aside0.mk (blk_below (g := gb340) (o := .cells #[.int .u32 t330, .int .u32 t331, .int .u32 t332, .int .u32 t333, .int .u32 t334, .int .u32 t335] 32 (0, 0)) (by (with_reducible repeat (first | refine blk_drewN ?_ _ | refine blk_drew ?_ | refine blk_alloc ?_ _)); exact BK340.out) hb); have n3_ := Aside0.mk (below_step (by repeat (first | (with_reducible first | exact HB.out | apply below_alloc | apply pw_below_drewN | apply below_drew1 | refine below_set ?_ GE340.out) | exact HB.out)) hb); clear HO_9; clear BK340; clear HB; have HO_9 := n0_; have HO356 := n1_; have BK340 := n2_; have HB := n3_; clear n0_ n1_ n2_ n3_; (try clear hb); (try clear hb2); (try clear hk); (try clear hi); (try clear ho0); obtain ⟨i048, hi048, _, hsz48, _⟩ := info_parts info22; obtain ⟨A48, hcut48, hA48, hC48⟩ := print_drop_of (P := Try.prog) (Value.int .u32) 0 31 22 .i64 Try.underlying31 hi048 hsz48 A2 c2 l2 1 (by omega) (of_decide_eq_true (by first | (with_reducible assumption) | assumption)) HC2.out; have HR357 := Aside0.mk (Kd.C_of_reads (h1 := fun _ => rfl) (hA48 _ (Kd.reads_of_C HR2.out))); have HC357 := Aside0.mk hC48; clear hA48 hC48 hi048 hsz48; obtain ⟨Ao49, co49, eo49⟩ := Kd.R_slice HO356.out; subst eo49) | (go_at_call 19; refine calls_of_args (args' := #[.slice Ao49 t353.length co49, .slice A48 (l2.drop 1).length (c2 - 1)]) (by first | (rw [show (l2.drop 1).length = (l2.length - 1) from List.length_drop] <;> rfl) | rfl) ?_; (with_reducible refine (nautilusref13_Same.calls kj18 _ _ t353 _ _ (l2.drop 1) t358 _ ?side1 ?side2 ?side3 ?side4 A45.out).mono ?_); (case side1 => repeat (first | exact (Kd.R_reads' HO356.out).2.2 | (with_reducible refine Kd.C_alloc ?_ _) | (with_reducible refine Kd.C_drewN ?_ _) | (with_reducible refine Kd.C_drew ?_))); (case side2 => exact (Kd.R_reads' HO356.out).2.1); (case side3 => repeat (first | exact (Kd.C_below HR357.out HB.out) | (with_reducible refine Kd.C_alloc ?_ _) | (with_reducible refine Kd.C_drewN ?_ _) | (with_reducible refine Kd.C_drew ?_))); (case side4 => exact HC357.out); rintro e w' ⟨rfl, ⟨nd, rfl⟩⟩; (try first | exact ⟨rfl, _, World.drewN_drewN _ _ _⟩ | exact ⟨rfl, _, Eq.trans (World.drewN_drewN _ _ _) (congrArg (World.drewN _) (Nat.add_assoc _ _ _))⟩)))))
                              go_ret
                              exact ⟨by first | rfl | (simp [errW_none, errW_some] <;> rfl) | (simp [*, errW_none, errW_some] <;> rfl) | (simp [show IntKind.u64.wrap 0 = 0 from rfl, Int.zero_tdiv]; done), by repeat (first | (with_reducible first | exact HB.out | apply below_alloc | apply pw_below_drewN | apply below_drew1 | refine below_set ?_ GE340.out) | exact HB.out)⟩
                            · rw [if_neg c44] at H
                              exact absurd H (by simp)
                          · rw [if_neg c43] at H
                            exact absurd H (by simp)
                        · replace c42 := Bool.eq_false_iff.mpr c42
                          subst c42
                          have H1 : (none) = some r := by rw [if_neg (show ¬ (false = true) by decide)] at H; exact H
                          clear H
                          have H := H1
                          clear H1
                          exact absurd H (by simp)
                      · rw [if_neg c40] at H
                        exact absurd H (by simp)

/-- THE ONE PURE STATEMENT of nautiluslaw13_BmapFirst: yours. -/
def nautiluslaw13_BmapFirst.Pure : Prop := ∀ (a0 : Int) (l1 : List Int) (l2 : List Int), (Lit.int .u32 a0).wf = true → l1.length ≤ maxLen → l1.length * 4 ≤ 140737488351232 → (∀ x ∈ l1, (Lit.int .u32 x).wf = true) → l2.length ≤ maxLen → l2.length * 4 ≤ 140737488351232 → (∀ x ∈ l2, (Lit.int .u32 x).wf = true) → ∃ k, nautiluslaw13_BmapFirst.f k a0 l1 l2 = some true
theorem nautiluslaw13_BmapFirst.walk (P : nautiluslaw13_BmapFirst.Pure) (a0 : Int) (a1 : Option Addr) (len1 cap1 : Nat) (z1 : List Int) (a2 : Option Addr) (len2 cap2 : Nat) (z2 : List Int) (w : World) (w0 : (Lit.int .u32 a0).wf = true) (w1 : (a1 = none ∧ len1 = 0 ∧ cap1 = 0 ∧ z1 = []) ∨ ∃ x, a1 = some x ∧ len1 ≤ cap1 ∧ cap1 ≤ maxLen ∧ z1.length = cap1 ∧ (∀ i, i < z1.length → w.cell? (x.add i) = some (.int .u32 (z1.getD i 0))) ∧ ∀ n ∈ z1, (Lit.int .u32 n).wf = true) (y1 : len1 * 4 ≤ 140737488351232) (w2 : (a2 = none ∧ len2 = 0 ∧ cap2 = 0 ∧ z2 = []) ∨ ∃ x, a2 = some x ∧ len2 ≤ cap2 ∧ cap2 ≤ maxLen ∧ z2.length = cap2 ∧ (∀ i, i < z2.length → w.cell? (x.add i) = some (.int .u32 (z2.getD i 0))) ∧ ∀ n ∈ z2, (Lit.int .u32 n).wf = true) (y2 : len2 * 4 ≤ 140737488351232) :
    Calls Try.prog 8 #[.int .u32 a0, .slice a1 len1 cap1, .slice a2 len2 cap2] w fun e w' => e = .returned (.bool true) ∧ Below w.heap.size w w' := by
  obtain ⟨l1, rfl, hr1, hm1, hw1, hc1⟩ := ReadsInt.ofRowC w1
  obtain ⟨l2, rfl, hr2, hm2, hw2, hc2⟩ := ReadsInt.ofRowC w2
  obtain ⟨k, h⟩ := P a0 l1 l2 w0 hm1 y1 hw1 hm2 y2 hw2
  refine (nautiluslaw13_BmapFirst.calls k a0 _ _ l1 _ _ l2 true w (Kd.C_of_reads (d := (0 : Int)) (h1 := fun _ => rfl) hr1) hc1 (Kd.C_of_reads (d := (0 : Int)) (h1 := fun _ => rfl) hr2) hc2 h).mono ?_
  rintro e w' ⟨rfl, hd⟩
  exact ⟨rfl, hd⟩

end Go.Proofs.Ytpgdcpbbfphbiaa.Q
