/- Functions of the translation as plain Lean functions, and that the translation computes them: printed by this session's driver of the print. -/
import Derived.Test.YtpgdcpbbfphbiaaQ0
import Derived.Test.YtpgdcpbbfphbiaaQ1
import Derived.Test.YtpgdcpbbfphbiaaQ18
import Derived.Test.YtpgdcpbbfphbiaaQ19
import Derived.Test.YtpgdcpbbfphbiaaHBLayC
import Derived.Test.YtpgdcpbbfphbiaaHBLayR
namespace Go.Proofs.Ytpgdcpbbfphbiaa.Q
open Go.Proofs.Ytpgdcpbbfphbiaa.H
open Go.RowKit Go.Proofs.YtpgdcpbbfphbiaaW.PrintWords Go.Proofs.YtpgdcpbbfphbiaaW.PrintLast Go.Proofs.YtpgdcpbbfphbiaaW.PrintMore
attribute [local go_sem] max2_int min2_int max_two min_two max_three min_three max_four min_four   -- for this text's walks alone
set_option linter.unusedVariables false
set_option linter.unusedSimpArgs false

attribute [local go_sem high] eqA32
/-! ### nautiluslaw13_BmapLays: function 4 -/
def nautiluslaw13_BmapLays.j0 : Nat → Int → List Int → List Int → Bool → Bool → Option (Bool)
  | 0, _, _, _, _, _ => none
  | k + 1, x0, x1, x2, x7, x22 => if x22 = true then (some x7) else ((bmap_Lay.f x0 x1 x2).bind fun bt204 => ((nautilusref13_Lay.f x0 x1 x2).bind fun bt215 => (if x7 = true then (if (bt204.1 == bt215.1 && (bt204.2.1 == bt215.2.1 && (bt204.2.2.1 == bt215.2.2.1 && (bt204.2.2.2.1 == bt215.2.2.2.1 && (bt204.2.2.2.2.1 == bt215.2.2.2.2.1 && (bt204.2.2.2.2.2.1 == bt215.2.2.2.2.2.1)))))) = true then ((nautilusref13_SameTexts.f k bt204.2.2.2.2.2.2.1 bt215.2.2.2.2.2.2.1).bind fun t226 => (if t226 = true then (some (bt204.2.2.2.2.2.2.2 == bt215.2.2.2.2.2.2.2)) else (none))) else (none)) else (none))))
def nautiluslaw13_BmapLays.f (k : Nat) (a0 : Int) (l1 : List Int) (l2 : List Int) : Option (Bool) := (nautiluslaw13_shown.f k).bind fun t203 => (if (l1.length : Int) > 1000 then (nautiluslaw13_BmapLays.j0 k a0 l1 l2 t203 true) else (nautiluslaw13_BmapLays.j0 k a0 l1 l2 t203 (decide ((l2.length : Int) > 1000))))
theorem nautiluslaw13_BmapLays.mono_l : ∀ k, (∀ y0 y1 y2 y3 y4, LeO (nautiluslaw13_BmapLays.j0 k y0 y1 y2 y3 y4) (nautiluslaw13_BmapLays.j0 (k + 1) y0 y1 y2 y3 y4))
  | 0 => fun _ _ _ _ _ r h => by simp [nautiluslaw13_BmapLays.j0] at h
  | k + 1 => by
    have ih0 := nautiluslaw13_BmapLays.mono_l k
    · intro y0 y1 y2 y3 y4
      unfold nautiluslaw13_BmapLays.j0
      repeat' first
      | (with_reducible exact ih0 _ _ _ _ _)
      | (with_reducible exact nautiluslaw13_shown.mono _)
      | (with_reducible exact nautilusref13_SameTexts.mono _ _ _)
      | (with_reducible exact LeO.refl _)
      | (with_reducible exact LeO.none _)
      | (with_reducible refine LeO.ite ?_ ?_)
      | (with_reducible refine LeO.bind ?_ (fun _ => ?_))
      | exact ih0 _ _ _ _ _
      | exact nautiluslaw13_shown.mono _
      | exact nautilusref13_SameTexts.mono _ _ _
      | exact LeO.none _
      | refine LeO.ite ?_ ?_
      | refine LeO.bind ?_ (fun _ => ?_)
theorem nautiluslaw13_BmapLays.mono : ∀ a0 a1 a2 k, LeO (nautiluslaw13_BmapLays.f k a0 a1 a2) (nautiluslaw13_BmapLays.f (k + 1) a0 a1 a2) := by
  intro a0 a1 a2 k
  have ih0 := nautiluslaw13_BmapLays.mono_l k
  unfold nautiluslaw13_BmapLays.f
  repeat' first
      | (with_reducible exact ih0 _ _ _ _ _)
      | (with_reducible exact nautiluslaw13_shown.mono _)
      | (with_reducible exact nautilusref13_SameTexts.mono _ _ _)
      | (with_reducible exact LeO.refl _)
      | (with_reducible exact LeO.none _)
      | (with_reducible refine LeO.ite ?_ ?_)
      | (with_reducible refine LeO.bind ?_ (fun _ => ?_))
      | exact ih0 _ _ _ _ _
      | exact nautiluslaw13_shown.mono _
      | exact nautilusref13_SameTexts.mono _ _ _
      | exact LeO.none _
      | refine LeO.ite ?_ ?_
      | refine LeO.bind ?_ (fun _ => ?_)
set_option maxHeartbeats 8000000 in
set_option maxRecDepth 100000 in
theorem nautiluslaw13_BmapLays.calls (k : Nat) (a0 : Int) (A1 : Option Addr) (c1 : Nat) (l1 : List Int) (A2 : Option Addr) (c2 : Nat) (l2 : List Int) (r : Bool) (w : World) (hr1 : Kd.C (Kd.int .u32) w A1 l1.length l1) (hc1 : l1.length ≤ c1) (hr2 : Kd.C (Kd.int .u32) w A2 l2.length l2) (hc2 : l2.length ≤ c2) (h : nautiluslaw13_BmapLays.f k a0 l1 l2 = some r) :
    Calls Try.prog 4 #[.int .u32 a0, .slice A1 l1.length c1, .slice A2 l2.length c2] w fun e w' => e = .returned (.bool r) ∧ Below w.heap.size w w' := by
  have hu32 := Try.underlying32
  have HR1 := Aside0.mk hr1
  have HC1 := Aside0.mk hc1
  clear hr1 hc1
  have HR2 := Aside0.mk hr2
  have HC2 := Aside0.mk hc2
  clear hr2 hc2
  have HB := Aside0.mk (Below.refl w.heap.size w)
  have H : ((nautiluslaw13_shown.f k).bind fun t203 => (if (l1.length : Int) > 1000 then (nautiluslaw13_BmapLays.j0 k a0 l1 l2 t203 true) else (nautiluslaw13_BmapLays.j0 k a0 l1 l2 t203 (decide ((l2.length : Int) > 1000))))) = some r := h
  clear h
  replace H := Option.bind_eq_some_iff.mp H
  obtain ⟨t203, A40, H⟩ := H
  replace H : (if (l1.length : Int) > 1000 then (nautiluslaw13_BmapLays.j0 k a0 l1 l2 t203 true) else (nautiluslaw13_BmapLays.j0 k a0 l1 l2 t203 (decide ((l2.length : Int) > 1000)))) = some r := H
  have A4 := Aside0.mk A40
  clear A40
  have HC5 := Aside0.mk H
  clear H
  go_enter Try.func4, Try.ntmps4
  go_upto_region 2 with (first | ((with_reducible refine gate_callee (f := 9) rfl ?_); refine goesL_ (some 14) rfl rfl Try.func9 (by kernel_rfl) rfl #[] rfl (by (try simp only [List.map_toArray, List.map_cons, List.map_nil]); first | done | rfl | (simp only [List.length_drop, List.length_take]; rfl)) ?_; (with_reducible refine (nautiluslaw13_shown.calls k  t203 _ A4.out).mono ?_); rintro e w6 ⟨rfl, hb⟩; refine ⟨_, rfl, ?_⟩; have n0_ := Aside0.mk (below_step (by repeat (first | (with_reducible first | exact HB.out | apply below_alloc | apply pw_below_drewN | apply below_drew1) | exact HB.out)) hb); clear HB; have HB := n0_; clear n0_; (try clear hb); (try clear hb2); (try clear hk); (try clear hi)))
  (try simp only [Act.put, List.setIfInBounds_toArray, List.set_cons_zero, List.set_cons_succ])
  go_cut [22] (fun v22 wc => ∃ (kq : Nat) (x22_4 : Bool), v22 = .bool x22_4 ∧ Aside0 (nautiluslaw13_BmapLays.j0 kq a0 l1 l2 t203 x22_4 = some r) ∧ Aside0 (kq ≤ k) ∧ Aside0 (Below w.heap.size w wc))
  case first =>
    have H := HC5.out
    clear HC5
    by_cases c7 : (l1.length : Int) > 1000
    · rw [if_pos c7] at H
      have c7b0 : decide (1000 < (l1.length : Int)) = true := decide_eq_true c7
      have c7b1 : decide (1000 < l1.length) = true := decide_eq_true (by omega)
      clear c7
      (first | rw [c7b0] | (simp only [i64_w, i32_w]; rw [c7b0]) | skip)
      have H' := Aside0.mk H
      clear H
      go_wp2
      go_meet
      case rel => exact ⟨_, (true), (by first | rfl | (simp; done) | (simp [*]; done)), H', ⟨by first | omega | exact Nat.le_refl _⟩, ⟨by repeat (first | (with_reducible first | exact HB.out | apply below_alloc | apply pw_below_drewN | apply below_drew1) | exact HB.out)⟩⟩
    · rw [if_neg c7] at H
      have c7b0 : decide (1000 < (l1.length : Int)) = false := decide_eq_false c7
      have c7b1 : decide (1000 < l1.length) = false := decide_eq_false (by omega)
      clear c7
      (first | rw [c7b0] | (simp only [i64_w, i32_w]; rw [c7b0]) | skip)
      have H' := Aside0.mk H
      clear H
      go_wp2
      go_meet
      case rel => exact ⟨_, (decide ((l2.length : Int) > 1000)), (by first | rfl | (simp; done) | (simp [*]; done)), H', ⟨by first | omega | exact Nat.le_refl _⟩, ⟨by repeat (first | (with_reducible first | exact HB.out | apply below_alloc | apply pw_below_drewN | apply below_drew1) | exact HB.out)⟩⟩
  case rest =>
    clear HC5
    try clear c1
    try clear c2
    try clear p2
    try clear c4
    try clear c7
    try clear c7b0
    try clear c7b1
    obtain ⟨kq, x22_4, rfl, HA, HJ4, HB⟩ := hcut
    cases kq with
    | zero => exact absurd HA.out (by simp [nautiluslaw13_BmapLays.j0])
    | succ kj4 =>
      have H := HA.out
      clear HA
      simp only [nautiluslaw13_BmapLays.j0] at H
      by_cases c8 : x22_4 = true
      · subst c8
        have H1 : (some t203) = some r := by rw [if_pos rfl] at H; exact H
        clear H
        have H := H1
        clear H1
        obtain rfl := Option.some.inj H
        go_wp2
        go_ret
        exact ⟨by first | rfl | (simp [errW_none, errW_some] <;> rfl) | (simp [*, errW_none, errW_some] <;> rfl) | (simp [show IntKind.u64.wrap 0 = 0 from rfl, Int.zero_tdiv]; done), by repeat (first | (with_reducible first | exact HB.out | apply below_alloc | apply pw_below_drewN | apply below_drew1) | exact HB.out)⟩
      · replace c8 := Bool.eq_false_iff.mpr c8
        subst c8
        have H1 : ((bmap_Lay.f a0 l1 l2).bind fun bt204 => ((nautilusref13_Lay.f a0 l1 l2).bind fun bt215 => (if t203 = true then (if (bt204.1 == bt215.1 && (bt204.2.1 == bt215.2.1 && (bt204.2.2.1 == bt215.2.2.1 && (bt204.2.2.2.1 == bt215.2.2.2.1 && (bt204.2.2.2.2.1 == bt215.2.2.2.2.1 && (bt204.2.2.2.2.2.1 == bt215.2.2.2.2.2.1)))))) = true then ((nautilusref13_SameTexts.f kj4 bt204.2.2.2.2.2.2.1 bt215.2.2.2.2.2.2.1).bind fun t226 => (if t226 = true then (some (bt204.2.2.2.2.2.2.2 == bt215.2.2.2.2.2.2.2)) else (none))) else (none)) else (none)))) = some r := by rw [if_neg (show ¬ (false = true) by decide)] at H; exact H
        clear H
        have H := H1
        clear H1
        replace H := Option.bind_eq_some_iff.mp H
        obtain ⟨⟨t204, t205, t206, t207, t208, t209, t210, t213⟩, A90, H⟩ := H
        replace H : ((nautilusref13_Lay.f a0 l1 l2).bind fun bt215 => (if t203 = true then (if (t204 == bt215.1 && (t205 == bt215.2.1 && (t206 == bt215.2.2.1 && (t207 == bt215.2.2.2.1 && (t208 == bt215.2.2.2.2.1 && (t209 == bt215.2.2.2.2.2.1)))))) = true then ((nautilusref13_SameTexts.f kj4 t210 bt215.2.2.2.2.2.2.1).bind fun t226 => (if t226 = true then (some (t213 == bt215.2.2.2.2.2.2.2)) else (none))) else (none)) else (none))) = some r := H
        have A9 := Aside0.mk A90
        clear A90
        replace H := Option.bind_eq_some_iff.mp H
        obtain ⟨⟨t215, t216, t217, t218, t219, t220, t221, t224⟩, A100, H⟩ := H
        replace H : (if t203 = true then (if (t204 == t215 && (t205 == t216 && (t206 == t217 && (t207 == t218 && (t208 == t219 && (t209 == t220)))))) = true then ((nautilusref13_SameTexts.f kj4 t210 t221).bind fun t226 => (if t226 = true then (some (t213 == t224)) else (none))) else (none)) else (none)) = some r := H
        have A10 := Aside0.mk A100
        clear A100
        by_cases c11 : t203 = true
        · subst c11
          have H1 : (if (t204 == t215 && (t205 == t216 && (t206 == t217 && (t207 == t218 && (t208 == t219 && (t209 == t220)))))) = true then ((nautilusref13_SameTexts.f kj4 t210 t221).bind fun t226 => (if t226 = true then (some (t213 == t224)) else (none))) else (none)) = some r := by rw [if_pos rfl] at H; exact H
          clear H
          have H := H1
          clear H1
          by_cases c12 : (t204 == t215 && (t205 == t216 && (t206 == t217 && (t207 == t218 && (t208 == t219 && (t209 == t220)))))) = true
          · rw [if_pos c12] at H
            have c12b0 : (t204 == t215 && (t205 == t216 && (t206 == t217 && (t207 == t218 && (t208 == t219 && (t209 == t220)))))) = true := c12
            (try (have c12b1 : decide (t204 = t215 && (t205 == t216 && (t206 == t217 && (t207 == t218 && (t208 == t219 && (t209 == t220)))))) = true := by simpa using c12))
            (try (have c12b2 : (t204 == t215 && (t205 == t216 && (t206 == t217 && (t207 == t218 && (t208 == t219 && (t209 == t220)))))) = true := by simpa using c12))
            clear c12
            replace H := Option.bind_eq_some_iff.mp H
            obtain ⟨t226, A130, H⟩ := H
            replace H : (if t226 = true then (some (t213 == t224)) else (none)) = some r := H
            have A13 := Aside0.mk A130
            clear A130
            by_cases c14 : t226 = true
            · subst c14
              have H1 : (some (t213 == t224)) = some r := by rw [if_pos rfl] at H; exact H
              clear H
              have H := H1
              clear H1
              obtain rfl := Option.some.inj H
              go_wp2_with (first | ((with_reducible refine gate_callee (f := 15) rfl ?_); refine goesL_ (some 28) rfl rfl Try.func15 (by kernel_rfl) rfl #[.int .u32 a0, .slice A1 l1.length c1, .slice A2 l2.length c2] rfl (by (try simp only [List.map_toArray, List.map_cons, List.map_nil]); first | done | rfl | (simp only [List.length_drop, List.length_take]; rfl)) ?_; (with_reducible refine (bmap_Lay.calls a0 _ _ l1 _ _ l2 t204 t205 t206 t207 t208 t209 t210 t213 _ ?side1 ?side2 ?side3 ?side4 A9.out).mono ?_); (case side1 => repeat (first | exact (Kd.C_below HR1.out HB.out) | (with_reducible refine Kd.C_alloc ?_ _) | (with_reducible refine Kd.C_drewN ?_ _) | (with_reducible refine Kd.C_drew ?_))); (case side2 => exact HC1.out); (case side3 => repeat (first | exact (Kd.C_below HR2.out HB.out) | (with_reducible refine Kd.C_alloc ?_ _) | (with_reducible refine Kd.C_drewN ?_ _) | (with_reducible refine Kd.C_drew ?_))); (case side4 => exact HC2.out); rintro e w15 ⟨v211, rfl, ho0, hb⟩; refine ⟨_, rfl, ?_⟩; have n0_ := Aside0.mk (Kd.R_lower ho0 (below_size (by repeat (first | (with_reducible first | exact HB.out | apply below_alloc | apply pw_below_drewN | apply below_drew1) | exact HB.out)))); have n1_ := Aside0.mk (below_step (by repeat (first | (with_reducible first | exact HB.out | apply below_alloc | apply pw_below_drewN | apply below_drew1) | exact HB.out)) hb); clear HB; have HO212 := n0_; have HB := n1_; clear n0_ n1_; (try clear hb); (try clear hb2); (try clear hk); (try clear hi); (try clear ho0)) | ((with_reducible refine gate_dst (N := 8) rfl ?_); (try (refine gate_guard (by rfl) ?_; dsimp only)); refine box_event ?hg (N := 8) ?hd (cs := #[.int .u32 0, .int .u32 0, .int .u32 0, .int .u32 0, .int .u32 0, .int .u32 0]) (t := 32) ?hr ?_; (case hd => rfl); (case hg => rfl); (case hr => first | (go_simp; done) | (go_simp; rfl)); intro gb214 hg w16 hbox hb; have n0_ := Aside0.mk (Kd.R_below (by (with_reducible repeat (first | apply Kd.R_alloc | apply Kd.R_drewN | apply Kd.R_drew)); exact HO212.out) hb); have n1_ := Aside0.mk (below_step (by repeat (first | (with_reducible first | exact HB.out | apply below_alloc | apply pw_below_drewN | apply below_drew1) | exact HB.out)) hb); have n2_ := Aside0.mk (hbox); have n3_ := Aside0.mk ((by rw [hg]; exact (below_size (by repeat (first | (with_reducible first | exact HB.out | apply below_alloc | apply pw_below_drewN | apply below_drew1) | exact HB.out))) : w.heap.size ≤ gb214)); have n4_ := Aside0.mk ((by rw [hg]; exact (below_size (by repeat (first | (with_reducible first | exact HB.out | apply below_alloc | apply pw_below_drewN | apply below_drew1) | exact HB.out))) : w.heap.size ≤ gb214)); clear HO212; clear HB; have HO212 := n0_; have HB := n1_; have BK214 := n2_; have GW214 := n3_; have GE214 := n4_; clear n0_ n1_ n2_ n3_ n4_; clear hb hbox hg; have hcz17_0 : w16.cell? ⟨gb214, 0, none⟩ = some (.int .u32 0) := (blk_cell BK214.out 0).trans rfl; have hcz17_1 : w16.cell? ⟨gb214, 1, none⟩ = some (.int .u32 0) := (blk_cell BK214.out 1).trans rfl; have hcz17_2 : w16.cell? ⟨gb214, 2, none⟩ = some (.int .u32 0) := (blk_cell BK214.out 2).trans rfl; have hcz17_3 : w16.cell? ⟨gb214, 3, none⟩ = some (.int .u32 0) := (blk_cell BK214.out 3).trans rfl; have hcz17_4 : w16.cell? ⟨gb214, 4, none⟩ = some (.int .u32 0) := (blk_cell BK214.out 4).trans rfl; have hcz17_5 : w16.cell? ⟨gb214, 5, none⟩ = some (.int .u32 0) := (blk_cell BK214.out 5).trans rfl; have hfz17_0 := blk_frozen BK214.out 0; have hfz17_1 := blk_frozen BK214.out 1; have hfz17_2 := blk_frozen BK214.out 2; have hfz17_3 := blk_frozen BK214.out 3; have hfz17_4 := blk_frozen BK214.out 4; have hfz17_5 := blk_frozen BK214.out 5) | ((with_reducible refine gate_callee (f := 16) rfl ?_); refine goesL_ (some 36) rfl rfl Try.func16 (by kernel_rfl) rfl #[.int .u32 a0, .slice A1 l1.length c1, .slice A2 l2.length c2] rfl (by (try simp only [List.map_toArray, List.map_cons, List.map_nil]); first | done | rfl | (simp only [List.length_drop, List.length_take]; rfl)) ?_; (with_reducible refine (nautilusref13_Lay.calls a0 _ _ l1 _ _ l2 t215 t216 t217 t218 t219 t220 t221 t224 _ ?side1 ?side2 ?side3 ?side4 A10.out).mono ?_); (case side1 => exact Kd.C_below HR1.out (by repeat (first | (with_reducible first | exact HB.out | apply below_alloc | apply pw_below_drewN | apply below_drew1 | refine below_set ?_ GE214.out) | exact HB.out))); (case side2 => exact HC1.out); (case side3 => exact Kd.C_below HR2.out (by repeat (first | (with_reducible first | exact HB.out | apply below_alloc | apply pw_below_drewN | apply below_drew1 | refine below_set ?_ GE214.out) | exact HB.out))); (case side4 => exact HC2.out); rintro e w18 ⟨v222, rfl, ho0, hb⟩; refine ⟨_, rfl, ?_⟩; have n0_ := Aside0.mk (Kd.R_elder' (by (with_reducible repeat (first | apply Kd.R_alloc | apply Kd.R_drewN | apply Kd.R_drew)); exact (Kd.R_mono (Kd.R_far (p := ⟨gb214, 5, none⟩) (Kd.R_far (p := ⟨gb214, 4, none⟩) (Kd.R_far (p := ⟨gb214, 3, none⟩) (Kd.R_far (p := ⟨gb214, 2, none⟩) (Kd.R_far (p := ⟨gb214, 1, none⟩) (Kd.R_far (p := ⟨gb214, 0, none⟩) (Kd.R_types HO212.out BK214.out (by decide)) (fun _ hk => hk.2) (.int .u32 t204)) (fun _ hk => hk.2) (.int .u32 t205)) (fun _ hk => hk.2) (.int .u32 t206)) (fun _ hk => hk.2) (.int .u32 t207)) (fun _ hk => hk.2) (.int .u32 t208)) (fun _ hk => hk.2) (.int .u32 t209)) (fun _ h_ => h_.1))) (Kd.R_base ho0) hb); have n1_ := Aside0.mk (Kd.R_lower (Kd.R_new' ho0 (Kd.R_lt (by (with_reducible repeat (first | apply Kd.R_alloc | apply Kd.R_drewN | apply Kd.R_drew)); exact (Kd.R_mono (Kd.R_far (p := ⟨gb214, 5, none⟩) (Kd.R_far (p := ⟨gb214, 4, none⟩) (Kd.R_far (p := ⟨gb214, 3, none⟩) (Kd.R_far (p := ⟨gb214, 2, none⟩) (Kd.R_far (p := ⟨gb214, 1, none⟩) (Kd.R_far (p := ⟨gb214, 0, none⟩) (Kd.R_types HO212.out BK214.out (by decide)) (fun _ hk => hk.2) (.int .u32 t204)) (fun _ hk => hk.2) (.int .u32 t205)) (fun _ hk => hk.2) (.int .u32 t206)) (fun _ hk => hk.2) (.int .u32 t207)) (fun _ hk => hk.2) (.int .u32 t208)) (fun _ hk => hk.2) (.int .u32 t209)) (fun _ h_ => h_.1))))) (below_size (by repeat (first | (with_reducible first | exact HB.out | apply below_alloc | apply pw_below_drewN | apply below_drew1 | refine below_set ?_ GE214.out) | exact HB.out)))); have n2_ := Aside0.mk (blk_below (g := gb214) (o := .cells #[.int .u32 t204, .int .u32 t205, .int .u32 t206, .int .u32 t207, .int .u32 t208, .int .u32 t209] 32 (0, 0)) (by (with_reducible repeat (first | refine blk_drewN ?_ _ | refine blk_drew ?_ | refine blk_alloc ?_ _)); refine blk_put (cs := #[.int .u32 t204, .int .u32 t205, .int .u32 t206, .int .u32 t207, .int .u32 t208, .int .u32 0]) ?_ 5 _ rfl; (with_reducible repeat (first | refine blk_drewN ?_ _ | refine blk_drew ?_ | refine blk_alloc ?_ _)); refine blk_put (cs := #[.int .u32 t204, .int .u32 t205, .int .u32 t206, .int .u32 t207, .int .u32 0, .int .u32 0]) ?_ 4 _ rfl; (with_reducible repeat (first | refine blk_drewN ?_ _ | refine blk_drew ?_ | refine blk_alloc ?_ _)); refine blk_put (cs := #[.int .u32 t204, .int .u32 t205, .int .u32 t206, .int .u32 0, .int .u32 0, .int .u32 0]) ?_ 3 _ rfl; (with_reducible repeat (first | refine blk_drewN ?_ _ | refine blk_drew ?_ | refine blk_alloc ?_ _)); refine blk_put (cs := #[.int .u32 t204, .int .u32 t205, .int .u32 0, .int .u32 0, .int .u32 0, .int .u32 0]) ?_ 2 _ rfl; (with_reducible repeat (first | refine blk_drewN ?_ _ | refine blk_drew ?_ | refine blk_alloc ?_ _)); refine blk_put (cs := #[.int .u32 t204, .int .u32 0, .int .u32 0, .int .u32 0, .int .u32 0, .int .u32 0]) ?_ 1 _ rfl; (with_reducible repeat (first | refine blk_drewN ?_ _ | refine blk_drew ?_ | refine blk_alloc ?_ _)); refine blk_put (cs := #[.int .u32 0, .int .u32 0, .int .u32 0, .int .u32 0, .int .u32 0, .int .u32 0]) ?_ 0 _ rfl; (with_reducible repeat (first | refine blk_drewN ?_ _ | refine blk_drew ?_ | refine blk_alloc ?_ _)); exact BK214.out) hb); have n3_ := Aside0.mk (below_step (by repeat (first | (with_reducible first | exact HB.out | apply below_alloc | apply pw_below_drewN | apply below_drew1 | refine below_set ?_ GE214.out) | exact HB.out)) hb); clear HO212; clear BK214; clear HB; have HO212 := n0_; have HO223 := n1_; have BK214 := n2_; have HB := n3_; clear n0_ n1_ n2_ n3_; (try clear hb); (try clear hb2); (try clear hk); (try clear hi); (try clear ho0)) | ((with_reducible refine gate_dst (N := 11) rfl ?_); (try (refine gate_guard (by rfl) ?_; dsimp only)); refine box_event ?hg (N := 11) ?hd (cs := #[.int .u32 0, .int .u32 0, .int .u32 0, .int .u32 0, .int .u32 0, .int .u32 0]) (t := 32) ?hr ?_; (case hd => rfl); (case hg => rfl); (case hr => first | (go_simp; done) | (go_simp; rfl)); intro gb225 hg w19 hbox hb; have n0_ := Aside0.mk (Kd.R_below (by (with_reducible repeat (first | apply Kd.R_alloc | apply Kd.R_drewN | apply Kd.R_drew)); exact HO212.out) hb); have n1_ := Aside0.mk (Kd.R_below (by (with_reducible repeat (first | apply Kd.R_alloc | apply Kd.R_drewN | apply Kd.R_drew)); exact HO223.out) hb); have n2_ := Aside0.mk (blk_below (g := gb214) (o := .cells #[.int .u32 t204, .int .u32 t205, .int .u32 t206, .int .u32 t207, .int .u32 t208, .int .u32 t209] 32 (0, 0)) (by (with_reducible repeat (first | refine blk_drewN ?_ _ | refine blk_drew ?_ | refine blk_alloc ?_ _)); exact BK214.out) hb); have n3_ := Aside0.mk (below_step (by repeat (first | (with_reducible first | exact HB.out | apply below_alloc | apply pw_below_drewN | apply below_drew1 | refine below_set ?_ GE214.out) | exact HB.out)) hb); have n4_ := Aside0.mk (hbox); have n5_ := Aside0.mk ((by rw [hg]; exact (below_size (by repeat (first | (with_reducible first | exact HB.out | apply below_alloc | apply pw_below_drewN | apply below_drew1 | refine below_set ?_ GE214.out) | exact HB.out))) : w.heap.size ≤ gb225)); have n6_ := Aside0.mk ((by rw [hg]; exact (below_size (by repeat (first | (with_reducible first | exact HB.out | apply below_alloc | apply pw_below_drewN | apply below_drew1 | refine below_set ?_ GE214.out) | exact HB.out))) : w.heap.size ≤ gb225)); have n7_ := Aside0.mk ((by rw [hg]; exact Nat.ne_of_lt (blk_lt (g := gb214) (o := .cells #[.int .u32 t204, .int .u32 t205, .int .u32 t206, .int .u32 t207, .int .u32 t208, .int .u32 t209] 32 (0, 0)) (by (with_reducible repeat (first | refine blk_drewN ?_ _ | refine blk_drew ?_ | refine blk_alloc ?_ _)); exact BK214.out)) : gb214 ≠ gb225)); have n8_ := Aside0.mk ((by rw [hg]; exact Nat.ne_of_gt (blk_lt (g := gb214) (o := .cells #[.int .u32 t204, .int .u32 t205, .int .u32 t206, .int .u32 t207, .int .u32 t208, .int .u32 t209] 32 (0, 0)) (by (with_reducible repeat (first | refine blk_drewN ?_ _ | refine blk_drew ?_ | refine blk_alloc ?_ _)); exact BK214.out)) : gb225 ≠ gb214)); clear HO212; clear HO223; clear BK214; clear HB; have HO212 := n0_; have HO223 := n1_; have BK214 := n2_; have HB := n3_; have BK225 := n4_; have GW225 := n5_; have GE225 := n6_; have NB214_225 := n7_; have NB225_214 := n8_; clear n0_ n1_ n2_ n3_ n4_ n5_ n6_ n7_ n8_; clear hb hbox hg; have hnb20 := NB225_214.out; have hnc20 := NB214_225.out; have hcz21_0 : w19.cell? ⟨gb225, 0, none⟩ = some (.int .u32 0) := (blk_cell BK225.out 0).trans rfl; have hcz21_1 : w19.cell? ⟨gb225, 1, none⟩ = some (.int .u32 0) := (blk_cell BK225.out 1).trans rfl; have hcz21_2 : w19.cell? ⟨gb225, 2, none⟩ = some (.int .u32 0) := (blk_cell BK225.out 2).trans rfl; have hcz21_3 : w19.cell? ⟨gb225, 3, none⟩ = some (.int .u32 0) := (blk_cell BK225.out 3).trans rfl; have hcz21_4 : w19.cell? ⟨gb225, 4, none⟩ = some (.int .u32 0) := (blk_cell BK225.out 4).trans rfl; have hcz21_5 : w19.cell? ⟨gb225, 5, none⟩ = some (.int .u32 0) := (blk_cell BK225.out 5).trans rfl; have hfz21_0 := blk_frozen BK225.out 0; have hfz21_1 := blk_frozen BK225.out 1; have hfz21_2 := blk_frozen BK225.out 2; have hfz21_3 := blk_frozen BK225.out 3; have hfz21_4 := blk_frozen BK225.out 4; have hfz21_5 := blk_frozen BK225.out 5; have hcz22_0 : w19.cell? ⟨gb214, 0, none⟩ = some (.int .u32 t204) := (blk_cell BK214.out 0).trans rfl; have hcz22_1 : w19.cell? ⟨gb214, 1, none⟩ = some (.int .u32 t205) := (blk_cell BK214.out 1).trans rfl; have hcz22_2 : w19.cell? ⟨gb214, 2, none⟩ = some (.int .u32 t206) := (blk_cell BK214.out 2).trans rfl; have hcz22_3 : w19.cell? ⟨gb214, 3, none⟩ = some (.int .u32 t207) := (blk_cell BK214.out 3).trans rfl; have hcz22_4 : w19.cell? ⟨gb214, 4, none⟩ = some (.int .u32 t208) := (blk_cell BK214.out 4).trans rfl; have hcz22_5 : w19.cell? ⟨gb214, 5, none⟩ = some (.int .u32 t209) := (blk_cell BK214.out 5).trans rfl; have hfz22_0 := blk_frozen BK214.out 0; have hfz22_1 := blk_frozen BK214.out 1; have hfz22_2 := blk_frozen BK214.out 2; have hfz22_3 := blk_frozen BK214.out 3; have hfz22_4 := blk_frozen BK214.out 4; have hfz22_5 := blk_frozen BK214.out 5; obtain ⟨Ao23, co23, eo23⟩ := Kd.R_slice HO212.out; subst eo23; obtain ⟨Ao24, co24, eo24⟩ := Kd.R_slice HO223.out; subst eo24) | (go_at_call 17; (with_reducible refine (nautilusref13_SameTexts.calls kj4 _ _ t210 _ _ t221 true _ ?side1 ?side2 ?side3 ?side4 A13.out).mono ?_); (case side1 => refine (Kd.R_reads' (e := 9) (base := w.heap.size) (ok := fun k_ => (True ∧ some k_ ≠ (.slice Ao24 t221.length co24 : Value).ownBlock)) (n := t210.length) (c := co23) ?_).2.2; exact (by (with_reducible repeat (first | apply Kd.R_alloc | apply Kd.R_drewN | apply Kd.R_drew)); exact (Kd.R_mono (Kd.R_far (p := ⟨gb225, 5, none⟩) (Kd.R_far (p := ⟨gb225, 4, none⟩) (Kd.R_far (p := ⟨gb225, 3, none⟩) (Kd.R_far (p := ⟨gb225, 2, none⟩) (Kd.R_far (p := ⟨gb225, 1, none⟩) (Kd.R_far (p := ⟨gb225, 0, none⟩) (Kd.R_types HO212.out BK225.out (by decide)) (fun _ hk => hk.2) (.int .u32 t215)) (fun _ hk => hk.2) (.int .u32 t216)) (fun _ hk => hk.2) (.int .u32 t217)) (fun _ hk => hk.2) (.int .u32 t218)) (fun _ hk => hk.2) (.int .u32 t219)) (fun _ hk => hk.2) (.int .u32 t220)) (fun _ h_ => h_.1)))); (case side2 => exact (Kd.R_reads' HO212.out).2.1); (case side3 => refine (Kd.R_reads' (e := 9) (base := w.heap.size) (ok := fun k_ => (True ∧ some k_ ≠ (.slice Ao23 t210.length co23 : Value).ownBlock)) (n := t221.length) (c := co24) ?_).2.2; exact (by (with_reducible repeat (first | apply Kd.R_alloc | apply Kd.R_drewN | apply Kd.R_drew)); exact (Kd.R_mono (Kd.R_far (p := ⟨gb225, 5, none⟩) (Kd.R_far (p := ⟨gb225, 4, none⟩) (Kd.R_far (p := ⟨gb225, 3, none⟩) (Kd.R_far (p := ⟨gb225, 2, none⟩) (Kd.R_far (p := ⟨gb225, 1, none⟩) (Kd.R_far (p := ⟨gb225, 0, none⟩) (Kd.R_types HO223.out BK225.out (by decide)) (fun _ hk => hk.2) (.int .u32 t215)) (fun _ hk => hk.2) (.int .u32 t216)) (fun _ hk => hk.2) (.int .u32 t217)) (fun _ hk => hk.2) (.int .u32 t218)) (fun _ hk => hk.2) (.int .u32 t219)) (fun _ hk => hk.2) (.int .u32 t220)) (fun _ h_ => h_.1)))); (case side4 => exact (Kd.R_reads' HO223.out).2.1); rintro e w' ⟨rfl, ⟨nd, rfl⟩⟩))
              go_ret
              exact ⟨by first | rfl | (simp [errW_none, errW_some] <;> rfl) | (simp [*, errW_none, errW_some] <;> rfl) | (simp [show IntKind.u64.wrap 0 = 0 from rfl, Int.zero_tdiv]; done), by repeat (first | (with_reducible first | exact HB.out | apply below_alloc | apply pw_below_drewN | apply below_drew1 | refine below_set ?_ GE214.out | refine below_set ?_ GE225.out) | exact HB.out)⟩
            · replace c14 := Bool.eq_false_iff.mpr c14
              subst c14
              have H1 : (none) = some r := by rw [if_neg (show ¬ (false = true) by decide)] at H; exact H
              clear H
              have H := H1
              clear H1
              exact absurd H (by simp)
          · rw [if_neg c12] at H
            exact absurd H (by simp)
        · replace c11 := Bool.eq_false_iff.mpr c11
          subst c11
          have H1 : (none) = some r := by rw [if_neg (show ¬ (false = true) by decide)] at H; exact H
          clear H
          have H := H1
          clear H1
          exact absurd H (by simp)

/-- THE ONE PURE STATEMENT of nautiluslaw13_BmapLays: yours. -/
def nautiluslaw13_BmapLays.Pure : Prop := ∀ (a0 : Int) (l1 : List Int) (l2 : List Int), (Lit.int .u32 a0).wf = true → l1.length ≤ maxLen → l1.length * 4 ≤ 140737488351232 → (∀ x ∈ l1, (Lit.int .u32 x).wf = true) → l2.length ≤ maxLen → l2.length * 4 ≤ 140737488351232 → (∀ x ∈ l2, (Lit.int .u32 x).wf = true) → ∃ k, nautiluslaw13_BmapLays.f k a0 l1 l2 = some true
theorem nautiluslaw13_BmapLays.walk (P : nautiluslaw13_BmapLays.Pure) (a0 : Int) (a1 : Option Addr) (len1 cap1 : Nat) (z1 : List Int) (a2 : Option Addr) (len2 cap2 : Nat) (z2 : List Int) (w : World) (w0 : (Lit.int .u32 a0).wf = true) (w1 : (a1 = none ∧ len1 = 0 ∧ cap1 = 0 ∧ z1 = []) ∨ ∃ x, a1 = some x ∧ len1 ≤ cap1 ∧ cap1 ≤ maxLen ∧ z1.length = cap1 ∧ (∀ i, i < z1.length → w.cell? (x.add i) = some (.int .u32 (z1.getD i 0))) ∧ ∀ n ∈ z1, (Lit.int .u32 n).wf = true) (y1 : len1 * 4 ≤ 140737488351232) (w2 : (a2 = none ∧ len2 = 0 ∧ cap2 = 0 ∧ z2 = []) ∨ ∃ x, a2 = some x ∧ len2 ≤ cap2 ∧ cap2 ≤ maxLen ∧ z2.length = cap2 ∧ (∀ i, i < z2.length → w.cell? (x.add i) = some (.int .u32 (z2.getD i 0))) ∧ ∀ n ∈ z2, (Lit.int .u32 n).wf = true) (y2 : len2 * 4 ≤ 140737488351232) :
    Calls Try.prog 4 #[.int .u32 a0, .slice a1 len1 cap1, .slice a2 len2 cap2] w fun e w' => e = .returned (.bool true) ∧ Below w.heap.size w w' := by
  obtain ⟨l1, rfl, hr1, hm1, hw1, hc1⟩ := ReadsInt.ofRowC w1
  obtain ⟨l2, rfl, hr2, hm2, hw2, hc2⟩ := ReadsInt.ofRowC w2
  obtain ⟨k, h⟩ := P a0 l1 l2 w0 hm1 y1 hw1 hm2 y2 hw2
  refine (nautiluslaw13_BmapLays.calls k a0 _ _ l1 _ _ l2 true w (Kd.C_of_reads (d := (0 : Int)) (h1 := fun _ => rfl) hr1) hc1 (Kd.C_of_reads (d := (0 : Int)) (h1 := fun _ => rfl) hr2) hc2 h).mono ?_
  rintro e w' ⟨rfl, hd⟩
  exact ⟨rfl, hd⟩

end Go.Proofs.Ytpgdcpbbfphbiaa.Q
