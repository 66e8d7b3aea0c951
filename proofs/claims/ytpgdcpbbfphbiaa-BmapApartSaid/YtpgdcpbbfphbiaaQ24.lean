/- Functions of the translation as plain Lean functions, and that the translation computes them: printed by this session's driver of the print. -/
import Derived.Test.YtpgdcpbbfphbiaaQ0
import Derived.Test.YtpgdcpbbfphbiaaQ1
import Derived.Test.YtpgdcpbbfphbiaaQ7
import Derived.Test.YtpgdcpbbfphbiaaQ17
import Derived.Test.YtpgdcpbbfphbiaaQ18
import Derived.Test.YtpgdcpbbfphbiaaQ19
import Derived.Test.YtpgdcpbbfphbiaaHBLayC
namespace Go.Proofs.Ytpgdcpbbfphbiaa.Q
open Go.Proofs.Ytpgdcpbbfphbiaa.H
open Go.RowKit Go.Proofs.YtpgdcpbbfphbiaaW.PrintWords Go.Proofs.YtpgdcpbbfphbiaaW.PrintLast Go.Proofs.YtpgdcpbbfphbiaaW.PrintMore
attribute [local go_sem] max2_int min2_int max_two min_two max_three min_three max_four min_four   -- for this text's walks alone
set_option linter.unusedVariables false
set_option linter.unusedSimpArgs false

attribute [local go_sem high] eqA32
/-! ### nautiluslaw13_BmapApart: function 7 -/
mutual
def nautiluslaw13_BmapApart.j0 : Nat → Int → List Int → List Int → List Int → Bool → Bool → Option (Bool)
  | 0, _, _, _, _, _, _ => none
  | k + 1, x0, x1, x2, x3, x9, x30 => if x30 = true then (some x9) else ((bmap_Lay.f x0 x1 x3).bind fun bt302 => ((bmap_Lay.f x0 x2 x3).bind fun bt313 => (if bt302.2.2.2.2.2.2.2 = 0 then (nautiluslaw13_BmapApart.j1 k x0 x1 x2 x9 bt302.2.2.2.2.2.2.1 bt313.2.2.2.2.2.2.1 (bt313.2.2.2.2.2.2.2 != 0) bt302.1 bt302.2.1 bt302.2.2.1 bt302.2.2.2.1 bt302.2.2.2.2.1 bt302.2.2.2.2.2.1 bt313.1 bt313.2.1 bt313.2.2.1 bt313.2.2.2.1 bt313.2.2.2.2.1 bt313.2.2.2.2.2.1) else (nautiluslaw13_BmapApart.j1 k x0 x1 x2 x9 bt302.2.2.2.2.2.2.1 bt313.2.2.2.2.2.2.1 true bt302.1 bt302.2.1 bt302.2.2.1 bt302.2.2.2.1 bt302.2.2.2.2.1 bt302.2.2.2.2.2.1 bt313.1 bt313.2.1 bt313.2.2.1 bt313.2.2.2.1 bt313.2.2.2.2.1 bt313.2.2.2.2.2.1))))
def nautiluslaw13_BmapApart.j1 : Nat → Int → List Int → List Int → Bool → List ByteArray → List ByteArray → Bool → Int → Int → Int → Int → Int → Int → Int → Int → Int → Int → Int → Int → Option (Bool)
  | 0, _, _, _, _, _, _, _, _, _, _, _, _, _, _, _, _, _, _, _ => none
  | k + 1, x0, x1, x2, x9, x11, x14, x53, x313000, x313001, x313002, x313003, x313004, x313005, x324000, x324001, x324002, x324003, x324004, x324005 => if x53 = true then (some x9) else (if (x313000 == x324000 && (x313001 == x324001 && (x313002 == x324002 && (x313003 == x324003 && (x313004 == x324004 && (x313005 == x324005)))))) = true then ((nautilusref13_SameTexts.f k x11 x14).bind fun t324 => (if x9 = true then ((nautilusref13_Same.f k x1 x2).bind fun t325 => (if (t324 == t325) = true then ((bmap_Count.f x0).bind fun t326 => (some ((x11.length : Int) == t326))) else (none))) else (none))) else (if x9 = true then ((nautilusref13_Same.f k x1 x2).bind fun t327 => (if (false == t327) = true then ((bmap_Count.f x0).bind fun t328 => (some ((x11.length : Int) == t328))) else (none))) else (none)))
end
def nautiluslaw13_BmapApart.f (k : Nat) (a0 : Int) (l1 : List Int) (l2 : List Int) (l3 : List Int) : Option (Bool) := (nautiluslaw13_shown.f k).bind fun t301 => (if (l1.length : Int) > 1000 then (nautiluslaw13_BmapApart.j0 k a0 l1 l2 l3 t301 true) else (if (l2.length : Int) > 1000 then (nautiluslaw13_BmapApart.j0 k a0 l1 l2 l3 t301 true) else (nautiluslaw13_BmapApart.j0 k a0 l1 l2 l3 t301 (decide ((l3.length : Int) > 1000)))))
theorem nautiluslaw13_BmapApart.mono_l : ∀ k, (∀ y0 y1 y2 y3 y4 y5, LeO (nautiluslaw13_BmapApart.j0 k y0 y1 y2 y3 y4 y5) (nautiluslaw13_BmapApart.j0 (k + 1) y0 y1 y2 y3 y4 y5)) ∧ (∀ y0 y1 y2 y3 y4 y5 y6 y7 y8 y9 y10 y11 y12 y13 y14 y15 y16 y17 y18, LeO (nautiluslaw13_BmapApart.j1 k y0 y1 y2 y3 y4 y5 y6 y7 y8 y9 y10 y11 y12 y13 y14 y15 y16 y17 y18) (nautiluslaw13_BmapApart.j1 (k + 1) y0 y1 y2 y3 y4 y5 y6 y7 y8 y9 y10 y11 y12 y13 y14 y15 y16 y17 y18))
  | 0 => ⟨fun _ _ _ _ _ _ r h => by simp [nautiluslaw13_BmapApart.j0] at h, fun _ _ _ _ _ _ _ _ _ _ _ _ _ _ _ _ _ _ _ r h => by simp [nautiluslaw13_BmapApart.j1] at h⟩
  | k + 1 => by
    obtain ⟨ih0, ih1⟩ := nautiluslaw13_BmapApart.mono_l k
    refine ⟨?_, ?_⟩
    · intro y0 y1 y2 y3 y4 y5
      unfold nautiluslaw13_BmapApart.j0
      repeat' first
      | (with_reducible exact ih0 _ _ _ _ _ _)
      | (with_reducible exact ih1 _ _ _ _ _ _ _ _ _ _ _ _ _ _ _ _ _ _ _)
      | (with_reducible exact nautiluslaw13_shown.mono _)
      | (with_reducible exact nautilusref13_Same.mono _ _ _)
      | (with_reducible exact nautilusref13_SameTexts.mono _ _ _)
      | (with_reducible exact LeO.refl _)
      | (with_reducible exact LeO.none _)
      | (with_reducible refine LeO.ite ?_ ?_)
      | (with_reducible refine LeO.bind ?_ (fun _ => ?_))
      | exact ih0 _ _ _ _ _ _
      | exact ih1 _ _ _ _ _ _ _ _ _ _ _ _ _ _ _ _ _ _ _
      | exact nautiluslaw13_shown.mono _
      | exact nautilusref13_Same.mono _ _ _
      | exact nautilusref13_SameTexts.mono _ _ _
      | exact LeO.none _
      | refine LeO.ite ?_ ?_
      | refine LeO.bind ?_ (fun _ => ?_)
    · intro y0 y1 y2 y3 y4 y5 y6 y7 y8 y9 y10 y11 y12 y13 y14 y15 y16 y17 y18
      unfold nautiluslaw13_BmapApart.j1
      repeat' first
      | (with_reducible exact ih0 _ _ _ _ _ _)
      | (with_reducible exact ih1 _ _ _ _ _ _ _ _ _ _ _ _ _ _ _ _ _ _ _)
      | (with_reducible exact nautiluslaw13_shown.mono _)
      | (with_reducible exact nautilusref13_Same.mono _ _ _)
      | (with_reducible exact nautilusref13_SameTexts.mono _ _ _)
      | (with_reducible exact LeO.refl _)
      | (with_reducible exact LeO.none _)
      | (with_reducible refine LeO.ite ?_ ?_)
      | (with_reducible refine LeO.bind ?_ (fun _ => ?_))
      | exact ih0 _ _ _ _ _ _
      | exact ih1 _ _ _ _ _ _ _ _ _ _ _ _ _ _ _ _ _ _ _
      | exact nautiluslaw13_shown.mono _
      | exact nautilusref13_Same.mono _ _ _
      | exact nautilusref13_SameTexts.mono _ _ _
      | exact LeO.none _
      | refine LeO.ite ?_ ?_
      | refine LeO.bind ?_ (fun _ => ?_)
theorem nautiluslaw13_BmapApart.mono : ∀ a0 a1 a2 a3 k, LeO (nautiluslaw13_BmapApart.f k a0 a1 a2 a3) (nautiluslaw13_BmapApart.f (k + 1) a0 a1 a2 a3) := by
  intro a0 a1 a2 a3 k
  obtain ⟨ih0, ih1⟩ := nautiluslaw13_BmapApart.mono_l k
  unfold nautiluslaw13_BmapApart.f
  repeat' first
      | (with_reducible exact ih0 _ _ _ _ _ _)
      | (with_reducible exact ih1 _ _ _ _ _ _ _ _ _ _ _ _ _ _ _ _ _ _ _)
      | (with_reducible exact nautiluslaw13_shown.mono _)
      | (with_reducible exact nautilusref13_Same.mono _ _ _)
      | (with_reducible exact nautilusref13_SameTexts.mono _ _ _)
      | (with_reducible exact LeO.refl _)
      | (with_reducible exact LeO.none _)
      | (with_reducible refine LeO.ite ?_ ?_)
      | (with_reducible refine LeO.bind ?_ (fun _ => ?_))
      | exact ih0 _ _ _ _ _ _
      | exact ih1 _ _ _ _ _ _ _ _ _ _ _ _ _ _ _ _ _ _ _
      | exact nautiluslaw13_shown.mono _
      | exact nautilusref13_Same.mono _ _ _
      | exact nautilusref13_SameTexts.mono _ _ _
      | exact LeO.none _
      | refine LeO.ite ?_ ?_
      | refine LeO.bind ?_ (fun _ => ?_)
set_option maxHeartbeats 8000000 in
set_option maxRecDepth 100000 in
theorem nautiluslaw13_BmapApart.calls (k : Nat) (a0 : Int) (A1 : Option Addr) (c1 : Nat) (l1 : List Int) (A2 : Option Addr) (c2 : Nat) (l2 : List Int) (A3 : Option Addr) (c3 : Nat) (l3 : List Int) (r : Bool) (w : World) (hr1 : Kd.C (Kd.int .u32) w A1 l1.length l1) (hc1 : l1.length ≤ c1) (hr2 : Kd.C (Kd.int .u32) w A2 l2.length l2) (hc2 : l2.length ≤ c2) (hr3 : Kd.C (Kd.int .u32) w A3 l3.length l3) (hc3 : l3.length ≤ c3) (h : nautiluslaw13_BmapApart.f k a0 l1 l2 l3 = some r) :
    Calls Try.prog 7 #[.int .u32 a0, .slice A1 l1.length c1, .slice A2 l2.length c2, .slice A3 l3.length c3] w fun e w' => e = .returned (.bool r) ∧ Below w.heap.size w w' := by
  have hu32 := Try.underlying32
  have HR1 := Aside0.mk hr1
  have HC1 := Aside0.mk hc1
  clear hr1 hc1
  have HR2 := Aside0.mk hr2
  have HC2 := Aside0.mk hc2
  clear hr2 hc2
  have HR3 := Aside0.mk hr3
  have HC3 := Aside0.mk hc3
  clear hr3 hc3
  have HB := Aside0.mk (Below.refl w.heap.size w)
  have H : ((nautiluslaw13_shown.f k).bind fun t301 => (if (l1.length : Int) > 1000 then (nautiluslaw13_BmapApart.j0 k a0 l1 l2 l3 t301 true) else (if (l2.length : Int) > 1000 then (nautiluslaw13_BmapApart.j0 k a0 l1 l2 l3 t301 true) else (nautiluslaw13_BmapApart.j0 k a0 l1 l2 l3 t301 (decide ((l3.length : Int) > 1000)))))) = some r := h
  clear h
  replace H := Option.bind_eq_some_iff.mp H
  obtain ⟨t301, A50, H⟩ := H
  replace H : (if (l1.length : Int) > 1000 then (nautiluslaw13_BmapApart.j0 k a0 l1 l2 l3 t301 true) else (if (l2.length : Int) > 1000 then (nautiluslaw13_BmapApart.j0 k a0 l1 l2 l3 t301 true) else (nautiluslaw13_BmapApart.j0 k a0 l1 l2 l3 t301 (decide ((l3.length : Int) > 1000))))) = some r := H
  have A5 := Aside0.mk A50
  clear A50
  have HC6 := Aside0.mk H
  clear H
  go_enter Try.func7, Try.ntmps7
  go_upto_region 2 with (first | ((with_reducible refine gate_callee (f := 9) rfl ?_); refine goesL_ (some 17) rfl rfl Try.func9 (by kernel_rfl) rfl #[] rfl (by (try simp only [List.map_toArray, List.map_cons, List.map_nil]); first | done | rfl | (simp only [List.length_drop, List.length_take]; rfl)) ?_; (with_reducible refine (nautiluslaw13_shown.calls k  t301 _ A5.out).mono ?_); rintro e w7 ⟨rfl, hb⟩; refine ⟨_, rfl, ?_⟩; have n0_ := Aside0.mk (below_step (by repeat (first | (with_reducible first | exact HB.out | apply below_alloc | apply pw_below_drewN | apply below_drew1) | exact HB.out)) hb); clear HB; have HB := n0_; clear n0_; (try clear hb); (try clear hb2); (try clear hk); (try clear hi)))
  (try simp only [Act.put, List.setIfInBounds_toArray, List.set_cons_zero, List.set_cons_succ])
  go_cut [30] (fun v30 wc => ∃ (kq : Nat) (x30_5 : Bool), v30 = .bool x30_5 ∧ Aside0 (nautiluslaw13_BmapApart.j0 kq a0 l1 l2 l3 t301 x30_5 = some r) ∧ Aside0 (kq ≤ k) ∧ Aside0 (Below w.heap.size w wc))
  case first =>
    have H := HC6.out
    clear HC6
    by_cases c8 : (l1.length : Int) > 1000
    · rw [if_pos c8] at H
      have c8b0 : decide (1000 < (l1.length : Int)) = true := decide_eq_true c8
      have c8b1 : decide (1000 < l1.length) = true := decide_eq_true (by omega)
      clear c8
      (first | rw [c8b0] | (simp only [i64_w, i32_w]; rw [c8b0]) | skip)
      have H' := Aside0.mk H
      clear H
      go_wp2
      go_meet
      case rel => exact ⟨_, (true), (by first | rfl | (simp; done) | (simp [*]; done)), H', ⟨by first | omega | exact Nat.le_refl _⟩, ⟨by repeat (first | (with_reducible first | exact HB.out | apply below_alloc | apply pw_below_drewN | apply below_drew1) | exact HB.out)⟩⟩
    · rw [if_neg c8] at H
      have c8b0 : decide (1000 < (l1.length : Int)) = false := decide_eq_false c8
      have c8b1 : decide (1000 < l1.length) = false := decide_eq_false (by omega)
      clear c8
      (first | rw [c8b0] | (simp only [i64_w, i32_w]; rw [c8b0]) | skip)
      by_cases c9 : (l2.length : Int) > 1000
      · rw [if_pos c9] at H
        have c9b0 : decide (1000 < (l2.length : Int)) = true := decide_eq_true c9
        have c9b1 : decide (1000 < l2.length) = true := decide_eq_true (by omega)
        clear c9
        have H' := Aside0.mk H
        clear H
        go_wp2
        go_meet
        case rel => exact ⟨_, (true), (by first | rfl | (simp; done) | (simp [*]; done)), H', ⟨by first | omega | exact Nat.le_refl _⟩, ⟨by repeat (first | (with_reducible first | exact HB.out | apply below_alloc | apply pw_below_drewN | apply below_drew1) | exact HB.out)⟩⟩
      · rw [if_neg c9] at H
        have c9b0 : decide (1000 < (l2.length : Int)) = false := decide_eq_false c9
        have c9b1 : decide (1000 < l2.length) = false := decide_eq_false (by omega)
        clear c9
        have H' := Aside0.mk H
        clear H
        go_wp2
        go_meet
        case rel => exact ⟨_, (decide ((l3.length : Int) > 1000)), (by first | rfl | (simp; done) | (simp [*]; done)), H', ⟨by first | omega | exact Nat.le_refl _⟩, ⟨by repeat (first | (with_reducible first | exact HB.out | apply below_alloc | apply pw_below_drewN | apply below_drew1) | exact HB.out)⟩⟩
  case rest =>
    clear HC6
    try clear c1
    try clear c2
    try clear p2
    try clear c3
    try clear c7
    try clear c8
    try clear c8b0
    try clear c8b1
    try clear c9
    try clear c9b0
    try clear c9b1
    obtain ⟨kq, x30_5, rfl, HA, HJ5, HB⟩ := hcut
    cases kq with
    | zero => exact absurd HA.out (by simp [nautiluslaw13_BmapApart.j0])
    | succ kj5 =>
      have H := HA.out
      clear HA
      simp only [nautiluslaw13_BmapApart.j0] at H
      by_cases c10 : x30_5 = true
      · subst c10
        have H1 : (some t301) = some r := by rw [if_pos rfl] at H; exact H
        clear H
        have H := H1
        clear H1
        obtain rfl := Option.some.inj H
        go_wp2
        go_ret
        exact ⟨by first | rfl | (simp [errW_none, errW_some] <;> rfl) | (simp [*, errW_none, errW_some] <;> rfl) | (simp [show IntKind.u64.wrap 0 = 0 from rfl, Int.zero_tdiv]; done), by repeat (first | (with_reducible first | exact HB.out | apply below_alloc | apply pw_below_drewN | apply below_drew1) | exact HB.out)⟩
      · replace c10 := Bool.eq_false_iff.mpr c10
        subst c10
        have H1 : ((bmap_Lay.f a0 l1 l3).bind fun bt302 => ((bmap_Lay.f a0 l2 l3).bind fun bt313 => (if bt302.2.2.2.2.2.2.2 = 0 then (nautiluslaw13_BmapApart.j1 kj5 a0 l1 l2 t301 bt302.2.2.2.2.2.2.1 bt313.2.2.2.2.2.2.1 (bt313.2.2.2.2.2.2.2 != 0) bt302.1 bt302.2.1 bt302.2.2.1 bt302.2.2.2.1 bt302.2.2.2.2.1 bt302.2.2.2.2.2.1 bt313.1 bt313.2.1 bt313.2.2.1 bt313.2.2.2.1 bt313.2.2.2.2.1 bt313.2.2.2.2.2.1) else (nautiluslaw13_BmapApart.j1 kj5 a0 l1 l2 t301 bt302.2.2.2.2.2.2.1 bt313.2.2.2.2.2.2.1 true bt302.1 bt302.2.1 bt302.2.2.1 bt302.2.2.2.1 bt302.2.2.2.2.1 bt302.2.2.2.2.2.1 bt313.1 bt313.2.1 bt313.2.2.1 bt313.2.2.2.1 bt313.2.2.2.2.1 bt313.2.2.2.2.2.1)))) = some r := by rw [if_neg (show ¬ (false = true) by decide)] at H; exact H
        clear H
        have H := H1
        clear H1
        replace H := Option.bind_eq_some_iff.mp H
        obtain ⟨⟨t302, t303, t304, t305, t306, t307, t308, t311⟩, A110, H⟩ := H
        replace H : ((bmap_Lay.f a0 l2 l3).bind fun bt313 => (if t311 = 0 then (nautiluslaw13_BmapApart.j1 kj5 a0 l1 l2 t301 t308 bt313.2.2.2.2.2.2.1 (bt313.2.2.2.2.2.2.2 != 0) t302 t303 t304 t305 t306 t307 bt313.1 bt313.2.1 bt313.2.2.1 bt313.2.2.2.1 bt313.2.2.2.2.1 bt313.2.2.2.2.2.1) else (nautiluslaw13_BmapApart.j1 kj5 a0 l1 l2 t301 t308 bt313.2.2.2.2.2.2.1 true t302 t303 t304 t305 t306 t307 bt313.1 bt313.2.1 bt313.2.2.1 bt313.2.2.2.1 bt313.2.2.2.2.1 bt313.2.2.2.2.2.1))) = some r := H
        have A11 := Aside0.mk A110
        clear A110
        replace H := Option.bind_eq_some_iff.mp H
        obtain ⟨⟨t313, t314, t315, t316, t317, t318, t319, t322⟩, A120, H⟩ := H
        replace H : (if t311 = 0 then (nautiluslaw13_BmapApart.j1 kj5 a0 l1 l2 t301 t308 t319 (t322 != 0) t302 t303 t304 t305 t306 t307 t313 t314 t315 t316 t317 t318) else (nautiluslaw13_BmapApart.j1 kj5 a0 l1 l2 t301 t308 t319 true t302 t303 t304 t305 t306 t307 t313 t314 t315 t316 t317 t318)) = some r := H
        have A12 := Aside0.mk A120
        clear A120
        have HC13 := Aside0.mk H
        clear H
        go_upto_region 6 with (first | ((with_reducible refine gate_callee (f := 15) rfl ?_); refine goesL_ (some 36) rfl rfl Try.func15 (by kernel_rfl) rfl #[.int .u32 a0, .slice A1 l1.length c1, .slice A3 l3.length c3] rfl (by (try simp only [List.map_toArray, List.map_cons, List.map_nil]); first | done | rfl | (simp only [List.length_drop, List.length_take]; rfl)) ?_; (with_reducible refine (bmap_Lay.calls a0 _ _ l1 _ _ l3 t302 t303 t304 t305 t306 t307 t308 t311 _ ?side1 ?side2 ?side3 ?side4 A11.out).mono ?_); (case side1 => repeat (first | exact (Kd.C_below HR1.out HB.out) | (with_reducible refine Kd.C_alloc ?_ _) | (with_reducible refine Kd.C_drewN ?_ _) | (with_reducible refine Kd.C_drew ?_))); (case side2 => exact HC1.out); (case side3 => repeat (first | exact (Kd.C_below HR3.out HB.out) | (with_reducible refine Kd.C_alloc ?_ _) | (with_reducible refine Kd.C_drewN ?_ _) | (with_reducible refine Kd.C_drew ?_))); (case side4 => exact HC3.out); rintro e w14 ⟨v309, rfl, ho0, hb⟩; refine ⟨_, rfl, ?_⟩; have n0_ := Aside0.mk (Kd.R_lower ho0 (below_size (by repeat (first | (with_reducible first | exact HB.out | apply below_alloc | apply pw_below_drewN | apply below_drew1) | exact HB.out)))); have n1_ := Aside0.mk (below_step (by repeat (first | (with_reducible first | exact HB.out | apply below_alloc | apply pw_below_drewN | apply below_drew1) | exact HB.out)) hb); clear HB; have HO310 := n0_; have HB := n1_; clear n0_ n1_; (try clear hb); (try clear hb2); (try clear hk); (try clear hi); (try clear ho0)) | ((with_reducible refine gate_dst (N := 10) rfl ?_); (try (refine gate_guard (by rfl) ?_; dsimp only)); refine box_event ?hg (N := 10) ?hd (cs := #[.int .u32 0, .int .u32 0, .int .u32 0, .int .u32 0, .int .u32 0, .int .u32 0]) (t := 32) ?hr ?_; (case hd => rfl); (case hg => rfl); (case hr => first | (go_simp; done) | (go_simp; rfl)); intro gb312 hg w15 hbox hb; have n0_ := Aside0.mk (Kd.R_below (by (with_reducible repeat (first | apply Kd.R_alloc | apply Kd.R_drewN | apply Kd.R_drew)); exact HO310.out) hb); have n1_ := Aside0.mk (below_step (by repeat (first | (with_reducible first | exact HB.out | apply below_alloc | apply pw_below_drewN | apply below_drew1) | exact HB.out)) hb); have n2_ := Aside0.mk (hbox); have n3_ := Aside0.mk ((by rw [hg]; exact (below_size (by repeat (first | (with_reducible first | exact HB.out | apply below_alloc | apply pw_below_drewN | apply below_drew1) | exact HB.out))) : w.heap.size ≤ gb312)); have n4_ := Aside0.mk ((by rw [hg]; exact (below_size (by repeat (first | (with_reducible first | exact HB.out | apply below_alloc | apply pw_below_drewN | apply below_drew1) | exact HB.out))) : w.heap.size ≤ gb312)); clear HO310; clear HB; have HO310 := n0_; have HB := n1_; have BK312 := n2_; have GW312 := n3_; have GE312 := n4_; clear n0_ n1_ n2_ n3_ n4_; clear hb hbox hg; have hcz16_0 : w15.cell? ⟨gb312, 0, none⟩ = some (.int .u32 0) := (blk_cell BK312.out 0).trans rfl; have hcz16_1 : w15.cell? ⟨gb312, 1, none⟩ = some (.int .u32 0) := (blk_cell BK312.out 1).trans rfl; have hcz16_2 : w15.cell? ⟨gb312, 2, none⟩ = some (.int .u32 0) := (blk_cell BK312.out 2).trans rfl; have hcz16_3 : w15.cell? ⟨gb312, 3, none⟩ = some (.int .u32 0) := (blk_cell BK312.out 3).trans rfl; have hcz16_4 : w15.cell? ⟨gb312, 4, none⟩ = some (.int .u32 0) := (blk_cell BK312.out 4).trans rfl; have hcz16_5 : w15.cell? ⟨gb312, 5, none⟩ = some (.int .u32 0) := (blk_cell BK312.out 5).trans rfl; have hfz16_0 := blk_frozen BK312.out 0; have hfz16_1 := blk_frozen BK312.out 1; have hfz16_2 := blk_frozen BK312.out 2; have hfz16_3 := blk_frozen BK312.out 3; have hfz16_4 := blk_frozen BK312.out 4; have hfz16_5 := blk_frozen BK312.out 5) | ((with_reducible refine gate_callee (f := 15) rfl ?_); refine goesL_ (some 44) rfl rfl Try.func15 (by kernel_rfl) rfl #[.int .u32 a0, .slice A2 l2.length c2, .slice A3 l3.length c3] rfl (by (try simp only [List.map_toArray, List.map_cons, List.map_nil]); first | done | rfl | (simp only [List.length_drop, List.length_take]; rfl)) ?_; (with_reducible refine (bmap_Lay.calls a0 _ _ l2 _ _ l3 t313 t314 t315 t316 t317 t318 t319 t322 _ ?side1 ?side2 ?side3 ?side4 A12.out).mono ?_); (case side1 => exact Kd.C_below HR2.out (by repeat (first | (with_reducible first | exact HB.out | apply below_alloc | apply pw_below_drewN | apply below_drew1 | refine below_set ?_ GE312.out) | exact HB.out))); (case side2 => exact HC2.out); (case side3 => exact Kd.C_below HR3.out (by repeat (first | (with_reducible first | exact HB.out | apply below_alloc | apply pw_below_drewN | apply below_drew1 | refine below_set ?_ GE312.out) | exact HB.out))); (case side4 => exact HC3.out); rintro e w17 ⟨v320, rfl, ho0, hb⟩; refine ⟨_, rfl, ?_⟩; have n0_ := Aside0.mk (Kd.R_elder' (by (with_reducible repeat (first | apply Kd.R_alloc | apply Kd.R_drewN | apply Kd.R_drew)); exact (Kd.R_mono (Kd.R_far (p := ⟨gb312, 5, none⟩) (Kd.R_far (p := ⟨gb312, 4, none⟩) (Kd.R_far (p := ⟨gb312, 3, none⟩) (Kd.R_far (p := ⟨gb312, 2, none⟩) (Kd.R_far (p := ⟨gb312, 1, none⟩) (Kd.R_far (p := ⟨gb312, 0, none⟩) (Kd.R_types HO310.out BK312.out (by decide)) (fun _ hk => hk.2) (.int .u32 t302)) (fun _ hk => hk.2) (.int .u32 t303)) (fun _ hk => hk.2) (.int .u32 t304)) (fun _ hk => hk.2) (.int .u32 t305)) (fun _ hk => hk.2) (.int .u32 t306)) (fun _ hk => hk.2) (.int .u32 t307)) (fun _ h_ => h_.1))) (Kd.R_base ho0) hb); have n1_ := Aside0.mk (Kd.R_lower (Kd.R_new' ho0 (Kd.R_lt (by (with_reducible repeat (first | apply Kd.R_alloc | apply Kd.R_drewN | apply Kd.R_drew)); exact (Kd.R_mono (Kd.R_far (p := ⟨gb312, 5, none⟩) (Kd.R_far (p := ⟨gb312, 4, none⟩) (Kd.R_far (p := ⟨gb312, 3, none⟩) (Kd.R_far (p := ⟨gb312, 2, none⟩) (Kd.R_far (p := ⟨gb312, 1, none⟩) (Kd.R_far (p := ⟨gb312, 0, none⟩) (Kd.R_types HO310.out BK312.out (by decide)) (fun _ hk => hk.2) (.int .u32 t302)) (fun _ hk => hk.2) (.int .u32 t303)) (fun _ hk => hk.2) (.int .u32 t304)) (fun _ hk => hk.2) (.int .u32 t305)) (fun _ hk => hk.2) (.int .u32 t306)) (fun _ hk => hk.2) (.int .u32 t307)) (fun _ h_ => h_.1))))) (below_size (by repeat (first | (with_reducible first | exact HB.out | apply below_alloc | apply pw_below_drewN | apply below_drew1 | refine below_set ?_ GE312.out) | exact HB.out)))); have n2_ := Aside0.mk (blk_below (g := gb312) (o := .cells #[.int .u32 t302, .int .u32 t303, .int .u32 t304, .int .u32 t305, .int .u32 t306, .int .u32 t307] 32 (0, 0)) (by (with_reducible repeat (first | refine blk_drewN ?_ _ | refine blk_drew ?_ | refine blk_alloc ?_ _)); refine blk_put (cs := #[.int .u32 t302, .int .u32 t303, .int .u32 t304, .int .u32 t305, .int .u32 t306, .int .u32 0]) ?_ 5 _ rfl; (with_reducible repeat (first | refine blk_drewN ?_ _ | refine blk_drew ?_ | refine blk_alloc ?_ _)); refine blk_put (cs := #[.int .u32 t302, .int .u32 t303, .int .u32 t304, .int .u32 t305, .int .u32 0, .int .u32 0]) ?_ 4 _ rfl; (with_reducible repeat (first | refine blk_drewN ?_ _ | refine blk_drew ?_ | refine blk_alloc ?_ _)); refine blk_put (cs := #[.int .u32 t302, .int .u32 t303, .int .u32 t304, .int .u32 0, .int .u32 0, .int .u32 0]) ?_ 3 _ rfl; (with_reducible repeat (first | refine blk_drewN ?_ _ | refine blk_drew ?_ | refine blk_alloc ?_ _)); refine blk_put (cs := #[.int .u32 t302, .int .u32 t303, .int .u32 0, .int .u32 0, .int .u32 0, .int .u32 0]) ?_ 2 _ rfl; (with_reducible repeat (first | refine blk_drewN ?_ _ | refine blk_drew ?_ | refine blk_alloc ?_ _)); refine blk_put (cs := #[.int .u32 t302, .int .u32 0, .int .u32 0, .int .u32 0, .int .u32 0, .int .u32 0]) ?_ 1 _ rfl; (with_reducible repeat (first | refine blk_drewN ?_ _ | refine blk_drew ?_ | refine blk_alloc ?_ _)); refine blk_put (cs := #[.int .u32 0, .int .u32 0, .int .u32 0, .int .u32 0, .int .u32 0, .int .u32 0]) ?_ 0 _ rfl; (with_reducible repeat (first | refine blk_drewN ?_ _ | refine blk_drew ?_ | refine blk_alloc ?_ _)); exact BK312.out) hb); have n3_ := Aside0.mk (below_step (by repeat (first | (with_reducible first | exact HB.out | apply below_alloc | apply pw_below_drewN | apply below_drew1 | refine below_set ?_ GE312.out) | exact HB.out)) hb); clear HO310; clear BK312; clear HB; have HO310 := n0_; have HO321 := n1_; have BK312 := n2_; have HB := n3_; clear n0_ n1_ n2_ n3_; (try clear hb); (try clear hb2); (try clear hk); (try clear hi); (try clear ho0)) | ((with_reducible refine gate_dst (N := 13) rfl ?_); (try (refine gate_guard (by rfl) ?_; dsimp only)); refine box_event ?hg (N := 13) ?hd (cs := #[.int .u32 0, .int .u32 0, .int .u32 0, .int .u32 0, .int .u32 0, .int .u32 0]) (t := 32) ?hr ?_; (case hd => rfl); (case hg => rfl); (case hr => first | (go_simp; done) | (go_simp; rfl)); intro gb323 hg w18 hbox hb; have n0_ := Aside0.mk (Kd.R_below (by (with_reducible repeat (first | apply Kd.R_alloc | apply Kd.R_drewN | apply Kd.R_drew)); exact HO310.out) hb); have n1_ := Aside0.mk (Kd.R_below (by (with_reducible repeat (first | apply Kd.R_alloc | apply Kd.R_drewN | apply Kd.R_drew)); exact HO321.out) hb); have n2_ := Aside0.mk (blk_below (g := gb312) (o := .cells #[.int .u32 t302, .int .u32 t303, .int .u32 t304, .int .u32 t305, .int .u32 t306, .int .u32 t307] 32 (0, 0)) (by (with_reducible repeat (first | refine blk_drewN ?_ _ | refine blk_drew ?_ | refine blk_alloc ?_ _)); exact BK312.out) hb); have n3_ := Aside0.mk (below_step (by repeat (first | (with_reducible first | exact HB.out | apply below_alloc | apply pw_below_drewN | apply below_drew1 | refine below_set ?_ GE312.out) | exact HB.out)) hb); have n4_ := Aside0.mk (hbox); have n5_ := Aside0.mk ((by rw [hg]; exact (below_size (by repeat (first | (with_reducible first | exact HB.out | apply below_alloc | apply pw_below_drewN | apply below_drew1 | refine below_set ?_ GE312.out) | exact HB.out))) : w.heap.size ≤ gb323)); have n6_ := Aside0.mk ((by rw [hg]; exact (below_size (by repeat (first | (with_reducible first | exact HB.out | apply below_alloc | apply pw_below_drewN | apply below_drew1 | refine below_set ?_ GE312.out) | exact HB.out))) : w.heap.size ≤ gb323)); have n7_ := Aside0.mk ((by rw [hg]; exact Nat.ne_of_lt (blk_lt (g := gb312) (o := .cells #[.int .u32 t302, .int .u32 t303, .int .u32 t304, .int .u32 t305, .int .u32 t306, .int .u32 t307] 32 (0, 0)) (by (with_reducible repeat (first | refine blk_drewN ?_ _ | refine blk_drew ?_ | refine blk_alloc ?_ _)); exact BK312.out)) : gb312 ≠ gb323)); have n8_ := Aside0.mk ((by rw [hg]; exact Nat.ne_of_gt (blk_lt (g := gb312) (o := .cells #[.int .u32 t302, .int .u32 t303, .int .u32 t304, .int .u32 t305, .int .u32 t306, .int .u32 t307] 32 (0, 0)) (by (with_reducible repeat (first | refine blk_drewN ?_ _ | refine blk_drew ?_ | refine blk_alloc ?_ _)); exact BK312.out)) : gb323 ≠ gb312)); clear HO310; clear HO321; clear BK312; clear HB; have HO310 := n0_; have HO321 := n1_; have BK312 := n2_; have HB := n3_; have BK323 := n4_; have GW323 := n5_; have GE323 := n6_; have NB312_323 := n7_; have NB323_312 := n8_; clear n0_ n1_ n2_ n3_ n4_ n5_ n6_ n7_ n8_; clear hb hbox hg; have hnb19 := NB323_312.out; have hnc19 := NB312_323.out; have hcz20_0 : w18.cell? ⟨gb323, 0, none⟩ = some (.int .u32 0) := (blk_cell BK323.out 0).trans rfl; have hcz20_1 : w18.cell? ⟨gb323, 1, none⟩ = some (.int .u32 0) := (blk_cell BK323.out 1).trans rfl; have hcz20_2 : w18.cell? ⟨gb323, 2, none⟩ = some (.int .u32 0) := (blk_cell BK323.out 2).trans rfl; have hcz20_3 : w18.cell? ⟨gb323, 3, none⟩ = some (.int .u32 0) := (blk_cell BK323.out 3).trans rfl; have hcz20_4 : w18.cell? ⟨gb323, 4, none⟩ = some (.int .u32 0) := (blk_cell BK323.out 4).trans rfl; have hcz20_5 : w18.cell? ⟨gb323, 5, none⟩ = some (.int .u32 0) := (blk_cell BK323.out 5).trans rfl; have hfz20_0 := blk_frozen BK323.out 0; have hfz20_1 := blk_frozen BK323.out 1; have hfz20_2 := blk_frozen BK323.out 2; have hfz20_3 := blk_frozen BK323.out 3; have hfz20_4 := blk_frozen BK323.out 4; have hfz20_5 := blk_frozen BK323.out 5))
        (try simp only [Act.put, List.setIfInBounds_toArray, List.set_cons_zero, List.set_cons_succ])
        go_cut [53] (fun v53 wc => ∃ (kq : Nat) (x53_12 : Bool), v53 = .bool x53_12 ∧ Aside0 (nautiluslaw13_BmapApart.j1 kq a0 l1 l2 t301 t308 t319 x53_12 t302 t303 t304 t305 t306 t307 t313 t314 t315 t316 t317 t318 = some r) ∧ Aside0 (kq ≤ kj5) ∧ Aside0 (Kd.R Kd.string 9 wc w.heap.size (fun k_ => some k_ ≠ (v320 : Value).ownBlock) v309 t308) ∧ Aside0 (Kd.R Kd.string 9 wc w.heap.size (fun k_ => some k_ ≠ (v309 : Value).ownBlock) v320 t319) ∧ Aside0 (wc.heap[gb312]? = some (.cells #[.int .u32 t302, .int .u32 t303, .int .u32 t304, .int .u32 t305, .int .u32 t306, .int .u32 t307] 32 (0, 0))) ∧ Aside0 (wc.heap[gb323]? = some (.cells #[.int .u32 t313, .int .u32 t314, .int .u32 t315, .int .u32 t316, .int .u32 t317, .int .u32 t318] 32 (0, 0))) ∧ Aside0 (Below w.heap.size w wc))
        case first =>
          have H := HC13.out
          clear HC13
          by_cases c21 : t311 = 0
          · rw [if_pos c21] at H
            have c21b0 : (t311 == 0) = true := beq_iff_eq.mpr c21
            have c21b1 : (t311 != 0) = false := bne_eq_false_iff_eq.mpr c21
            clear c21
            (first | rw [c21b0] | (simp only [i64_w, i32_w]; rw [c21b0]) | skip)
            have H' := Aside0.mk H
            clear H
            go_wp2
            go_meet
            case rel => exact ⟨_, ((t322 != 0)), (by first | rfl | (simp; done) | (simp [*]; done)), H', ⟨by have := HJ5.out; first | omega | exact Nat.le_refl _⟩, ⟨by (with_reducible repeat (first | apply Kd.R_alloc | apply Kd.R_drewN | apply Kd.R_drew)); exact Kd.R_mono (Kd.R_far (p := ⟨gb323, 5, none⟩) (Kd.R_far (p := ⟨gb323, 4, none⟩) (Kd.R_far (p := ⟨gb323, 3, none⟩) (Kd.R_far (p := ⟨gb323, 2, none⟩) (Kd.R_far (p := ⟨gb323, 1, none⟩) (Kd.R_far (p := ⟨gb323, 0, none⟩) (Kd.R_types HO310.out BK323.out (by decide)) (fun _ hk => hk.2) (.int .u32 t313)) (fun _ hk => hk.2) (.int .u32 t314)) (fun _ hk => hk.2) (.int .u32 t315)) (fun _ hk => hk.2) (.int .u32 t316)) (fun _ hk => hk.2) (.int .u32 t317)) (fun _ hk => hk.2) (.int .u32 t318)) (fun _ hk => hk.1.2)⟩, ⟨by (with_reducible repeat (first | apply Kd.R_alloc | apply Kd.R_drewN | apply Kd.R_drew)); exact Kd.R_mono (Kd.R_far (p := ⟨gb323, 5, none⟩) (Kd.R_far (p := ⟨gb323, 4, none⟩) (Kd.R_far (p := ⟨gb323, 3, none⟩) (Kd.R_far (p := ⟨gb323, 2, none⟩) (Kd.R_far (p := ⟨gb323, 1, none⟩) (Kd.R_far (p := ⟨gb323, 0, none⟩) (Kd.R_types HO321.out BK323.out (by decide)) (fun _ hk => hk.2) (.int .u32 t313)) (fun _ hk => hk.2) (.int .u32 t314)) (fun _ hk => hk.2) (.int .u32 t315)) (fun _ hk => hk.2) (.int .u32 t316)) (fun _ hk => hk.2) (.int .u32 t317)) (fun _ hk => hk.2) (.int .u32 t318)) (fun _ hk => hk.1.2)⟩, ⟨by (with_reducible repeat (first | refine blk_drewN ?_ _ | refine blk_drew ?_ | refine blk_alloc ?_ _)); refine blk_far ?_ NB312_323.out _; (with_reducible repeat (first | refine blk_drewN ?_ _ | refine blk_drew ?_ | refine blk_alloc ?_ _)); refine blk_far ?_ NB312_323.out _; (with_reducible repeat (first | refine blk_drewN ?_ _ | refine blk_drew ?_ | refine blk_alloc ?_ _)); refine blk_far ?_ NB312_323.out _; (with_reducible repeat (first | refine blk_drewN ?_ _ | refine blk_drew ?_ | refine blk_alloc ?_ _)); refine blk_far ?_ NB312_323.out _; (with_reducible repeat (first | refine blk_drewN ?_ _ | refine blk_drew ?_ | refine blk_alloc ?_ _)); refine blk_far ?_ NB312_323.out _; (with_reducible repeat (first | refine blk_drewN ?_ _ | refine blk_drew ?_ | refine blk_alloc ?_ _)); refine blk_far ?_ NB312_323.out _; (with_reducible repeat (first | refine blk_drewN ?_ _ | refine blk_drew ?_ | refine blk_alloc ?_ _)); exact BK312.out⟩, ⟨by (with_reducible repeat (first | refine blk_drewN ?_ _ | refine blk_drew ?_ | refine blk_alloc ?_ _)); refine blk_put (cs := #[.int .u32 t313, .int .u32 t314, .int .u32 t315, .int .u32 t316, .int .u32 t317, .int .u32 0]) ?_ 5 _ rfl; (with_reducible repeat (first | refine blk_drewN ?_ _ | refine blk_drew ?_ | refine blk_alloc ?_ _)); refine blk_put (cs := #[.int .u32 t313, .int .u32 t314, .int .u32 t315, .int .u32 t316, .int .u32 0, .int .u32 0]) ?_ 4 _ rfl; (with_reducible repeat (first | refine blk_drewN ?_ _ | refine blk_drew ?_ | refine blk_alloc ?_ _)); refine blk_put (cs := #[.int .u32 t313, .int .u32 t314, .int .u32 t315, .int .u32 0, .int .u32 0, .int .u32 0]) ?_ 3 _ rfl; (with_reducible repeat (first | refine blk_drewN ?_ _ | refine blk_drew ?_ | refine blk_alloc ?_ _)); refine blk_put (cs := #[.int .u32 t313, .int .u32 t314, .int .u32 0, .int .u32 0, .int .u32 0, .int .u32 0]) ?_ 2 _ rfl; (with_reducible repeat (first | refine blk_drewN ?_ _ | refine blk_drew ?_ | refine blk_alloc ?_ _)); refine blk_put (cs := #[.int .u32 t313, .int .u32 0, .int .u32 0, .int .u32 0, .int .u32 0, .int .u32 0]) ?_ 1 _ rfl; (with_reducible repeat (first | refine blk_drewN ?_ _ | refine blk_drew ?_ | refine blk_alloc ?_ _)); refine blk_put (cs := #[.int .u32 0, .int .u32 0, .int .u32 0, .int .u32 0, .int .u32 0, .int .u32 0]) ?_ 0 _ rfl; (with_reducible repeat (first | refine blk_drewN ?_ _ | refine blk_drew ?_ | refine blk_alloc ?_ _)); exact BK323.out⟩, ⟨by repeat (first | (with_reducible first | exact HB.out | apply below_alloc | apply pw_below_drewN | apply below_drew1 | refine below_set ?_ GE312.out | refine below_set ?_ GE323.out) | exact HB.out)⟩⟩
          · rw [if_neg c21] at H
            have c21b0 : (t311 == 0) = false := beq_eq_false_iff_ne.mpr c21
            have c21b1 : (t311 != 0) = true := bne_iff_ne.mpr c21
            (first | rw [c21b0] | (simp only [i64_w, i32_w]; rw [c21b0]) | skip)
            have H' := Aside0.mk H
            clear H
            go_wp2
            go_meet
            case rel => exact ⟨_, (true), (by first | rfl | (simp; done) | (simp [*]; done)), H', ⟨by have := HJ5.out; first | omega | exact Nat.le_refl _⟩, ⟨by (with_reducible repeat (first | apply Kd.R_alloc | apply Kd.R_drewN | apply Kd.R_drew)); exact Kd.R_mono (Kd.R_far (p := ⟨gb323, 5, none⟩) (Kd.R_far (p := ⟨gb323, 4, none⟩) (Kd.R_far (p := ⟨gb323, 3, none⟩) (Kd.R_far (p := ⟨gb323, 2, none⟩) (Kd.R_far (p := ⟨gb323, 1, none⟩) (Kd.R_far (p := ⟨gb323, 0, none⟩) (Kd.R_types HO310.out BK323.out (by decide)) (fun _ hk => hk.2) (.int .u32 t313)) (fun _ hk => hk.2) (.int .u32 t314)) (fun _ hk => hk.2) (.int .u32 t315)) (fun _ hk => hk.2) (.int .u32 t316)) (fun _ hk => hk.2) (.int .u32 t317)) (fun _ hk => hk.2) (.int .u32 t318)) (fun _ hk => hk.1.2)⟩, ⟨by (with_reducible repeat (first | apply Kd.R_alloc | apply Kd.R_drewN | apply Kd.R_drew)); exact Kd.R_mono (Kd.R_far (p := ⟨gb323, 5, none⟩) (Kd.R_far (p := ⟨gb323, 4, none⟩) (Kd.R_far (p := ⟨gb323, 3, none⟩) (Kd.R_far (p := ⟨gb323, 2, none⟩) (Kd.R_far (p := ⟨gb323, 1, none⟩) (Kd.R_far (p := ⟨gb323, 0, none⟩) (Kd.R_types HO321.out BK323.out (by decide)) (fun _ hk => hk.2) (.int .u32 t313)) (fun _ hk => hk.2) (.int .u32 t314)) (fun _ hk => hk.2) (.int .u32 t315)) (fun _ hk => hk.2) (.int .u32 t316)) (fun _ hk => hk.2) (.int .u32 t317)) (fun _ hk => hk.2) (.int .u32 t318)) (fun _ hk => hk.1.2)⟩, ⟨by (with_reducible repeat (first | refine blk_drewN ?_ _ | refine blk_drew ?_ | refine blk_alloc ?_ _)); refine blk_far ?_ NB312_323.out _; (with_reducible repeat (first | refine blk_drewN ?_ _ | refine blk_drew ?_ | refine blk_alloc ?_ _)); refine blk_far ?_ NB312_323.out _; (with_reducible repeat (first | refine blk_drewN ?_ _ | refine blk_drew ?_ | refine blk_alloc ?_ _)); refine blk_far ?_ NB312_323.out _; (with_reducible repeat (first | refine blk_drewN ?_ _ | refine blk_drew ?_ | refine blk_alloc ?_ _)); refine blk_far ?_ NB312_323.out _; (with_reducible repeat (first | refine blk_drewN ?_ _ | refine blk_drew ?_ | refine blk_alloc ?_ _)); refine blk_far ?_ NB312_323.out _; (with_reducible repeat (first | refine blk_drewN ?_ _ | refine blk_drew ?_ | refine blk_alloc ?_ _)); refine blk_far ?_ NB312_323.out _; (with_reducible repeat (first | refine blk_drewN ?_ _ | refine blk_drew ?_ | refine blk_alloc ?_ _)); exact BK312.out⟩, ⟨by (with_reducible repeat (first | refine blk_drewN ?_ _ | refine blk_drew ?_ | refine blk_alloc ?_ _)); refine blk_put (cs := #[.int .u32 t313, .int .u32 t314, .int .u32 t315, .int .u32 t316, .int .u32 t317, .int .u32 0]) ?_ 5 _ rfl; (with_reducible repeat (first | refine blk_drewN ?_ _ | refine blk_drew ?_ | refine blk_alloc ?_ _)); refine blk_put (cs := #[.int .u32 t313, .int .u32 t314, .int .u32 t315, .int .u32 t316, .int .u32 0, .int .u32 0]) ?_ 4 _ rfl; (with_reducible repeat (first | refine blk_drewN ?_ _ | refine blk_drew ?_ | refine blk_alloc ?_ _)); refine blk_put (cs := #[.int .u32 t313, .int .u32 t314, .int .u32 t315, .int .u32 0, .int .u32 0, .int .u32 0]) ?_ 3 _ rfl; (with_reducible repeat (first | refine blk_drewN ?_ _ | refine blk_drew ?_ | refine blk_alloc ?_ _)); refine blk_put (cs := #[.int .u32 t313, .int .u32 t314, .int .u32 0, .int .u32 0, .int .u32 0, .int .u32 0]) ?_ 2 _ rfl; (with_reducible repeat (first | refine blk_drewN ?_ _ | refine blk_drew ?_ | refine blk_alloc ?_ _)); refine blk_put (cs := #[.int .u32 t313, .int .u32 0, .int .u32 0, .int .u32 0, .int .u32 0, .int .u32 0]) ?_ 1 _ rfl; (with_reducible repeat (first | refine blk_drewN ?_ _ | refine blk_drew ?_ | refine blk_alloc ?_ _)); refine blk_put (cs := #[.int .u32 0, .int .u32 0, .int .u32 0, .int .u32 0, .int .u32 0, .int .u32 0]) ?_ 0 _ rfl; (with_reducible repeat (first | refine blk_drewN ?_ _ | refine blk_drew ?_ | refine blk_alloc ?_ _)); exact BK323.out⟩, ⟨by repeat (first | (with_reducible first | exact HB.out | apply below_alloc | apply pw_below_drewN | apply below_drew1 | refine below_set ?_ GE312.out | refine below_set ?_ GE323.out) | exact HB.out)⟩⟩
        case rest =>
          clear HC13
          try clear c1
          try clear c2
          try clear p2
          try clear c3
          try clear c7
          try clear c8
          try clear c8b0
          try clear c8b1
          try clear c9
          try clear c9b0
          try clear c9b1
          try clear c10
          try clear c15
          try clear c19
          try clear c21
          try clear c21b0
          try clear c21b1
          try clear hcz16_0
          try clear hcz16_1
          try clear hcz16_2
          try clear hcz16_3
          try clear hcz16_4
          try clear hcz16_5
          try clear hcz20_0
          try clear hcz20_1
          try clear hcz20_2
          try clear hcz20_3
          try clear hcz20_4
          try clear hcz20_5
          try clear hfz16_0
          try clear hfz16_1
          try clear hfz16_2
          try clear hfz16_3
          try clear hfz16_4
          try clear hfz16_5
          try clear hfz20_0
          try clear hfz20_1
          try clear hfz20_2
          try clear hfz20_3
          try clear hfz20_4
          try clear hfz20_5
          try clear p2
          obtain ⟨kq, x53_12, rfl, HA, HJ12, HO_11, HO_14, BK312, BK323, HB⟩ := hcut
          cases kq with
          | zero => exact absurd HA.out (by simp [nautiluslaw13_BmapApart.j1])
          | succ kj12 =>
            have H := HA.out
            clear HA
            simp only [nautiluslaw13_BmapApart.j1] at H
            by_cases c22 : x53_12 = true
            · subst c22
              have H1 : (some t301) = some r := by rw [if_pos rfl] at H; exact H
              clear H
              have H := H1
              clear H1
              obtain rfl := Option.some.inj H
              go_wp2
              go_ret
              exact ⟨by first | rfl | (simp [errW_none, errW_some] <;> rfl) | (simp [*, errW_none, errW_some] <;> rfl) | (simp [show IntKind.u64.wrap 0 = 0 from rfl, Int.zero_tdiv]; done), by repeat (first | (with_reducible first | exact HB.out | apply below_alloc | apply pw_below_drewN | apply below_drew1 | refine below_set ?_ GE312.out | refine below_set ?_ GE323.out) | exact HB.out)⟩
            · replace c22 := Bool.eq_false_iff.mpr c22
              subst c22
              have H1 : (if (t302 == t313 && (t303 == t314 && (t304 == t315 && (t305 == t316 && (t306 == t317 && (t307 == t318)))))) = true then ((nautilusref13_SameTexts.f kj12 t308 t319).bind fun t324 => (if t301 = true then ((nautilusref13_Same.f kj12 l1 l2).bind fun t325 => (if (t324 == t325) = true then ((bmap_Count.f a0).bind fun t326 => (some ((t308.length : Int) == t326))) else (none))) else (none))) else (if t301 = true then ((nautilusref13_Same.f kj12 l1 l2).bind fun t327 => (if (false == t327) = true then ((bmap_Count.f a0).bind fun t328 => (some ((t308.length : Int) == t328))) else (none))) else (none))) = some r := by rw [if_neg (show ¬ (false = true) by decide)] at H; exact H
              clear H
              have H := H1
              clear H1
              by_cases c23 : (t302 == t313 && (t303 == t314 && (t304 == t315 && (t305 == t316 && (t306 == t317 && (t307 == t318)))))) = true
              · rw [if_pos c23] at H
                have c23b0 : (t302 == t313 && (t303 == t314 && (t304 == t315 && (t305 == t316 && (t306 == t317 && (t307 == t318)))))) = true := c23
                (try (have c23b1 : decide (t302 = t313 && (t303 == t314 && (t304 == t315 && (t305 == t316 && (t306 == t317 && (t307 == t318)))))) = true := by simpa using c23))
                (try (have c23b2 : (t302 == t313 && (t303 == t314 && (t304 == t315 && (t305 == t316 && (t306 == t317 && (t307 == t318)))))) = true := by simpa using c23))
                clear c23
                replace H := Option.bind_eq_some_iff.mp H
                obtain ⟨t324, A240, H⟩ := H
                replace H : (if t301 = true then ((nautilusref13_Same.f kj12 l1 l2).bind fun t325 => (if (t324 == t325) = true then ((bmap_Count.f a0).bind fun t326 => (some ((t308.length : Int) == t326))) else (none))) else (none)) = some r := H
                have A24 := Aside0.mk A240
                clear A240
                by_cases c25 : t301 = true
                · subst c25
                  have H1 : ((nautilusref13_Same.f kj12 l1 l2).bind fun t325 => (if (t324 == t325) = true then ((bmap_Count.f a0).bind fun t326 => (some ((t308.length : Int) == t326))) else (none))) = some r := by rw [if_pos rfl] at H; exact H
                  clear H
                  have H := H1
                  clear H1
                  replace H := Option.bind_eq_some_iff.mp H
                  obtain ⟨t325, A260, H⟩ := H
                  replace H : (if (t324 == t325) = true then ((bmap_Count.f a0).bind fun t326 => (some ((t308.length : Int) == t326))) else (none)) = some r := H
                  have A26 := Aside0.mk A260
                  clear A260
                  by_cases c27 : (t324 == t325) = true
                  · rw [if_pos c27] at H
                    have c27b0 : (t324 == t325) = true := c27
                    (try (have c27b1 : decide (t324 = t325) = true := by simpa using c27))
                    (try (have c27b2 : (t324 == t325) = true := by simpa using c27))
                    clear c27
                    replace H := Option.bind_eq_some_iff.mp H
                    obtain ⟨t326, A280, H⟩ := H
                    replace H : (some ((t308.length : Int) == t326)) = some r := H
                    have A28 := Aside0.mk A280
                    clear A280
                    obtain rfl := Option.some.inj H
                    have hnb29 := NB312_323.out
                    have hnc29 := NB323_312.out
                    have hcz30_0 : wc.cell? ⟨gb312, 0, none⟩ = some (.int .u32 t302) := (blk_cell BK312.out 0).trans rfl
                    have hcz30_1 : wc.cell? ⟨gb312, 1, none⟩ = some (.int .u32 t303) := (blk_cell BK312.out 1).trans rfl
                    have hcz30_2 : wc.cell? ⟨gb312, 2, none⟩ = some (.int .u32 t304) := (blk_cell BK312.out 2).trans rfl
                    have hcz30_3 : wc.cell? ⟨gb312, 3, none⟩ = some (.int .u32 t305) := (blk_cell BK312.out 3).trans rfl
                    have hcz30_4 : wc.cell? ⟨gb312, 4, none⟩ = some (.int .u32 t306) := (blk_cell BK312.out 4).trans rfl
                    have hcz30_5 : wc.cell? ⟨gb312, 5, none⟩ = some (.int .u32 t307) := (blk_cell BK312.out 5).trans rfl
                    have hfz30_0 := blk_frozen BK312.out 0
                    have hfz30_1 := blk_frozen BK312.out 1
                    have hfz30_2 := blk_frozen BK312.out 2
                    have hfz30_3 := blk_frozen BK312.out 3
                    have hfz30_4 := blk_frozen BK312.out 4
                    have hfz30_5 := blk_frozen BK312.out 5
                    have hcz31_0 : wc.cell? ⟨gb323, 0, none⟩ = some (.int .u32 t313) := (blk_cell BK323.out 0).trans rfl
                    have hcz31_1 : wc.cell? ⟨gb323, 1, none⟩ = some (.int .u32 t314) := (blk_cell BK323.out 1).trans rfl
                    have hcz31_2 : wc.cell? ⟨gb323, 2, none⟩ = some (.int .u32 t315) := (blk_cell BK323.out 2).trans rfl
                    have hcz31_3 : wc.cell? ⟨gb323, 3, none⟩ = some (.int .u32 t316) := (blk_cell BK323.out 3).trans rfl
                    have hcz31_4 : wc.cell? ⟨gb323, 4, none⟩ = some (.int .u32 t317) := (blk_cell BK323.out 4).trans rfl
                    have hcz31_5 : wc.cell? ⟨gb323, 5, none⟩ = some (.int .u32 t318) := (blk_cell BK323.out 5).trans rfl
                    have hfz31_0 := blk_frozen BK323.out 0
                    have hfz31_1 := blk_frozen BK323.out 1
                    have hfz31_2 := blk_frozen BK323.out 2
                    have hfz31_3 := blk_frozen BK323.out 3
                    have hfz31_4 := blk_frozen BK323.out 4
                    have hfz31_5 := blk_frozen BK323.out 5
                    obtain ⟨Ao32, co32, eo32⟩ := Kd.R_slice HO_11.out
                    subst eo32
                    obtain ⟨Ao33, co33, eo33⟩ := Kd.R_slice HO_14.out
                    subst eo33
                    go_wp2_with (first | (go_at_call 17; (with_reducible refine (nautilusref13_SameTexts.calls kj12 _ _ t308 _ _ t319 t324 _ ?side1 ?side2 ?side3 ?side4 A24.out).mono ?_); (case side1 => repeat (first | exact (Kd.R_reads' HO_11.out).2.2 | (with_reducible refine Kd.C_alloc ?_ _) | (with_reducible refine Kd.C_drewN ?_ _) | (with_reducible refine Kd.C_drew ?_))); (case side2 => exact (Kd.R_reads' HO_11.out).2.1); (case side3 => repeat (first | exact (Kd.R_reads' HO_14.out).2.2 | (with_reducible refine Kd.C_alloc ?_ _) | (with_reducible refine Kd.C_drewN ?_ _) | (with_reducible refine Kd.C_drew ?_))); (case side4 => exact (Kd.R_reads' HO_14.out).2.1); rintro e w' ⟨rfl, ⟨nd, rfl⟩⟩) | (go_at_call 19; (with_reducible refine (nautilusref13_Same.calls kj12 _ _ l1 _ _ l2 t325 _ ?side1 ?side2 ?side3 ?side4 A26.out).mono ?_); (case side1 => repeat (first | exact (Kd.C_below HR1.out (by repeat (first | (with_reducible first | exact HB.out | apply below_alloc | apply pw_below_drewN | apply below_drew1 | refine below_set ?_ GE312.out | refine below_set ?_ GE323.out) | exact HB.out))) | (with_reducible refine Kd.C_alloc ?_ _) | (with_reducible refine Kd.C_drewN ?_ _) | (with_reducible refine Kd.C_drew ?_))); (case side2 => exact HC1.out); (case side3 => repeat (first | exact (Kd.C_below HR2.out (by repeat (first | (with_reducible first | exact HB.out | apply below_alloc | apply pw_below_drewN | apply below_drew1 | refine below_set ?_ GE312.out | refine below_set ?_ GE323.out) | exact HB.out))) | (with_reducible refine Kd.C_alloc ?_ _) | (with_reducible refine Kd.C_drewN ?_ _) | (with_reducible refine Kd.C_drew ?_))); (case side4 => exact HC2.out); rintro e w' ⟨rfl, ⟨nd, rfl⟩⟩) | (go_at_call 12; (with_reducible refine (bmap_Count.calls a0 t326 _ A28.out).mono ?_); rintro e w' ⟨rfl, ⟨nd, rfl⟩⟩))
                    go_ret
                    exact ⟨by first | rfl | (simp [errW_none, errW_some] <;> rfl) | (simp [*, errW_none, errW_some] <;> rfl) | (simp [show IntKind.u64.wrap 0 = 0 from rfl, Int.zero_tdiv]; done), by repeat (first | (with_reducible first | exact HB.out | apply below_alloc | apply pw_below_drewN | apply below_drew1 | refine below_set ?_ GE312.out | refine below_set ?_ GE323.out) | exact HB.out)⟩
                  · rw [if_neg c27] at H
                    exact absurd H (by simp)
                · replace c25 := Bool.eq_false_iff.mpr c25
                  subst c25
                  have H1 : (none) = some r := by rw [if_neg (show ¬ (false = true) by decide)] at H; exact H
                  clear H
                  have H := H1
                  clear H1
                  exact absurd H (by simp)
              · rw [if_neg c23] at H
                have c23b0 : (t302 == t313 && (t303 == t314 && (t304 == t315 && (t305 == t316 && (t306 == t317 && (t307 == t318)))))) = false := by simpa using c23
                (try (have c23b1 : decide (t302 = t313 && (t303 == t314 && (t304 == t315 && (t305 == t316 && (t306 == t317 && (t307 == t318)))))) = false := by simpa using c23))
                (try (have c23b2 : (t302 == t313 && (t303 == t314 && (t304 == t315 && (t305 == t316 && (t306 == t317 && (t307 == t318)))))) = false := by simpa using c23))
                (try (have c23b3 : ¬ (t302 = t313 && (t303 == t314 && (t304 == t315 && (t305 == t316 && (t306 == t317 && (t307 == t318)))))) := by simpa using c23))
                clear c23
                by_cases c34 : t301 = true
                · subst c34
                  have H1 : ((nautilusref13_Same.f kj12 l1 l2).bind fun t327 => (if (false == t327) = true then ((bmap_Count.f a0).bind fun t328 => (some ((t308.length : Int) == t328))) else (none))) = some r := by rw [if_pos rfl] at H; exact H
                  clear H
                  have H := H1
                  clear H1
                  replace H := Option.bind_eq_some_iff.mp H
                  obtain ⟨t327, A350, H⟩ := H
                  replace H : (if (false == t327) = true then ((bmap_Count.f a0).bind fun t328 => (some ((t308.length : Int) == t328))) else (none)) = some r := H
                  have A35 := Aside0.mk A350
                  clear A350
                  by_cases c36 : (false == t327) = true
                  · rw [if_pos c36] at H
                    have c36b0 : (false == t327) = true := c36
                    (try (have c36b1 : decide (false = t327) = true := by simpa using c36))
                    (try (have c36b2 : (false == t327) = true := by simpa using c36))
                    clear c36
                    replace H := Option.bind_eq_some_iff.mp H
                    obtain ⟨t328, A370, H⟩ := H
                    replace H : (some ((t308.length : Int) == t328)) = some r := H
                    have A37 := Aside0.mk A370
                    clear A370
                    obtain rfl := Option.some.inj H
                    have hnb38 := NB312_323.out
                    have hnc38 := NB323_312.out
                    have hcz39_0 : wc.cell? ⟨gb312, 0, none⟩ = some (.int .u32 t302) := (blk_cell BK312.out 0).trans rfl
                    have hcz39_1 : wc.cell? ⟨gb312, 1, none⟩ = some (.int .u32 t303) := (blk_cell BK312.out 1).trans rfl
                    have hcz39_2 : wc.cell? ⟨gb312, 2, none⟩ = some (.int .u32 t304) := (blk_cell BK312.out 2).trans rfl
                    have hcz39_3 : wc.cell? ⟨gb312, 3, none⟩ = some (.int .u32 t305) := (blk_cell BK312.out 3).trans rfl
                    have hcz39_4 : wc.cell? ⟨gb312, 4, none⟩ = some (.int .u32 t306) := (blk_cell BK312.out 4).trans rfl
                    have hcz39_5 : wc.cell? ⟨gb312, 5, none⟩ = some (.int .u32 t307) := (blk_cell BK312.out 5).trans rfl
                    have hfz39_0 := blk_frozen BK312.out 0
                    have hfz39_1 := blk_frozen BK312.out 1
                    have hfz39_2 := blk_frozen BK312.out 2
                    have hfz39_3 := blk_frozen BK312.out 3
                    have hfz39_4 := blk_frozen BK312.out 4
                    have hfz39_5 := blk_frozen BK312.out 5
                    have hcz40_0 : wc.cell? ⟨gb323, 0, none⟩ = some (.int .u32 t313) := (blk_cell BK323.out 0).trans rfl
                    have hcz40_1 : wc.cell? ⟨gb323, 1, none⟩ = some (.int .u32 t314) := (blk_cell BK323.out 1).trans rfl
                    have hcz40_2 : wc.cell? ⟨gb323, 2, none⟩ = some (.int .u32 t315) := (blk_cell BK323.out 2).trans rfl
                    have hcz40_3 : wc.cell? ⟨gb323, 3, none⟩ = some (.int .u32 t316) := (blk_cell BK323.out 3).trans rfl
                    have hcz40_4 : wc.cell? ⟨gb323, 4, none⟩ = some (.int .u32 t317) := (blk_cell BK323.out 4).trans rfl
                    have hcz40_5 : wc.cell? ⟨gb323, 5, none⟩ = some (.int .u32 t318) := (blk_cell BK323.out 5).trans rfl
                    have hfz40_0 := blk_frozen BK323.out 0
                    have hfz40_1 := blk_frozen BK323.out 1
                    have hfz40_2 := blk_frozen BK323.out 2
                    have hfz40_3 := blk_frozen BK323.out 3
                    have hfz40_4 := blk_frozen BK323.out 4
                    have hfz40_5 := blk_frozen BK323.out 5
                    go_wp2_with (first | (go_at_call 19; (with_reducible refine (nautilusref13_Same.calls kj12 _ _ l1 _ _ l2 t327 _ ?side1 ?side2 ?side3 ?side4 A35.out).mono ?_); (case side1 => repeat (first | exact (Kd.C_below HR1.out HB.out) | (with_reducible refine Kd.C_alloc ?_ _) | (with_reducible refine Kd.C_drewN ?_ _) | (with_reducible refine Kd.C_drew ?_))); (case side2 => exact HC1.out); (case side3 => repeat (first | exact (Kd.C_below HR2.out HB.out) | (with_reducible refine Kd.C_alloc ?_ _) | (with_reducible refine Kd.C_drewN ?_ _) | (with_reducible refine Kd.C_drew ?_))); (case side4 => exact HC2.out); rintro e w' ⟨rfl, ⟨nd, rfl⟩⟩; obtain ⟨Ao41, co41, eo41⟩ := Kd.R_slice HO_11.out; subst eo41) | (go_at_call 12; (with_reducible refine (bmap_Count.calls a0 t328 _ A37.out).mono ?_); rintro e w' ⟨rfl, ⟨nd, rfl⟩⟩))
                    go_ret
                    exact ⟨by first | rfl | (simp [errW_none, errW_some] <;> rfl) | (simp [*, errW_none, errW_some] <;> rfl) | (simp [show IntKind.u64.wrap 0 = 0 from rfl, Int.zero_tdiv]; done), by repeat (first | (with_reducible first | exact HB.out | apply below_alloc | apply pw_below_drewN | apply below_drew1 | refine below_set ?_ GE312.out | refine below_set ?_ GE323.out) | exact HB.out)⟩
                  · rw [if_neg c36] at H
                    exact absurd H (by simp)
                · replace c34 := Bool.eq_false_iff.mpr c34
                  subst c34
                  have H1 : (none) = some r := by rw [if_neg (show ¬ (false = true) by decide)] at H; exact H
                  clear H
                  have H := H1
                  clear H1
                  exact absurd H (by simp)

/-- THE ONE PURE STATEMENT of nautiluslaw13_BmapApart: yours. -/
def nautiluslaw13_BmapApart.Pure : Prop := ∀ (a0 : Int) (l1 : List Int) (l2 : List Int) (l3 : List Int), (Lit.int .u32 a0).wf = true → l1.length ≤ maxLen → l1.length * 4 ≤ 140737488351232 → (∀ x ∈ l1, (Lit.int .u32 x).wf = true) → l2.length ≤ maxLen → l2.length * 4 ≤ 140737488351232 → (∀ x ∈ l2, (Lit.int .u32 x).wf = true) → l3.length ≤ maxLen → l3.length * 4 ≤ 140737488351232 → (∀ x ∈ l3, (Lit.int .u32 x).wf = true) → ∃ k, nautiluslaw13_BmapApart.f k a0 l1 l2 l3 = some true
theorem nautiluslaw13_BmapApart.walk (P : nautiluslaw13_BmapApart.Pure) (a0 : Int) (a1 : Option Addr) (len1 cap1 : Nat) (z1 : List Int) (a2 : Option Addr) (len2 cap2 : Nat) (z2 : List Int) (a3 : Option Addr) (len3 cap3 : Nat) (z3 : List Int) (w : World) (w0 : (Lit.int .u32 a0).wf = true) (w1 : (a1 = none ∧ len1 = 0 ∧ cap1 = 0 ∧ z1 = []) ∨ ∃ x, a1 = some x ∧ len1 ≤ cap1 ∧ cap1 ≤ maxLen ∧ z1.length = cap1 ∧ (∀ i, i < z1.length → w.cell? (x.add i) = some (.int .u32 (z1.getD i 0))) ∧ ∀ n ∈ z1, (Lit.int .u32 n).wf = true) (y1 : len1 * 4 ≤ 140737488351232) (w2 : (a2 = none ∧ len2 = 0 ∧ cap2 = 0 ∧ z2 = []) ∨ ∃ x, a2 = some x ∧ len2 ≤ cap2 ∧ cap2 ≤ maxLen ∧ z2.length = cap2 ∧ (∀ i, i < z2.length → w.cell? (x.add i) = some (.int .u32 (z2.getD i 0))) ∧ ∀ n ∈ z2, (Lit.int .u32 n).wf = true) (y2 : len2 * 4 ≤ 140737488351232) (w3 : (a3 = none ∧ len3 = 0 ∧ cap3 = 0 ∧ z3 = []) ∨ ∃ x, a3 = some x ∧ len3 ≤ cap3 ∧ cap3 ≤ maxLen ∧ z3.length = cap3 ∧ (∀ i, i < z3.length → w.cell? (x.add i) = some (.int .u32 (z3.getD i 0))) ∧ ∀ n ∈ z3, (Lit.int .u32 n).wf = true) (y3 : len3 * 4 ≤ 140737488351232) :
    Calls Try.prog 7 #[.int .u32 a0, .slice a1 len1 cap1, .slice a2 len2 cap2, .slice a3 len3 cap3] w fun e w' => e = .returned (.bool true) ∧ Below w.heap.size w w' := by
  obtain ⟨l1, rfl, hr1, hm1, hw1, hc1⟩ := ReadsInt.ofRowC w1
  obtain ⟨l2, rfl, hr2, hm2, hw2, hc2⟩ := ReadsInt.ofRowC w2
  obtain ⟨l3, rfl, hr3, hm3, hw3, hc3⟩ := ReadsInt.ofRowC w3
  obtain ⟨k, h⟩ := P a0 l1 l2 l3 w0 hm1 y1 hw1 hm2 y2 hw2 hm3 y3 hw3
  refine (nautiluslaw13_BmapApart.calls k a0 _ _ l1 _ _ l2 _ _ l3 true w (Kd.C_of_reads (d := (0 : Int)) (h1 := fun _ => rfl) hr1) hc1 (Kd.C_of_reads (d := (0 : Int)) (h1 := fun _ => rfl) hr2) hc2 (Kd.C_of_reads (d := (0 : Int)) (h1 := fun _ => rfl) hr3) hc3 h).mono ?_
  rintro e w' ⟨rfl, hd⟩
  exact ⟨rfl, hd⟩

end Go.Proofs.Ytpgdcpbbfphbiaa.Q
