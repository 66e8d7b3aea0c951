/- Functions of the translation as plain Lean functions, and that the translation computes them: printed by this session's driver of the print. -/
import Derived.Test.YtpgdcpbbfphbiaaQ0
import Derived.Test.YtpgdcpbbfphbiaaQ1
import Derived.Test.YtpgdcpbbfphbiaaQ17
import Derived.Test.YtpgdcpbbfphbiaaQ18
import Derived.Test.YtpgdcpbbfphbiaaQ19
import Derived.Test.YtpgdcpbbfphbiaaHBLay
import Derived.Test.YtpgdcpbbfphbiaaHBJoinC
import Derived.Test.YtpgdcpbbfphbiaaHBLayC
namespace Go.Proofs.Ytpgdcpbbfphbiaa.Q
open Go.Proofs.Ytpgdcpbbfphbiaa.H
open Go.RowKit Go.Proofs.YtpgdcpbbfphbiaaW.PrintWords Go.Proofs.YtpgdcpbbfphbiaaW.PrintLast Go.Proofs.YtpgdcpbbfphbiaaW.PrintMore
attribute [local go_sem] max2_int min2_int max_two min_two max_three min_three max_four min_four   -- for this text's walks alone
set_option linter.unusedVariables false
set_option linter.unusedSimpArgs false

attribute [local go_sem high] eqA32
/-! ### nautiluslaw13_BmapBack: function 5 -/
mutual
def nautiluslaw13_BmapBack.j0 : Nat → Int → List Int → List Int → List ByteArray → Bool → Bool → Int → Int → Int → Int → Int → Int → Option (Bool)
  | 0, _, _, _, _, _, _, _, _, _, _, _, _ => none
  | k + 1, x0, x1, x2, x4, x11, x33, x228000, x228001, x228002, x228003, x228004, x228005 => if x33 = true then (some x11) else (if 0 ≤ (mn (x4.length : Int) 10) then (if (mn (x4.length : Int) 10) ≤ (x4.length : Int) then ((bmap_Lay.f x0 x1 x2).bind fun bt230 => ((bmap_Join.f x0 bt230.1 bt230.2.1 bt230.2.2.1 bt230.2.2.2.1 bt230.2.2.2.2.1 bt230.2.2.2.2.2.1 bt230.2.2.2.2.2.2.1).bind fun bt241 => (if bt230.2.2.2.2.2.2.2 = 0 then (if bt241.2 = 0 then ((nautilusref13_Same.f k bt241.1 x1).bind fun t245 => (nautiluslaw13_BmapBack.j1 k x0 (x4.take ((mn (x4.length : Int) 10) : Int).toNat) x11 (!t245) x228000 x228001 x228002 x228003 x228004 x228005)) else (nautiluslaw13_BmapBack.j1 k x0 (x4.take ((mn (x4.length : Int) 10) : Int).toNat) x11 true x228000 x228001 x228002 x228003 x228004 x228005)) else (nautiluslaw13_BmapBack.j1 k x0 (x4.take ((mn (x4.length : Int) 10) : Int).toNat) x11 false x228000 x228001 x228002 x228003 x228004 x228005)))) else (none)) else (none))
def nautiluslaw13_BmapBack.j1 : Nat → Int → List ByteArray → Bool → Bool → Int → Int → Int → Int → Int → Int → Option (Bool)
  | 0, _, _, _, _, _, _, _, _, _, _ => none
  | k + 1, x0, x4, x11, x66, x228000, x228001, x228002, x228003, x228004, x228005 => if x66 = true then (none) else ((bmap_Join.f x0 x228000 x228001 x228002 x228003 x228004 x228005 x4).bind fun bt246 => (if bt246.2 = 0 then (if (x4.length : Int) = 0 then (nautiluslaw13_BmapBack.j2 k x0 x4 x11 bt246.1 ([] : List Int) x228000 x228001 x228002 x228003 x228004 x228005) else (nautiluslaw13_BmapBack.j2 k x0 x4 x11 bt246.1 (([x228000] : List Int)) x228000 x228001 x228002 x228003 x228004 x228005)) else (some x11)))
def nautiluslaw13_BmapBack.j2 : Nat → Int → List ByteArray → Bool → List Int → List Int → Int → Int → Int → Int → Int → Int → Option (Bool)
  | 0, _, _, _, _, _, _, _, _, _, _, _ => none
  | k + 1, x0, x4, x11, x17, x19, x228000, x228001, x228002, x228003, x228004, x228005 => if (x4.length : Int) > 1 then (if 0 < (x4.length : Int) then ((bmap_Below.f x0 (rdOf ByteArray.empty x4 0)).bind fun bt254 => (if x19.length + bt254.1.length < 35184372088832 then ((bmap_Lay.f x0 x17 (x19 ++ bt254.1)).bind fun bt261 => (if x11 = true then (if bt261.2.2.2.2.2.2.2 = 0 then (if (bt261.1 == x228000 && (bt261.2.1 == x228001 && (bt261.2.2.1 == x228002 && (bt261.2.2.2.1 == x228003 && (bt261.2.2.2.2.1 == x228004 && (bt261.2.2.2.2.2.1 == x228005)))))) = true then ((nautilusref13_SameTexts.f k bt261.2.2.2.2.2.2.1 x4).bind fun t272 => (some t272)) else (none)) else (none)) else (none))) else (none))) else (none)) else ((bmap_Lay.f x0 x17 x19).bind fun bt273 => (if x11 = true then (if bt273.2.2.2.2.2.2.2 = 0 then (if (bt273.1 == x228000 && (bt273.2.1 == x228001 && (bt273.2.2.1 == x228002 && (bt273.2.2.2.1 == x228003 && (bt273.2.2.2.2.1 == x228004 && (bt273.2.2.2.2.2.1 == x228005)))))) = true then ((nautilusref13_SameTexts.f k bt273.2.2.2.2.2.2.1 x4).bind fun t284 => (some t284)) else (none)) else (none)) else (none)))
end
def nautiluslaw13_BmapBack.f (k : Nat) (a0 : Int) (l1 : List Int) (l2 : List Int) (a3_0 : Int) (a3_1 : Int) (a3_2 : Int) (a3_3 : Int) (a3_4 : Int) (a3_5 : Int) (l4 : List ByteArray) : Option (Bool) := (nautiluslaw13_shown.f k).bind fun t228 => (if (l1.length : Int) > 1000 then (nautiluslaw13_BmapBack.j0 k a0 l1 l2 l4 t228 true a3_0 a3_1 a3_2 a3_3 a3_4 a3_5) else (nautiluslaw13_BmapBack.j0 k a0 l1 l2 l4 t228 (decide ((l2.length : Int) > 1000)) a3_0 a3_1 a3_2 a3_3 a3_4 a3_5))
theorem nautiluslaw13_BmapBack.mono_l : ∀ k, (∀ y0 y1 y2 y3 y4 y5 y6 y7 y8 y9 y10 y11, LeO (nautiluslaw13_BmapBack.j0 k y0 y1 y2 y3 y4 y5 y6 y7 y8 y9 y10 y11) (nautiluslaw13_BmapBack.j0 (k + 1) y0 y1 y2 y3 y4 y5 y6 y7 y8 y9 y10 y11)) ∧ (∀ y0 y1 y2 y3 y4 y5 y6 y7 y8 y9, LeO (nautiluslaw13_BmapBack.j1 k y0 y1 y2 y3 y4 y5 y6 y7 y8 y9) (nautiluslaw13_BmapBack.j1 (k + 1) y0 y1 y2 y3 y4 y5 y6 y7 y8 y9)) ∧ (∀ y0 y1 y2 y3 y4 y5 y6 y7 y8 y9 y10, LeO (nautiluslaw13_BmapBack.j2 k y0 y1 y2 y3 y4 y5 y6 y7 y8 y9 y10) (nautiluslaw13_BmapBack.j2 (k + 1) y0 y1 y2 y3 y4 y5 y6 y7 y8 y9 y10))
  | 0 => ⟨fun _ _ _ _ _ _ _ _ _ _ _ _ r h => by simp [nautiluslaw13_BmapBack.j0] at h, fun _ _ _ _ _ _ _ _ _ _ r h => by simp [nautiluslaw13_BmapBack.j1] at h, fun _ _ _ _ _ _ _ _ _ _ _ r h => by simp [nautiluslaw13_BmapBack.j2] at h⟩
  | k + 1 => by
    obtain ⟨ih0, ih1, ih2⟩ := nautiluslaw13_BmapBack.mono_l k
    refine ⟨?_, ?_, ?_⟩
    · intro y0 y1 y2 y3 y4 y5 y6 y7 y8 y9 y10 y11
      unfold nautiluslaw13_BmapBack.j0
      repeat' first
      | (with_reducible exact ih0 _ _ _ _ _ _ _ _ _ _ _ _)
      | (with_reducible exact ih1 _ _ _ _ _ _ _ _ _ _)
      | (with_reducible exact ih2 _ _ _ _ _ _ _ _ _ _ _)
      | (with_reducible exact nautiluslaw13_shown.mono _)
      | (with_reducible exact nautilusref13_Same.mono _ _ _)
      | (with_reducible exact nautilusref13_SameTexts.mono _ _ _)
      | (with_reducible exact LeO.refl _)
      | (with_reducible exact LeO.none _)
      | (with_reducible refine LeO.ite ?_ ?_)
      | (with_reducible refine LeO.bind ?_ (fun _ => ?_))
      | exact ih0 _ _ _ _ _ _ _ _ _ _ _ _
      | exact ih1 _ _ _ _ _ _ _ _ _ _
      | exact ih2 _ _ _ _ _ _ _ _ _ _ _
      | exact nautiluslaw13_shown.mono _
      | exact nautilusref13_Same.mono _ _ _
      | exact nautilusref13_SameTexts.mono _ _ _
      | exact LeO.none _
      | refine LeO.ite ?_ ?_
      | refine LeO.bind ?_ (fun _ => ?_)
    · intro y0 y1 y2 y3 y4 y5 y6 y7 y8 y9
      unfold nautiluslaw13_BmapBack.j1
      repeat' first
      | (with_reducible exact ih0 _ _ _ _ _ _ _ _ _ _ _ _)
      | (with_reducible exact ih1 _ _ _ _ _ _ _ _ _ _)
      | (with_reducible exact ih2 _ _ _ _ _ _ _ _ _ _ _)
      | (with_reducible exact nautiluslaw13_shown.mono _)
      | (with_reducible exact nautilusref13_Same.mono _ _ _)
      | (with_reducible exact nautilusref13_SameTexts.mono _ _ _)
      | (with_reducible exact LeO.refl _)
      | (with_reducible exact LeO.none _)
      | (with_reducible refine LeO.ite ?_ ?_)
      | (with_reducible refine LeO.bind ?_ (fun _ => ?_))
      | exact ih0 _ _ _ _ _ _ _ _ _ _ _ _
      | exact ih1 _ _ _ _ _ _ _ _ _ _
      | exact ih2 _ _ _ _ _ _ _ _ _ _ _
      | exact nautiluslaw13_shown.mono _
      | exact nautilusref13_Same.mono _ _ _
      | exact nautilusref13_SameTexts.mono _ _ _
      | exact LeO.none _
      | refine LeO.ite ?_ ?_
      | refine LeO.bind ?_ (fun _ => ?_)
    · intro y0 y1 y2 y3 y4 y5 y6 y7 y8 y9 y10
      unfold nautiluslaw13_BmapBack.j2
      repeat' first
      | (with_reducible exact ih0 _ _ _ _ _ _ _ _ _ _ _ _)
      | (with_reducible exact ih1 _ _ _ _ _ _ _ _ _ _)
      | (with_reducible exact ih2 _ _ _ _ _ _ _ _ _ _ _)
      | (with_reducible exact nautiluslaw13_shown.mono _)
      | (with_reducible exact nautilusref13_Same.mono _ _ _)
      | (with_reducible exact nautilusref13_SameTexts.mono _ _ _)
      | (with_reducible exact LeO.refl _)
      | (with_reducible exact LeO.none _)
      | (with_reducible refine LeO.ite ?_ ?_)
      | (with_reducible refine LeO.bind ?_ (fun _ => ?_))
      | exact ih0 _ _ _ _ _ _ _ _ _ _ _ _
      | exact ih1 _ _ _ _ _ _ _ _ _ _
      | exact ih2 _ _ _ _ _ _ _ _ _ _ _
      | exact nautiluslaw13_shown.mono _
      | exact nautilusref13_Same.mono _ _ _
      | exact nautilusref13_SameTexts.mono _ _ _
      | exact LeO.none _
      | refine LeO.ite ?_ ?_
      | refine LeO.bind ?_ (fun _ => ?_)
theorem nautiluslaw13_BmapBack.mono : ∀ a0 a1 a2 a3 a4 a5 a6 a7 a8 a9 k, LeO (nautiluslaw13_BmapBack.f k a0 a1 a2 a3 a4 a5 a6 a7 a8 a9) (nautiluslaw13_BmapBack.f (k + 1) a0 a1 a2 a3 a4 a5 a6 a7 a8 a9) := by
  intro a0 a1 a2 a3 a4 a5 a6 a7 a8 a9 k
  obtain ⟨ih0, ih1, ih2⟩ := nautiluslaw13_BmapBack.mono_l k
  unfold nautiluslaw13_BmapBack.f
  repeat' first
      | (with_reducible exact ih0 _ _ _ _ _ _ _ _ _ _ _ _)
      | (with_reducible exact ih1 _ _ _ _ _ _ _ _ _ _)
      | (with_reducible exact ih2 _ _ _ _ _ _ _ _ _ _ _)
      | (with_reducible exact nautiluslaw13_shown.mono _)
      | (with_reducible exact nautilusref13_Same.mono _ _ _)
      | (with_reducible exact nautilusref13_SameTexts.mono _ _ _)
      | (with_reducible exact LeO.refl _)
      | (with_reducible exact LeO.none _)
      | (with_reducible refine LeO.ite ?_ ?_)
      | (with_reducible refine LeO.bind ?_ (fun _ => ?_))
      | exact ih0 _ _ _ _ _ _ _ _ _ _ _ _
      | exact ih1 _ _ _ _ _ _ _ _ _ _
      | exact ih2 _ _ _ _ _ _ _ _ _ _ _
      | exact nautiluslaw13_shown.mono _
      | exact nautilusref13_Same.mono _ _ _
      | exact nautilusref13_SameTexts.mono _ _ _
      | exact LeO.none _
      | refine LeO.ite ?_ ?_
      | refine LeO.bind ?_ (fun _ => ?_)
def tkQ22 {α : Type} (n : Nat) (l : List α) : List α := l.take n
theorem tkQ22_len {α : Type} (n : Nat) (l : List α) : (tkQ22 n l).length = min n l.length := List.length_take ..
theorem tkQ22_def {α : Type} (n : Nat) (l : List α) : List.take n l = tkQ22 n l := rfl
set_option maxHeartbeats 8000000 in
set_option maxRecDepth 100000 in
theorem nautiluslaw13_BmapBack.calls (k : Nat) (a0 : Int) (A1 : Option Addr) (c1 : Nat) (l1 : List Int) (A2 : Option Addr) (c2 : Nat) (l2 : List Int) (a3_0 : Int) (a3_1 : Int) (a3_2 : Int) (a3_3 : Int) (a3_4 : Int) (a3_5 : Int) (A4 : Option Addr) (c4 : Nat) (l4 : List ByteArray) (r : Bool) (w : World) (hr1 : Kd.C (Kd.int .u32) w A1 l1.length l1) (hc1 : l1.length ≤ c1) (hr2 : Kd.C (Kd.int .u32) w A2 l2.length l2) (hc2 : l2.length ≤ c2) (hr4 : Kd.C Kd.string w A4 l4.length l4) (hc4 : l4.length ≤ c4) (h : nautiluslaw13_BmapBack.f k a0 l1 l2 a3_0 a3_1 a3_2 a3_3 a3_4 a3_5 l4 = some r) :
    Calls Try.prog 5 #[.int .u32 a0, .slice A1 l1.length c1, .slice A2 l2.length c2, .agg #[.int .u32 a3_0, .int .u32 a3_1, .int .u32 a3_2, .int .u32 a3_3, .int .u32 a3_4, .int .u32 a3_5], .slice A4 l4.length c4] w fun e w' => e = .returned (.bool r) ∧ Below w.heap.size w w' := by
  have hu32 := Try.underlying32
  have HR1 := Aside0.mk hr1
  have HC1 := Aside0.mk hc1
  clear hr1 hc1
  have HR2 := Aside0.mk hr2
  have HC2 := Aside0.mk hc2
  clear hr2 hc2
  have HR4 := Aside0.mk hr4
  have HC4 := Aside0.mk hc4
  clear hr4 hc4
  have HB := Aside0.mk (Below.refl w.heap.size w)
  have H : ((nautiluslaw13_shown.f k).bind fun t228 => (if (l1.length : Int) > 1000 then (nautiluslaw13_BmapBack.j0 k a0 l1 l2 l4 t228 true a3_0 a3_1 a3_2 a3_3 a3_4 a3_5) else (nautiluslaw13_BmapBack.j0 k a0 l1 l2 l4 t228 (decide ((l2.length : Int) > 1000)) a3_0 a3_1 a3_2 a3_3 a3_4 a3_5))) = some r := h
  clear h
  replace H := Option.bind_eq_some_iff.mp H
  obtain ⟨t228, A60, H⟩ := H
  replace H : (if (l1.length : Int) > 1000 then (nautiluslaw13_BmapBack.j0 k a0 l1 l2 l4 t228 true a3_0 a3_1 a3_2 a3_3 a3_4 a3_5) else (nautiluslaw13_BmapBack.j0 k a0 l1 l2 l4 t228 (decide ((l2.length : Int) > 1000)) a3_0 a3_1 a3_2 a3_3 a3_4 a3_5)) = some r := H
  have A6 := Aside0.mk A60
  clear A60
  have HC7 := Aside0.mk H
  clear H
  go_enter Try.func5, Try.ntmps5
  go_upto_region 2 with (first | ((with_reducible refine gate_dst (N := 8) rfl ?_); (try (refine gate_guard (by rfl) ?_; dsimp only)); refine box_event ?hg (N := 8) ?hd (cs := #[.int .u32 a3_0, .int .u32 a3_1, .int .u32 a3_2, .int .u32 a3_3, .int .u32 a3_4, .int .u32 a3_5]) (t := 32) ?hr ?_; (case hd => rfl); (case hg => rfl); (case hr => first | (go_simp; done) | (go_simp; rfl)); intro gb227 hg w8 hbox hb; have n0_ := Aside0.mk (below_step (by repeat (first | (with_reducible first | exact HB.out | apply below_alloc | apply pw_below_drewN | apply below_drew1) | exact HB.out)) hb); have n1_ := Aside0.mk (hbox); have n2_ := Aside0.mk ((by rw [hg]; exact (below_size (by repeat (first | (with_reducible first | exact HB.out | apply below_alloc | apply pw_below_drewN | apply below_drew1) | exact HB.out))) : w.heap.size ≤ gb227)); have n3_ := Aside0.mk ((by rw [hg]; exact (below_size (by repeat (first | (with_reducible first | exact HB.out | apply below_alloc | apply pw_below_drewN | apply below_drew1) | exact HB.out))) : w.heap.size ≤ gb227)); clear HB; have HB := n0_; have BK227 := n1_; have GW227 := n2_; have GE227 := n3_; clear n0_ n1_ n2_ n3_; clear hb hbox hg) | ((with_reducible refine gate_callee (f := 9) rfl ?_); refine goesL_ (some 25) rfl rfl Try.func9 (by kernel_rfl) rfl #[] rfl (by (try simp only [List.map_toArray, List.map_cons, List.map_nil]); first | done | rfl | (simp only [List.length_drop, tkQ22_len]; rfl)) ?_; (with_reducible refine (nautiluslaw13_shown.calls k  t228 _ A6.out).mono ?_); rintro e w9 ⟨rfl, hb⟩; refine ⟨_, rfl, ?_⟩; have n0_ := Aside0.mk (blk_below (g := gb227) (o := .cells #[.int .u32 a3_0, .int .u32 a3_1, .int .u32 a3_2, .int .u32 a3_3, .int .u32 a3_4, .int .u32 a3_5] 32 (0, 0)) (by (with_reducible repeat (first | refine blk_drewN ?_ _ | refine blk_drew ?_ | refine blk_alloc ?_ _)); exact BK227.out) hb); have n1_ := Aside0.mk (below_step (by repeat (first | (with_reducible first | exact HB.out | apply below_alloc | apply pw_below_drewN | apply below_drew1 | refine below_set ?_ GE227.out) | exact HB.out)) hb); clear BK227; clear HB; have BK227 := n0_; have HB := n1_; clear n0_ n1_; (try clear hb); (try clear hb2); (try clear hk); (try clear hi)))
  (try simp only [Act.put, List.setIfInBounds_toArray, List.set_cons_zero, List.set_cons_succ])
  go_cut [33] (fun v33 wc => ∃ (kq : Nat) (x33_6 : Bool), v33 = .bool x33_6 ∧ Aside0 (nautiluslaw13_BmapBack.j0 kq a0 l1 l2 l4 t228 x33_6 a3_0 a3_1 a3_2 a3_3 a3_4 a3_5 = some r) ∧ Aside0 (kq ≤ k) ∧ Aside0 (wc.heap[gb227]? = some (.cells #[.int .u32 a3_0, .int .u32 a3_1, .int .u32 a3_2, .int .u32 a3_3, .int .u32 a3_4, .int .u32 a3_5] 32 (0, 0))) ∧ Aside0 (Below w.heap.size w wc))
  case first =>
    have H := HC7.out
    clear HC7
    by_cases c10 : (l1.length : Int) > 1000
    · rw [if_pos c10] at H
      have c10b0 : decide (1000 < (l1.length : Int)) = true := decide_eq_true c10
      have c10b1 : decide (1000 < l1.length) = true := decide_eq_true (by omega)
      clear c10
      (first | rw [c10b0] | (simp only [i64_w, i32_w]; rw [c10b0]) | skip)
      have H' := Aside0.mk H
      clear H
      go_wp2
      go_meet
      case rel => exact ⟨_, (true), (by first | rfl | (simp; done) | (simp [*]; done)), H', ⟨by first | omega | exact Nat.le_refl _⟩, ⟨by (with_reducible repeat (first | refine blk_drewN ?_ _ | refine blk_drew ?_ | refine blk_alloc ?_ _)); exact BK227.out⟩, ⟨by repeat (first | (with_reducible first | exact HB.out | apply below_alloc | apply pw_below_drewN | apply below_drew1 | refine below_set ?_ GE227.out) | exact HB.out)⟩⟩
    · rw [if_neg c10] at H
      have c10b0 : decide (1000 < (l1.length : Int)) = false := decide_eq_false c10
      have c10b1 : decide (1000 < l1.length) = false := decide_eq_false (by omega)
      clear c10
      (first | rw [c10b0] | (simp only [i64_w, i32_w]; rw [c10b0]) | skip)
      have H' := Aside0.mk H
      clear H
      go_wp2
      go_meet
      case rel => exact ⟨_, (decide ((l2.length : Int) > 1000)), (by first | rfl | (simp; done) | (simp [*]; done)), H', ⟨by first | omega | exact Nat.le_refl _⟩, ⟨by (with_reducible repeat (first | refine blk_drewN ?_ _ | refine blk_drew ?_ | refine blk_alloc ?_ _)); exact BK227.out⟩, ⟨by repeat (first | (with_reducible first | exact HB.out | apply below_alloc | apply pw_below_drewN | apply below_drew1 | refine below_set ?_ GE227.out) | exact HB.out)⟩⟩
  case rest =>
    clear HC7
    try clear c1
    try clear c2
    try clear p2
    try clear c4
    try clear c5
    try clear c9
    try clear c10
    try clear c10b0
    try clear c10b1
    obtain ⟨kq, x33_6, rfl, HA, HJ6, BK227, HB⟩ := hcut
    cases kq with
    | zero => exact absurd HA.out (by simp [nautiluslaw13_BmapBack.j0])
    | succ kj6 =>
      have H := HA.out
      clear HA
      simp only [nautiluslaw13_BmapBack.j0] at H
      by_cases c11 : x33_6 = true
      · subst c11
        have H1 : (some t228) = some r := by rw [if_pos rfl] at H; exact H
        clear H
        have H := H1
        clear H1
        obtain rfl := Option.some.inj H
        go_wp2
        go_ret
        exact ⟨by first | rfl | (simp [errW_none, errW_some] <;> rfl) | (simp [*, errW_none, errW_some] <;> rfl) | (simp [show IntKind.u64.wrap 0 = 0 from rfl, Int.zero_tdiv]; done), by repeat (first | (with_reducible first | exact HB.out | apply below_alloc | apply pw_below_drewN | apply below_drew1 | refine below_set ?_ GE227.out) | exact HB.out)⟩
      · replace c11 := Bool.eq_false_iff.mpr c11
        subst c11
        have H1 : (if 0 ≤ (mn (l4.length : Int) 10) then (if (mn (l4.length : Int) 10) ≤ (l4.length : Int) then ((bmap_Lay.f a0 l1 l2).bind fun bt230 => ((bmap_Join.f a0 bt230.1 bt230.2.1 bt230.2.2.1 bt230.2.2.2.1 bt230.2.2.2.2.1 bt230.2.2.2.2.2.1 bt230.2.2.2.2.2.2.1).bind fun bt241 => (if bt230.2.2.2.2.2.2.2 = 0 then (if bt241.2 = 0 then ((nautilusref13_Same.f kj6 bt241.1 l1).bind fun t245 => (nautiluslaw13_BmapBack.j1 kj6 a0 (l4.take ((mn (l4.length : Int) 10) : Int).toNat) t228 (!t245) a3_0 a3_1 a3_2 a3_3 a3_4 a3_5)) else (nautiluslaw13_BmapBack.j1 kj6 a0 (l4.take ((mn (l4.length : Int) 10) : Int).toNat) t228 true a3_0 a3_1 a3_2 a3_3 a3_4 a3_5)) else (nautiluslaw13_BmapBack.j1 kj6 a0 (l4.take ((mn (l4.length : Int) 10) : Int).toNat) t228 false a3_0 a3_1 a3_2 a3_3 a3_4 a3_5)))) else (none)) else (none)) = some r := by rw [if_neg (show ¬ (false = true) by decide)] at H; exact H
        clear H
        have H := H1
        clear H1
        obtain ⟨ji12, hji12⟩ : ∃ j_ : Int, (mn (l4.length : Int) 10) = j_ := ⟨_, rfl⟩
        replace H : (if 0 ≤ (ji12) then (if (ji12) ≤ (l4.length : Int) then ((bmap_Lay.f a0 l1 l2).bind fun bt230 => ((bmap_Join.f a0 bt230.1 bt230.2.1 bt230.2.2.1 bt230.2.2.2.1 bt230.2.2.2.2.1 bt230.2.2.2.2.2.1 bt230.2.2.2.2.2.2.1).bind fun bt241 => (if bt230.2.2.2.2.2.2.2 = 0 then (if bt241.2 = 0 then ((nautilusref13_Same.f kj6 bt241.1 l1).bind fun t245 => (nautiluslaw13_BmapBack.j1 kj6 a0 (tkQ22 ((ji12) : Int).toNat l4) t228 (!t245) a3_0 a3_1 a3_2 a3_3 a3_4 a3_5)) else (nautiluslaw13_BmapBack.j1 kj6 a0 (tkQ22 ((ji12) : Int).toNat l4) t228 true a3_0 a3_1 a3_2 a3_3 a3_4 a3_5)) else (nautiluslaw13_BmapBack.j1 kj6 a0 (tkQ22 ((ji12) : Int).toNat l4) t228 false a3_0 a3_1 a3_2 a3_3 a3_4 a3_5)))) else (none)) else (none)) = some r := by first | (rw [hji12] at H; exact H) | (simp only [hji12] at H ⊢; exact H)
        have hji12_ : (if 10 < (l4.length : Int) then 10 else (l4.length : Int)) = ji12 := hji12
        by_cases c13 : 0 ≤ (ji12)
        · rw [if_pos c13] at H
          have c13b0 := eq_true c13
          have c13b1 : decide (0 ≤ (ji12)) = true := decide_eq_true c13
          clear c13
          by_cases c14 : (ji12) ≤ (l4.length : Int)
          · rw [if_pos c14] at H
            have c14b0 := eq_true c14
            have c14b1 : decide ((ji12) ≤ (l4.length : Int)) = true := decide_eq_true c14
            clear c14
            replace H := Option.bind_eq_some_iff.mp H
            obtain ⟨⟨t230, t231, t232, t233, t234, t235, t236, t239⟩, A150, H⟩ := H
            replace H : ((bmap_Join.f a0 t230 t231 t232 t233 t234 t235 t236).bind fun bt241 => (if t239 = 0 then (if bt241.2 = 0 then ((nautilusref13_Same.f kj6 bt241.1 l1).bind fun t245 => (nautiluslaw13_BmapBack.j1 kj6 a0 (tkQ22 ((ji12) : Int).toNat l4) t228 (!t245) a3_0 a3_1 a3_2 a3_3 a3_4 a3_5)) else (nautiluslaw13_BmapBack.j1 kj6 a0 (tkQ22 ((ji12) : Int).toNat l4) t228 true a3_0 a3_1 a3_2 a3_3 a3_4 a3_5)) else (nautiluslaw13_BmapBack.j1 kj6 a0 (tkQ22 ((ji12) : Int).toNat l4) t228 false a3_0 a3_1 a3_2 a3_3 a3_4 a3_5))) = some r := H
            have A15 := Aside0.mk A150
            clear A150
            replace H := Option.bind_eq_some_iff.mp H
            obtain ⟨⟨t241, t244⟩, A160, H⟩ := H
            replace H : (if t239 = 0 then (if t244 = 0 then ((nautilusref13_Same.f kj6 t241 l1).bind fun t245 => (nautiluslaw13_BmapBack.j1 kj6 a0 (tkQ22 ((ji12) : Int).toNat l4) t228 (!t245) a3_0 a3_1 a3_2 a3_3 a3_4 a3_5)) else (nautiluslaw13_BmapBack.j1 kj6 a0 (tkQ22 ((ji12) : Int).toNat l4) t228 true a3_0 a3_1 a3_2 a3_3 a3_4 a3_5)) else (nautiluslaw13_BmapBack.j1 kj6 a0 (tkQ22 ((ji12) : Int).toNat l4) t228 false a3_0 a3_1 a3_2 a3_3 a3_4 a3_5)) = some r := H
            have A16 := Aside0.mk A160
            clear A160
            have HC17 := Aside0.mk H
            clear H
            obtain ⟨i018, hi018, _, hsz18, _⟩ := info_parts info9
            obtain ⟨hcut18, hA18, hC18⟩ := print_take_of (P := Try.prog) Value.string (⟨#[]⟩ : ByteArray) 33 9 .i64 Try.underlying33 hi018 hsz18 A4 c4 l4 (ji12) (of_decide_eq_true (by first | (with_reducible assumption) | assumption)) (of_decide_eq_true (by first | (with_reducible assumption) | assumption)) HC4.out; (try simp only [tkQ22_def] at hcut18 hA18 hC18)
            have HR229 := Aside0.mk (Kd.C_of_reads (h1 := fun _ => rfl) (hA18 _ (Kd.reads_of_C HR4.out)))
            have HC229 := Aside0.mk hC18
            clear hA18 hC18 hi018 hsz18
            go_upto_region 7 with (first | ((with_reducible refine gate_callee (f := 15) rfl ?_); (try simp only [tkQ22_def] at hcut18 hA18 hC18); refine goesL_ (some 44) rfl rfl Try.func15 (by kernel_rfl) rfl #[.int .u32 a0, .slice A1 l1.length c1, .slice A2 l2.length c2] rfl (by (try simp only [List.map_toArray, List.map_cons, List.map_nil]); first | done | rfl | (simp only [List.length_drop, tkQ22_len]; rfl)) ?_; (with_reducible refine (bmap_Lay.calls a0 _ _ l1 _ _ l2 t230 t231 t232 t233 t234 t235 t236 t239 _ ?side1 ?side2 ?side3 ?side4 A15.out).mono ?_); (case side1 => repeat (first | exact (Kd.C_below HR1.out HB.out) | (with_reducible refine Kd.C_alloc ?_ _) | (with_reducible refine Kd.C_drewN ?_ _) | (with_reducible refine Kd.C_drew ?_))); (case side2 => exact HC1.out); (case side3 => repeat (first | exact (Kd.C_below HR2.out HB.out) | (with_reducible refine Kd.C_alloc ?_ _) | (with_reducible refine Kd.C_drewN ?_ _) | (with_reducible refine Kd.C_drew ?_))); (case side4 => exact HC2.out); rintro e w19 ⟨v237, rfl, ho0, hb⟩; refine ⟨_, rfl, ?_⟩; have n0_ := Aside0.mk (Kd.R_lower ho0 (below_size (by repeat (first | (with_reducible first | exact HB.out | apply below_alloc | apply pw_below_drewN | apply below_drew1 | refine below_set ?_ GE227.out) | exact HB.out)))); have n1_ := Aside0.mk (blk_below (g := gb227) (o := .cells #[.int .u32 a3_0, .int .u32 a3_1, .int .u32 a3_2, .int .u32 a3_3, .int .u32 a3_4, .int .u32 a3_5] 32 (0, 0)) (by (with_reducible repeat (first | refine blk_drewN ?_ _ | refine blk_drew ?_ | refine blk_alloc ?_ _)); exact BK227.out) hb); have n2_ := Aside0.mk (below_step (by repeat (first | (with_reducible first | exact HB.out | apply below_alloc | apply pw_below_drewN | apply below_drew1 | refine below_set ?_ GE227.out) | exact HB.out)) hb); clear BK227; clear HB; have HO238 := n0_; have BK227 := n1_; have HB := n2_; clear n0_ n1_ n2_; (try clear hb); (try clear hb2); (try clear hk); (try clear hi); (try clear ho0)) | ((with_reducible refine gate_dst (N := 12) rfl ?_); (try (refine gate_guard (by rfl) ?_; dsimp only)); refine box_event ?hg (N := 12) ?hd (cs := #[.int .u32 0, .int .u32 0, .int .u32 0, .int .u32 0, .int .u32 0, .int .u32 0]) (t := 32) ?hr ?_; (case hd => rfl); (case hg => rfl); (case hr => first | (go_simp; done) | (go_simp; rfl)); intro gb240 hg w20 hbox hb; have n0_ := Aside0.mk (Kd.R_below (by (with_reducible repeat (first | apply Kd.R_alloc | apply Kd.R_drewN | apply Kd.R_drew)); exact HO238.out) hb); have n1_ := Aside0.mk (blk_below (g := gb227) (o := .cells #[.int .u32 a3_0, .int .u32 a3_1, .int .u32 a3_2, .int .u32 a3_3, .int .u32 a3_4, .int .u32 a3_5] 32 (0, 0)) (by (with_reducible repeat (first | refine blk_drewN ?_ _ | refine blk_drew ?_ | refine blk_alloc ?_ _)); exact BK227.out) hb); have n2_ := Aside0.mk (below_step (by repeat (first | (with_reducible first | exact HB.out | apply below_alloc | apply pw_below_drewN | apply below_drew1 | refine below_set ?_ GE227.out) | exact HB.out)) hb); have n3_ := Aside0.mk (hbox); have n4_ := Aside0.mk ((by rw [hg]; exact (below_size (by repeat (first | (with_reducible first | exact HB.out | apply below_alloc | apply pw_below_drewN | apply below_drew1 | refine below_set ?_ GE227.out) | exact HB.out))) : w.heap.size ≤ gb240)); have n5_ := Aside0.mk ((by rw [hg]; exact (below_size (by repeat (first | (with_reducible first | exact HB.out | apply below_alloc | apply pw_below_drewN | apply below_drew1 | refine below_set ?_ GE227.out) | exact HB.out))) : w.heap.size ≤ gb240)); have n6_ := Aside0.mk ((by rw [hg]; exact Nat.ne_of_lt (blk_lt (g := gb227) (o := .cells #[.int .u32 a3_0, .int .u32 a3_1, .int .u32 a3_2, .int .u32 a3_3, .int .u32 a3_4, .int .u32 a3_5] 32 (0, 0)) (by (with_reducible repeat (first | refine blk_drewN ?_ _ | refine blk_drew ?_ | refine blk_alloc ?_ _)); exact BK227.out)) : gb227 ≠ gb240)); have n7_ := Aside0.mk ((by rw [hg]; exact Nat.ne_of_gt (blk_lt (g := gb227) (o := .cells #[.int .u32 a3_0, .int .u32 a3_1, .int .u32 a3_2, .int .u32 a3_3, .int .u32 a3_4, .int .u32 a3_5] 32 (0, 0)) (by (with_reducible repeat (first | refine blk_drewN ?_ _ | refine blk_drew ?_ | refine blk_alloc ?_ _)); exact BK227.out)) : gb240 ≠ gb227)); clear HO238; clear BK227; clear HB; have HO238 := n0_; have BK227 := n1_; have HB := n2_; have BK240 := n3_; have GW240 := n4_; have GE240 := n5_; have NB227_240 := n6_; have NB240_227 := n7_; clear n0_ n1_ n2_ n3_ n4_ n5_ n6_ n7_; clear hb hbox hg; have hnb21 := NB240_227.out; have hnc21 := NB227_240.out; have hcz22_0 : w20.cell? ⟨gb240, 0, none⟩ = some (.int .u32 0) := (blk_cell BK240.out 0).trans rfl; have hcz22_1 : w20.cell? ⟨gb240, 1, none⟩ = some (.int .u32 0) := (blk_cell BK240.out 1).trans rfl; have hcz22_2 : w20.cell? ⟨gb240, 2, none⟩ = some (.int .u32 0) := (blk_cell BK240.out 2).trans rfl; have hcz22_3 : w20.cell? ⟨gb240, 3, none⟩ = some (.int .u32 0) := (blk_cell BK240.out 3).trans rfl; have hcz22_4 : w20.cell? ⟨gb240, 4, none⟩ = some (.int .u32 0) := (blk_cell BK240.out 4).trans rfl; have hcz22_5 : w20.cell? ⟨gb240, 5, none⟩ = some (.int .u32 0) := (blk_cell BK240.out 5).trans rfl; have hfz22_0 := blk_frozen BK240.out 0; have hfz22_1 := blk_frozen BK240.out 1; have hfz22_2 := blk_frozen BK240.out 2; have hfz22_3 := blk_frozen BK240.out 3; have hfz22_4 := blk_frozen BK240.out 4; have hfz22_5 := blk_frozen BK240.out 5; obtain ⟨Ao23, co23, eo23⟩ := Kd.R_slice HO238.out; subst eo23) | ((with_reducible refine gate_callee (f := 18) rfl ?_); refine goesL_ (some 52) rfl rfl Try.func18 (by kernel_rfl) rfl #[.int .u32 a0, .agg #[.int .u32 t230, .int .u32 t231, .int .u32 t232, .int .u32 t233, .int .u32 t234, .int .u32 t235], .slice Ao23 t236.length co23] rfl (by (try simp only [List.map_toArray, List.map_cons, List.map_nil]); first | done | rfl | (simp only [List.length_drop, tkQ22_len]; rfl)) ?_; (with_reducible refine (bmap_Join.calls a0 t230 t231 t232 t233 t234 t235 _ _ t236 t241 t244 _ ?side1 ?side2 A16.out).mono ?_); (case side1 => refine (Kd.R_reads' (e := 9) (base := w.heap.size) (ok := fun k_ => True) (n := t236.length) (c := co23) ?_).2.2; exact (by (with_reducible repeat (first | apply Kd.R_alloc | apply Kd.R_drewN | apply Kd.R_drew)); exact (Kd.R_mono (Kd.R_far (p := ⟨gb240, 5, none⟩) (Kd.R_far (p := ⟨gb240, 4, none⟩) (Kd.R_far (p := ⟨gb240, 3, none⟩) (Kd.R_far (p := ⟨gb240, 2, none⟩) (Kd.R_far (p := ⟨gb240, 1, none⟩) (Kd.R_far (p := ⟨gb240, 0, none⟩) (Kd.R_types HO238.out BK240.out (by decide)) (fun _ hk => hk.2) (.int .u32 t230)) (fun _ hk => hk.2) (.int .u32 t231)) (fun _ hk => hk.2) (.int .u32 t232)) (fun _ hk => hk.2) (.int .u32 t233)) (fun _ hk => hk.2) (.int .u32 t234)) (fun _ hk => hk.2) (.int .u32 t235)) (fun _ h_ => h_.1)))); (case side2 => exact (Kd.R_reads' HO238.out).2.1); rintro e w24 ⟨v242, rfl, ho0, hb⟩; refine ⟨_, rfl, ?_⟩; have n0_ := Aside0.mk (Kd.R_below (by (with_reducible repeat (first | apply Kd.R_alloc | apply Kd.R_drewN | apply Kd.R_drew)); exact (Kd.R_mono (Kd.R_far (p := ⟨gb240, 5, none⟩) (Kd.R_far (p := ⟨gb240, 4, none⟩) (Kd.R_far (p := ⟨gb240, 3, none⟩) (Kd.R_far (p := ⟨gb240, 2, none⟩) (Kd.R_far (p := ⟨gb240, 1, none⟩) (Kd.R_far (p := ⟨gb240, 0, none⟩) (Kd.R_types HO238.out BK240.out (by decide)) (fun _ hk => hk.2) (.int .u32 t230)) (fun _ hk => hk.2) (.int .u32 t231)) (fun _ hk => hk.2) (.int .u32 t232)) (fun _ hk => hk.2) (.int .u32 t233)) (fun _ hk => hk.2) (.int .u32 t234)) (fun _ hk => hk.2) (.int .u32 t235)) (fun _ h_ => h_.1))) hb); have n1_ := Aside0.mk (Kd.R_lower ho0 (below_size (by repeat (first | (with_reducible first | exact HB.out | apply below_alloc | apply pw_below_drewN | apply below_drew1 | refine below_set ?_ GE227.out | refine below_set ?_ GE240.out) | exact HB.out)))); have n2_ := Aside0.mk (blk_below (g := gb227) (o := .cells #[.int .u32 a3_0, .int .u32 a3_1, .int .u32 a3_2, .int .u32 a3_3, .int .u32 a3_4, .int .u32 a3_5] 32 (0, 0)) (by (with_reducible repeat (first | refine blk_drewN ?_ _ | refine blk_drew ?_ | refine blk_alloc ?_ _)); refine blk_far ?_ NB227_240.out _; (with_reducible repeat (first | refine blk_drewN ?_ _ | refine blk_drew ?_ | refine blk_alloc ?_ _)); refine blk_far ?_ NB227_240.out _; (with_reducible repeat (first | refine blk_drewN ?_ _ | refine blk_drew ?_ | refine blk_alloc ?_ _)); refine blk_far ?_ NB227_240.out _; (with_reducible repeat (first | refine blk_drewN ?_ _ | refine blk_drew ?_ | refine blk_alloc ?_ _)); refine blk_far ?_ NB227_240.out _; (with_reducible repeat (first | refine blk_drewN ?_ _ | refine blk_drew ?_ | refine blk_alloc ?_ _)); refine blk_far ?_ NB227_240.out _; (with_reducible repeat (first | refine blk_drewN ?_ _ | refine blk_drew ?_ | refine blk_alloc ?_ _)); refine blk_far ?_ NB227_240.out _; (with_reducible repeat (first | refine blk_drewN ?_ _ | refine blk_drew ?_ | refine blk_alloc ?_ _)); exact BK227.out) hb); have n3_ := Aside0.mk (blk_below (g := gb240) (o := .cells #[.int .u32 t230, .int .u32 t231, .int .u32 t232, .int .u32 t233, .int .u32 t234, .int .u32 t235] 32 (0, 0)) (by (with_reducible repeat (first | refine blk_drewN ?_ _ | refine blk_drew ?_ | refine blk_alloc ?_ _)); refine blk_put (cs := #[.int .u32 t230, .int .u32 t231, .int .u32 t232, .int .u32 t233, .int .u32 t234, .int .u32 0]) ?_ 5 _ rfl; (with_reducible repeat (first | refine blk_drewN ?_ _ | refine blk_drew ?_ | refine blk_alloc ?_ _)); refine blk_put (cs := #[.int .u32 t230, .int .u32 t231, .int .u32 t232, .int .u32 t233, .int .u32 0, .int .u32 0]) ?_ 4 _ rfl; (with_reducible repeat (first | refine blk_drewN ?_ _ | refine blk_drew ?_ | refine blk_alloc ?_ _)); refine blk_put (cs := #[.int .u32 t230, .int .u32 t231, .int .u32 t232, .int .u32 0, .int .u32 0, .int .u32 0]) ?_ 3 _ rfl; (with_reducible repeat (first | refine blk_drewN ?_ _ | refine blk_drew ?_ | refine blk_alloc ?_ _)); refine blk_put (cs := #[.int .u32 t230, .int .u32 t231, .int .u32 0, .int .u32 0, .int .u32 0, .int .u32 0]) ?_ 2 _ rfl; (with_reducible repeat (first | refine blk_drewN ?_ _ | refine blk_drew ?_ | refine blk_alloc ?_ _)); refine blk_put (cs := #[.int .u32 t230, .int .u32 0, .int .u32 0, .int .u32 0, .int .u32 0, .int .u32 0]) ?_ 1 _ rfl; (with_reducible repeat (first | refine blk_drewN ?_ _ | refine blk_drew ?_ | refine blk_alloc ?_ _)); refine blk_put (cs := #[.int .u32 0, .int .u32 0, .int .u32 0, .int .u32 0, .int .u32 0, .int .u32 0]) ?_ 0 _ rfl; (with_reducible repeat (first | refine blk_drewN ?_ _ | refine blk_drew ?_ | refine blk_alloc ?_ _)); exact BK240.out) hb); have n4_ := Aside0.mk (below_step (by repeat (first | (with_reducible first | exact HB.out | apply below_alloc | apply pw_below_drewN | apply below_drew1 | refine below_set ?_ GE227.out | refine below_set ?_ GE240.out) | exact HB.out)) hb); clear HO238; clear BK227; clear BK240; clear HB; have HO238 := n0_; have HO243 := n1_; have BK227 := n2_; have BK240 := n3_; have HB := n4_; clear n0_ n1_ n2_ n3_ n4_; (try clear hb); (try clear hb2); (try clear hk); (try clear hi); (try clear ho0)))
            (try simp only [Act.put, List.setIfInBounds_toArray, List.set_cons_zero, List.set_cons_succ])
            go_cut [66] (fun v66 wc => ∃ (kq : Nat) (x66_16 : Bool), v66 = .bool x66_16 ∧ Aside0 (nautiluslaw13_BmapBack.j1 kq a0 (tkQ22 ((ji12) : Int).toNat l4) t228 x66_16 a3_0 a3_1 a3_2 a3_3 a3_4 a3_5 = some r) ∧ Aside0 (kq ≤ kj6) ∧ Aside0 (wc.heap[gb227]? = some (.cells #[.int .u32 a3_0, .int .u32 a3_1, .int .u32 a3_2, .int .u32 a3_3, .int .u32 a3_4, .int .u32 a3_5] 32 (0, 0))) ∧ Aside0 (wc.heap[gb240]? = some (.cells #[.int .u32 t230, .int .u32 t231, .int .u32 t232, .int .u32 t233, .int .u32 t234, .int .u32 t235] 32 (0, 0))) ∧ Aside0 (Below w.heap.size w wc))
            case first =>
              have H := HC17.out
              clear HC17
              by_cases c25 : t239 = 0
              · rw [if_pos c25] at H
                have c25b0 : (t239 == 0) = true := beq_iff_eq.mpr c25
                have c25b1 : (t239 != 0) = false := bne_eq_false_iff_eq.mpr c25
                clear c25
                (first | rw [c25b0] | (simp only [i64_w, i32_w]; rw [c25b0]) | skip)
                by_cases c26 : t244 = 0
                · rw [if_pos c26] at H
                  have c26b0 : (t244 == 0) = true := beq_iff_eq.mpr c26
                  have c26b1 : (t244 != 0) = false := bne_eq_false_iff_eq.mpr c26
                  clear c26
                  replace H := Option.bind_eq_some_iff.mp H
                  obtain ⟨t245, A270, H⟩ := H
                  replace H : (nautiluslaw13_BmapBack.j1 kj6 a0 (tkQ22 ((ji12) : Int).toNat l4) t228 (!t245) a3_0 a3_1 a3_2 a3_3 a3_4 a3_5) = some r := H
                  have A27 := Aside0.mk A270
                  clear A270
                  have H' := Aside0.mk H
                  clear H
                  obtain ⟨Ao28, co28, eo28⟩ := Kd.R_slice HO243.out
                  subst eo28
                  go_wp2_with (first | (go_at_call 19; (with_reducible refine (nautilusref13_Same.calls kj6 _ _ t241 _ _ l1 t245 _ ?side1 ?side2 ?side3 ?side4 A27.out).mono ?_); (case side1 => repeat (first | exact (Kd.R_reads' HO243.out).2.2 | (with_reducible refine Kd.C_alloc ?_ _) | (with_reducible refine Kd.C_drewN ?_ _) | (with_reducible refine Kd.C_drew ?_))); (case side2 => exact (Kd.R_reads' HO243.out).2.1); (case side3 => repeat (first | exact (Kd.C_below HR1.out HB.out) | (with_reducible refine Kd.C_alloc ?_ _) | (with_reducible refine Kd.C_drewN ?_ _) | (with_reducible refine Kd.C_drew ?_))); (case side4 => exact HC1.out); rintro e w' ⟨rfl, ⟨nd, rfl⟩⟩))
                  go_meet
                  case rel => exact ⟨_, (!t245), (by first | rfl | (simp; done) | (simp [*]; done)), H', ⟨by have := HJ6.out; first | omega | exact Nat.le_refl _⟩, ⟨by (with_reducible repeat (first | refine blk_drewN ?_ _ | refine blk_drew ?_ | refine blk_alloc ?_ _)); exact BK227.out⟩, ⟨by (with_reducible repeat (first | refine blk_drewN ?_ _ | refine blk_drew ?_ | refine blk_alloc ?_ _)); exact BK240.out⟩, ⟨by repeat (first | (with_reducible first | exact HB.out | apply below_alloc | apply pw_below_drewN | apply below_drew1 | refine below_set ?_ GE227.out | refine below_set ?_ GE240.out) | exact HB.out)⟩⟩
                · rw [if_neg c26] at H
                  have c26b0 : (t244 == 0) = false := beq_eq_false_iff_ne.mpr c26
                  have c26b1 : (t244 != 0) = true := bne_iff_ne.mpr c26
                  have H' := Aside0.mk H
                  clear H
                  go_wp2
                  go_meet
                  case rel => exact ⟨_, (true), (by first | rfl | (simp; done) | (simp [*]; done)), H', ⟨by have := HJ6.out; first | omega | exact Nat.le_refl _⟩, ⟨by (with_reducible repeat (first | refine blk_drewN ?_ _ | refine blk_drew ?_ | refine blk_alloc ?_ _)); exact BK227.out⟩, ⟨by (with_reducible repeat (first | refine blk_drewN ?_ _ | refine blk_drew ?_ | refine blk_alloc ?_ _)); exact BK240.out⟩, ⟨by repeat (first | (with_reducible first | exact HB.out | apply below_alloc | apply pw_below_drewN | apply below_drew1 | refine below_set ?_ GE227.out | refine below_set ?_ GE240.out) | exact HB.out)⟩⟩
              · rw [if_neg c25] at H
                have c25b0 : (t239 == 0) = false := beq_eq_false_iff_ne.mpr c25
                have c25b1 : (t239 != 0) = true := bne_iff_ne.mpr c25
                (first | rw [c25b0] | (simp only [i64_w, i32_w]; rw [c25b0]) | skip)
                have H' := Aside0.mk H
                clear H
                go_wp2
                go_meet
                case rel => exact ⟨_, (false), (by first | rfl | (simp; done) | (simp [*]; done)), H', ⟨by have := HJ6.out; first | omega | exact Nat.le_refl _⟩, ⟨by (with_reducible repeat (first | refine blk_drewN ?_ _ | refine blk_drew ?_ | refine blk_alloc ?_ _)); exact BK227.out⟩, ⟨by (with_reducible repeat (first | refine blk_drewN ?_ _ | refine blk_drew ?_ | refine blk_alloc ?_ _)); exact BK240.out⟩, ⟨by repeat (first | (with_reducible first | exact HB.out | apply below_alloc | apply pw_below_drewN | apply below_drew1 | refine below_set ?_ GE227.out | refine below_set ?_ GE240.out) | exact HB.out)⟩⟩
            case rest =>
              clear HC17
              try clear c1
              try clear c2
              try clear p2
              try clear c4
              try clear c5
              try clear c9
              try clear c10
              try clear c10b0
              try clear c10b1
              try clear c11
              try clear c13
              try clear c13b0
              try clear c13b1
              try clear c14
              try clear c14b0
              try clear c14b1
              try clear c15
              try clear c18
              try clear c21
              try clear c25
              try clear c25b0
              try clear c25b1
              try clear c26
              try clear c26b0
              try clear c26b1
              try clear hcz22_0
              try clear hcz22_1
              try clear hcz22_2
              try clear hcz22_3
              try clear hcz22_4
              try clear hcz22_5
              try clear hfz22_0
              try clear hfz22_1
              try clear hfz22_2
              try clear hfz22_3
              try clear hfz22_4
              try clear hfz22_5
              try clear p2
              obtain ⟨kq, x66_16, rfl, HA, HJ16, BK227, BK240, HB⟩ := hcut
              cases kq with
              | zero => exact absurd HA.out (by simp [nautiluslaw13_BmapBack.j1])
              | succ kj16 =>
                have H := HA.out
                clear HA
                simp only [nautiluslaw13_BmapBack.j1] at H
                by_cases c29 : x66_16 = true
                · subst c29
                  have H1 : (none) = some r := by rw [if_pos rfl] at H; exact H
                  clear H
                  have H := H1
                  clear H1
                  exact absurd H (by simp)
                · replace c29 := Bool.eq_false_iff.mpr c29
                  subst c29
                  have H1 : ((bmap_Join.f a0 a3_0 a3_1 a3_2 a3_3 a3_4 a3_5 (tkQ22 ((ji12) : Int).toNat l4)).bind fun bt246 => (if bt246.2 = 0 then (if ((tkQ22 ((ji12) : Int).toNat l4).length : Int) = 0 then (nautiluslaw13_BmapBack.j2 kj16 a0 (tkQ22 ((ji12) : Int).toNat l4) t228 bt246.1 ([] : List Int) a3_0 a3_1 a3_2 a3_3 a3_4 a3_5) else (nautiluslaw13_BmapBack.j2 kj16 a0 (tkQ22 ((ji12) : Int).toNat l4) t228 bt246.1 (([a3_0] : List Int)) a3_0 a3_1 a3_2 a3_3 a3_4 a3_5)) else (some t228))) = some r := by rw [if_neg (show ¬ (false = true) by decide)] at H; exact H
                  clear H
                  have H := H1
                  clear H1
                  replace H := Option.bind_eq_some_iff.mp H
                  obtain ⟨⟨t246, t249⟩, A300, H⟩ := H
                  replace H : (if t249 = 0 then (if ((tkQ22 ((ji12) : Int).toNat l4).length : Int) = 0 then (nautiluslaw13_BmapBack.j2 kj16 a0 (tkQ22 ((ji12) : Int).toNat l4) t228 t246 ([] : List Int) a3_0 a3_1 a3_2 a3_3 a3_4 a3_5) else (nautiluslaw13_BmapBack.j2 kj16 a0 (tkQ22 ((ji12) : Int).toNat l4) t228 t246 (([a3_0] : List Int)) a3_0 a3_1 a3_2 a3_3 a3_4 a3_5)) else (some t228)) = some r := H
                  have A30 := Aside0.mk A300
                  clear A300
                  by_cases c31 : t249 = 0
                  · rw [if_pos c31] at H
                    have c31b0 : (t249 == 0) = true := beq_iff_eq.mpr c31
                    have c31b1 : (t249 != 0) = false := bne_eq_false_iff_eq.mpr c31
                    clear c31
                    obtain ⟨y250, hy250⟩ : ∃ y_ : List Int, y_ = (([a3_0] : List Int)) := ⟨_, rfl⟩
                    replace H : (if ((tkQ22 ((ji12) : Int).toNat l4).length : Int) = 0 then (nautiluslaw13_BmapBack.j2 kj16 a0 (tkQ22 ((ji12) : Int).toNat l4) t228 t246 ([] : List Int) a3_0 a3_1 a3_2 a3_3 a3_4 a3_5) else (nautiluslaw13_BmapBack.j2 kj16 a0 (tkQ22 ((ji12) : Int).toNat l4) t228 t246 y250 a3_0 a3_1 a3_2 a3_3 a3_4 a3_5)) = some r := by first | (rw [hy250]; with_reducible exact H) | (have H2_ := (Option.bind_some _ _).symm.trans H; rw [hy250]; with_reducible exact H2_) | (have H2_ := (Option.bind_some _ _).symm.trans H; with_reducible exact H2_) | with_reducible exact H | (rw [hy250]; exact H) | exact H
                    have Ny250 := Aside0.mk hy250
                    clear hy250
                    have HC32 := Aside0.mk H
                    clear H
                    have hnb33 := NB227_240.out
                    have hnc33 := NB240_227.out
                    have hcz34_0 : wc.cell? ⟨gb227, 0, none⟩ = some (.int .u32 a3_0) := (blk_cell BK227.out 0).trans rfl
                    have hcz34_1 : wc.cell? ⟨gb227, 1, none⟩ = some (.int .u32 a3_1) := (blk_cell BK227.out 1).trans rfl
                    have hcz34_2 : wc.cell? ⟨gb227, 2, none⟩ = some (.int .u32 a3_2) := (blk_cell BK227.out 2).trans rfl
                    have hcz34_3 : wc.cell? ⟨gb227, 3, none⟩ = some (.int .u32 a3_3) := (blk_cell BK227.out 3).trans rfl
                    have hcz34_4 : wc.cell? ⟨gb227, 4, none⟩ = some (.int .u32 a3_4) := (blk_cell BK227.out 4).trans rfl
                    have hcz34_5 : wc.cell? ⟨gb227, 5, none⟩ = some (.int .u32 a3_5) := (blk_cell BK227.out 5).trans rfl
                    have hfz34_0 := blk_frozen BK227.out 0
                    have hfz34_1 := blk_frozen BK227.out 1
                    have hfz34_2 := blk_frozen BK227.out 2
                    have hfz34_3 := blk_frozen BK227.out 3
                    have hfz34_4 := blk_frozen BK227.out 4
                    have hfz34_5 := blk_frozen BK227.out 5
                    go_upto_if 82 with (first | ((with_reducible refine gate_callee (f := 18) rfl ?_); refine goesL_ (some 71) rfl rfl Try.func18 (by kernel_rfl) rfl #[.int .u32 a0, .agg #[.int .u32 a3_0, .int .u32 a3_1, .int .u32 a3_2, .int .u32 a3_3, .int .u32 a3_4, .int .u32 a3_5], .slice A4 (tkQ22 ((ji12) : Int).toNat l4).length c4] rfl (by (try simp only [List.map_toArray, List.map_cons, List.map_nil]); first | done | (rw [show (tkQ22 ((ji12) : Int).toNat l4).length = (ji12).toNat from (by rw [tkQ22_len]; have h_ : ((ji12) : Int) ≤ (l4.length : Int) := (by first | (exact of_decide_eq_true (by with_reducible assumption)) | (rw [← hji12]; unfold mn; (repeat' split) <;> omega) | exact of_decide_eq_true (by assumption)); omega)] <;> rfl) | (simp only [hji12]; rfl) | rfl | (simp only [List.length_drop, tkQ22_len]; rfl)) ?_; (with_reducible refine (bmap_Join.calls a0 a3_0 a3_1 a3_2 a3_3 a3_4 a3_5 _ _ (tkQ22 ((ji12) : Int).toNat l4) t246 t249 _ ?side1 ?side2 A30.out).mono ?_); (case side1 => repeat (first | exact (Kd.C_below HR229.out HB.out) | (with_reducible refine Kd.C_alloc ?_ _) | (with_reducible refine Kd.C_drewN ?_ _) | (with_reducible refine Kd.C_drew ?_))); (case side2 => exact HC229.out); rintro e w35 ⟨v247, rfl, ho0, hb⟩; refine ⟨_, rfl, ?_⟩; have n0_ := Aside0.mk (Kd.R_lower ho0 (below_size (by repeat (first | (with_reducible first | exact HB.out | apply below_alloc | apply pw_below_drewN | apply below_drew1 | refine below_set ?_ GE227.out | refine below_set ?_ GE240.out) | exact HB.out)))); have n1_ := Aside0.mk (blk_below (g := gb227) (o := .cells #[.int .u32 a3_0, .int .u32 a3_1, .int .u32 a3_2, .int .u32 a3_3, .int .u32 a3_4, .int .u32 a3_5] 32 (0, 0)) (by (with_reducible repeat (first | refine blk_drewN ?_ _ | refine blk_drew ?_ | refine blk_alloc ?_ _)); exact BK227.out) hb); have n2_ := Aside0.mk (blk_below (g := gb240) (o := .cells #[.int .u32 t230, .int .u32 t231, .int .u32 t232, .int .u32 t233, .int .u32 t234, .int .u32 t235] 32 (0, 0)) (by (with_reducible repeat (first | refine blk_drewN ?_ _ | refine blk_drew ?_ | refine blk_alloc ?_ _)); exact BK240.out) hb); have n3_ := Aside0.mk (below_step (by repeat (first | (with_reducible first | exact HB.out | apply below_alloc | apply pw_below_drewN | apply below_drew1 | refine below_set ?_ GE227.out | refine below_set ?_ GE240.out) | exact HB.out)) hb); clear BK227; clear BK240; clear HB; have HO248 := n0_; have BK227 := n1_; have BK240 := n2_; have HB := n3_; clear n0_ n1_ n2_ n3_; (try clear hb); (try clear hb2); (try clear hk); (try clear hi); (try clear ho0); have hcz36_0 : w35.cell? ⟨gb227, 0, none⟩ = some (.int .u32 a3_0) := (blk_cell BK227.out 0).trans rfl; have hcz36_1 : w35.cell? ⟨gb227, 1, none⟩ = some (.int .u32 a3_1) := (blk_cell BK227.out 1).trans rfl; have hcz36_2 : w35.cell? ⟨gb227, 2, none⟩ = some (.int .u32 a3_2) := (blk_cell BK227.out 2).trans rfl; have hcz36_3 : w35.cell? ⟨gb227, 3, none⟩ = some (.int .u32 a3_3) := (blk_cell BK227.out 3).trans rfl; have hcz36_4 : w35.cell? ⟨gb227, 4, none⟩ = some (.int .u32 a3_4) := (blk_cell BK227.out 4).trans rfl; have hcz36_5 : w35.cell? ⟨gb227, 5, none⟩ = some (.int .u32 a3_5) := (blk_cell BK227.out 5).trans rfl; have hfz36_0 := blk_frozen BK227.out 0; have hfz36_1 := blk_frozen BK227.out 1; have hfz36_2 := blk_frozen BK227.out 2; have hfz36_3 := blk_frozen BK227.out 3; have hfz36_4 := blk_frozen BK227.out 4; have hfz36_5 := blk_frozen BK227.out 5) | ((with_reducible refine gate_dst (N := 79) rfl ?_); (try (refine gate_guard (by rfl) ?_; dsimp only)); refine Kd.R_lit (Kd.int .u32) _ 22 ?hg (N := 79) ?hd (xs := ([a3_0] : List Int)) (inner := [.int .u32 a3_0]) (ok := fun _ => True) (okp := fun _ => True) ?hr ?hp (fun _ hk => hk) trivial (Below.refl _ _) (Nat.le_refl _) (by simp) ?_; (case hd => rfl); (case hg => rfl); (case hr => first | (go_simp; done) | (go_simp; rfl)); (case hp => exact (Reps.one (show Kd.M (Kd.int .u32) _ _ _ a3_0 [.int .u32 a3_0] from rfl) (Reps.none _ _))); intro v251 w37 ho38 hb hg_ hnew_; clear hg_ hnew_; (first | rw [← Ny250.out] at ho38 | (simp only [Int.reduceToNat] at ho38; rw [← Ny250.out] at ho38)); have n0_ := Aside0.mk (Kd.R_elder' (by (with_reducible repeat (first | apply Kd.R_alloc | apply Kd.R_drewN | apply Kd.R_drew)); exact HO248.out) (Kd.R_base ho38) hb); have n1_ := Aside0.mk (Kd.R_lower (Kd.R_new' ho38 (Kd.R_lt (by (with_reducible repeat (first | apply Kd.R_alloc | apply Kd.R_drewN | apply Kd.R_drew)); exact HO248.out))) (below_size (by repeat (first | (with_reducible first | exact HB.out | apply below_alloc | apply pw_below_drewN | apply below_drew1 | refine below_set ?_ GE227.out | refine below_set ?_ GE240.out) | exact HB.out)))); have n2_ := Aside0.mk (blk_below (g := gb227) (o := .cells #[.int .u32 a3_0, .int .u32 a3_1, .int .u32 a3_2, .int .u32 a3_3, .int .u32 a3_4, .int .u32 a3_5] 32 (0, 0)) (by (with_reducible repeat (first | refine blk_drewN ?_ _ | refine blk_drew ?_ | refine blk_alloc ?_ _)); exact BK227.out) hb); have n3_ := Aside0.mk (blk_below (g := gb240) (o := .cells #[.int .u32 t230, .int .u32 t231, .int .u32 t232, .int .u32 t233, .int .u32 t234, .int .u32 t235] 32 (0, 0)) (by (with_reducible repeat (first | refine blk_drewN ?_ _ | refine blk_drew ?_ | refine blk_alloc ?_ _)); exact BK240.out) hb); have n4_ := Aside0.mk (below_step (by repeat (first | (with_reducible first | exact HB.out | apply below_alloc | apply pw_below_drewN | apply below_drew1 | refine below_set ?_ GE227.out | refine below_set ?_ GE240.out) | exact HB.out)) hb); clear HO248; clear BK227; clear BK240; clear HB; have HO248 := n0_; have HO252 := n1_; have BK227 := n2_; have BK240 := n3_; have HB := n4_; clear n0_ n1_ n2_ n3_ n4_; clear hb ho38))
                    (try simp only [Act.put, List.setIfInBounds_toArray, List.set_cons_zero, List.set_cons_succ])
                    go_cut [19] (fun v19 wc => ∃ (kq : Nat) (x19_31 : List Int), Aside0 (nautiluslaw13_BmapBack.j2 kq a0 (tkQ22 ((ji12) : Int).toNat l4) t228 t246 x19_31 a3_0 a3_1 a3_2 a3_3 a3_4 a3_5 = some r) ∧ Aside0 (kq ≤ kj16) ∧ Aside0 (Kd.R (Kd.int .u32) 22 wc w.heap.size (fun k_ => some k_ ≠ (v19 : Value).ownBlock) v247 t246) ∧ Aside0 (Kd.R (Kd.int .u32) 22 wc w.heap.size (fun k_ => some k_ ≠ (v247 : Value).ownBlock) v19 x19_31) ∧ Aside0 (wc.heap[gb227]? = some (.cells #[.int .u32 a3_0, .int .u32 a3_1, .int .u32 a3_2, .int .u32 a3_3, .int .u32 a3_4, .int .u32 a3_5] 32 (0, 0))) ∧ Aside0 (wc.heap[gb240]? = some (.cells #[.int .u32 t230, .int .u32 t231, .int .u32 t232, .int .u32 t233, .int .u32 t234, .int .u32 t235] 32 (0, 0))) ∧ Aside0 (Below w.heap.size w wc))
                    case first =>
                      have H := HC32.out
                      clear HC32
                      by_cases c39 : ((tkQ22 ((ji12) : Int).toNat l4).length : Int) = 0
                      · rw [if_pos c39] at H
                        have c39b0 : (((tkQ22 ((ji12) : Int).toNat l4).length : Int) == 0) = true := beq_iff_eq.mpr c39
                        have c39b1 : (((tkQ22 ((ji12) : Int).toNat l4).length : Int) != 0) = false := bne_eq_false_iff_eq.mpr c39
                        clear c39
                        (first | rw [c39b0] | (simp only [i64_w, i32_w]; rw [c39b0]) | skip)
                        have H' := Aside0.mk H
                        clear H
                        go_wp2
                        go_meet
                        case rel => exact ⟨_, (([] : List Int)), H', ⟨by have := HJ6.out; have := HJ16.out; first | omega | exact Nat.le_refl _⟩, ⟨by (with_reducible repeat (first | apply Kd.R_alloc | apply Kd.R_drewN | apply Kd.R_drew)); exact Kd.R_mono HO248.out (fun _ hk => (by simp [Value.ownBlock]))⟩, ⟨by first | exact Kd.R_nil _ _ _ _ _ | exact Kd.N_nil _ _ _ _ _ | exact Kd.V_nil _ _ _ _ _ | exact Kd.Q_nil _ _ _ _ _ | exact Kd.S_nil _ _ _ _ _⟩, ⟨by (with_reducible repeat (first | refine blk_drewN ?_ _ | refine blk_drew ?_ | refine blk_alloc ?_ _)); exact BK227.out⟩, ⟨by (with_reducible repeat (first | refine blk_drewN ?_ _ | refine blk_drew ?_ | refine blk_alloc ?_ _)); exact BK240.out⟩, ⟨by repeat (first | (with_reducible first | exact HB.out | apply below_alloc | apply pw_below_drewN | apply below_drew1 | refine below_set ?_ GE227.out | refine below_set ?_ GE240.out) | exact HB.out)⟩⟩
                      · rw [if_neg c39] at H
                        have c39b0 : (((tkQ22 ((ji12) : Int).toNat l4).length : Int) == 0) = false := beq_eq_false_iff_ne.mpr c39
                        have c39b1 : (((tkQ22 ((ji12) : Int).toNat l4).length : Int) != 0) = true := bne_iff_ne.mpr c39
                        have c39b2 : ¬ ((tkQ22 ((ji12) : Int).toNat l4) = []) := fun h_ => c39 (by rw [h_]; rfl)
                        (first | rw [c39b0] | (simp only [i64_w, i32_w]; rw [c39b0]) | skip)
                        have H' := Aside0.mk H
                        clear H
                        go_wp2
                        go_meet
                        case rel => exact ⟨_, (y250), H', ⟨by have := HJ6.out; have := HJ16.out; first | omega | exact Nat.le_refl _⟩, ⟨by (with_reducible repeat (first | apply Kd.R_alloc | apply Kd.R_drewN | apply Kd.R_drew)); exact Kd.R_mono HO248.out (fun _ hk => hk.2)⟩, ⟨by (with_reducible repeat (first | apply Kd.R_alloc | apply Kd.R_drewN | apply Kd.R_drew)); exact Kd.R_mono HO252.out (fun _ hk => hk.2)⟩, ⟨by (with_reducible repeat (first | refine blk_drewN ?_ _ | refine blk_drew ?_ | refine blk_alloc ?_ _)); exact BK227.out⟩, ⟨by (with_reducible repeat (first | refine blk_drewN ?_ _ | refine blk_drew ?_ | refine blk_alloc ?_ _)); exact BK240.out⟩, ⟨by repeat (first | (with_reducible first | exact HB.out | apply below_alloc | apply pw_below_drewN | apply below_drew1 | refine below_set ?_ GE227.out | refine below_set ?_ GE240.out) | exact HB.out)⟩⟩
                    case rest =>
                      clear HC32
                      try clear c1
                      try clear c2
                      try clear p2
                      try clear c3
                      try clear c4
                      try clear c5
                      try clear c9
                      try clear c10
                      try clear c10b0
                      try clear c10b1
                      try clear c11
                      try clear c13
                      try clear c13b0
                      try clear c13b1
                      try clear c14
                      try clear c14b0
                      try clear c14b1
                      try clear c15
                      try clear c18
                      try clear c21
                      try clear c25
                      try clear c25b0
                      try clear c25b1
                      try clear c26
                      try clear c26b0
                      try clear c26b1
                      try clear c29
                      try clear c31
                      try clear c31b0
                      try clear c31b1
                      try clear c33
                      try clear c39
                      try clear c39b0
                      try clear c39b1
                      try clear c39b2
                      try clear hcz22_0
                      try clear hcz22_1
                      try clear hcz22_2
                      try clear hcz22_3
                      try clear hcz22_4
                      try clear hcz22_5
                      try clear hcz34_0
                      try clear hcz34_1
                      try clear hcz34_2
                      try clear hcz34_3
                      try clear hcz34_4
                      try clear hcz34_5
                      try clear hcz36_0
                      try clear hcz36_1
                      try clear hcz36_2
                      try clear hcz36_3
                      try clear hcz36_4
                      try clear hcz36_5
                      try clear hfz22_0
                      try clear hfz22_1
                      try clear hfz22_2
                      try clear hfz22_3
                      try clear hfz22_4
                      try clear hfz22_5
                      try clear hfz34_0
                      try clear hfz34_1
                      try clear hfz34_2
                      try clear hfz34_3
                      try clear hfz34_4
                      try clear hfz34_5
                      try clear hfz36_0
                      try clear hfz36_1
                      try clear hfz36_2
                      try clear hfz36_3
                      try clear hfz36_4
                      try clear hfz36_5
                      try clear p2
                      obtain ⟨kq, x19_31, HA, HJ31, HO_17, HO_19, BK227, BK240, HB⟩ := hcut
                      cases kq with
                      | zero => exact absurd HA.out (by simp [nautiluslaw13_BmapBack.j2])
                      | succ kj31 =>
                        have H := HA.out
                        clear HA
                        simp only [nautiluslaw13_BmapBack.j2] at H
                        by_cases c40 : ((tkQ22 ((ji12) : Int).toNat l4).length : Int) > 1
                        · rw [if_pos c40] at H
                          have c40b0 : decide (1 < ((tkQ22 ((ji12) : Int).toNat l4).length : Int)) = true := decide_eq_true c40
                          have c40b1 : decide (1 < (tkQ22 ((ji12) : Int).toNat l4).length) = true := decide_eq_true (by omega)
                          clear c40
                          by_cases c41 : 0 < ((tkQ22 ((ji12) : Int).toNat l4).length : Int)
                          · rw [if_pos c41] at H
                            have c41b0 : decide (0 < ((tkQ22 ((ji12) : Int).toNat l4).length : Int)) = true := decide_eq_true c41
                            have c41b1 : decide (0 < (tkQ22 ((ji12) : Int).toNat l4).length) = true := decide_eq_true (by omega)
                            clear c41
                            replace H := Option.bind_eq_some_iff.mp H
                            obtain ⟨⟨t254, t255⟩, A420, H⟩ := H
                            replace H : (if x19_31.length + t254.length < 35184372088832 then ((bmap_Lay.f a0 t246 (x19_31 ++ t254)).bind fun bt261 => (if t228 = true then (if bt261.2.2.2.2.2.2.2 = 0 then (if (bt261.1 == a3_0 && (bt261.2.1 == a3_1 && (bt261.2.2.1 == a3_2 && (bt261.2.2.2.1 == a3_3 && (bt261.2.2.2.2.1 == a3_4 && (bt261.2.2.2.2.2.1 == a3_5)))))) = true then ((nautilusref13_SameTexts.f kj31 bt261.2.2.2.2.2.2.1 (tkQ22 ((ji12) : Int).toNat l4)).bind fun t272 => (some t272)) else (none)) else (none)) else (none))) else (none)) = some r := H
                            have A42 := Aside0.mk A420
                            clear A420
                            by_cases c43 : x19_31.length + t254.length < 35184372088832
                            · rw [if_pos c43] at H
                              have LMc43 := Aside0.mk c43
                              clear c43
                              obtain ⟨y258, hy258⟩ : ∃ y_ : List Int, y_ = (x19_31 ++ t254) := ⟨_, rfl⟩
                              replace H : ((bmap_Lay.f a0 t246 y258).bind fun bt261 => (if t228 = true then (if bt261.2.2.2.2.2.2.2 = 0 then (if (bt261.1 == a3_0 && (bt261.2.1 == a3_1 && (bt261.2.2.1 == a3_2 && (bt261.2.2.2.1 == a3_3 && (bt261.2.2.2.2.1 == a3_4 && (bt261.2.2.2.2.2.1 == a3_5)))))) = true then ((nautilusref13_SameTexts.f kj31 bt261.2.2.2.2.2.2.1 (tkQ22 ((ji12) : Int).toNat l4)).bind fun t272 => (some t272)) else (none)) else (none)) else (none))) = some r := by first | (rw [hy258]; with_reducible exact H) | (have H2_ := (Option.bind_some _ _).symm.trans H; rw [hy258]; with_reducible exact H2_) | (have H2_ := (Option.bind_some _ _).symm.trans H; with_reducible exact H2_) | with_reducible exact H | (rw [hy258]; exact H) | exact H
                              have Ny258 := Aside0.mk hy258
                              clear hy258
                              replace H := Option.bind_eq_some_iff.mp H
                              obtain ⟨⟨t261, t262, t263, t264, t265, t266, t267, t270⟩, A440, H⟩ := H
                              replace H : (if t228 = true then (if t270 = 0 then (if (t261 == a3_0 && (t262 == a3_1 && (t263 == a3_2 && (t264 == a3_3 && (t265 == a3_4 && (t266 == a3_5)))))) = true then ((nautilusref13_SameTexts.f kj31 t267 (tkQ22 ((ji12) : Int).toNat l4)).bind fun t272 => (some t272)) else (none)) else (none)) else (none)) = some r := H
                              have A44 := Aside0.mk A440
                              clear A440
                              by_cases c45 : t228 = true
                              · subst c45
                                have H1 : (if t270 = 0 then (if (t261 == a3_0 && (t262 == a3_1 && (t263 == a3_2 && (t264 == a3_3 && (t265 == a3_4 && (t266 == a3_5)))))) = true then ((nautilusref13_SameTexts.f kj31 t267 (tkQ22 ((ji12) : Int).toNat l4)).bind fun t272 => (some t272)) else (none)) else (none)) = some r := by rw [if_pos rfl] at H; exact H
                                clear H
                                have H := H1
                                clear H1
                                by_cases c46 : t270 = 0
                                · rw [if_pos c46] at H
                                  have c46b0 : (t270 == 0) = true := beq_iff_eq.mpr c46
                                  have c46b1 : (t270 != 0) = false := bne_eq_false_iff_eq.mpr c46
                                  clear c46
                                  by_cases c47 : (t261 == a3_0 && (t262 == a3_1 && (t263 == a3_2 && (t264 == a3_3 && (t265 == a3_4 && (t266 == a3_5)))))) = true
                                  · rw [if_pos c47] at H
                                    have c47b0 : (t261 == a3_0 && (t262 == a3_1 && (t263 == a3_2 && (t264 == a3_3 && (t265 == a3_4 && (t266 == a3_5)))))) = true := c47
                                    (try (have c47b1 : decide (t261 = a3_0 && (t262 == a3_1 && (t263 == a3_2 && (t264 == a3_3 && (t265 == a3_4 && (t266 == a3_5)))))) = true := by simpa using c47))
                                    (try (have c47b2 : (t261 == a3_0 && (t262 == a3_1 && (t263 == a3_2 && (t264 == a3_3 && (t265 == a3_4 && (t266 == a3_5)))))) = true := by simpa using c47))
                                    clear c47
                                    replace H := Option.bind_eq_some_iff.mp H
                                    obtain ⟨t272, A480, H⟩ := H
                                    replace H : (some t272) = some r := H
                                    have A48 := Aside0.mk A480
                                    clear A480
                                    obtain rfl := Option.some.inj H
                                    have p253 : 0 ≤ (0 : Int) := (by omega)
                                    have q253 : 0 < ((tkQ22 ((ji12) : Int).toNat l4).length : Int) := of_decide_eq_true (by first | (with_reducible assumption) | assumption)
                                    obtain ⟨ad253, e253, hx253_0⟩ := Kd.at_string HR229.out 0 p253 q253
                                    cases e253
                                    have qi253 : (0 < (tkQ22 ((ji12) : Int).toNat l4).length) = True := eq_true (by omega)
                                    (try rw [show ((0 : Int)).toNat = 0 from rfl] at hx253_0)
                                    (try rw [Addr.add_zero'] at hx253_0)
                                    replace hx253_0 := (HB.out.cell (World.block_lt_of_cell? w _ hx253_0)).trans hx253_0
                                    replace p253 := eq_true p253
                                    replace q253 := eq_true q253
                                    go_wp2_with (first | ((with_reducible refine gate_callee (f := 20) rfl ?_); refine goesL_ (some 91) rfl rfl Try.func20 (by kernel_rfl) rfl #[.int .u32 a0, .string (rdOf ByteArray.empty (tkQ22 ((ji12) : Int).toNat l4) 0)] rfl (by (try simp only [List.map_toArray, List.map_cons, List.map_nil]); first | done | (simp only [hji12]; rfl) | rfl | (simp only [List.length_drop, tkQ22_len]; rfl)) ?_; (with_reducible refine (bmap_Below.calls a0 (rdOf ByteArray.empty (tkQ22 ((ji12) : Int).toNat l4) 0) t254 t255 _ A42.out).mono ?_); rintro e w49 ⟨v256, rfl, ho0, hb⟩; refine ⟨_, rfl, ?_⟩; have n0_ := Aside0.mk (Kd.R_elder' (by (with_reducible repeat (first | apply Kd.R_alloc | apply Kd.R_drewN | apply Kd.R_drew)); exact HO_17.out) (Kd.R_base ho0) hb); have n1_ := Aside0.mk (Kd.R_elder' (by (with_reducible repeat (first | apply Kd.R_alloc | apply Kd.R_drewN | apply Kd.R_drew)); exact HO_19.out) (Kd.R_base ho0) hb); have n2_ := Aside0.mk (Kd.R_lower (Kd.R_new' (Kd.R_new' ho0 (Kd.R_lt (by (with_reducible repeat (first | apply Kd.R_alloc | apply Kd.R_drewN | apply Kd.R_drew)); exact HO_17.out))) (Kd.R_lt (by (with_reducible repeat (first | apply Kd.R_alloc | apply Kd.R_drewN | apply Kd.R_drew)); exact HO_19.out))) (below_size (by repeat (first | (with_reducible first | exact HB.out | apply below_alloc | apply pw_below_drewN | apply below_drew1 | refine below_set ?_ GE227.out | refine below_set ?_ GE240.out) | exact HB.out)))); have n3_ := Aside0.mk (blk_below (g := gb227) (o := .cells #[.int .u32 a3_0, .int .u32 a3_1, .int .u32 a3_2, .int .u32 a3_3, .int .u32 a3_4, .int .u32 a3_5] 32 (0, 0)) (by (with_reducible repeat (first | refine blk_drewN ?_ _ | refine blk_drew ?_ | refine blk_alloc ?_ _)); exact BK227.out) hb); have n4_ := Aside0.mk (blk_below (g := gb240) (o := .cells #[.int .u32 t230, .int .u32 t231, .int .u32 t232, .int .u32 t233, .int .u32 t234, .int .u32 t235] 32 (0, 0)) (by (with_reducible repeat (first | refine blk_drewN ?_ _ | refine blk_drew ?_ | refine blk_alloc ?_ _)); exact BK240.out) hb); have n5_ := Aside0.mk (below_step (by repeat (first | (with_reducible first | exact HB.out | apply below_alloc | apply pw_below_drewN | apply below_drew1 | refine below_set ?_ GE227.out | refine below_set ?_ GE240.out) | exact HB.out)) hb); clear HO_17; clear HO_19; clear BK227; clear BK240; clear HB; have HO_17 := n0_; have HO_19 := n1_; have HO257 := n2_; have BK227 := n3_; have BK240 := n4_; have HB := n5_; clear n0_ n1_ n2_ n3_ n4_ n5_; (try clear hb); (try clear hb2); (try clear hk); (try clear hi); (try clear ho0); obtain ⟨Ao51, co51, eo51⟩ := Kd.R_slice HO257.out; subst eo51) | ((with_reducible refine gate_builtin (b := .append) (xs := #[.tmp 94, .tmp 95]) rfl ?_); (try (refine gate_guard (by rfl) ?_; dsimp only)); at_builtin; refine Kd.R_append_rows (Kd.int .u32) (w0 := w) w.heap.size rfl (.tmp 94) (.tmp 95) 31 22 (.int .u32 0) 4 rfl Try.underlying31 info22 rfl (by decide) (by omega) u19 x19_31 t254 _ _ _ (fun k_ => some k_ ≠ (v247 : Value).ownBlock ∧ some k_ ≠ (.slice Ao51 t254.length co51 : Value).ownBlock) (fun _ => False) rfl rfl ?aO ?aR (fun _ _ h => h) (fun _ h => h.elim) ?aF ?aB ?aS ?aL ?_; (case aR => repeat (first | exact (Kd.R_reads' HO257.out).2.2 | (with_reducible refine Kd.C_alloc ?_ _) | (with_reducible refine Kd.C_drewN ?_ _) | (with_reducible refine Kd.C_drew ?_))); (case aB => exact (by repeat (first | (with_reducible first | exact HB.out | apply below_alloc | apply pw_below_drewN | apply below_drew1 | refine below_set ?_ GE227.out | refine below_set ?_ GE240.out) | exact HB.out))); (case aF => exact (fun k_ hk => ⟨Kd.fresh' (Kd.R_lt (by (with_reducible repeat (first | apply Kd.R_alloc | apply Kd.R_drewN | apply Kd.R_drew)); exact HO_17.out)) k_ hk, Kd.fresh' (Kd.R_lt (by (with_reducible repeat (first | apply Kd.R_alloc | apply Kd.R_drewN | apply Kd.R_drew)); exact HO257.out)) k_ hk⟩)); (case aO => exact (by (with_reducible repeat (first | apply Kd.R_alloc | apply Kd.R_drewN | apply Kd.R_drew)); exact HO_19.out)); (case aS => exact (below_size (by repeat (first | (with_reducible first | exact HB.out | apply below_alloc | apply pw_below_drewN | apply below_drew1 | refine below_set ?_ GE227.out | refine below_set ?_ GE240.out) | exact HB.out)))); (case aL => have := LMc43.out; omega); intro v259 w50 ho hb hg hat; rw [← Ny258.out] at ho; have n0_ := Aside0.mk (Kd.R_after (ok := (fun k_ => some k_ ≠ (.slice Ao51 t254.length co51 : Value).ownBlock)) (by (with_reducible repeat (first | apply Kd.R_alloc | apply Kd.R_drewN | apply Kd.R_drew)); exact Kd.R_mono HO_17.out (fun _ hk => ⟨hk.2, hk.1⟩)) hg hat); have n1_ := Aside0.mk (blk_grown (g := gb227) (o := .cells #[.int .u32 a3_0, .int .u32 a3_1, .int .u32 a3_2, .int .u32 a3_3, .int .u32 a3_4, .int .u32 a3_5] 32 (0, 0)) (by (with_reducible repeat (first | refine blk_drewN ?_ _ | refine blk_drew ?_ | refine blk_alloc ?_ _)); exact BK227.out) hg (Kd.R_ne HO_19.out BK227.out (by decide))); have n2_ := Aside0.mk (blk_grown (g := gb240) (o := .cells #[.int .u32 t230, .int .u32 t231, .int .u32 t232, .int .u32 t233, .int .u32 t234, .int .u32 t235] 32 (0, 0)) (by (with_reducible repeat (first | refine blk_drewN ?_ _ | refine blk_drew ?_ | refine blk_alloc ?_ _)); exact BK240.out) hg (Kd.R_ne HO_19.out BK240.out (by decide))); have n3_ := Aside0.mk (Kd.R_after (ok := (fun k_ => some k_ ≠ (v247 : Value).ownBlock)) (by (with_reducible repeat (first | apply Kd.R_alloc | apply Kd.R_drewN | apply Kd.R_drew)); exact Kd.R_mono HO257.out (fun _ hk => ⟨hk.1.2, hk.2⟩)) hg hat); have n4_ := Aside0.mk (hb); have n5_ := Aside0.mk (ho); clear HO_17; clear BK227; clear BK240; clear HO257; clear HB; clear HO_19; have HO_17 := n0_; have BK227 := n1_; have BK240 := n2_; have HO257 := n3_; have HB := n4_; have HO260 := n5_; clear n0_ n1_ n2_ n3_ n4_ n5_; clear ho hb hg hat; obtain ⟨Ao52, co52, eo52⟩ := Kd.R_slice HO_17.out; subst eo52; obtain ⟨Ao53, co53, eo53⟩ := Kd.R_slice HO260.out; subst eo53) | ((with_reducible refine gate_callee (f := 15) rfl ?_); refine goesL_ (some 101) rfl rfl Try.func15 (by kernel_rfl) rfl #[.int .u32 a0, .slice Ao52 t246.length co52, .slice Ao53 y258.length co53] rfl (by (try simp only [List.map_toArray, List.map_cons, List.map_nil]); first | done | rfl | (simp only [List.length_drop, tkQ22_len]; rfl)) ?_; (with_reducible refine (bmap_Lay.calls a0 _ _ t246 _ _ y258 t261 t262 t263 t264 t265 t266 t267 t270 _ ?side1 ?side2 ?side3 ?side4 A44.out).mono ?_); (case side1 => repeat (first | exact (Kd.R_reads' HO_17.out).2.2 | (with_reducible refine Kd.C_alloc ?_ _) | (with_reducible refine Kd.C_drewN ?_ _) | (with_reducible refine Kd.C_drew ?_))); (case side2 => exact (Kd.R_reads' HO_17.out).2.1); (case side3 => repeat (first | exact (Kd.R_reads' HO260.out).2.2 | (with_reducible refine Kd.C_alloc ?_ _) | (with_reducible refine Kd.C_drewN ?_ _) | (with_reducible refine Kd.C_drew ?_))); (case side4 => exact (Kd.R_reads' HO260.out).2.1); rintro e w54 ⟨v268, rfl, ho0, hb⟩; refine ⟨_, rfl, ?_⟩; have n0_ := Aside0.mk (Kd.R_below (by (with_reducible repeat (first | apply Kd.R_alloc | apply Kd.R_drewN | apply Kd.R_drew)); exact HO_17.out) hb); have n1_ := Aside0.mk (Kd.R_below (by (with_reducible repeat (first | apply Kd.R_alloc | apply Kd.R_drewN | apply Kd.R_drew)); exact HO257.out) hb); have n2_ := Aside0.mk (Kd.R_below (by (with_reducible repeat (first | apply Kd.R_alloc | apply Kd.R_drewN | apply Kd.R_drew)); exact HO260.out) hb); have n3_ := Aside0.mk (Kd.R_lower ho0 (below_size (by repeat (first | (with_reducible first | exact HB.out | apply below_alloc | apply pw_below_drewN | apply below_drew1 | refine below_set ?_ GE227.out | refine below_set ?_ GE240.out) | exact HB.out)))); have n4_ := Aside0.mk (blk_below (g := gb227) (o := .cells #[.int .u32 a3_0, .int .u32 a3_1, .int .u32 a3_2, .int .u32 a3_3, .int .u32 a3_4, .int .u32 a3_5] 32 (0, 0)) (by (with_reducible repeat (first | refine blk_drewN ?_ _ | refine blk_drew ?_ | refine blk_alloc ?_ _)); exact BK227.out) hb); have n5_ := Aside0.mk (blk_below (g := gb240) (o := .cells #[.int .u32 t230, .int .u32 t231, .int .u32 t232, .int .u32 t233, .int .u32 t234, .int .u32 t235] 32 (0, 0)) (by (with_reducible repeat (first | refine blk_drewN ?_ _ | refine blk_drew ?_ | refine blk_alloc ?_ _)); exact BK240.out) hb); have n6_ := Aside0.mk (below_step (by repeat (first | (with_reducible first | exact HB.out | apply below_alloc | apply pw_below_drewN | apply below_drew1 | refine below_set ?_ GE227.out | refine below_set ?_ GE240.out) | exact HB.out)) hb); clear HO_17; clear HO257; clear HO260; clear BK227; clear BK240; clear HB; have HO_17 := n0_; have HO257 := n1_; have HO260 := n2_; have HO269 := n3_; have BK227 := n4_; have BK240 := n5_; have HB := n6_; clear n0_ n1_ n2_ n3_ n4_ n5_ n6_; (try clear hb); (try clear hb2); (try clear hk); (try clear hi); (try clear ho0)) | ((with_reducible refine gate_dst (N := 22) rfl ?_); (try (refine gate_guard (by rfl) ?_; dsimp only)); refine box_event ?hg (N := 22) ?hd (cs := #[.int .u32 0, .int .u32 0, .int .u32 0, .int .u32 0, .int .u32 0, .int .u32 0]) (t := 32) ?hr ?_; (case hd => rfl); (case hg => rfl); (case hr => first | (go_simp; done) | (go_simp; rfl)); intro gb271 hg w55 hbox hb; have n0_ := Aside0.mk (Kd.R_below (by (with_reducible repeat (first | apply Kd.R_alloc | apply Kd.R_drewN | apply Kd.R_drew)); exact HO_17.out) hb); have n1_ := Aside0.mk (Kd.R_below (by (with_reducible repeat (first | apply Kd.R_alloc | apply Kd.R_drewN | apply Kd.R_drew)); exact HO257.out) hb); have n2_ := Aside0.mk (Kd.R_below (by (with_reducible repeat (first | apply Kd.R_alloc | apply Kd.R_drewN | apply Kd.R_drew)); exact HO260.out) hb); have n3_ := Aside0.mk (Kd.R_below (by (with_reducible repeat (first | apply Kd.R_alloc | apply Kd.R_drewN | apply Kd.R_drew)); exact HO269.out) hb); have n4_ := Aside0.mk (blk_below (g := gb227) (o := .cells #[.int .u32 a3_0, .int .u32 a3_1, .int .u32 a3_2, .int .u32 a3_3, .int .u32 a3_4, .int .u32 a3_5] 32 (0, 0)) (by (with_reducible repeat (first | refine blk_drewN ?_ _ | refine blk_drew ?_ | refine blk_alloc ?_ _)); exact BK227.out) hb); have n5_ := Aside0.mk (blk_below (g := gb240) (o := .cells #[.int .u32 t230, .int .u32 t231, .int .u32 t232, .int .u32 t233, .int .u32 t234, .int .u32 t235] 32 (0, 0)) (by (with_reducible repeat (first | refine blk_drewN ?_ _ | refine blk_drew ?_ | refine blk_alloc ?_ _)); exact BK240.out) hb); have n6_ := Aside0.mk (below_step (by repeat (first | (with_reducible first | exact HB.out | apply below_alloc | apply pw_below_drewN | apply below_drew1 | refine below_set ?_ GE227.out | refine below_set ?_ GE240.out) | exact HB.out)) hb); have n7_ := Aside0.mk (hbox); have n8_ := Aside0.mk ((by rw [hg]; exact (below_size (by repeat (first | (with_reducible first | exact HB.out | apply below_alloc | apply pw_below_drewN | apply below_drew1 | refine below_set ?_ GE227.out | refine below_set ?_ GE240.out) | exact HB.out))) : w.heap.size ≤ gb271)); have n9_ := Aside0.mk ((by rw [hg]; exact (below_size (by repeat (first | (with_reducible first | exact HB.out | apply below_alloc | apply pw_below_drewN | apply below_drew1 | refine below_set ?_ GE227.out | refine below_set ?_ GE240.out) | exact HB.out))) : w.heap.size ≤ gb271)); have n10_ := Aside0.mk ((by rw [hg]; exact Nat.ne_of_lt (blk_lt (g := gb227) (o := .cells #[.int .u32 a3_0, .int .u32 a3_1, .int .u32 a3_2, .int .u32 a3_3, .int .u32 a3_4, .int .u32 a3_5] 32 (0, 0)) (by (with_reducible repeat (first | refine blk_drewN ?_ _ | refine blk_drew ?_ | refine blk_alloc ?_ _)); exact BK227.out)) : gb227 ≠ gb271)); have n11_ := Aside0.mk ((by rw [hg]; exact Nat.ne_of_gt (blk_lt (g := gb227) (o := .cells #[.int .u32 a3_0, .int .u32 a3_1, .int .u32 a3_2, .int .u32 a3_3, .int .u32 a3_4, .int .u32 a3_5] 32 (0, 0)) (by (with_reducible repeat (first | refine blk_drewN ?_ _ | refine blk_drew ?_ | refine blk_alloc ?_ _)); exact BK227.out)) : gb271 ≠ gb227)); have n12_ := Aside0.mk ((by rw [hg]; exact Nat.ne_of_lt (blk_lt (g := gb240) (o := .cells #[.int .u32 t230, .int .u32 t231, .int .u32 t232, .int .u32 t233, .int .u32 t234, .int .u32 t235] 32 (0, 0)) (by (with_reducible repeat (first | refine blk_drewN ?_ _ | refine blk_drew ?_ | refine blk_alloc ?_ _)); exact BK240.out)) : gb240 ≠ gb271)); have n13_ := Aside0.mk ((by rw [hg]; exact Nat.ne_of_gt (blk_lt (g := gb240) (o := .cells #[.int .u32 t230, .int .u32 t231, .int .u32 t232, .int .u32 t233, .int .u32 t234, .int .u32 t235] 32 (0, 0)) (by (with_reducible repeat (first | refine blk_drewN ?_ _ | refine blk_drew ?_ | refine blk_alloc ?_ _)); exact BK240.out)) : gb271 ≠ gb240)); clear HO_17; clear HO257; clear HO260; clear HO269; clear BK227; clear BK240; clear HB; have HO_17 := n0_; have HO257 := n1_; have HO260 := n2_; have HO269 := n3_; have BK227 := n4_; have BK240 := n5_; have HB := n6_; have BK271 := n7_; have GW271 := n8_; have GE271 := n9_; have NB227_271 := n10_; have NB271_227 := n11_; have NB240_271 := n12_; have NB271_240 := n13_; clear n0_ n1_ n2_ n3_ n4_ n5_ n6_ n7_ n8_ n9_ n10_ n11_ n12_ n13_; clear hb hbox hg; have hnb56 := NB271_227.out; have hnc56 := NB227_271.out; have hnb57 := NB271_240.out; have hnc57 := NB240_271.out; have hcz58_0 : w55.cell? ⟨gb271, 0, none⟩ = some (.int .u32 0) := (blk_cell BK271.out 0).trans rfl; have hcz58_1 : w55.cell? ⟨gb271, 1, none⟩ = some (.int .u32 0) := (blk_cell BK271.out 1).trans rfl; have hcz58_2 : w55.cell? ⟨gb271, 2, none⟩ = some (.int .u32 0) := (blk_cell BK271.out 2).trans rfl; have hcz58_3 : w55.cell? ⟨gb271, 3, none⟩ = some (.int .u32 0) := (blk_cell BK271.out 3).trans rfl; have hcz58_4 : w55.cell? ⟨gb271, 4, none⟩ = some (.int .u32 0) := (blk_cell BK271.out 4).trans rfl; have hcz58_5 : w55.cell? ⟨gb271, 5, none⟩ = some (.int .u32 0) := (blk_cell BK271.out 5).trans rfl; have hfz58_0 := blk_frozen BK271.out 0; have hfz58_1 := blk_frozen BK271.out 1; have hfz58_2 := blk_frozen BK271.out 2; have hfz58_3 := blk_frozen BK271.out 3; have hfz58_4 := blk_frozen BK271.out 4; have hfz58_5 := blk_frozen BK271.out 5; have hnb59 := NB227_240.out; have hnc59 := NB240_227.out; have hcz60_0 : w55.cell? ⟨gb227, 0, none⟩ = some (.int .u32 a3_0) := (blk_cell BK227.out 0).trans rfl; have hcz60_1 : w55.cell? ⟨gb227, 1, none⟩ = some (.int .u32 a3_1) := (blk_cell BK227.out 1).trans rfl; have hcz60_2 : w55.cell? ⟨gb227, 2, none⟩ = some (.int .u32 a3_2) := (blk_cell BK227.out 2).trans rfl; have hcz60_3 : w55.cell? ⟨gb227, 3, none⟩ = some (.int .u32 a3_3) := (blk_cell BK227.out 3).trans rfl; have hcz60_4 : w55.cell? ⟨gb227, 4, none⟩ = some (.int .u32 a3_4) := (blk_cell BK227.out 4).trans rfl; have hcz60_5 : w55.cell? ⟨gb227, 5, none⟩ = some (.int .u32 a3_5) := (blk_cell BK227.out 5).trans rfl; have hfz60_0 := blk_frozen BK227.out 0; have hfz60_1 := blk_frozen BK227.out 1; have hfz60_2 := blk_frozen BK227.out 2; have hfz60_3 := blk_frozen BK227.out 3; have hfz60_4 := blk_frozen BK227.out 4; have hfz60_5 := blk_frozen BK227.out 5; obtain ⟨Ao61, co61, eo61⟩ := Kd.R_slice HO269.out; subst eo61) | (go_at_call 17; refine calls_of_args (args' := #[.slice Ao61 t267.length co61, .slice (some ad253) (tkQ22 ((ji12) : Int).toNat l4).length c4]) (by first | (rw [show (tkQ22 ((ji12) : Int).toNat l4).length = (ji12).toNat from (by rw [tkQ22_len]; have h_ : ((ji12) : Int) ≤ (l4.length : Int) := (by first | (exact of_decide_eq_true (by with_reducible assumption)) | (rw [← hji12]; unfold mn; (repeat' split) <;> omega) | exact of_decide_eq_true (by assumption)); omega)] <;> rfl) | rfl) ?_; (with_reducible refine (nautilusref13_SameTexts.calls kj31 _ _ t267 _ _ (tkQ22 ((ji12) : Int).toNat l4) t272 _ ?side1 ?side2 ?side3 ?side4 A48.out).mono ?_); (case side1 => refine (Kd.R_reads' (e := 9) (base := w.heap.size) (ok := fun k_ => True) (n := t267.length) (c := co61) ?_).2.2; exact (by (with_reducible repeat (first | apply Kd.R_alloc | apply Kd.R_drewN | apply Kd.R_drew)); exact (Kd.R_mono (Kd.R_far (p := ⟨gb271, 5, none⟩) (Kd.R_far (p := ⟨gb271, 4, none⟩) (Kd.R_far (p := ⟨gb271, 3, none⟩) (Kd.R_far (p := ⟨gb271, 2, none⟩) (Kd.R_far (p := ⟨gb271, 1, none⟩) (Kd.R_far (p := ⟨gb271, 0, none⟩) (Kd.R_types HO269.out BK271.out (by decide)) (fun _ hk => hk.2) (.int .u32 t261)) (fun _ hk => hk.2) (.int .u32 t262)) (fun _ hk => hk.2) (.int .u32 t263)) (fun _ hk => hk.2) (.int .u32 t264)) (fun _ hk => hk.2) (.int .u32 t265)) (fun _ hk => hk.2) (.int .u32 t266)) (fun _ h_ => h_.1)))); (case side2 => exact (Kd.R_reads' HO269.out).2.1); (case side3 => exact Kd.C_below HR229.out (by repeat (first | (with_reducible first | exact HB.out | apply below_alloc | apply pw_below_drewN | apply below_drew1 | refine below_set ?_ GE227.out | refine below_set ?_ GE240.out | refine below_set ?_ GE271.out) | exact HB.out))); (case side4 => exact HC229.out); rintro e w' ⟨rfl, ⟨nd, rfl⟩⟩))
                                    go_ret
                                    exact ⟨by first | rfl | (simp [errW_none, errW_some] <;> rfl) | (simp only [← hji12]; first | rfl | (simp [errW_none, errW_some] <;> rfl)) | (simp [*, errW_none, errW_some] <;> rfl) | (simp [show IntKind.u64.wrap 0 = 0 from rfl, Int.zero_tdiv]; done), by repeat (first | (with_reducible first | exact HB.out | apply below_alloc | apply pw_below_drewN | apply below_drew1 | refine below_set ?_ GE227.out | refine below_set ?_ GE240.out | refine below_set ?_ GE271.out) | exact HB.out)⟩
                                  · rw [if_neg c47] at H
                                    exact absurd H (by simp)
                                · rw [if_neg c46] at H
                                  exact absurd H (by simp)
                              · replace c45 := Bool.eq_false_iff.mpr c45
                                subst c45
                                have H1 : (none) = some r := by rw [if_neg (show ¬ (false = true) by decide)] at H; exact H
                                clear H
                                have H := H1
                                clear H1
                                exact absurd H (by simp)
                            · rw [if_neg c43] at H
                              exact absurd H (by simp)
                          · rw [if_neg c41] at H
                            exact absurd H (by simp)
                        · rw [if_neg c40] at H
                          have c40b0 : decide (1 < ((tkQ22 ((ji12) : Int).toNat l4).length : Int)) = false := decide_eq_false c40
                          have c40b1 : decide (1 < (tkQ22 ((ji12) : Int).toNat l4).length) = false := decide_eq_false (by omega)
                          clear c40
                          replace H := Option.bind_eq_some_iff.mp H
                          obtain ⟨⟨t273, t274, t275, t276, t277, t278, t279, t282⟩, A620, H⟩ := H
                          replace H : (if t228 = true then (if t282 = 0 then (if (t273 == a3_0 && (t274 == a3_1 && (t275 == a3_2 && (t276 == a3_3 && (t277 == a3_4 && (t278 == a3_5)))))) = true then ((nautilusref13_SameTexts.f kj31 t279 (tkQ22 ((ji12) : Int).toNat l4)).bind fun t284 => (some t284)) else (none)) else (none)) else (none)) = some r := H
                          have A62 := Aside0.mk A620
                          clear A620
                          by_cases c63 : t228 = true
                          · subst c63
                            have H1 : (if t282 = 0 then (if (t273 == a3_0 && (t274 == a3_1 && (t275 == a3_2 && (t276 == a3_3 && (t277 == a3_4 && (t278 == a3_5)))))) = true then ((nautilusref13_SameTexts.f kj31 t279 (tkQ22 ((ji12) : Int).toNat l4)).bind fun t284 => (some t284)) else (none)) else (none)) = some r := by rw [if_pos rfl] at H; exact H
                            clear H
                            have H := H1
                            clear H1
                            by_cases c64 : t282 = 0
                            · rw [if_pos c64] at H
                              have c64b0 : (t282 == 0) = true := beq_iff_eq.mpr c64
                              have c64b1 : (t282 != 0) = false := bne_eq_false_iff_eq.mpr c64
                              clear c64
                              by_cases c65 : (t273 == a3_0 && (t274 == a3_1 && (t275 == a3_2 && (t276 == a3_3 && (t277 == a3_4 && (t278 == a3_5)))))) = true
                              · rw [if_pos c65] at H
                                have c65b0 : (t273 == a3_0 && (t274 == a3_1 && (t275 == a3_2 && (t276 == a3_3 && (t277 == a3_4 && (t278 == a3_5)))))) = true := c65
                                (try (have c65b1 : decide (t273 = a3_0 && (t274 == a3_1 && (t275 == a3_2 && (t276 == a3_3 && (t277 == a3_4 && (t278 == a3_5)))))) = true := by simpa using c65))
                                (try (have c65b2 : (t273 == a3_0 && (t274 == a3_1 && (t275 == a3_2 && (t276 == a3_3 && (t277 == a3_4 && (t278 == a3_5)))))) = true := by simpa using c65))
                                clear c65
                                replace H := Option.bind_eq_some_iff.mp H
                                obtain ⟨t284, A660, H⟩ := H
                                replace H : (some t284) = some r := H
                                have A66 := Aside0.mk A660
                                clear A660
                                obtain rfl := Option.some.inj H
                                obtain ⟨Ao67, co67, eo67⟩ := Kd.R_slice HO_17.out
                                subst eo67
                                obtain ⟨Ao68, co68, eo68⟩ := Kd.R_slice HO_19.out
                                subst eo68
                                go_wp2_with (first | ((with_reducible refine gate_callee (f := 15) rfl ?_); refine goesL_ (some 101) rfl rfl Try.func15 (by kernel_rfl) rfl #[.int .u32 a0, .slice Ao67 t246.length co67, .slice Ao68 x19_31.length co68] rfl (by (try simp only [List.map_toArray, List.map_cons, List.map_nil]); first | done | rfl | (simp only [List.length_drop, tkQ22_len]; rfl)) ?_; (with_reducible refine (bmap_Lay.calls a0 _ _ t246 _ _ x19_31 t273 t274 t275 t276 t277 t278 t279 t282 _ ?side1 ?side2 ?side3 ?side4 A62.out).mono ?_); (case side1 => repeat (first | exact (Kd.R_reads' HO_17.out).2.2 | (with_reducible refine Kd.C_alloc ?_ _) | (with_reducible refine Kd.C_drewN ?_ _) | (with_reducible refine Kd.C_drew ?_))); (case side2 => exact (Kd.R_reads' HO_17.out).2.1); (case side3 => repeat (first | exact (Kd.R_reads' HO_19.out).2.2 | (with_reducible refine Kd.C_alloc ?_ _) | (with_reducible refine Kd.C_drewN ?_ _) | (with_reducible refine Kd.C_drew ?_))); (case side4 => exact (Kd.R_reads' HO_19.out).2.1); rintro e w69 ⟨v280, rfl, ho0, hb⟩; refine ⟨_, rfl, ?_⟩; have n0_ := Aside0.mk (Kd.R_below (by (with_reducible repeat (first | apply Kd.R_alloc | apply Kd.R_drewN | apply Kd.R_drew)); exact HO_17.out) hb); have n1_ := Aside0.mk (Kd.R_below (by (with_reducible repeat (first | apply Kd.R_alloc | apply Kd.R_drewN | apply Kd.R_drew)); exact HO_19.out) hb); have n2_ := Aside0.mk (Kd.R_lower ho0 (below_size (by repeat (first | (with_reducible first | exact HB.out | apply below_alloc | apply pw_below_drewN | apply below_drew1 | refine below_set ?_ GE227.out | refine below_set ?_ GE240.out) | exact HB.out)))); have n3_ := Aside0.mk (blk_below (g := gb227) (o := .cells #[.int .u32 a3_0, .int .u32 a3_1, .int .u32 a3_2, .int .u32 a3_3, .int .u32 a3_4, .int .u32 a3_5] 32 (0, 0)) (by (with_reducible repeat (first | refine blk_drewN ?_ _ | refine blk_drew ?_ | refine blk_alloc ?_ _)); exact BK227.out) hb); have n4_ := Aside0.mk (blk_below (g := gb240) (o := .cells #[.int .u32 t230, .int .u32 t231, .int .u32 t232, .int .u32 t233, .int .u32 t234, .int .u32 t235] 32 (0, 0)) (by (with_reducible repeat (first | refine blk_drewN ?_ _ | refine blk_drew ?_ | refine blk_alloc ?_ _)); exact BK240.out) hb); have n5_ := Aside0.mk (below_step (by repeat (first | (with_reducible first | exact HB.out | apply below_alloc | apply pw_below_drewN | apply below_drew1 | refine below_set ?_ GE227.out | refine below_set ?_ GE240.out) | exact HB.out)) hb); clear HO_17; clear HO_19; clear BK227; clear BK240; clear HB; have HO_17 := n0_; have HO_19 := n1_; have HO281 := n2_; have BK227 := n3_; have BK240 := n4_; have HB := n5_; clear n0_ n1_ n2_ n3_ n4_ n5_; (try clear hb); (try clear hb2); (try clear hk); (try clear hi); (try clear ho0)) | ((with_reducible refine gate_dst (N := 22) rfl ?_); (try (refine gate_guard (by rfl) ?_; dsimp only)); refine box_event ?hg (N := 22) ?hd (cs := #[.int .u32 0, .int .u32 0, .int .u32 0, .int .u32 0, .int .u32 0, .int .u32 0]) (t := 32) ?hr ?_; (case hd => rfl); (case hg => rfl); (case hr => first | (go_simp; done) | (go_simp; rfl)); intro gb283 hg w70 hbox hb; have n0_ := Aside0.mk (Kd.R_below (by (with_reducible repeat (first | apply Kd.R_alloc | apply Kd.R_drewN | apply Kd.R_drew)); exact HO_17.out) hb); have n1_ := Aside0.mk (Kd.R_below (by (with_reducible repeat (first | apply Kd.R_alloc | apply Kd.R_drewN | apply Kd.R_drew)); exact HO_19.out) hb); have n2_ := Aside0.mk (Kd.R_below (by (with_reducible repeat (first | apply Kd.R_alloc | apply Kd.R_drewN | apply Kd.R_drew)); exact HO281.out) hb); have n3_ := Aside0.mk (blk_below (g := gb227) (o := .cells #[.int .u32 a3_0, .int .u32 a3_1, .int .u32 a3_2, .int .u32 a3_3, .int .u32 a3_4, .int .u32 a3_5] 32 (0, 0)) (by (with_reducible repeat (first | refine blk_drewN ?_ _ | refine blk_drew ?_ | refine blk_alloc ?_ _)); exact BK227.out) hb); have n4_ := Aside0.mk (blk_below (g := gb240) (o := .cells #[.int .u32 t230, .int .u32 t231, .int .u32 t232, .int .u32 t233, .int .u32 t234, .int .u32 t235] 32 (0, 0)) (by (with_reducible repeat (first | refine blk_drewN ?_ _ | refine blk_drew ?_ | refine blk_alloc ?_ _)); exact BK240.out) hb); have n5_ := Aside0.mk (below_step (by repeat (first | (with_reducible first | exact HB.out | apply below_alloc | apply pw_below_drewN | apply below_drew1 | refine below_set ?_ GE227.out | refine below_set ?_ GE240.out) | exact HB.out)) hb); have n6_ := Aside0.mk (hbox); have n7_ := Aside0.mk ((by rw [hg]; exact (below_size (by repeat (first | (with_reducible first | exact HB.out | apply below_alloc | apply pw_below_drewN | apply below_drew1 | refine below_set ?_ GE227.out | refine below_set ?_ GE240.out) | exact HB.out))) : w.heap.size ≤ gb283)); have n8_ := Aside0.mk ((by rw [hg]; exact (below_size (by repeat (first | (with_reducible first | exact HB.out | apply below_alloc | apply pw_below_drewN | apply below_drew1 | refine below_set ?_ GE227.out | refine below_set ?_ GE240.out) | exact HB.out))) : w.heap.size ≤ gb283)); have n9_ := Aside0.mk ((by rw [hg]; exact Nat.ne_of_lt (blk_lt (g := gb227) (o := .cells #[.int .u32 a3_0, .int .u32 a3_1, .int .u32 a3_2, .int .u32 a3_3, .int .u32 a3_4, .int .u32 a3_5] 32 (0, 0)) (by (with_reducible repeat (first | refine blk_drewN ?_ _ | refine blk_drew ?_ | refine blk_alloc ?_ _)); exact BK227.out)) : gb227 ≠ gb283)); have n10_ := Aside0.mk ((by rw [hg]; exact Nat.ne_of_gt (blk_lt (g := gb227) (o := .cells #[.int .u32 a3_0, .int .u32 a3_1, .int .u32 a3_2, .int .u32 a3_3, .int .u32 a3_4, .int .u32 a3_5] 32 (0, 0)) (by (with_reducible repeat (first | refine blk_drewN ?_ _ | refine blk_drew ?_ | refine blk_alloc ?_ _)); exact BK227.out)) : gb283 ≠ gb227)); have n11_ := Aside0.mk ((by rw [hg]; exact Nat.ne_of_lt (blk_lt (g := gb240) (o := .cells #[.int .u32 t230, .int .u32 t231, .int .u32 t232, .int .u32 t233, .int .u32 t234, .int .u32 t235] 32 (0, 0)) (by (with_reducible repeat (first | refine blk_drewN ?_ _ | refine blk_drew ?_ | refine blk_alloc ?_ _)); exact BK240.out)) : gb240 ≠ gb283)); have n12_ := Aside0.mk ((by rw [hg]; exact Nat.ne_of_gt (blk_lt (g := gb240) (o := .cells #[.int .u32 t230, .int .u32 t231, .int .u32 t232, .int .u32 t233, .int .u32 t234, .int .u32 t235] 32 (0, 0)) (by (with_reducible repeat (first | refine blk_drewN ?_ _ | refine blk_drew ?_ | refine blk_alloc ?_ _)); exact BK240.out)) : gb283 ≠ gb240)); clear HO_17; clear HO_19; clear HO281; clear BK227; clear BK240; clear HB; have HO_17 := n0_; have HO_19 := n1_; have HO281 := n2_; have BK227 := n3_; have BK240 := n4_; have HB := n5_; have BK283 := n6_; have GW283 := n7_; have GE283 := n8_; have NB227_283 := n9_; have NB283_227 := n10_; have NB240_283 := n11_; have NB283_240 := n12_; clear n0_ n1_ n2_ n3_ n4_ n5_ n6_ n7_ n8_ n9_ n10_ n11_ n12_; clear hb hbox hg; have hnb71 := NB283_227.out; have hnc71 := NB227_283.out; have hnb72 := NB283_240.out; have hnc72 := NB240_283.out; have hcz73_0 : w70.cell? ⟨gb283, 0, none⟩ = some (.int .u32 0) := (blk_cell BK283.out 0).trans rfl; have hcz73_1 : w70.cell? ⟨gb283, 1, none⟩ = some (.int .u32 0) := (blk_cell BK283.out 1).trans rfl; have hcz73_2 : w70.cell? ⟨gb283, 2, none⟩ = some (.int .u32 0) := (blk_cell BK283.out 2).trans rfl; have hcz73_3 : w70.cell? ⟨gb283, 3, none⟩ = some (.int .u32 0) := (blk_cell BK283.out 3).trans rfl; have hcz73_4 : w70.cell? ⟨gb283, 4, none⟩ = some (.int .u32 0) := (blk_cell BK283.out 4).trans rfl; have hcz73_5 : w70.cell? ⟨gb283, 5, none⟩ = some (.int .u32 0) := (blk_cell BK283.out 5).trans rfl; have hfz73_0 := blk_frozen BK283.out 0; have hfz73_1 := blk_frozen BK283.out 1; have hfz73_2 := blk_frozen BK283.out 2; have hfz73_3 := blk_frozen BK283.out 3; have hfz73_4 := blk_frozen BK283.out 4; have hfz73_5 := blk_frozen BK283.out 5; have hnb74 := NB227_240.out; have hnc74 := NB240_227.out; have hcz75_0 : w70.cell? ⟨gb227, 0, none⟩ = some (.int .u32 a3_0) := (blk_cell BK227.out 0).trans rfl; have hcz75_1 : w70.cell? ⟨gb227, 1, none⟩ = some (.int .u32 a3_1) := (blk_cell BK227.out 1).trans rfl; have hcz75_2 : w70.cell? ⟨gb227, 2, none⟩ = some (.int .u32 a3_2) := (blk_cell BK227.out 2).trans rfl; have hcz75_3 : w70.cell? ⟨gb227, 3, none⟩ = some (.int .u32 a3_3) := (blk_cell BK227.out 3).trans rfl; have hcz75_4 : w70.cell? ⟨gb227, 4, none⟩ = some (.int .u32 a3_4) := (blk_cell BK227.out 4).trans rfl; have hcz75_5 : w70.cell? ⟨gb227, 5, none⟩ = some (.int .u32 a3_5) := (blk_cell BK227.out 5).trans rfl; have hfz75_0 := blk_frozen BK227.out 0; have hfz75_1 := blk_frozen BK227.out 1; have hfz75_2 := blk_frozen BK227.out 2; have hfz75_3 := blk_frozen BK227.out 3; have hfz75_4 := blk_frozen BK227.out 4; have hfz75_5 := blk_frozen BK227.out 5; obtain ⟨Ao76, co76, eo76⟩ := Kd.R_slice HO281.out; subst eo76) | (go_at_call 17; refine calls_of_args (args' := #[.slice Ao76 t279.length co76, .slice A4 (tkQ22 ((ji12) : Int).toNat l4).length c4]) (by first | (rw [show (tkQ22 ((ji12) : Int).toNat l4).length = (ji12).toNat from (by rw [tkQ22_len]; have h_ : ((ji12) : Int) ≤ (l4.length : Int) := (by first | (exact of_decide_eq_true (by with_reducible assumption)) | (rw [← hji12]; unfold mn; (repeat' split) <;> omega) | exact of_decide_eq_true (by assumption)); omega)] <;> rfl) | rfl) ?_; (with_reducible refine (nautilusref13_SameTexts.calls kj31 _ _ t279 _ _ (tkQ22 ((ji12) : Int).toNat l4) t284 _ ?side1 ?side2 ?side3 ?side4 A66.out).mono ?_); (case side1 => refine (Kd.R_reads' (e := 9) (base := w.heap.size) (ok := fun k_ => True) (n := t279.length) (c := co76) ?_).2.2; exact (by (with_reducible repeat (first | apply Kd.R_alloc | apply Kd.R_drewN | apply Kd.R_drew)); exact (Kd.R_mono (Kd.R_far (p := ⟨gb283, 5, none⟩) (Kd.R_far (p := ⟨gb283, 4, none⟩) (Kd.R_far (p := ⟨gb283, 3, none⟩) (Kd.R_far (p := ⟨gb283, 2, none⟩) (Kd.R_far (p := ⟨gb283, 1, none⟩) (Kd.R_far (p := ⟨gb283, 0, none⟩) (Kd.R_types HO281.out BK283.out (by decide)) (fun _ hk => hk.2) (.int .u32 t273)) (fun _ hk => hk.2) (.int .u32 t274)) (fun _ hk => hk.2) (.int .u32 t275)) (fun _ hk => hk.2) (.int .u32 t276)) (fun _ hk => hk.2) (.int .u32 t277)) (fun _ hk => hk.2) (.int .u32 t278)) (fun _ h_ => h_.1)))); (case side2 => exact (Kd.R_reads' HO281.out).2.1); (case side3 => exact Kd.C_below HR229.out (by repeat (first | (with_reducible first | exact HB.out | apply below_alloc | apply pw_below_drewN | apply below_drew1 | refine below_set ?_ GE227.out | refine below_set ?_ GE240.out | refine below_set ?_ GE283.out) | exact HB.out))); (case side4 => exact HC229.out); rintro e w' ⟨rfl, ⟨nd, rfl⟩⟩))
                                go_ret
                                exact ⟨by first | rfl | (simp [errW_none, errW_some] <;> rfl) | (simp only [← hji12]; first | rfl | (simp [errW_none, errW_some] <;> rfl)) | (simp [*, errW_none, errW_some] <;> rfl) | (simp [show IntKind.u64.wrap 0 = 0 from rfl, Int.zero_tdiv]; done), by repeat (first | (with_reducible first | exact HB.out | apply below_alloc | apply pw_below_drewN | apply below_drew1 | refine below_set ?_ GE227.out | refine below_set ?_ GE240.out | refine below_set ?_ GE283.out) | exact HB.out)⟩
                              · rw [if_neg c65] at H
                                exact absurd H (by simp)
                            · rw [if_neg c64] at H
                              exact absurd H (by simp)
                          · replace c63 := Bool.eq_false_iff.mpr c63
                            subst c63
                            have H1 : (none) = some r := by rw [if_neg (show ¬ (false = true) by decide)] at H; exact H
                            clear H
                            have H := H1
                            clear H1
                            exact absurd H (by simp)
                  · rw [if_neg c31] at H
                    have c31b0 : (t249 == 0) = false := beq_eq_false_iff_ne.mpr c31
                    have c31b1 : (t249 != 0) = true := bne_iff_ne.mpr c31
                    obtain rfl := Option.some.inj H
                    have hnb77 := NB227_240.out
                    have hnc77 := NB240_227.out
                    have hcz78_0 : wc.cell? ⟨gb227, 0, none⟩ = some (.int .u32 a3_0) := (blk_cell BK227.out 0).trans rfl
                    have hcz78_1 : wc.cell? ⟨gb227, 1, none⟩ = some (.int .u32 a3_1) := (blk_cell BK227.out 1).trans rfl
                    have hcz78_2 : wc.cell? ⟨gb227, 2, none⟩ = some (.int .u32 a3_2) := (blk_cell BK227.out 2).trans rfl
                    have hcz78_3 : wc.cell? ⟨gb227, 3, none⟩ = some (.int .u32 a3_3) := (blk_cell BK227.out 3).trans rfl
                    have hcz78_4 : wc.cell? ⟨gb227, 4, none⟩ = some (.int .u32 a3_4) := (blk_cell BK227.out 4).trans rfl
                    have hcz78_5 : wc.cell? ⟨gb227, 5, none⟩ = some (.int .u32 a3_5) := (blk_cell BK227.out 5).trans rfl
                    have hfz78_0 := blk_frozen BK227.out 0
                    have hfz78_1 := blk_frozen BK227.out 1
                    have hfz78_2 := blk_frozen BK227.out 2
                    have hfz78_3 := blk_frozen BK227.out 3
                    have hfz78_4 := blk_frozen BK227.out 4
                    have hfz78_5 := blk_frozen BK227.out 5
                    go_wp2_with (first | ((with_reducible refine gate_callee (f := 18) rfl ?_); refine goesL_ (some 71) rfl rfl Try.func18 (by kernel_rfl) rfl #[.int .u32 a0, .agg #[.int .u32 a3_0, .int .u32 a3_1, .int .u32 a3_2, .int .u32 a3_3, .int .u32 a3_4, .int .u32 a3_5], .slice A4 (tkQ22 ((ji12) : Int).toNat l4).length c4] rfl (by (try simp only [List.map_toArray, List.map_cons, List.map_nil]); first | done | (rw [show (tkQ22 ((ji12) : Int).toNat l4).length = (ji12).toNat from (by rw [tkQ22_len]; have h_ : ((ji12) : Int) ≤ (l4.length : Int) := (by first | (exact of_decide_eq_true (by with_reducible assumption)) | (rw [← hji12]; unfold mn; (repeat' split) <;> omega) | exact of_decide_eq_true (by assumption)); omega)] <;> rfl) | (simp only [hji12]; rfl) | rfl | (simp only [List.length_drop, tkQ22_len]; rfl)) ?_; (with_reducible refine (bmap_Join.calls a0 a3_0 a3_1 a3_2 a3_3 a3_4 a3_5 _ _ (tkQ22 ((ji12) : Int).toNat l4) t246 t249 _ ?side1 ?side2 A30.out).mono ?_); (case side1 => repeat (first | exact (Kd.C_below HR229.out HB.out) | (with_reducible refine Kd.C_alloc ?_ _) | (with_reducible refine Kd.C_drewN ?_ _) | (with_reducible refine Kd.C_drew ?_))); (case side2 => exact HC229.out); rintro e w79 ⟨v247, rfl, ho0, hb⟩; refine ⟨_, rfl, ?_⟩; have n0_ := Aside0.mk (Kd.R_lower ho0 (below_size (by repeat (first | (with_reducible first | exact HB.out | apply below_alloc | apply pw_below_drewN | apply below_drew1 | refine below_set ?_ GE227.out | refine below_set ?_ GE240.out) | exact HB.out)))); have n1_ := Aside0.mk (blk_below (g := gb227) (o := .cells #[.int .u32 a3_0, .int .u32 a3_1, .int .u32 a3_2, .int .u32 a3_3, .int .u32 a3_4, .int .u32 a3_5] 32 (0, 0)) (by (with_reducible repeat (first | refine blk_drewN ?_ _ | refine blk_drew ?_ | refine blk_alloc ?_ _)); exact BK227.out) hb); have n2_ := Aside0.mk (blk_below (g := gb240) (o := .cells #[.int .u32 t230, .int .u32 t231, .int .u32 t232, .int .u32 t233, .int .u32 t234, .int .u32 t235] 32 (0, 0)) (by (with_reducible repeat (first | refine blk_drewN ?_ _ | refine blk_drew ?_ | refine blk_alloc ?_ _)); exact BK240.out) hb); have n3_ := Aside0.mk (below_step (by repeat (first | (with_reducible first | exact HB.out | apply below_alloc | apply pw_below_drewN | apply below_drew1 | refine below_set ?_ GE227.out | refine below_set ?_ GE240.out) | exact HB.out)) hb); clear BK227; clear BK240; clear HB; have HO248 := n0_; have BK227 := n1_; have BK240 := n2_; have HB := n3_; clear n0_ n1_ n2_ n3_; (try clear hb); (try clear hb2); (try clear hk); (try clear hi); (try clear ho0)))
                    go_ret
                    exact ⟨by first | rfl | (simp [errW_none, errW_some] <;> rfl) | (simp only [← hji12]; first | rfl | (simp [errW_none, errW_some] <;> rfl)) | (simp [*, errW_none, errW_some] <;> rfl) | (simp [show IntKind.u64.wrap 0 = 0 from rfl, Int.zero_tdiv]; done), by repeat (first | (with_reducible first | exact HB.out | apply below_alloc | apply pw_below_drewN | apply below_drew1 | refine below_set ?_ GE227.out | refine below_set ?_ GE240.out) | exact HB.out)⟩
          · rw [if_neg c14] at H
            exact absurd H (by simp)
        · rw [if_neg c13] at H
          exact absurd H (by simp)

/-- THE ONE PURE STATEMENT of nautiluslaw13_BmapBack: yours. -/
def nautiluslaw13_BmapBack.Pure : Prop := ∀ (a0 : Int) (l1 : List Int) (l2 : List Int) (a3_0 : Int) (a3_1 : Int) (a3_2 : Int) (a3_3 : Int) (a3_4 : Int) (a3_5 : Int) (l4 : List ByteArray), (Lit.int .u32 a0).wf = true → l1.length ≤ maxLen → l1.length * 4 ≤ 140737488351232 → (∀ x ∈ l1, (Lit.int .u32 x).wf = true) → l2.length ≤ maxLen → l2.length * 4 ≤ 140737488351232 → (∀ x ∈ l2, (Lit.int .u32 x).wf = true) → (Lit.int .u32 a3_0).wf = true → (Lit.int .u32 a3_1).wf = true → (Lit.int .u32 a3_2).wf = true → (Lit.int .u32 a3_3).wf = true → (Lit.int .u32 a3_4).wf = true → (Lit.int .u32 a3_5).wf = true → l4.length ≤ maxLen → (∀ x ∈ l4, x.size ≤ maxLen) → ∃ k, nautiluslaw13_BmapBack.f k a0 l1 l2 a3_0 a3_1 a3_2 a3_3 a3_4 a3_5 l4 = some true
theorem nautiluslaw13_BmapBack.walk (P : nautiluslaw13_BmapBack.Pure) (a0 : Int) (a1 : Option Addr) (len1 cap1 : Nat) (z1 : List Int) (a2 : Option Addr) (len2 cap2 : Nat) (z2 : List Int) (a3_0 : Int) (a3_1 : Int) (a3_2 : Int) (a3_3 : Int) (a3_4 : Int) (a3_5 : Int) (a4 : Option Addr) (len4 cap4 : Nat) (z4 : List (ByteArray)) (w : World) (w0 : (Lit.int .u32 a0).wf = true) (w1 : (a1 = none ∧ len1 = 0 ∧ cap1 = 0 ∧ z1 = []) ∨ ∃ x, a1 = some x ∧ len1 ≤ cap1 ∧ cap1 ≤ maxLen ∧ z1.length = cap1 ∧ (∀ i, i < z1.length → w.cell? (x.add i) = some (.int .u32 (z1.getD i 0))) ∧ ∀ n ∈ z1, (Lit.int .u32 n).wf = true) (y1 : len1 * 4 ≤ 140737488351232) (w2 : (a2 = none ∧ len2 = 0 ∧ cap2 = 0 ∧ z2 = []) ∨ ∃ x, a2 = some x ∧ len2 ≤ cap2 ∧ cap2 ≤ maxLen ∧ z2.length = cap2 ∧ (∀ i, i < z2.length → w.cell? (x.add i) = some (.int .u32 (z2.getD i 0))) ∧ ∀ n ∈ z2, (Lit.int .u32 n).wf = true) (y2 : len2 * 4 ≤ 140737488351232) (w3_0 : (Lit.int .u32 a3_0).wf = true) (w3_1 : (Lit.int .u32 a3_1).wf = true) (w3_2 : (Lit.int .u32 a3_2).wf = true) (w3_3 : (Lit.int .u32 a3_3).wf = true) (w3_4 : (Lit.int .u32 a3_4).wf = true) (w3_5 : (Lit.int .u32 a3_5).wf = true) (w4 : z4.length = len4 ∧ len4 ≤ cap4 ∧ len4 ≤ maxLen ∧ Kd.C Kd.string w a4 len4 z4 ∧ ∀ x ∈ z4, x.size ≤ maxLen) :
    Calls Try.prog 5 #[.int .u32 a0, .slice a1 len1 cap1, .slice a2 len2 cap2, .agg #[.int .u32 a3_0, .int .u32 a3_1, .int .u32 a3_2, .int .u32 a3_3, .int .u32 a3_4, .int .u32 a3_5], .slice a4 len4 cap4] w fun e w' => e = .returned (.bool true) ∧ Below w.heap.size w w' := by
  obtain ⟨l1, rfl, hr1, hm1, hw1, hc1⟩ := ReadsInt.ofRowC w1
  obtain ⟨l2, rfl, hr2, hm2, hw2, hc2⟩ := ReadsInt.ofRowC w2
  obtain ⟨hl4, hc4, hm4, hC4, hw4⟩ := w4
  subst hl4
  obtain ⟨k, h⟩ := P a0 l1 l2 a3_0 a3_1 a3_2 a3_3 a3_4 a3_5 z4 w0 hm1 y1 hw1 hm2 y2 hw2 w3_0 w3_1 w3_2 w3_3 w3_4 w3_5 hm4 hw4
  refine (nautiluslaw13_BmapBack.calls k a0 _ _ l1 _ _ l2 a3_0 a3_1 a3_2 a3_3 a3_4 a3_5 _ _ z4 true w (Kd.C_of_reads (d := (0 : Int)) (h1 := fun _ => rfl) hr1) hc1 (Kd.C_of_reads (d := (0 : Int)) (h1 := fun _ => rfl) hr2) hc2 hC4 hc4 h).mono ?_
  rintro e w' ⟨rfl, hd⟩
  exact ⟨rfl, hd⟩

end Go.Proofs.Ytpgdcpbbfphbiaa.Q
