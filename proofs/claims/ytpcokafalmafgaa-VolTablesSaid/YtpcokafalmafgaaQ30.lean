/- Functions of the translation as plain Lean functions, and that the translation computes them: printed by this session's driver of the print. -/
import Derived.Test.YtpcokafalmafgaaQ0
import Derived.Test.YtpcokafalmafgaaQ3
import Derived.Test.YtpcokafalmafgaaQ14
import Derived.Test.YtpcokafalmafgaaQ23
import Derived.Test.YtpcokafalmafgaaQ25
import Derived.Test.YtpcokafalmafgaaQ26
import Derived.Test.YtpcokafalmafgaaQ28
namespace Go.Proofs.Ytpcokafalmafgaa.Q
open Go.Proofs.Ytpcokafalmafgaa.H
open Go.RowKit Go.Proofs.YtpcokafalmafgaaW.PrintWords Go.Proofs.YtpcokafalmafgaaW.PrintLast Go.Proofs.YtpcokafalmafgaaW.PrintMore
attribute [local go_sem] max2_int min2_int max_two min_two max_three min_three max_four min_four   -- for this text's walks alone
set_option linter.unusedVariables false
set_option linter.unusedSimpArgs false

/-! ### nautilusref17_SameTexts: function 15 -/
def nautilusref17_SameTexts.l0 : Nat → List ByteArray → List ByteArray → Int → Option (Bool)
 | 0, _, _, _ => none
 | k + 1, x0, x1, x5 => if x5 < (x0.length : Int) then (if 0 ≤ x5 then (if x5 < (x1.length : Int) then (if (rdOf ByteArray.empty x0 x5).toList = (rdOf ByteArray.empty x1 x5).toList then (nautilusref17_SameTexts.l0 k x0 x1 (wrap64 (x5 + 1))) else (some false)) else (none)) else (none)) else (some true)
def nautilusref17_SameTexts.f (k : Nat) (l0 : List ByteArray) (l1 : List ByteArray) : Option (Bool) := if (l0.length : Int) = (l1.length : Int) then (nautilusref17_SameTexts.l0 k l0 l1 0) else (some false)
theorem nautilusref17_SameTexts.mono_l : ∀ k, (∀ y0 y1 y2, LeO (nautilusref17_SameTexts.l0 k y0 y1 y2) (nautilusref17_SameTexts.l0 (k + 1) y0 y1 y2))
 | 0 => fun _ _ _ r h => by simp [nautilusref17_SameTexts.l0] at h
 | k + 1 => by
  have ih0 := nautilusref17_SameTexts.mono_l k
  ·intro y0 y1 y2
   unfold nautilusref17_SameTexts.l0
   repeat' first
   | (with_reducible exact ih0 _ _ _)
   | (with_reducible exact LeO.refl _)
   | (with_reducible exact LeO.none _)
   | (with_reducible refine LeO.ite ?_ ?_)
   | (with_reducible refine LeO.bind ?_ (fun _ => ?_))
   | exact ih0 _ _ _
   | exact LeO.none _
   | refine LeO.ite ?_ ?_
   | refine LeO.bind ?_ (fun _ => ?_)
theorem nautilusref17_SameTexts.mono : ∀ a0 a1 k, LeO (nautilusref17_SameTexts.f k a0 a1) (nautilusref17_SameTexts.f (k + 1) a0 a1) := by
 intro a0 a1 k
 have ih0 := nautilusref17_SameTexts.mono_l k
 unfold nautilusref17_SameTexts.f
 repeat' first
   | (with_reducible exact ih0 _ _ _)
   | (with_reducible exact LeO.refl _)
   | (with_reducible exact LeO.none _)
   | (with_reducible refine LeO.ite ?_ ?_)
   | (with_reducible refine LeO.bind ?_ (fun _ => ?_))
   | exact ih0 _ _ _
   | exact LeO.none _
   | refine LeO.ite ?_ ?_
   | refine LeO.bind ?_ (fun _ => ?_)
set_option maxHeartbeats 8000000 in
set_option maxRecDepth 100000 in
theorem nautilusref17_SameTexts.calls (k : Nat) (A0 : Option Addr) (c0 : Nat) (l0 : List ByteArray) (A1 : Option Addr) (c1 : Nat) (l1 : List ByteArray) (r : Bool) (w : World) (hr0 : Kd.C Kd.string w A0 l0.length l0) (hc0 : l0.length ≤ c0) (hr1 : Kd.C Kd.string w A1 l1.length l1) (hc1 : l1.length ≤ c1) (h : nautilusref17_SameTexts.f k l0 l1 = some r) :
  Calls Try.prog 15 #[.slice A0 l0.length c0, .slice A1 l1.length c1] w fun e w' => e = .returned (.bool r) ∧ Drawn0 w w' := by
 have HR0 := Aside0.mk hr0
 have HC0 := Aside0.mk hc0
 clear hr0 hc0
 have HR1 := Aside0.mk hr1
 have HC1 := Aside0.mk hc1
 clear hr1 hc1
 have H : (if (l0.length : Int) = (l1.length : Int) then (nautilusref17_SameTexts.l0 k l0 l1 0) else (some false)) = some r := h
 clear h
 by_cases c3 : (l0.length : Int) = (l1.length : Int)
 ·rw [if_pos c3] at H
  have c3b0 : ((l0.length : Int) == (l1.length : Int)) = true := beq_iff_eq.mpr c3
  have c3b1 : ((l0.length : Int) != (l1.length : Int)) = false := bne_eq_false_iff_eq.mpr c3
  have c3b2 : (l0.length == l1.length) = true := by first | simpa using c3 | (simp at c3 ⊢; omega)
  clear c3
  have H' := Aside0.mk H
  clear H
  go_enter Try.func15, Try.ntmps15
  go_wp2
  repeat (go_quiet (fail); try go_wp2)
  go_loopg [5] k (fun kq v5 w' => ∃ (x5_1 : Int), v5 = .int .i64 x5_1 ∧ Aside0 (nautilusref17_SameTexts.l0 kq l0 l1 x5_1 = some r) ∧ Aside0 (kq ≤ k) ∧ Drawn0 w w')
  case atStart => exact ⟨(0), (by first | rfl | (simp; done) | (simp [*]; done)), H', ⟨Nat.le_refl _⟩, by repeat (first | exact Drawn0.refl _ | apply Drawn0.step)⟩
  case round =>
   clear H'
   try clear c1
   try clear p2
   try clear c3
   try clear c3b0
   try clear c3b1
   try clear c3b2
   obtain ⟨x5_1, rfl, HA, HK1, ⟨m1, rfl⟩⟩ := hrel
   cases gk with
   | zero => exact absurd HA.out (by simp [nautilusref17_SameTexts.l0])
   | succ k1 =>
    have H := HA.out
    clear HA
    simp only [nautilusref17_SameTexts.l0] at H
    by_cases c4 : x5_1 < (l0.length : Int)
    ·rw [if_pos c4] at H
     have c4b0 : decide (x5_1 < (l0.length : Int)) = true := decide_eq_true c4
     clear c4
     by_cases c5 : 0 ≤ x5_1
     ·rw [if_pos c5] at H
      have c5b0 : decide (0 ≤ x5_1) = true := decide_eq_true c5
      clear c5
      by_cases c6 : x5_1 < (l1.length : Int)
      ·rw [if_pos c6] at H
       have c6b0 : decide (x5_1 < (l1.length : Int)) = true := decide_eq_true c6
       clear c6
       by_cases c7 : (rdOf ByteArray.empty l0 x5_1).toList = (rdOf ByteArray.empty l1 x5_1).toList
       ·rw [if_pos c7] at H
        have c7b0 : ((rdOf ByteArray.empty l0 x5_1).toList == (rdOf ByteArray.empty l1 x5_1).toList) = true := beq_iff_eq.mpr c7
        have c7b1 : ((rdOf ByteArray.empty l0 x5_1).toList != (rdOf ByteArray.empty l1 x5_1).toList) = false := bne_eq_false_iff_eq.mpr c7
        clear c7
        have H' := Aside0.mk H
        clear H
        have p212 : 0 ≤ (x5_1 : Int) := of_decide_eq_true (by first | (with_reducible assumption) | assumption)
        have q212 : x5_1 < (l0.length : Int) := of_decide_eq_true (by first | (with_reducible assumption) | assumption)
        obtain ⟨ad212, e212, hx212_0⟩ := Kd.at_string HR0.out x5_1 p212 q212
        cases e212
        replace p212 := eq_true p212
        replace q212 := eq_true q212
        have p213 : 0 ≤ (x5_1 : Int) := of_decide_eq_true (by first | (with_reducible assumption) | assumption)
        have q213 : x5_1 < (l1.length : Int) := of_decide_eq_true (by first | (with_reducible assumption) | assumption)
        obtain ⟨ad213, e213, hx213_0⟩ := Kd.at_string HR1.out x5_1 p213 q213
        cases e213
        replace p213 := eq_true p213
        replace q213 := eq_true q213
        go_wp2
        repeat (go_quiet (fail); try go_wp2)
        go_roundg k1
        case measure => have := HK1.out; omega
        case rel => exact ⟨(wrap64 (x5_1 + 1)), (by first | rfl | (simp; done) | (simp [*]; done)), H', ⟨by have := HK1.out; omega⟩, by repeat (first | exact Drawn0.refl _ | apply Drawn0.step)⟩
       ·rw [if_neg c7] at H
        have c7b0 : ((rdOf ByteArray.empty l0 x5_1).toList == (rdOf ByteArray.empty l1 x5_1).toList) = false := beq_eq_false_iff_ne.mpr c7
        have c7b1 : ((rdOf ByteArray.empty l0 x5_1).toList != (rdOf ByteArray.empty l1 x5_1).toList) = true := bne_iff_ne.mpr c7
        obtain rfl := Option.some.inj H
        have p212 : 0 ≤ (x5_1 : Int) := of_decide_eq_true (by first | (with_reducible assumption) | assumption)
        have q212 : x5_1 < (l0.length : Int) := of_decide_eq_true (by first | (with_reducible assumption) | assumption)
        obtain ⟨ad212, e212, hx212_0⟩ := Kd.at_string HR0.out x5_1 p212 q212
        cases e212
        replace p212 := eq_true p212
        replace q212 := eq_true q212
        have p213 : 0 ≤ (x5_1 : Int) := of_decide_eq_true (by first | (with_reducible assumption) | assumption)
        have q213 : x5_1 < (l1.length : Int) := of_decide_eq_true (by first | (with_reducible assumption) | assumption)
        obtain ⟨ad213, e213, hx213_0⟩ := Kd.at_string HR1.out x5_1 p213 q213
        cases e213
        replace p213 := eq_true p213
        replace q213 := eq_true q213
        go_wp2
        repeat (go_quiet (fail); try go_wp2)
        go_ret
        exact ⟨by first | rfl | (simp; done) | (simp [*]; done), by repeat (first | exact Drawn0.refl _ | apply Drawn0.step)⟩
      ·rw [if_neg c6] at H
       exact absurd H (by simp)
     ·rw [if_neg c5] at H
      exact absurd H (by simp)
    ·rw [if_neg c4] at H
     have c4b0 : decide (x5_1 < (l0.length : Int)) = false := decide_eq_false c4
     clear c4
     obtain rfl := Option.some.inj H
     go_wp2
     repeat (go_quiet (fail); try go_wp2)
     go_ret
     exact ⟨by first | rfl | (simp; done) | (simp [*]; done), by repeat (first | exact Drawn0.refl _ | apply Drawn0.step)⟩
 ·rw [if_neg c3] at H
  have c3b0 : ((l0.length : Int) == (l1.length : Int)) = false := beq_eq_false_iff_ne.mpr c3
  have c3b1 : ((l0.length : Int) != (l1.length : Int)) = true := bne_iff_ne.mpr c3
  have c3b2 : (l0.length == l1.length) = false := by first | simpa using c3 | (simp at c3 ⊢; omega)
  obtain rfl := Option.some.inj H
  go_enter Try.func15, Try.ntmps15
  go_wp2
  repeat (go_quiet (fail); try go_wp2)
  go_ret
  exact ⟨by first | rfl | (simp; done) | (simp [*]; done), by repeat (first | exact Drawn0.refl _ | apply Drawn0.step)⟩

end Go.Proofs.Ytpcokafalmafgaa.Q

namespace Go.Proofs.Ytpcokafalmafgaa.Q
open Go.Proofs.Ytpcokafalmafgaa.H
open Go.RowKit Go.Proofs.YtpcokafalmafgaaW.PrintWords Go.Proofs.YtpcokafalmafgaaW.PrintLast Go.Proofs.YtpcokafalmafgaaW.PrintMore
attribute [local go_sem] max2_int min2_int max_two min_two max_three min_three max_four min_four   -- for this text's walks alone
set_option linter.unusedVariables false
set_option linter.unusedSimpArgs false

attribute [local go_sem high] eqA42
/-! ### nautilusref17_SameInodes: function 31 -/
def nautilusref17_SameInodes.l0 : Nat → List (S42) → List (S42) → Int → Option (Bool)
 | 0, _, _, _ => none
 | k + 1, x0, x1, x5 => if x5 < (x0.length : Int) then (if 0 ≤ x5 then (if x5 < (x1.length : Int) then (if (!(((rd_T42 x0 x5).f0) == ((rd_T42 x1 x5).f0)) || (!(((rd_T42 x0 x5).f1) == ((rd_T42 x1 x5).f1)) || (!(((rd_T42 x0 x5).f2) == ((rd_T42 x1 x5).f2)) || (!(((rd_T42 x0 x5).f3) == ((rd_T42 x1 x5).f3)) || (!(((rd_T42 x0 x5).f4) == ((rd_T42 x1 x5).f4)) || (!(((rd_T42 x0 x5).f5) == ((rd_T42 x1 x5).f5)) || ((!(((rd_T42 x0 x5).f6.f0) == ((rd_T42 x1 x5).f6.f0)) || (!(((rd_T42 x0 x5).f6.f1) == ((rd_T42 x1 x5).f6.f1)) || (!(((rd_T42 x0 x5).f6.f2) == ((rd_T42 x1 x5).f6.f2)) || (!(((rd_T42 x0 x5).f6.f3) == ((rd_T42 x1 x5).f6.f3)) || (!(((rd_T42 x0 x5).f6.f4) == ((rd_T42 x1 x5).f6.f4)) || (!(((rd_T42 x0 x5).f6.f5) == ((rd_T42 x1 x5).f6.f5))))))))))))))) = true then (some false) else (nautilusref17_SameInodes.l0 k x0 x1 (wrap64 (x5 + 1)))) else (none)) else (none)) else (some true)
def nautilusref17_SameInodes.f (k : Nat) (l0 : List (S42)) (l1 : List (S42)) : Option (Bool) := if (l0.length : Int) = (l1.length : Int) then (nautilusref17_SameInodes.l0 k l0 l1 0) else (some false)
theorem nautilusref17_SameInodes.mono_l : ∀ k, (∀ y0 y1 y2, LeO (nautilusref17_SameInodes.l0 k y0 y1 y2) (nautilusref17_SameInodes.l0 (k + 1) y0 y1 y2))
 | 0 => fun _ _ _ r h => by simp [nautilusref17_SameInodes.l0] at h
 | k + 1 => by
  have ih0 := nautilusref17_SameInodes.mono_l k
  ·intro y0 y1 y2
   unfold nautilusref17_SameInodes.l0
   repeat' first
   | (with_reducible exact ih0 _ _ _)
   | (with_reducible exact LeO.refl _)
   | (with_reducible exact LeO.none _)
   | (with_reducible refine LeO.ite ?_ ?_)
   | (with_reducible refine LeO.bind ?_ (fun _ => ?_))
   | exact ih0 _ _ _
   | exact LeO.none _
   | refine LeO.ite ?_ ?_
   | refine LeO.bind ?_ (fun _ => ?_)
theorem nautilusref17_SameInodes.mono : ∀ a0 a1 k, LeO (nautilusref17_SameInodes.f k a0 a1) (nautilusref17_SameInodes.f (k + 1) a0 a1) := by
 intro a0 a1 k
 have ih0 := nautilusref17_SameInodes.mono_l k
 unfold nautilusref17_SameInodes.f
 repeat' first
   | (with_reducible exact ih0 _ _ _)
   | (with_reducible exact LeO.refl _)
   | (with_reducible exact LeO.none _)
   | (with_reducible refine LeO.ite ?_ ?_)
   | (with_reducible refine LeO.bind ?_ (fun _ => ?_))
   | exact ih0 _ _ _
   | exact LeO.none _
   | refine LeO.ite ?_ ?_
   | refine LeO.bind ?_ (fun _ => ?_)
set_option maxHeartbeats 8000000 in
set_option maxRecDepth 100000 in
theorem nautilusref17_SameInodes.calls (k : Nat) (A0 : Option Addr) (c0 : Nat) (l0 : List (S42)) (A1 : Option Addr) (c1 : Nat) (l1 : List (S42)) (r : Bool) (w : World) (hr0 : Kd.C k42 w A0 l0.length l0) (hc0 : l0.length ≤ c0) (hr1 : Kd.C k42 w A1 l1.length l1) (hc1 : l1.length ≤ c1) (h : nautilusref17_SameInodes.f k l0 l1 = some r) :
  Calls Try.prog 31 #[.slice A0 l0.length c0, .slice A1 l1.length c1] w fun e w' => e = .returned (.bool r) ∧ Drawn0 w w' := by
 have hu42 := Try.underlying42
 have HR0 := Aside0.mk hr0
 have HC0 := Aside0.mk hc0
 clear hr0 hc0
 have HR1 := Aside0.mk hr1
 have HC1 := Aside0.mk hc1
 clear hr1 hc1
 have H : (if (l0.length : Int) = (l1.length : Int) then (nautilusref17_SameInodes.l0 k l0 l1 0) else (some false)) = some r := h
 clear h
 by_cases c3 : (l0.length : Int) = (l1.length : Int)
 ·rw [if_pos c3] at H
  have c3b0 : ((l0.length : Int) == (l1.length : Int)) = true := beq_iff_eq.mpr c3
  have c3b1 : ((l0.length : Int) != (l1.length : Int)) = false := bne_eq_false_iff_eq.mpr c3
  have c3b2 : (l0.length == l1.length) = true := by first | simpa using c3 | (simp at c3 ⊢; omega)
  clear c3
  have H' := Aside0.mk H
  clear H
  go_enter Try.func31, Try.ntmps31
  go_wp2
  repeat (go_quiet (fail); try go_wp2)
  go_loopg [5] k (fun kq v5 w' => ∃ (x5_1 : Int), v5 = .int .i64 x5_1 ∧ Aside0 (nautilusref17_SameInodes.l0 kq l0 l1 x5_1 = some r) ∧ Aside0 (kq ≤ k) ∧ Drawn0 w w')
  case atStart => exact ⟨(0), (by first | rfl | (simp; done) | (simp [*]; done)), H', ⟨Nat.le_refl _⟩, by repeat (first | exact Drawn0.refl _ | apply Drawn0.step)⟩
  case round =>
   clear H'
   try clear c1
   try clear p2
   try clear c3
   try clear c3b0
   try clear c3b1
   try clear c3b2
   obtain ⟨x5_1, rfl, HA, HK1, ⟨m1, rfl⟩⟩ := hrel
   cases gk with
   | zero => exact absurd HA.out (by simp [nautilusref17_SameInodes.l0])
   | succ k1 =>
    have H := HA.out
    clear HA
    simp only [nautilusref17_SameInodes.l0] at H
    by_cases c4 : x5_1 < (l0.length : Int)
    ·rw [if_pos c4] at H
     have c4b0 : decide (x5_1 < (l0.length : Int)) = true := decide_eq_true c4
     clear c4
     by_cases c5 : 0 ≤ x5_1
     ·rw [if_pos c5] at H
      have c5b0 : decide (0 ≤ x5_1) = true := decide_eq_true c5
      clear c5
      by_cases c6 : x5_1 < (l1.length : Int)
      ·rw [if_pos c6] at H
       have c6b0 : decide (x5_1 < (l1.length : Int)) = true := decide_eq_true c6
       clear c6
       by_cases c7 : (!(((rd_T42 l0 x5_1).f0) == ((rd_T42 l1 x5_1).f0)) || (!(((rd_T42 l0 x5_1).f1) == ((rd_T42 l1 x5_1).f1)) || (!(((rd_T42 l0 x5_1).f2) == ((rd_T42 l1 x5_1).f2)) || (!(((rd_T42 l0 x5_1).f3) == ((rd_T42 l1 x5_1).f3)) || (!(((rd_T42 l0 x5_1).f4) == ((rd_T42 l1 x5_1).f4)) || (!(((rd_T42 l0 x5_1).f5) == ((rd_T42 l1 x5_1).f5)) || ((!(((rd_T42 l0 x5_1).f6.f0) == ((rd_T42 l1 x5_1).f6.f0)) || (!(((rd_T42 l0 x5_1).f6.f1) == ((rd_T42 l1 x5_1).f6.f1)) || (!(((rd_T42 l0 x5_1).f6.f2) == ((rd_T42 l1 x5_1).f6.f2)) || (!(((rd_T42 l0 x5_1).f6.f3) == ((rd_T42 l1 x5_1).f6.f3)) || (!(((rd_T42 l0 x5_1).f6.f4) == ((rd_T42 l1 x5_1).f6.f4)) || (!(((rd_T42 l0 x5_1).f6.f5) == ((rd_T42 l1 x5_1).f6.f5))))))))))))))) = true
       ·rw [if_pos c7] at H
        have c7b0 : (!(((rd_T42 l0 x5_1).f0) == ((rd_T42 l1 x5_1).f0)) || (!(((rd_T42 l0 x5_1).f1) == ((rd_T42 l1 x5_1).f1)) || (!(((rd_T42 l0 x5_1).f2) == ((rd_T42 l1 x5_1).f2)) || (!(((rd_T42 l0 x5_1).f3) == ((rd_T42 l1 x5_1).f3)) || (!(((rd_T42 l0 x5_1).f4) == ((rd_T42 l1 x5_1).f4)) || (!(((rd_T42 l0 x5_1).f5) == ((rd_T42 l1 x5_1).f5)) || ((!(((rd_T42 l0 x5_1).f6.f0) == ((rd_T42 l1 x5_1).f6.f0)) || (!(((rd_T42 l0 x5_1).f6.f1) == ((rd_T42 l1 x5_1).f6.f1)) || (!(((rd_T42 l0 x5_1).f6.f2) == ((rd_T42 l1 x5_1).f6.f2)) || (!(((rd_T42 l0 x5_1).f6.f3) == ((rd_T42 l1 x5_1).f6.f3)) || (!(((rd_T42 l0 x5_1).f6.f4) == ((rd_T42 l1 x5_1).f6.f4)) || (!(((rd_T42 l0 x5_1).f6.f5) == ((rd_T42 l1 x5_1).f6.f5))))))))))))))) = true := c7
        clear c7
        obtain rfl := Option.some.inj H
        have p320 : 0 ≤ (x5_1 : Int) := of_decide_eq_true (by first | (with_reducible assumption) | assumption)
        have q320 : x5_1 < (l0.length : Int) := of_decide_eq_true (by first | (with_reducible assumption) | assumption)
        obtain ⟨ad320, e320, hx320_0, hx320_1, hx320_2, hx320_3, hx320_4, hx320_5, hx320_6, hx320_7, hx320_8, hx320_9, hx320_10, hx320_11⟩ := at_T42 HR0.out x5_1 p320 q320
        cases e320
        replace p320 := eq_true p320
        replace q320 := eq_true q320
        have p321 : 0 ≤ (x5_1 : Int) := of_decide_eq_true (by first | (with_reducible assumption) | assumption)
        have q321 : x5_1 < (l1.length : Int) := of_decide_eq_true (by first | (with_reducible assumption) | assumption)
        obtain ⟨ad321, e321, hx321_0, hx321_1, hx321_2, hx321_3, hx321_4, hx321_5, hx321_6, hx321_7, hx321_8, hx321_9, hx321_10, hx321_11⟩ := at_T42 HR1.out x5_1 p321 q321
        cases e321
        replace p321 := eq_true p321
        replace q321 := eq_true q321
        go_wp2
        repeat (go_quiet (fail); try go_wp2)
        go_ret
        exact ⟨by first | rfl | (simp; done) | (simp [*]; done), by repeat (first | exact Drawn0.refl _ | apply Drawn0.step)⟩
       ·rw [if_neg c7] at H
        have c7b0 : (!(((rd_T42 l0 x5_1).f0) == ((rd_T42 l1 x5_1).f0)) || (!(((rd_T42 l0 x5_1).f1) == ((rd_T42 l1 x5_1).f1)) || (!(((rd_T42 l0 x5_1).f2) == ((rd_T42 l1 x5_1).f2)) || (!(((rd_T42 l0 x5_1).f3) == ((rd_T42 l1 x5_1).f3)) || (!(((rd_T42 l0 x5_1).f4) == ((rd_T42 l1 x5_1).f4)) || (!(((rd_T42 l0 x5_1).f5) == ((rd_T42 l1 x5_1).f5)) || ((!(((rd_T42 l0 x5_1).f6.f0) == ((rd_T42 l1 x5_1).f6.f0)) || (!(((rd_T42 l0 x5_1).f6.f1) == ((rd_T42 l1 x5_1).f6.f1)) || (!(((rd_T42 l0 x5_1).f6.f2) == ((rd_T42 l1 x5_1).f6.f2)) || (!(((rd_T42 l0 x5_1).f6.f3) == ((rd_T42 l1 x5_1).f6.f3)) || (!(((rd_T42 l0 x5_1).f6.f4) == ((rd_T42 l1 x5_1).f6.f4)) || (!(((rd_T42 l0 x5_1).f6.f5) == ((rd_T42 l1 x5_1).f6.f5))))))))))))))) = false := by simpa using c7
        clear c7
        have H' := Aside0.mk H
        clear H
        have p320 : 0 ≤ (x5_1 : Int) := of_decide_eq_true (by first | (with_reducible assumption) | assumption)
        have q320 : x5_1 < (l0.length : Int) := of_decide_eq_true (by first | (with_reducible assumption) | assumption)
        obtain ⟨ad320, e320, hx320_0, hx320_1, hx320_2, hx320_3, hx320_4, hx320_5, hx320_6, hx320_7, hx320_8, hx320_9, hx320_10, hx320_11⟩ := at_T42 HR0.out x5_1 p320 q320
        cases e320
        replace p320 := eq_true p320
        replace q320 := eq_true q320
        have p321 : 0 ≤ (x5_1 : Int) := of_decide_eq_true (by first | (with_reducible assumption) | assumption)
        have q321 : x5_1 < (l1.length : Int) := of_decide_eq_true (by first | (with_reducible assumption) | assumption)
        obtain ⟨ad321, e321, hx321_0, hx321_1, hx321_2, hx321_3, hx321_4, hx321_5, hx321_6, hx321_7, hx321_8, hx321_9, hx321_10, hx321_11⟩ := at_T42 HR1.out x5_1 p321 q321
        cases e321
        replace p321 := eq_true p321
        replace q321 := eq_true q321
        go_wp2
        repeat (go_quiet (fail); try go_wp2)
        go_roundg k1
        case measure => have := HK1.out; omega
        case rel => exact ⟨(wrap64 (x5_1 + 1)), (by first | rfl | (simp; done) | (simp [*]; done)), H', ⟨by have := HK1.out; omega⟩, by repeat (first | exact Drawn0.refl _ | apply Drawn0.step)⟩
      ·rw [if_neg c6] at H
       exact absurd H (by simp)
     ·rw [if_neg c5] at H
      exact absurd H (by simp)
    ·rw [if_neg c4] at H
     have c4b0 : decide (x5_1 < (l0.length : Int)) = false := decide_eq_false c4
     clear c4
     obtain rfl := Option.some.inj H
     go_wp2
     repeat (go_quiet (fail); try go_wp2)
     go_ret
     exact ⟨by first | rfl | (simp; done) | (simp [*]; done), by repeat (first | exact Drawn0.refl _ | apply Drawn0.step)⟩
 ·rw [if_neg c3] at H
  have c3b0 : ((l0.length : Int) == (l1.length : Int)) = false := beq_eq_false_iff_ne.mpr c3
  have c3b1 : ((l0.length : Int) != (l1.length : Int)) = true := bne_iff_ne.mpr c3
  have c3b2 : (l0.length == l1.length) = false := by first | simpa using c3 | (simp at c3 ⊢; omega)
  obtain rfl := Option.some.inj H
  go_enter Try.func31, Try.ntmps31
  go_wp2
  repeat (go_quiet (fail); try go_wp2)
  go_ret
  exact ⟨by first | rfl | (simp; done) | (simp [*]; done), by repeat (first | exact Drawn0.refl _ | apply Drawn0.step)⟩

end Go.Proofs.Ytpcokafalmafgaa.Q

namespace Go.Proofs.Ytpcokafalmafgaa.Q
open Go.Proofs.Ytpcokafalmafgaa.H
open Go.RowKit Go.Proofs.YtpcokafalmafgaaW.PrintWords Go.Proofs.YtpcokafalmafgaaW.PrintLast Go.Proofs.YtpcokafalmafgaaW.PrintMore
attribute [local go_sem] max2_int min2_int max_two min_two max_three min_three max_four min_four   -- for this text's walks alone
set_option linter.unusedVariables false
set_option linter.unusedSimpArgs false

/-! ### nautiluslaw17_VolTables: function 8 -/
def nautiluslaw17_VolTables.f (k : Nat) (l0 : List (S42)) (l1 : List ByteArray) : Option (Bool) := (nautiluslaw17_shown.f k).bind fun t322 => (if 0 ≤ (mn (l0.length : Int) 250) then (if (mn (l0.length : Int) 250) ≤ (l0.length : Int) then ((some (l0.take ((mn (l0.length : Int) 250) : Int).toNat : List (S42))).bind fun y323 => (if 0 ≤ (mn (l1.length : Int) 30) then (if (mn (l1.length : Int) 30) ≤ (l1.length : Int) then ((vol_Table.f k y323).bind fun bt328 => ((nautilusref17_Table.f k y323).bind fun bt332 => ((vol_Inodes.f k (l1.take ((mn (l1.length : Int) 30) : Int).toNat)).bind fun bt336 => ((nautilusref17_Inodes.f k (l1.take ((mn (l1.length : Int) 30) : Int).toNat)).bind fun bt340 => (if t322 = true then ((nautilusref17_SameTexts.f k bt328.1 bt332.1).bind fun t344 => (if t344 = true then (if bt328.2 = bt332.2 then ((nautilusref17_SameInodes.f k bt336.1 bt340.1).bind fun t345 => (if t345 = true then (some (bt336.2 == bt340.2)) else (none))) else (none)) else (none))) else (none)))))) else (none)) else (none))) else (none)) else (none))
theorem nautiluslaw17_VolTables.mono : ∀ a0 a1 k, LeO (nautiluslaw17_VolTables.f k a0 a1) (nautiluslaw17_VolTables.f (k + 1) a0 a1) := by
 intro a0 a1 k
 unfold nautiluslaw17_VolTables.f
 repeat' first
   | (with_reducible exact nautiluslaw17_shown.mono _)
   | (with_reducible exact nautilusref17_Inodes.mono _ _)
   | (with_reducible exact nautilusref17_SameInodes.mono _ _ _)
   | (with_reducible exact nautilusref17_SameTexts.mono _ _ _)
   | (with_reducible exact nautilusref17_Table.mono _ _)
   | (with_reducible exact vol_Inodes.mono _ _)
   | (with_reducible exact vol_Table.mono _ _)
   | (with_reducible exact LeO.refl _)
   | (with_reducible exact LeO.none _)
   | (with_reducible refine LeO.ite ?_ ?_)
   | (with_reducible refine LeO.bind ?_ (fun _ => ?_))
   | exact nautiluslaw17_shown.mono _
   | exact nautilusref17_Inodes.mono _ _
   | exact nautilusref17_SameInodes.mono _ _ _
   | exact nautilusref17_SameTexts.mono _ _ _
   | exact nautilusref17_Table.mono _ _
   | exact vol_Inodes.mono _ _
   | exact vol_Table.mono _ _
   | exact LeO.none _
   | refine LeO.ite ?_ ?_
   | refine LeO.bind ?_ (fun _ => ?_)
set_option maxHeartbeats 8000000 in
set_option maxRecDepth 100000 in
theorem nautiluslaw17_VolTables.calls (k : Nat) (A0 : Option Addr) (c0 : Nat) (l0 : List (S42)) (A1 : Option Addr) (c1 : Nat) (l1 : List ByteArray) (r : Bool) (w : World) (hr0 : Kd.C k42 w A0 l0.length l0) (hc0 : l0.length ≤ c0) (hr1 : Kd.C Kd.string w A1 l1.length l1) (hc1 : l1.length ≤ c1) (h : nautiluslaw17_VolTables.f k l0 l1 = some r) :
  Calls Try.prog 8 #[.slice A0 l0.length c0, .slice A1 l1.length c1] w fun e w' => e = .returned (.bool r) ∧ Below w.heap.size w w' := by
 have HR0 := Aside0.mk hr0
 have HC0 := Aside0.mk hc0
 clear hr0 hc0
 have HR1 := Aside0.mk hr1
 have HC1 := Aside0.mk hc1
 clear hr1 hc1
 have HB := Aside0.mk (Below.refl w.heap.size w)
 have H : ((nautiluslaw17_shown.f k).bind fun t322 => (if 0 ≤ (mn (l0.length : Int) 250) then (if (mn (l0.length : Int) 250) ≤ (l0.length : Int) then ((some (l0.take ((mn (l0.length : Int) 250) : Int).toNat : List (S42))).bind fun y323 => (if 0 ≤ (mn (l1.length : Int) 30) then (if (mn (l1.length : Int) 30) ≤ (l1.length : Int) then ((vol_Table.f k y323).bind fun bt328 => ((nautilusref17_Table.f k y323).bind fun bt332 => ((vol_Inodes.f k (l1.take ((mn (l1.length : Int) 30) : Int).toNat)).bind fun bt336 => ((nautilusref17_Inodes.f k (l1.take ((mn (l1.length : Int) 30) : Int).toNat)).bind fun bt340 => (if t322 = true then ((nautilusref17_SameTexts.f k bt328.1 bt332.1).bind fun t344 => (if t344 = true then (if bt328.2 = bt332.2 then ((nautilusref17_SameInodes.f k bt336.1 bt340.1).bind fun t345 => (if t345 = true then (some (bt336.2 == bt340.2)) else (none))) else (none)) else (none))) else (none)))))) else (none)) else (none))) else (none)) else (none))) = some r := h
 clear h
 replace H := Option.bind_eq_some_iff.mp H
 obtain ⟨t322, A30, H⟩ := H
 replace H : (if 0 ≤ (mn (l0.length : Int) 250) then (if (mn (l0.length : Int) 250) ≤ (l0.length : Int) then ((some (l0.take ((mn (l0.length : Int) 250) : Int).toNat : List (S42))).bind fun y323 => (if 0 ≤ (mn (l1.length : Int) 30) then (if (mn (l1.length : Int) 30) ≤ (l1.length : Int) then ((vol_Table.f k y323).bind fun bt328 => ((nautilusref17_Table.f k y323).bind fun bt332 => ((vol_Inodes.f k (l1.take ((mn (l1.length : Int) 30) : Int).toNat)).bind fun bt336 => ((nautilusref17_Inodes.f k (l1.take ((mn (l1.length : Int) 30) : Int).toNat)).bind fun bt340 => (if t322 = true then ((nautilusref17_SameTexts.f k bt328.1 bt332.1).bind fun t344 => (if t344 = true then (if bt328.2 = bt332.2 then ((nautilusref17_SameInodes.f k bt336.1 bt340.1).bind fun t345 => (if t345 = true then (some (bt336.2 == bt340.2)) else (none))) else (none)) else (none))) else (none)))))) else (none)) else (none))) else (none)) else (none)) = some r := H
 have A3 := Aside0.mk A30
 clear A30
 obtain ⟨ji4, hji4⟩ : ∃ j_ : Int, (mn (l0.length : Int) 250) = j_ := ⟨_, rfl⟩
 replace H : (if 0 ≤ (ji4) then (if (ji4) ≤ (l0.length : Int) then ((some (l0.take ((ji4) : Int).toNat : List (S42))).bind fun y323 => (if 0 ≤ (mn (l1.length : Int) 30) then (if (mn (l1.length : Int) 30) ≤ (l1.length : Int) then ((vol_Table.f k y323).bind fun bt328 => ((nautilusref17_Table.f k y323).bind fun bt332 => ((vol_Inodes.f k (l1.take ((mn (l1.length : Int) 30) : Int).toNat)).bind fun bt336 => ((nautilusref17_Inodes.f k (l1.take ((mn (l1.length : Int) 30) : Int).toNat)).bind fun bt340 => (if t322 = true then ((nautilusref17_SameTexts.f k bt328.1 bt332.1).bind fun t344 => (if t344 = true then (if bt328.2 = bt332.2 then ((nautilusref17_SameInodes.f k bt336.1 bt340.1).bind fun t345 => (if t345 = true then (some (bt336.2 == bt340.2)) else (none))) else (none)) else (none))) else (none)))))) else (none)) else (none))) else (none)) else (none)) = some r := by first | (rw [hji4] at H; exact H) | (simp only [hji4] at H ⊢; exact H)
 (try rw [hji4] at A3)
 (try (have hji4h : ji4 ≤ 250 := by (rw [← hji4]; unfold mn; (repeat' split) <;> omega)))
 (try (have hji4g : ji4 ≤ 64 := by omega))
 (try (have hji4l : 0 ≤ ji4 := by (rw [← hji4]; unfold mn; (repeat' split) <;> omega)))
 (try (have hji4m : 0 ≤ ji4 := by omega))
 have hji4_ : (if 250 < (l0.length : Int) then 250 else (l0.length : Int)) = ji4 := hji4
 by_cases c5 : 0 ≤ (ji4)
 ·rw [if_pos c5] at H
  have c5b0 := eq_true c5
  have c5b1 : decide (0 ≤ (ji4)) = true := decide_eq_true c5
  clear c5
  by_cases c6 : (ji4) ≤ (l0.length : Int)
  ·rw [if_pos c6] at H
   have c6b0 := eq_true c6
   have c6b1 : decide ((ji4) ≤ (l0.length : Int)) = true := decide_eq_true c6
   clear c6
   obtain ⟨y323, hy323⟩ : ∃ y_ : List (S42), y_ = (l0.take ((ji4) : Int).toNat) := ⟨_, rfl⟩
   replace H : (if 0 ≤ (mn (l1.length : Int) 30) then (if (mn (l1.length : Int) 30) ≤ (l1.length : Int) then ((vol_Table.f k y323).bind fun bt328 => ((nautilusref17_Table.f k y323).bind fun bt332 => ((vol_Inodes.f k (l1.take ((mn (l1.length : Int) 30) : Int).toNat)).bind fun bt336 => ((nautilusref17_Inodes.f k (l1.take ((mn (l1.length : Int) 30) : Int).toNat)).bind fun bt340 => (if t322 = true then ((nautilusref17_SameTexts.f k bt328.1 bt332.1).bind fun t344 => (if t344 = true then (if bt328.2 = bt332.2 then ((nautilusref17_SameInodes.f k bt336.1 bt340.1).bind fun t345 => (if t345 = true then (some (bt336.2 == bt340.2)) else (none))) else (none)) else (none))) else (none)))))) else (none)) else (none)) = some r := by first | (rw [hy323]; with_reducible exact H) | (have H2_ := (Option.bind_some _ _).symm.trans H; rw [hy323]; with_reducible exact H2_) | (have H2_ := (Option.bind_some _ _).symm.trans H; with_reducible exact H2_) | with_reducible exact H | (rw [hy323]; exact H) | exact H
   have Ny323 := Aside0.mk hy323
   clear hy323
   obtain ⟨ji7, hji7⟩ : ∃ j_ : Int, (mn (l1.length : Int) 30) = j_ := ⟨_, rfl⟩
   replace H : (if 0 ≤ (ji7) then (if (ji7) ≤ (l1.length : Int) then ((vol_Table.f k y323).bind fun bt328 => ((nautilusref17_Table.f k y323).bind fun bt332 => ((vol_Inodes.f k (l1.take ((ji7) : Int).toNat)).bind fun bt336 => ((nautilusref17_Inodes.f k (l1.take ((ji7) : Int).toNat)).bind fun bt340 => (if t322 = true then ((nautilusref17_SameTexts.f k bt328.1 bt332.1).bind fun t344 => (if t344 = true then (if bt328.2 = bt332.2 then ((nautilusref17_SameInodes.f k bt336.1 bt340.1).bind fun t345 => (if t345 = true then (some (bt336.2 == bt340.2)) else (none))) else (none)) else (none))) else (none)))))) else (none)) else (none)) = some r := by first | (rw [hji7] at H; exact H) | (simp only [hji7] at H ⊢; exact H)
   (try rw [hji7] at A3)
   (try (have hji7h : ji7 ≤ 30 := by (rw [← hji7]; unfold mn; (repeat' split) <;> omega)))
   (try (have hji7g : ji7 ≤ 64 := by omega))
   (try (have hji7l : 0 ≤ ji7 := by (rw [← hji7]; unfold mn; (repeat' split) <;> omega)))
   (try (have hji7m : 0 ≤ ji7 := by omega))
   have hji7_ : (if 30 < (l1.length : Int) then 30 else (l1.length : Int)) = ji7 := hji7
   by_cases c8 : 0 ≤ (ji7)
   ·rw [if_pos c8] at H
    have c8b0 := eq_true c8
    have c8b1 : decide (0 ≤ (ji7)) = true := decide_eq_true c8
    clear c8
    by_cases c9 : (ji7) ≤ (l1.length : Int)
    ·rw [if_pos c9] at H
     have c9b0 := eq_true c9
     have c9b1 : decide ((ji7) ≤ (l1.length : Int)) = true := decide_eq_true c9
     clear c9
     replace H := Option.bind_eq_some_iff.mp H
     obtain ⟨⟨t328, t329⟩, A100, H⟩ := H
     replace H : ((nautilusref17_Table.f k y323).bind fun bt332 => ((vol_Inodes.f k (l1.take ((ji7) : Int).toNat)).bind fun bt336 => ((nautilusref17_Inodes.f k (l1.take ((ji7) : Int).toNat)).bind fun bt340 => (if t322 = true then ((nautilusref17_SameTexts.f k t328 bt332.1).bind fun t344 => (if t344 = true then (if t329 = bt332.2 then ((nautilusref17_SameInodes.f k bt336.1 bt340.1).bind fun t345 => (if t345 = true then (some (bt336.2 == bt340.2)) else (none))) else (none)) else (none))) else (none))))) = some r := H
     have A10 := Aside0.mk A100
     clear A100
     replace H := Option.bind_eq_some_iff.mp H
     obtain ⟨⟨t332, t333⟩, A110, H⟩ := H
     replace H : ((vol_Inodes.f k (l1.take ((ji7) : Int).toNat)).bind fun bt336 => ((nautilusref17_Inodes.f k (l1.take ((ji7) : Int).toNat)).bind fun bt340 => (if t322 = true then ((nautilusref17_SameTexts.f k t328 t332).bind fun t344 => (if t344 = true then (if t329 = t333 then ((nautilusref17_SameInodes.f k bt336.1 bt340.1).bind fun t345 => (if t345 = true then (some (bt336.2 == bt340.2)) else (none))) else (none)) else (none))) else (none)))) = some r := H
     have A11 := Aside0.mk A110
     clear A110
     replace H := Option.bind_eq_some_iff.mp H
     obtain ⟨⟨t336, t337⟩, A120, H⟩ := H
     replace H : ((nautilusref17_Inodes.f k (l1.take ((ji7) : Int).toNat)).bind fun bt340 => (if t322 = true then ((nautilusref17_SameTexts.f k t328 t332).bind fun t344 => (if t344 = true then (if t329 = t333 then ((nautilusref17_SameInodes.f k t336 bt340.1).bind fun t345 => (if t345 = true then (some (t337 == bt340.2)) else (none))) else (none)) else (none))) else (none))) = some r := H
     have A12 := Aside0.mk A120
     clear A120
     replace H := Option.bind_eq_some_iff.mp H
     obtain ⟨⟨t340, t341⟩, A130, H⟩ := H
     replace H : (if t322 = true then ((nautilusref17_SameTexts.f k t328 t332).bind fun t344 => (if t344 = true then (if t329 = t333 then ((nautilusref17_SameInodes.f k t336 t340).bind fun t345 => (if t345 = true then (some (t337 == t341)) else (none))) else (none)) else (none))) else (none)) = some r := H
     have A13 := Aside0.mk A130
     clear A130
     by_cases c14 : t322 = true
     ·subst c14
      have H1 : ((nautilusref17_SameTexts.f k t328 t332).bind fun t344 => (if t344 = true then (if t329 = t333 then ((nautilusref17_SameInodes.f k t336 t340).bind fun t345 => (if t345 = true then (some (t337 == t341)) else (none))) else (none)) else (none))) = some r := by rw [if_pos rfl] at H; exact H
      clear H
      have H := H1
      clear H1
      replace H := Option.bind_eq_some_iff.mp H
      obtain ⟨t344, A150, H⟩ := H
      replace H : (if t344 = true then (if t329 = t333 then ((nautilusref17_SameInodes.f k t336 t340).bind fun t345 => (if t345 = true then (some (t337 == t341)) else (none))) else (none)) else (none)) = some r := H
      have A15 := Aside0.mk A150
      clear A150
      by_cases c16 : t344 = true
      ·subst c16
       have H1 : (if t329 = t333 then ((nautilusref17_SameInodes.f k t336 t340).bind fun t345 => (if t345 = true then (some (t337 == t341)) else (none))) else (none)) = some r := by rw [if_pos rfl] at H; exact H
       clear H
       have H := H1
       clear H1
       by_cases c17 : t329 = t333
       ·rw [if_pos c17] at H
        have c17b0 : (t329 == t333) = true := beq_iff_eq.mpr c17
        have c17b1 : (t329 != t333) = false := bne_eq_false_iff_eq.mpr c17
        clear c17
        replace H := Option.bind_eq_some_iff.mp H
        obtain ⟨t345, A180, H⟩ := H
        replace H : (if t345 = true then (some (t337 == t341)) else (none)) = some r := H
        have A18 := Aside0.mk A180
        clear A180
        by_cases c19 : t345 = true
        ·subst c19
         have H1 : (some (t337 == t341)) = some r := by rw [if_pos rfl] at H; exact H
         clear H
         have H := H1
         clear H1
         obtain rfl := Option.some.inj H
         go_enter Try.func8, Try.ntmps8
         go_wp2_with (first | ((with_reducible refine gate_callee (f := 10) rfl ?_); refine goesL_ (some 14) rfl rfl Try.func10 (by kernel_rfl) rfl #[] rfl (by (try simp only [List.map_toArray, List.map_cons, List.map_nil]); first | done | rfl | (simp only [List.length_drop, List.length_take]; rfl)) ?_; (with_reducible refine (nautiluslaw17_shown.calls k  true _ A3.out).mono ?_); rintro e w20 ⟨rfl, hb⟩; refine ⟨_, rfl, ?_⟩; have n0_ := Aside0.mk (below_step (by repeat (first | (with_reducible first | exact HB.out | apply below_alloc | apply pw_below_drewN | apply below_drew1) | exact HB.out)) hb); clear HB; have HB := n0_; clear n0_; (try clear hb); (try clear hb2); (try clear hk); (try clear hi); have q21 : ((ji4) : Int) ≤ ((l0.length : Int) : Int) := of_decide_eq_true (by first | (with_reducible assumption) | assumption); obtain ⟨i021, hi021, _, hsz21, _⟩ := info_parts info42; have hroom21 : l0.length ≤ c0 := HC0.out; have hC21 : Kd.C k42 _ A0 l0.length l0 := HR0.out; have hcut21 := cut_to (P := Try.prog) 54 42 .i64 Try.underlying54 hi021 A0 l0.length c0 (ji4) (of_decide_eq_true (by first | (with_reducible assumption) | assumption)) q21 hroom21; have hr21 := Kd.C_take (m := ((ji4) : Int).toNat) hC21 (by omega); have hy21 : y323.length = ((ji4) : Int).toNat := (by rw [Ny323.out, List.length_take]; omega); rw [← Ny323.out] at hr21; rw [← hy21] at hcut21; have HR326 := Aside0.mk hr21; have HC326 := Aside0.mk (show y323.length ≤ c0 from by omega); clear hr21 hC21 hroom21 hi021 hsz21; have KY21 := Aside0.mk hy21; clear hy21; replace q21 := eq_true q21; obtain ⟨i022, hi022, _, hsz22, _⟩ := info_parts info9; obtain ⟨hcut22, hA22, hC22⟩ := print_take_of (P := Try.prog) Value.string (⟨#[]⟩ : ByteArray) 29 9 .i64 Try.underlying29 hi022 hsz22 A1 c1 l1 (ji7) (of_decide_eq_true (by first | (with_reducible assumption) | assumption)) (of_decide_eq_true (by first | (with_reducible assumption) | assumption)) HC1.out; have HR327 := Aside0.mk (Kd.C_of_reads (h1 := fun _ => rfl) (hA22 _ (Kd.reads_of_C HR1.out))); have HC327 := Aside0.mk hC22; clear hA22 hC22 hi022 hsz22) | ((with_reducible refine gate_callee (f := 27) rfl ?_); refine goesL_ (some 27) rfl rfl Try.func27 (by kernel_rfl) rfl #[.slice A0 y323.length c0] rfl (by (try simp only [List.map_toArray, List.map_cons, List.map_nil]); first | done | rfl | (simp only [List.length_drop, List.length_take]; rfl)) ?_; (with_reducible refine (vol_Table.calls k _ _ y323 t328 t329 _ ?side1 ?side2 A10.out).mono ?_); (case side1 => repeat (first | exact (Kd.C_below HR326.out HB.out) | (with_reducible refine Kd.C_alloc ?_ _) | (with_reducible refine Kd.C_drewN ?_ _) | (with_reducible refine Kd.C_drew ?_))); (case side2 => exact HC326.out); rintro e w23 ⟨v330, rfl, ho0, hb⟩; refine ⟨_, rfl, ?_⟩; have n0_ := Aside0.mk (Kd.R_lower ho0 (below_size (by repeat (first | (with_reducible first | exact HB.out | apply below_alloc | apply pw_below_drewN | apply below_drew1) | exact HB.out)))); have n1_ := Aside0.mk (below_step (by repeat (first | (with_reducible first | exact HB.out | apply below_alloc | apply pw_below_drewN | apply below_drew1) | exact HB.out)) hb); clear HB; have HO331 := n0_; have HB := n1_; clear n0_ n1_; (try clear hb); (try clear hb2); (try clear hk); (try clear hi); (try clear ho0)) | ((with_reducible refine gate_callee (f := 28) rfl ?_); refine goesL_ (some 32) rfl rfl Try.func28 (by kernel_rfl) rfl #[.slice A0 y323.length c0] rfl (by (try simp only [List.map_toArray, List.map_cons, List.map_nil]); first | done | rfl | (simp only [List.length_drop, List.length_take]; rfl)) ?_; (with_reducible refine (nautilusref17_Table.calls k _ _ y323 t332 t333 _ ?side1 ?side2 A11.out).mono ?_); (case side1 => repeat (first | exact (Kd.C_below HR326.out HB.out) | (with_reducible refine Kd.C_alloc ?_ _) | (with_reducible refine Kd.C_drewN ?_ _) | (with_reducible refine Kd.C_drew ?_))); (case side2 => exact HC326.out); rintro e w24 ⟨v334, rfl, ho0, hb⟩; refine ⟨_, rfl, ?_⟩; have n0_ := Aside0.mk (Kd.R_elder' (by (with_reducible repeat (first | apply Kd.R_alloc | apply Kd.R_drewN | apply Kd.R_drew)); exact HO331.out) (Kd.R_base ho0) hb); have n1_ := Aside0.mk (Kd.R_lower (Kd.R_new' ho0 (Kd.R_lt (by (with_reducible repeat (first | apply Kd.R_alloc | apply Kd.R_drewN | apply Kd.R_drew)); exact HO331.out))) (below_size (by repeat (first | (with_reducible first | exact HB.out | apply below_alloc | apply pw_below_drewN | apply below_drew1) | exact HB.out)))); have n2_ := Aside0.mk (below_step (by repeat (first | (with_reducible first | exact HB.out | apply below_alloc | apply pw_below_drewN | apply below_drew1) | exact HB.out)) hb); clear HO331; clear HB; have HO331 := n0_; have HO335 := n1_; have HB := n2_; clear n0_ n1_ n2_; (try clear hb); (try clear hb2); (try clear hk); (try clear hi); (try clear ho0)) | ((with_reducible refine gate_callee (f := 29) rfl ?_); refine goesL_ (some 37) rfl rfl Try.func29 (by kernel_rfl) rfl #[.slice A1 (l1.take ((ji7) : Int).toNat).length c1] rfl (by (try simp only [List.map_toArray, List.map_cons, List.map_nil]); first | done | (rw [show (l1.take ((ji7) : Int).toNat).length = (ji7).toNat from (by rw [List.length_take]; have h_ : ((ji7) : Int) ≤ (l1.length : Int) := (by first | (exact of_decide_eq_true (by with_reducible assumption)) | (rw [← hji7]; unfold mn; (repeat' split) <;> omega) | exact of_decide_eq_true (by assumption)); omega)] <;> rfl) | (simp only [hji7]; rfl) | rfl | (simp only [List.length_drop, List.length_take]; rfl)) ?_; (with_reducible refine (vol_Inodes.calls k _ _ (l1.take ((ji7) : Int).toNat) t336 t337 _ ?side1 ?side2 A12.out).mono ?_); (case side1 => repeat (first | exact (Kd.C_below HR327.out HB.out) | (with_reducible refine Kd.C_alloc ?_ _) | (with_reducible refine Kd.C_drewN ?_ _) | (with_reducible refine Kd.C_drew ?_))); (case side2 => exact HC327.out); rintro e w25 ⟨v338, rfl, ho0, hb⟩; refine ⟨_, rfl, ?_⟩; have n0_ := Aside0.mk (Kd.R_below (by (with_reducible repeat (first | apply Kd.R_alloc | apply Kd.R_drewN | apply Kd.R_drew)); exact HO331.out) hb); have n1_ := Aside0.mk (Kd.R_below (by (with_reducible repeat (first | apply Kd.R_alloc | apply Kd.R_drewN | apply Kd.R_drew)); exact HO335.out) hb); have n2_ := Aside0.mk (Kd.R_lower ho0 (below_size (by repeat (first | (with_reducible first | exact HB.out | apply below_alloc | apply pw_below_drewN | apply below_drew1) | exact HB.out)))); have n3_ := Aside0.mk (below_step (by repeat (first | (with_reducible first | exact HB.out | apply below_alloc | apply pw_below_drewN | apply below_drew1) | exact HB.out)) hb); clear HO331; clear HO335; clear HB; have HO331 := n0_; have HO335 := n1_; have HO339 := n2_; have HB := n3_; clear n0_ n1_ n2_ n3_; (try clear hb); (try clear hb2); (try clear hk); (try clear hi); (try clear ho0)) | ((with_reducible refine gate_callee (f := 30) rfl ?_); refine goesL_ (some 42) rfl rfl Try.func30 (by kernel_rfl) rfl #[.slice A1 (l1.take ((ji7) : Int).toNat).length c1] rfl (by (try simp only [List.map_toArray, List.map_cons, List.map_nil]); first | done | (rw [show (l1.take ((ji7) : Int).toNat).length = (ji7).toNat from (by rw [List.length_take]; have h_ : ((ji7) : Int) ≤ (l1.length : Int) := (by first | (exact of_decide_eq_true (by with_reducible assumption)) | (rw [← hji7]; unfold mn; (repeat' split) <;> omega) | exact of_decide_eq_true (by assumption)); omega)] <;> rfl) | (simp only [hji7]; rfl) | rfl | (simp only [List.length_drop, List.length_take]; rfl)) ?_; (with_reducible refine (nautilusref17_Inodes.calls k _ _ (l1.take ((ji7) : Int).toNat) t340 t341 _ ?side1 ?side2 A13.out).mono ?_); (case side1 => repeat (first | exact (Kd.C_below HR327.out HB.out) | (with_reducible refine Kd.C_alloc ?_ _) | (with_reducible refine Kd.C_drewN ?_ _) | (with_reducible refine Kd.C_drew ?_))); (case side2 => exact HC327.out); rintro e w26 ⟨v342, rfl, ho0, hb⟩; refine ⟨_, rfl, ?_⟩; have n0_ := Aside0.mk (Kd.R_below (by (with_reducible repeat (first | apply Kd.R_alloc | apply Kd.R_drewN | apply Kd.R_drew)); exact HO331.out) hb); have n1_ := Aside0.mk (Kd.R_below (by (with_reducible repeat (first | apply Kd.R_alloc | apply Kd.R_drewN | apply Kd.R_drew)); exact HO335.out) hb); have n2_ := Aside0.mk (Kd.R_elder' (by (with_reducible repeat (first | apply Kd.R_alloc | apply Kd.R_drewN | apply Kd.R_drew)); exact HO339.out) (Kd.R_base ho0) hb); have n3_ := Aside0.mk (Kd.R_lower (Kd.R_new' ho0 (Kd.R_lt (by (with_reducible repeat (first | apply Kd.R_alloc | apply Kd.R_drewN | apply Kd.R_drew)); exact HO339.out))) (below_size (by repeat (first | (with_reducible first | exact HB.out | apply below_alloc | apply pw_below_drewN | apply below_drew1) | exact HB.out)))); have n4_ := Aside0.mk (below_step (by repeat (first | (with_reducible first | exact HB.out | apply below_alloc | apply pw_below_drewN | apply below_drew1) | exact HB.out)) hb); clear HO331; clear HO335; clear HO339; clear HB; have HO331 := n0_; have HO335 := n1_; have HO339 := n2_; have HO343 := n3_; have HB := n4_; clear n0_ n1_ n2_ n3_ n4_; (try clear hb); (try clear hb2); (try clear hk); (try clear hi); (try clear ho0); obtain ⟨Ao27, co27, eo27⟩ := Kd.R_slice HO331.out; subst eo27; obtain ⟨Ao28, co28, eo28⟩ := Kd.R_slice HO335.out; subst eo28) | (go_at_call 15; (with_reducible refine (nautilusref17_SameTexts.calls k _ _ t328 _ _ t332 true _ ?side1 ?side2 ?side3 ?side4 A15.out).mono ?_); (case side1 => repeat (first | exact (Kd.R_reads' HO331.out).2.2 | (with_reducible refine Kd.C_alloc ?_ _) | (with_reducible refine Kd.C_drewN ?_ _) | (with_reducible refine Kd.C_drew ?_))); (case side2 => exact (Kd.R_reads' HO331.out).2.1); (case side3 => repeat (first | exact (Kd.R_reads' HO335.out).2.2 | (with_reducible refine Kd.C_alloc ?_ _) | (with_reducible refine Kd.C_drewN ?_ _) | (with_reducible refine Kd.C_drew ?_))); (case side4 => exact (Kd.R_reads' HO335.out).2.1); rintro e w' ⟨rfl, ⟨nd, rfl⟩⟩; obtain ⟨Ao29, co29, eo29⟩ := Kd.R_slice HO339.out; subst eo29; obtain ⟨Ao30, co30, eo30⟩ := Kd.R_slice HO343.out; subst eo30) | (go_at_call 31; (with_reducible refine (nautilusref17_SameInodes.calls k _ _ t336 _ _ t340 true _ ?side1 ?side2 ?side3 ?side4 A18.out).mono ?_); (case side1 => repeat (first | exact (Kd.R_reads' HO339.out).2.2 | (with_reducible refine Kd.C_alloc ?_ _) | (with_reducible refine Kd.C_drewN ?_ _) | (with_reducible refine Kd.C_drew ?_))); (case side2 => exact (Kd.R_reads' HO339.out).2.1); (case side3 => repeat (first | exact (Kd.R_reads' HO343.out).2.2 | (with_reducible refine Kd.C_alloc ?_ _) | (with_reducible refine Kd.C_drewN ?_ _) | (with_reducible refine Kd.C_drew ?_))); (case side4 => exact (Kd.R_reads' HO343.out).2.1); rintro e w' ⟨rfl, ⟨nd, rfl⟩⟩))
         go_ret
         exact ⟨by first | rfl | (simp [errW_none, errW_some] <;> rfl) | (simp only [← hji4, ← hji7]; first | rfl | (simp [errW_none, errW_some] <;> rfl)) | (simp [*, errW_none, errW_some] <;> rfl) | (simp [show IntKind.u64.wrap 0 = 0 from rfl, Int.zero_tdiv]; done), by repeat (first | (with_reducible first | exact HB.out | apply below_alloc | apply pw_below_drewN | apply below_drew1) | exact HB.out)⟩
        ·replace c19 := Bool.eq_false_iff.mpr c19
         subst c19
         have H1 : (none) = some r := by rw [if_neg (show ¬ (false = true) by decide)] at H; exact H
         clear H
         have H := H1
         clear H1
         exact absurd H (by simp)
       ·rw [if_neg c17] at H
        exact absurd H (by simp)
      ·replace c16 := Bool.eq_false_iff.mpr c16
       subst c16
       have H1 : (none) = some r := by rw [if_neg (show ¬ (false = true) by decide)] at H; exact H
       clear H
       have H := H1
       clear H1
       exact absurd H (by simp)
     ·replace c14 := Bool.eq_false_iff.mpr c14
      subst c14
      have H1 : (none) = some r := by rw [if_neg (show ¬ (false = true) by decide)] at H; exact H
      clear H
      have H := H1
      clear H1
      exact absurd H (by simp)
    ·rw [if_neg c9] at H
     exact absurd H (by simp)
   ·rw [if_neg c8] at H
    exact absurd H (by simp)
  ·rw [if_neg c6] at H
   exact absurd H (by simp)
 ·rw [if_neg c5] at H
  exact absurd H (by simp)

/-- THE ONE PURE STATEMENT of nautiluslaw17_VolTables: yours. -/
def nautiluslaw17_VolTables.Pure : Prop := ∀ (l0 : List (S42)) (l1 : List ByteArray), l0.length ≤ maxLen → (∀ x ∈ l0, (Lit.int .i64 x.f0).wf = true ∧ (Lit.int .u16 x.f1).wf = true ∧ (Lit.int .u16 x.f2).wf = true ∧ (Lit.int .u32 x.f3).wf = true ∧ (Lit.int .u64 x.f4).wf = true ∧ (Lit.int .i64 x.f5).wf = true ∧ (Lit.int .u32 x.f6.f0).wf = true ∧ (Lit.int .u32 x.f6.f1).wf = true ∧ (Lit.int .u32 x.f6.f2).wf = true ∧ (Lit.int .u32 x.f6.f3).wf = true ∧ (Lit.int .u32 x.f6.f4).wf = true ∧ (Lit.int .u32 x.f6.f5).wf = true) → l1.length ≤ maxLen → (∀ x ∈ l1, x.size ≤ maxLen) → ∃ k, nautiluslaw17_VolTables.f k l0 l1 = some true
theorem nautiluslaw17_VolTables.walk (P : nautiluslaw17_VolTables.Pure) (a0 : Option Addr) (len0 cap0 : Nat) (z0 : List (S42)) (a1 : Option Addr) (len1 cap1 : Nat) (z1 : List (ByteArray)) (w : World) (w0 : z0.length = len0 ∧ len0 ≤ cap0 ∧ len0 ≤ maxLen ∧ Kd.C k42 w a0 len0 z0 ∧ ∀ x ∈ z0, (Lit.int .i64 x.f0).wf = true ∧ (Lit.int .u16 x.f1).wf = true ∧ (Lit.int .u16 x.f2).wf = true ∧ (Lit.int .u32 x.f3).wf = true ∧ (Lit.int .u64 x.f4).wf = true ∧ (Lit.int .i64 x.f5).wf = true ∧ (Lit.int .u32 x.f6.f0).wf = true ∧ (Lit.int .u32 x.f6.f1).wf = true ∧ (Lit.int .u32 x.f6.f2).wf = true ∧ (Lit.int .u32 x.f6.f3).wf = true ∧ (Lit.int .u32 x.f6.f4).wf = true ∧ (Lit.int .u32 x.f6.f5).wf = true) (w1 : z1.length = len1 ∧ len1 ≤ cap1 ∧ len1 ≤ maxLen ∧ Kd.C Kd.string w a1 len1 z1 ∧ ∀ x ∈ z1, x.size ≤ maxLen) :
  Calls Try.prog 8 #[.slice a0 len0 cap0, .slice a1 len1 cap1] w fun e w' => e = .returned (.bool true) ∧ Below w.heap.size w w' := by
 obtain ⟨hl0, hc0, hm0, hC0, hw0⟩ := w0
 subst hl0
 obtain ⟨hl1, hc1, hm1, hC1, hw1⟩ := w1
 subst hl1
 obtain ⟨k, h⟩ := P z0 z1 hm0 hw0 hm1 hw1
 refine (nautiluslaw17_VolTables.calls k _ _ z0 _ _ z1 true w hC0 hc0 hC1 hc1 h).mono ?_
 rintro e w' ⟨rfl, hd⟩
 exact ⟨rfl, hd⟩

end Go.Proofs.Ytpcokafalmafgaa.Q
