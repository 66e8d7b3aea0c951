/- Functions of the translation as plain Lean functions, and that the translation computes them: printed by this session's driver of the print. -/
import Derived.Test.YtmpcpcfdomlehaaQ0
import Derived.Test.YtmpcpcfdomlehaaQ2
import Derived.Test.YtmpcpcfdomlehaaQ3
import Derived.Test.YtmpcpcfdomlehaaQ4
import Derived.Test.YtmpcpcfdomlehaaQ5
import Derived.Test.YtmpcpcfdomlehaaQ7
import Derived.Test.YtmpcpcfdomlehaaQ9
import Derived.Test.YtmpcpcfdomlehaaHRootE
import Derived.Test.YtmpcpcfdomlehaaHRootR
namespace Go.Proofs.Ytmpcpcfdomlehaa.Q
open Go.Proofs.Ytmpcpcfdomlehaa.H
open Go.RowKit Go.Proofs.YtmpcpcfdomlehaaW.PrintWords Go.Proofs.YtmpcpcfdomlehaaW.PrintLast Go.Proofs.YtmpcpcfdomlehaaW.PrintMore
attribute [local go_sem] max2_int min2_int max_two min_two max_three min_three max_four min_four   -- for this text's walks alone
set_option linter.unusedVariables false
set_option linter.unusedSimpArgs false

/-! ### nautiluslaw16_RootBytes: function 3 -/
def nautiluslaw16_RootBytes.f (k : Nat) (a0_0 : Int) (a0_1 : Int) (l0_2 : List Int) (l0_3 : List Int) (a1 : ByteArray) : Option (Bool) := (nautiluslaw16_shown.f k).bind fun t218 => (if 0 ≤ (mn (l0_2.length : Int) 100) then (if (mn (l0_2.length : Int) 100) ≤ (l0_2.length : Int) then (if 0 ≤ (mn (l0_3.length : Int) 100) then (if (mn (l0_3.length : Int) 100) ≤ (l0_3.length : Int) then ((root_Encode.f a0_0 a0_1 (l0_2.take ((mn (l0_2.length : Int) 100) : Int).toNat) (l0_3.take ((mn (l0_3.length : Int) 100) : Int).toNat)).bind fun bt221 => ((nautilusref16_Encode.f k a0_0 a0_1 (l0_2.take ((mn (l0_2.length : Int) 100) : Int).toNat) (l0_3.take ((mn (l0_3.length : Int) 100) : Int).toNat)).bind fun bt223 => ((root_Decode.f k a1).bind fun bt225 => ((nautilusref16_Decode.f k a1).bind fun bt235 => (if t218 = true then ((root_Right.f a0_0 a0_1 (l0_2.take ((mn (l0_2.length : Int) 100) : Int).toNat) (l0_3.take ((mn (l0_3.length : Int) 100) : Int).toNat)).bind fun t245 => ((nautilusref16_Right.f k a0_0 a0_1 (l0_2.take ((mn (l0_2.length : Int) 100) : Int).toNat) (l0_3.take ((mn (l0_3.length : Int) 100) : Int).toNat)).bind fun t246 => (if (t245 == t246) = true then (if bt221.1.toList = bt223.1.toList then (if bt221.2 = bt223.2 then ((nautilusref16_Same.f k bt225.1 bt225.2.1 bt225.2.2.1 bt225.2.2.2.1 bt235.1 bt235.2.1 bt235.2.2.1 bt235.2.2.2.1).bind fun t247 => (if t247 = true then (some (bt225.2.2.2.2 == bt235.2.2.2.2)) else (none))) else (none)) else (none)) else (none)))) else (none)))))) else (none)) else (none)) else (none)) else (none))
theorem nautiluslaw16_RootBytes.mono : ∀ a0 a1 a2 a3 a4 k, LeO (nautiluslaw16_RootBytes.f k a0 a1 a2 a3 a4) (nautiluslaw16_RootBytes.f (k + 1) a0 a1 a2 a3 a4) := by
  intro a0 a1 a2 a3 a4 k
  unfold nautiluslaw16_RootBytes.f
  repeat' first
      | (with_reducible exact nautiluslaw16_shown.mono _)
      | (with_reducible exact nautilusref16_Decode.mono _ _)
      | (with_reducible exact nautilusref16_Encode.mono _ _ _ _ _)
      | (with_reducible exact nautilusref16_Right.mono _ _ _ _ _)
      | (with_reducible exact nautilusref16_Same.mono _ _ _ _ _ _ _ _ _)
      | (with_reducible exact root_Decode.mono _ _)
      | (with_reducible exact LeO.refl _)
      | (with_reducible exact LeO.none _)
      | (with_reducible refine LeO.ite ?_ ?_)
      | (with_reducible refine LeO.bind ?_ (fun _ => ?_))
      | exact nautiluslaw16_shown.mono _
      | exact nautilusref16_Decode.mono _ _
      | exact nautilusref16_Encode.mono _ _ _ _ _
      | exact nautilusref16_Right.mono _ _ _ _ _
      | exact nautilusref16_Same.mono _ _ _ _ _ _ _ _ _
      | exact root_Decode.mono _ _
      | exact LeO.none _
      | refine LeO.ite ?_ ?_
      | refine LeO.bind ?_ (fun _ => ?_)
def nautiluslaw16_RootBytes.T8 : Bool × List (List Nat × List Nat) := (true, [([], []), ([0], [0]), ([1], [1]), ([2, 1, 1], [1, 2]), ([1], [1]), ([4, 3, 1], [1, 4]), ([3, 5, 1], [1, 3, 5]), ([1, 6], [1, 6]), ([7, 5], [7]), ([8], [8]), ([8], [8]), ([9, 10, 8], [8, 9, 10]), ([8, 11], [8, 11]), ([12, 8], [12]), ([13], [13]), ([13], [13]), ([14, 15, 13], [13, 14, 15]), ([13, 16], [13, 16]), ([17, 13], [17]), ([18], [18]), ([18], [18]), ([19, 20, 18, 18], [18, 19, 20]), ([18, 21], [18, 21]), ([22, 21], [22]), ([23], [23]), ([23], [23]), ([24, 25, 23], [23, 24, 25]), ([23, 26], [23, 26]), ([27, 23, 0, 1, 2, 3, 4, 5, 6, 7, 8, 9, 10, 11, 12, 13, 14, 15, 16, 17, 18, 19, 20, 21, 22, 23, 24, 25, 26, 27], [27])])
def nautiluslaw16_RootBytes.B8 : List Nat := [0, 1, 3, 7, 3, 31, 63, 127, 255, 511, 511, 2047, 4095, 8191, 16383, 16383, 65535, 131071, 262143, 524287, 524287, 2097151, 4194303, 8388607, 16777215, 16777215, 67108863, 134217727, 268435455]
theorem nautiluslaw16_RootBytes.tab8 : rtab .any (opsOf Try.f3 8) = nautiluslaw16_RootBytes.T8 := by kernel_rfl
theorem nautiluslaw16_RootBytes.bits8 : waitsOk nautiluslaw16_RootBytes.T8.2 nautiluslaw16_RootBytes.B8 = true := by kernel_rfl
def tkQ10 (n : Nat) (l : List Int) : List Int := l.take n
theorem tkQ10_len (n : Nat) (l : List Int) : (tkQ10 n l).length = min n l.length := List.length_take ..
theorem tkQ10_def (n : Nat) (l : List Int) : List.take n l = tkQ10 n l := rfl
set_option maxHeartbeats 8000000 in
set_option maxRecDepth 100000 in
theorem nautiluslaw16_RootBytes.calls (k : Nat) (a0_0 : Int) (a0_1 : Int) (A0_2 : Option Addr) (c0_2 : Nat) (l0_2 : List Int) (A0_3 : Option Addr) (c0_3 : Nat) (l0_3 : List Int) (a1 : ByteArray) (r : Bool) (w : World) (hr0_2 : Kd.C (Kd.int .u32) w A0_2 l0_2.length l0_2) (hc0_2 : l0_2.length ≤ c0_2) (hr0_3 : Kd.C (Kd.int .u32) w A0_3 l0_3.length l0_3) (hc0_3 : l0_3.length ≤ c0_3) (h : nautiluslaw16_RootBytes.f k a0_0 a0_1 l0_2 l0_3 a1 = some r) :
    Calls Try.prog 3 #[.agg #[.int .u64 a0_0, .int .u64 a0_1, .slice A0_2 l0_2.length c0_2, .slice A0_3 l0_3.length c0_3], .string a1] w fun e w' => e = .returned (.bool r) ∧ Below w.heap.size w w' := by
  have hu25 := Try.underlying25
  have HR0_2 := Aside0.mk hr0_2
  have HC0_2 := Aside0.mk hc0_2
  clear hr0_2 hc0_2
  have HR0_3 := Aside0.mk hr0_3
  have HC0_3 := Aside0.mk hc0_3
  clear hr0_3 hc0_3
  have HB := Aside0.mk (Below.refl w.heap.size w)
  have H : ((nautiluslaw16_shown.f k).bind fun t218 => (if 0 ≤ (mn (l0_2.length : Int) 100) then (if (mn (l0_2.length : Int) 100) ≤ (l0_2.length : Int) then (if 0 ≤ (mn (l0_3.length : Int) 100) then (if (mn (l0_3.length : Int) 100) ≤ (l0_3.length : Int) then ((root_Encode.f a0_0 a0_1 (l0_2.take ((mn (l0_2.length : Int) 100) : Int).toNat) (l0_3.take ((mn (l0_3.length : Int) 100) : Int).toNat)).bind fun bt221 => ((nautilusref16_Encode.f k a0_0 a0_1 (l0_2.take ((mn (l0_2.length : Int) 100) : Int).toNat) (l0_3.take ((mn (l0_3.length : Int) 100) : Int).toNat)).bind fun bt223 => ((root_Decode.f k a1).bind fun bt225 => ((nautilusref16_Decode.f k a1).bind fun bt235 => (if t218 = true then ((root_Right.f a0_0 a0_1 (l0_2.take ((mn (l0_2.length : Int) 100) : Int).toNat) (l0_3.take ((mn (l0_3.length : Int) 100) : Int).toNat)).bind fun t245 => ((nautilusref16_Right.f k a0_0 a0_1 (l0_2.take ((mn (l0_2.length : Int) 100) : Int).toNat) (l0_3.take ((mn (l0_3.length : Int) 100) : Int).toNat)).bind fun t246 => (if (t245 == t246) = true then (if bt221.1.toList = bt223.1.toList then (if bt221.2 = bt223.2 then ((nautilusref16_Same.f k bt225.1 bt225.2.1 bt225.2.2.1 bt225.2.2.2.1 bt235.1 bt235.2.1 bt235.2.2.1 bt235.2.2.2.1).bind fun t247 => (if t247 = true then (some (bt225.2.2.2.2 == bt235.2.2.2.2)) else (none))) else (none)) else (none)) else (none)))) else (none)))))) else (none)) else (none)) else (none)) else (none))) = some r := h
  clear h
  replace H := Option.bind_eq_some_iff.mp H
  obtain ⟨t218, A30, H⟩ := H
  replace H : (if 0 ≤ (mn (l0_2.length : Int) 100) then (if (mn (l0_2.length : Int) 100) ≤ (l0_2.length : Int) then (if 0 ≤ (mn (l0_3.length : Int) 100) then (if (mn (l0_3.length : Int) 100) ≤ (l0_3.length : Int) then ((root_Encode.f a0_0 a0_1 (l0_2.take ((mn (l0_2.length : Int) 100) : Int).toNat) (l0_3.take ((mn (l0_3.length : Int) 100) : Int).toNat)).bind fun bt221 => ((nautilusref16_Encode.f k a0_0 a0_1 (l0_2.take ((mn (l0_2.length : Int) 100) : Int).toNat) (l0_3.take ((mn (l0_3.length : Int) 100) : Int).toNat)).bind fun bt223 => ((root_Decode.f k a1).bind fun bt225 => ((nautilusref16_Decode.f k a1).bind fun bt235 => (if t218 = true then ((root_Right.f a0_0 a0_1 (l0_2.take ((mn (l0_2.length : Int) 100) : Int).toNat) (l0_3.take ((mn (l0_3.length : Int) 100) : Int).toNat)).bind fun t245 => ((nautilusref16_Right.f k a0_0 a0_1 (l0_2.take ((mn (l0_2.length : Int) 100) : Int).toNat) (l0_3.take ((mn (l0_3.length : Int) 100) : Int).toNat)).bind fun t246 => (if (t245 == t246) = true then (if bt221.1.toList = bt223.1.toList then (if bt221.2 = bt223.2 then ((nautilusref16_Same.f k bt225.1 bt225.2.1 bt225.2.2.1 bt225.2.2.2.1 bt235.1 bt235.2.1 bt235.2.2.1 bt235.2.2.2.1).bind fun t247 => (if t247 = true then (some (bt225.2.2.2.2 == bt235.2.2.2.2)) else (none))) else (none)) else (none)) else (none)))) else (none)))))) else (none)) else (none)) else (none)) else (none)) = some r := H
  have A3 := Aside0.mk A30
  clear A30
  obtain ⟨ji4, hji4⟩ : ∃ j_ : Int, (mn (l0_2.length : Int) 100) = j_ := ⟨_, rfl⟩
  replace H : (if 0 ≤ (ji4) then (if (ji4) ≤ (l0_2.length : Int) then (if 0 ≤ (mn (l0_3.length : Int) 100) then (if (mn (l0_3.length : Int) 100) ≤ (l0_3.length : Int) then ((root_Encode.f a0_0 a0_1 (tkQ10 ((ji4) : Int).toNat l0_2) (l0_3.take ((mn (l0_3.length : Int) 100) : Int).toNat)).bind fun bt221 => ((nautilusref16_Encode.f k a0_0 a0_1 (tkQ10 ((ji4) : Int).toNat l0_2) (l0_3.take ((mn (l0_3.length : Int) 100) : Int).toNat)).bind fun bt223 => ((root_Decode.f k a1).bind fun bt225 => ((nautilusref16_Decode.f k a1).bind fun bt235 => (if t218 = true then ((root_Right.f a0_0 a0_1 (tkQ10 ((ji4) : Int).toNat l0_2) (l0_3.take ((mn (l0_3.length : Int) 100) : Int).toNat)).bind fun t245 => ((nautilusref16_Right.f k a0_0 a0_1 (tkQ10 ((ji4) : Int).toNat l0_2) (l0_3.take ((mn (l0_3.length : Int) 100) : Int).toNat)).bind fun t246 => (if (t245 == t246) = true then (if bt221.1.toList = bt223.1.toList then (if bt221.2 = bt223.2 then ((nautilusref16_Same.f k bt225.1 bt225.2.1 bt225.2.2.1 bt225.2.2.2.1 bt235.1 bt235.2.1 bt235.2.2.1 bt235.2.2.2.1).bind fun t247 => (if t247 = true then (some (bt225.2.2.2.2 == bt235.2.2.2.2)) else (none))) else (none)) else (none)) else (none)))) else (none)))))) else (none)) else (none)) else (none)) else (none)) = some r := by first | (rw [hji4] at H; exact H) | (simp only [hji4] at H ⊢; exact H)
  (try rw [hji4] at A3)
  (try (have hji4h : ji4 ≤ 100 := by (rw [← hji4]; unfold mn; (repeat' split) <;> omega)))
  (try (have hji4g : ji4 ≤ 64 := by omega))
  (try (have hji4l : 0 ≤ ji4 := by (rw [← hji4]; unfold mn; (repeat' split) <;> omega)))
  (try (have hji4m : 0 ≤ ji4 := by omega))
  have hji4_ : (if 100 < (l0_2.length : Int) then 100 else (l0_2.length : Int)) = ji4 := hji4
  by_cases c5 : 0 ≤ (ji4)
  · rw [if_pos c5] at H
    have c5b0 := eq_true c5
    have c5b1 : decide (0 ≤ (ji4)) = true := decide_eq_true c5
    clear c5
    by_cases c6 : (ji4) ≤ (l0_2.length : Int)
    · rw [if_pos c6] at H
      have c6b0 := eq_true c6
      have c6b1 : decide ((ji4) ≤ (l0_2.length : Int)) = true := decide_eq_true c6
      clear c6
      obtain ⟨ji7, hji7⟩ : ∃ j_ : Int, (mn (l0_3.length : Int) 100) = j_ := ⟨_, rfl⟩
      replace H : (if 0 ≤ (ji7) then (if (ji7) ≤ (l0_3.length : Int) then ((root_Encode.f a0_0 a0_1 (tkQ10 ((ji4) : Int).toNat l0_2) (tkQ10 ((ji7) : Int).toNat l0_3)).bind fun bt221 => ((nautilusref16_Encode.f k a0_0 a0_1 (tkQ10 ((ji4) : Int).toNat l0_2) (tkQ10 ((ji7) : Int).toNat l0_3)).bind fun bt223 => ((root_Decode.f k a1).bind fun bt225 => ((nautilusref16_Decode.f k a1).bind fun bt235 => (if t218 = true then ((root_Right.f a0_0 a0_1 (tkQ10 ((ji4) : Int).toNat l0_2) (tkQ10 ((ji7) : Int).toNat l0_3)).bind fun t245 => ((nautilusref16_Right.f k a0_0 a0_1 (tkQ10 ((ji4) : Int).toNat l0_2) (tkQ10 ((ji7) : Int).toNat l0_3)).bind fun t246 => (if (t245 == t246) = true then (if bt221.1.toList = bt223.1.toList then (if bt221.2 = bt223.2 then ((nautilusref16_Same.f k bt225.1 bt225.2.1 bt225.2.2.1 bt225.2.2.2.1 bt235.1 bt235.2.1 bt235.2.2.1 bt235.2.2.2.1).bind fun t247 => (if t247 = true then (some (bt225.2.2.2.2 == bt235.2.2.2.2)) else (none))) else (none)) else (none)) else (none)))) else (none)))))) else (none)) else (none)) = some r := by first | (rw [hji7] at H; exact H) | (simp only [hji7] at H ⊢; exact H)
      (try rw [hji7] at A3)
      (try (have hji7h : ji7 ≤ 100 := by (rw [← hji7]; unfold mn; (repeat' split) <;> omega)))
      (try (have hji7g : ji7 ≤ 64 := by omega))
      (try (have hji7l : 0 ≤ ji7 := by (rw [← hji7]; unfold mn; (repeat' split) <;> omega)))
      (try (have hji7m : 0 ≤ ji7 := by omega))
      have hji7_ : (if 100 < (l0_3.length : Int) then 100 else (l0_3.length : Int)) = ji7 := hji7
      by_cases c8 : 0 ≤ (ji7)
      · rw [if_pos c8] at H
        have c8b0 := eq_true c8
        have c8b1 : decide (0 ≤ (ji7)) = true := decide_eq_true c8
        clear c8
        by_cases c9 : (ji7) ≤ (l0_3.length : Int)
        · rw [if_pos c9] at H
          have c9b0 := eq_true c9
          have c9b1 : decide ((ji7) ≤ (l0_3.length : Int)) = true := decide_eq_true c9
          clear c9
          replace H := Option.bind_eq_some_iff.mp H
          obtain ⟨⟨t221, t222⟩, A100, H⟩ := H
          replace H : ((nautilusref16_Encode.f k a0_0 a0_1 (tkQ10 ((ji4) : Int).toNat l0_2) (tkQ10 ((ji7) : Int).toNat l0_3)).bind fun bt223 => ((root_Decode.f k a1).bind fun bt225 => ((nautilusref16_Decode.f k a1).bind fun bt235 => (if t218 = true then ((root_Right.f a0_0 a0_1 (tkQ10 ((ji4) : Int).toNat l0_2) (tkQ10 ((ji7) : Int).toNat l0_3)).bind fun t245 => ((nautilusref16_Right.f k a0_0 a0_1 (tkQ10 ((ji4) : Int).toNat l0_2) (tkQ10 ((ji7) : Int).toNat l0_3)).bind fun t246 => (if (t245 == t246) = true then (if t221.toList = bt223.1.toList then (if t222 = bt223.2 then ((nautilusref16_Same.f k bt225.1 bt225.2.1 bt225.2.2.1 bt225.2.2.2.1 bt235.1 bt235.2.1 bt235.2.2.1 bt235.2.2.2.1).bind fun t247 => (if t247 = true then (some (bt225.2.2.2.2 == bt235.2.2.2.2)) else (none))) else (none)) else (none)) else (none)))) else (none))))) = some r := H
          have A10 := Aside0.mk A100
          clear A100
          replace H := Option.bind_eq_some_iff.mp H
          obtain ⟨⟨t223, t224⟩, A110, H⟩ := H
          replace H : ((root_Decode.f k a1).bind fun bt225 => ((nautilusref16_Decode.f k a1).bind fun bt235 => (if t218 = true then ((root_Right.f a0_0 a0_1 (tkQ10 ((ji4) : Int).toNat l0_2) (tkQ10 ((ji7) : Int).toNat l0_3)).bind fun t245 => ((nautilusref16_Right.f k a0_0 a0_1 (tkQ10 ((ji4) : Int).toNat l0_2) (tkQ10 ((ji7) : Int).toNat l0_3)).bind fun t246 => (if (t245 == t246) = true then (if t221.toList = t223.toList then (if t222 = t224 then ((nautilusref16_Same.f k bt225.1 bt225.2.1 bt225.2.2.1 bt225.2.2.2.1 bt235.1 bt235.2.1 bt235.2.2.1 bt235.2.2.2.1).bind fun t247 => (if t247 = true then (some (bt225.2.2.2.2 == bt235.2.2.2.2)) else (none))) else (none)) else (none)) else (none)))) else (none)))) = some r := H
          have A11 := Aside0.mk A110
          clear A110
          replace H := Option.bind_eq_some_iff.mp H
          obtain ⟨⟨t225, t226, t227, t230, t233⟩, A120, H⟩ := H
          replace H : ((nautilusref16_Decode.f k a1).bind fun bt235 => (if t218 = true then ((root_Right.f a0_0 a0_1 (tkQ10 ((ji4) : Int).toNat l0_2) (tkQ10 ((ji7) : Int).toNat l0_3)).bind fun t245 => ((nautilusref16_Right.f k a0_0 a0_1 (tkQ10 ((ji4) : Int).toNat l0_2) (tkQ10 ((ji7) : Int).toNat l0_3)).bind fun t246 => (if (t245 == t246) = true then (if t221.toList = t223.toList then (if t222 = t224 then ((nautilusref16_Same.f k t225 t226 t227 t230 bt235.1 bt235.2.1 bt235.2.2.1 bt235.2.2.2.1).bind fun t247 => (if t247 = true then (some (t233 == bt235.2.2.2.2)) else (none))) else (none)) else (none)) else (none)))) else (none))) = some r := H
          have A12 := Aside0.mk A120
          clear A120
          replace H := Option.bind_eq_some_iff.mp H
          obtain ⟨⟨t235, t236, t237, t240, t243⟩, A130, H⟩ := H
          replace H : (if t218 = true then ((root_Right.f a0_0 a0_1 (tkQ10 ((ji4) : Int).toNat l0_2) (tkQ10 ((ji7) : Int).toNat l0_3)).bind fun t245 => ((nautilusref16_Right.f k a0_0 a0_1 (tkQ10 ((ji4) : Int).toNat l0_2) (tkQ10 ((ji7) : Int).toNat l0_3)).bind fun t246 => (if (t245 == t246) = true then (if t221.toList = t223.toList then (if t222 = t224 then ((nautilusref16_Same.f k t225 t226 t227 t230 t235 t236 t237 t240).bind fun t247 => (if t247 = true then (some (t233 == t243)) else (none))) else (none)) else (none)) else (none)))) else (none)) = some r := H
          have A13 := Aside0.mk A130
          clear A130
          by_cases c14 : t218 = true
          · subst c14
            have H1 : ((root_Right.f a0_0 a0_1 (tkQ10 ((ji4) : Int).toNat l0_2) (tkQ10 ((ji7) : Int).toNat l0_3)).bind fun t245 => ((nautilusref16_Right.f k a0_0 a0_1 (tkQ10 ((ji4) : Int).toNat l0_2) (tkQ10 ((ji7) : Int).toNat l0_3)).bind fun t246 => (if (t245 == t246) = true then (if t221.toList = t223.toList then (if t222 = t224 then ((nautilusref16_Same.f k t225 t226 t227 t230 t235 t236 t237 t240).bind fun t247 => (if t247 = true then (some (t233 == t243)) else (none))) else (none)) else (none)) else (none)))) = some r := by rw [if_pos rfl] at H; exact H
            clear H
            have H := H1
            clear H1
            replace H := Option.bind_eq_some_iff.mp H
            obtain ⟨t245, A150, H⟩ := H
            replace H : ((nautilusref16_Right.f k a0_0 a0_1 (tkQ10 ((ji4) : Int).toNat l0_2) (tkQ10 ((ji7) : Int).toNat l0_3)).bind fun t246 => (if (t245 == t246) = true then (if t221.toList = t223.toList then (if t222 = t224 then ((nautilusref16_Same.f k t225 t226 t227 t230 t235 t236 t237 t240).bind fun t247 => (if t247 = true then (some (t233 == t243)) else (none))) else (none)) else (none)) else (none))) = some r := H
            have A15 := Aside0.mk A150
            clear A150
            replace H := Option.bind_eq_some_iff.mp H
            obtain ⟨t246, A160, H⟩ := H
            replace H : (if (t245 == t246) = true then (if t221.toList = t223.toList then (if t222 = t224 then ((nautilusref16_Same.f k t225 t226 t227 t230 t235 t236 t237 t240).bind fun t247 => (if t247 = true then (some (t233 == t243)) else (none))) else (none)) else (none)) else (none)) = some r := H
            have A16 := Aside0.mk A160
            clear A160
            by_cases c17 : (t245 == t246) = true
            · rw [if_pos c17] at H
              have c17b0 : (t245 == t246) = true := c17
              (try (have c17b1 : decide (t245 = t246) = true := by simpa using c17))
              (try (have c17b2 : (t245 == t246) = true := by simpa using c17))
              clear c17
              by_cases c18 : t221.toList = t223.toList
              · rw [if_pos c18] at H
                have c18b0 : (t221.toList == t223.toList) = true := beq_iff_eq.mpr c18
                have c18b1 : (t221.toList != t223.toList) = false := bne_eq_false_iff_eq.mpr c18
                clear c18
                by_cases c19 : t222 = t224
                · rw [if_pos c19] at H
                  have c19b0 : (t222 == t224) = true := beq_iff_eq.mpr c19
                  have c19b1 : (t222 != t224) = false := bne_eq_false_iff_eq.mpr c19
                  clear c19
                  replace H := Option.bind_eq_some_iff.mp H
                  obtain ⟨t247, A200, H⟩ := H
                  replace H : (if t247 = true then (some (t233 == t243)) else (none)) = some r := H
                  have A20 := Aside0.mk A200
                  clear A200
                  by_cases c21 : t247 = true
                  · subst c21
                    have H1 : (some (t233 == t243)) = some r := by rw [if_pos rfl] at H; exact H
                    clear H
                    have H := H1
                    clear H1
                    obtain rfl := Option.some.inj H
                    go_enter Try.func3, Try.ntmps3
                    try go_wp2_with (first | ((with_reducible refine gate_dst (N := 2) rfl ?_); refine box_event ?hg (N := 2) ?hd (cs := #[.int .u64 a0_0, .int .u64 a0_1, .slice A0_2 l0_2.length c0_2, .slice A0_3 l0_3.length c0_3]) (t := 25) ?hr ?_; (case hd => rfl); (case hg => rfl); (case hr => first | (go_simp; done) | (go_simp; rfl)); intro gb217 hg w22 hbox hb; have n0_ := Aside0.mk (below_step (by repeat (first | (with_reducible first | exact HB.out | apply below_alloc | apply pw_below_drewN | apply below_drew1) | exact HB.out)) hb); have n1_ := Aside0.mk (hbox); have n2_ := Aside0.mk ((by rw [hg]; exact (below_size (by repeat (first | (with_reducible first | exact HB.out | apply below_alloc | apply pw_below_drewN | apply below_drew1) | exact HB.out))) : w.heap.size ≤ gb217)); have n3_ := Aside0.mk ((by rw [hg]; exact (below_size (by repeat (first | (with_reducible first | exact HB.out | apply below_alloc | apply pw_below_drewN | apply below_drew1) | exact HB.out))) : w.heap.size ≤ gb217)); clear HB; have HB := n0_; have BK217 := n1_; have GW217 := n2_; have GE217 := n3_; clear n0_ n1_ n2_ n3_; clear hb hbox hg) | ((with_reducible refine gate_callee (f := 7) rfl ?_); refine goesL_ (some 14) rfl rfl Try.func7 (by kernel_rfl) rfl #[] rfl (by (try simp only [List.map_toArray, List.map_cons, List.map_nil]); first | done | rfl | (simp only [List.length_drop, tkQ10_len]; rfl)) ?_; (with_reducible refine (nautiluslaw16_shown.calls k  true _ A3.out).mono ?_); rintro e w23 ⟨rfl, hb⟩; refine ⟨_, rfl, ?_⟩; have n0_ := Aside0.mk (blk_below (g := gb217) (o := .cells #[.int .u64 a0_0, .int .u64 a0_1, .slice A0_2 l0_2.length c0_2, .slice A0_3 l0_3.length c0_3] 25 (0, 0)) (by (with_reducible repeat (first | refine blk_drewN ?_ _ | refine blk_drew ?_ | refine blk_alloc ?_ _)); exact BK217.out) hb); have n1_ := Aside0.mk (below_step (by repeat (first | (with_reducible first | exact HB.out | apply below_alloc | apply pw_below_drewN | apply below_drew1 | refine below_set ?_ GE217.out) | exact HB.out)) hb); clear BK217; clear HB; have BK217 := n0_; have HB := n1_; clear n0_ n1_; (try clear hb); (try clear hb2); (try clear hk); (try clear hi); have hcz24_0 : w23.cell? ⟨gb217, 0, none⟩ = some (.int .u64 a0_0) := (blk_cell BK217.out 0).trans rfl; have hcz24_1 : w23.cell? ⟨gb217, 1, none⟩ = some (.int .u64 a0_1) := (blk_cell BK217.out 1).trans rfl; have hcz24_2 : w23.cell? ⟨gb217, 2, none⟩ = some (.slice A0_2 l0_2.length c0_2) := (blk_cell BK217.out 2).trans rfl; have hcz24_3 : w23.cell? ⟨gb217, 3, none⟩ = some (.slice A0_3 l0_3.length c0_3) := (blk_cell BK217.out 3).trans rfl; have hfz24_0 := blk_frozen BK217.out 0; have hfz24_1 := blk_frozen BK217.out 1; have hfz24_2 := blk_frozen BK217.out 2; have hfz24_3 := blk_frozen BK217.out 3; obtain ⟨i025, hi025, _, hsz25, _⟩ := info_parts info35; obtain ⟨hcut25, hA25, hC25⟩ := print_take_of (P := Try.prog) (Value.int .u32) 0 23 35 .i64 Try.underlying23 hi025 hsz25 A0_2 c0_2 l0_2 (ji4) (of_decide_eq_true (by first | (with_reducible assumption) | assumption)) (of_decide_eq_true (by first | (with_reducible assumption) | assumption)) HC0_2.out; (try simp only [tkQ10_def] at hcut25 hA25 hC25); have HR219 := Aside0.mk (Kd.C_of_reads (h1 := fun _ => rfl) (hA25 _ (Kd.reads_of_C HR0_2.out))); have HC219 := Aside0.mk hC25; clear hA25 hC25 hi025 hsz25; obtain ⟨i026, hi026, _, hsz26, _⟩ := info_parts info35; obtain ⟨hcut26, hA26, hC26⟩ := print_take_of (P := Try.prog) (Value.int .u32) 0 23 35 .i64 Try.underlying23 hi026 hsz26 A0_3 c0_3 l0_3 (ji7) (of_decide_eq_true (by first | (with_reducible assumption) | assumption)) (of_decide_eq_true (by first | (with_reducible assumption) | assumption)) HC0_3.out; (try simp only [tkQ10_def] at hcut26 hA26 hC26); have HR220 := Aside0.mk (Kd.C_of_reads (h1 := fun _ => rfl) (hA26 _ (Kd.reads_of_C HR0_3.out))); have HC220 := Aside0.mk hC26; clear hA26 hC26 hi026 hsz26) | ((with_reducible refine gate_callee (f := 8) rfl ?_); refine goesL_ (some 33) rfl rfl Try.func8 (by kernel_rfl) rfl #[.agg #[.int .u64 a0_0, .int .u64 a0_1, .slice A0_2 (tkQ10 ((ji4) : Int).toNat l0_2).length c0_2, .slice A0_3 (tkQ10 ((ji7) : Int).toNat l0_3).length c0_3]] rfl (by (try simp only [List.map_toArray, List.map_cons, List.map_nil]); first | done | (rw [show (tkQ10 ((ji4) : Int).toNat l0_2).length = (ji4).toNat from (by rw [tkQ10_len]; have h_ : ((ji4) : Int) ≤ (l0_2.length : Int) := (by first | (exact of_decide_eq_true (by with_reducible assumption)) | (rw [← hji4]; unfold mn; (repeat' split) <;> omega) | exact of_decide_eq_true (by assumption)); omega)] <;> rfl) | (rw [show (tkQ10 ((ji7) : Int).toNat l0_3).length = (ji7).toNat from (by rw [tkQ10_len]; have h_ : ((ji7) : Int) ≤ (l0_3.length : Int) := (by first | (exact of_decide_eq_true (by with_reducible assumption)) | (rw [← hji7]; unfold mn; (repeat' split) <;> omega) | exact of_decide_eq_true (by assumption)); omega)] <;> rfl) | (simp only [hji4, hji7]; rfl) | rfl | (simp only [List.length_drop, tkQ10_len]; rfl)) ?_; (with_reducible refine (root_Encode.calls a0_0 a0_1 _ _ (tkQ10 ((ji4) : Int).toNat l0_2) _ _ (tkQ10 ((ji7) : Int).toNat l0_3) t221 t222 _ ?side1 ?side2 ?side3 ?side4 A10.out).mono ?_); (case side1 => exact Kd.C_below HR219.out (by repeat (first | (with_reducible first | exact HB.out | apply below_alloc | apply pw_below_drewN | apply below_drew1 | refine below_set ?_ GE217.out) | exact HB.out))); (case side2 => exact HC219.out); (case side3 => exact Kd.C_below HR220.out (by repeat (first | (with_reducible first | exact HB.out | apply below_alloc | apply pw_below_drewN | apply below_drew1 | refine below_set ?_ GE217.out) | exact HB.out))); (case side4 => exact HC220.out); rintro e w27 ⟨rfl, hb⟩; refine ⟨_, rfl, ?_⟩; have n0_ := Aside0.mk (blk_below (g := gb217) (o := .cells #[.int .u64 a0_0, .int .u64 a0_1, .slice A0_2 (tkQ10 ((ji4) : Int).toNat l0_2).length c0_2, .slice A0_3 (tkQ10 ((ji7) : Int).toNat l0_3).length c0_3] 25 (0, 0)) (by (with_reducible repeat (first | refine blk_drewN ?_ _ | refine blk_drew ?_ | refine blk_alloc ?_ _)); refine blk_put (cs := #[.int .u64 a0_0, .int .u64 a0_1, .slice A0_2 (tkQ10 ((ji4) : Int).toNat l0_2).length c0_2, .slice A0_3 l0_3.length c0_3]) ?_ 3 _ rfl; (with_reducible repeat (first | refine blk_drewN ?_ _ | refine blk_drew ?_ | refine blk_alloc ?_ _)); refine blk_put (cs := #[.int .u64 a0_0, .int .u64 a0_1, .slice A0_2 l0_2.length c0_2, .slice A0_3 l0_3.length c0_3]) ?_ 2 _ rfl; (with_reducible repeat (first | refine blk_drewN ?_ _ | refine blk_drew ?_ | refine blk_alloc ?_ _)); exact BK217.out) hb); have n1_ := Aside0.mk (below_step (by repeat (first | (with_reducible first | exact HB.out | apply below_alloc | apply pw_below_drewN | apply below_drew1 | refine below_set ?_ GE217.out) | exact HB.out)) hb); clear BK217; clear HB; have BK217 := n0_; have HB := n1_; clear n0_ n1_; (try clear hb); (try clear hb2); (try clear hk); (try clear hi); have hcz28_0 : w27.cell? ⟨gb217, 0, none⟩ = some (.int .u64 a0_0) := (blk_cell BK217.out 0).trans rfl; have hcz28_1 : w27.cell? ⟨gb217, 1, none⟩ = some (.int .u64 a0_1) := (blk_cell BK217.out 1).trans rfl; have hcz28_2 : w27.cell? ⟨gb217, 2, none⟩ = some (.slice A0_2 (tkQ10 ((ji4) : Int).toNat l0_2).length c0_2) := (blk_cell BK217.out 2).trans rfl; have hcz28_3 : w27.cell? ⟨gb217, 3, none⟩ = some (.slice A0_3 (tkQ10 ((ji7) : Int).toNat l0_3).length c0_3) := (blk_cell BK217.out 3).trans rfl; have hfz28_0 := blk_frozen BK217.out 0; have hfz28_1 := blk_frozen BK217.out 1; have hfz28_2 := blk_frozen BK217.out 2; have hfz28_3 := blk_frozen BK217.out 3) | ((with_reducible refine gate_callee (f := 9) rfl ?_); refine goesL_ (some 38) rfl rfl Try.func9 (by kernel_rfl) rfl #[.agg #[.int .u64 a0_0, .int .u64 a0_1, .slice A0_2 (tkQ10 ((ji4) : Int).toNat l0_2).length c0_2, .slice A0_3 (tkQ10 ((ji7) : Int).toNat l0_3).length c0_3]] rfl (by (try simp only [List.map_toArray, List.map_cons, List.map_nil]); first | done | (rw [show (tkQ10 ((ji4) : Int).toNat l0_2).length = (ji4).toNat from (by rw [tkQ10_len]; have h_ : ((ji4) : Int) ≤ (l0_2.length : Int) := (by first | (exact of_decide_eq_true (by with_reducible assumption)) | (rw [← hji4]; unfold mn; (repeat' split) <;> omega) | exact of_decide_eq_true (by assumption)); omega)] <;> rfl) | (rw [show (tkQ10 ((ji7) : Int).toNat l0_3).length = (ji7).toNat from (by rw [tkQ10_len]; have h_ : ((ji7) : Int) ≤ (l0_3.length : Int) := (by first | (exact of_decide_eq_true (by with_reducible assumption)) | (rw [← hji7]; unfold mn; (repeat' split) <;> omega) | exact of_decide_eq_true (by assumption)); omega)] <;> rfl) | (simp only [hji4, hji7]; rfl) | rfl | (simp only [List.length_drop, tkQ10_len]; rfl)) ?_; (with_reducible refine (nautilusref16_Encode.calls k a0_0 a0_1 _ _ (tkQ10 ((ji4) : Int).toNat l0_2) _ _ (tkQ10 ((ji7) : Int).toNat l0_3) t223 t224 _ ?side1 ?side2 ?side3 ?side4 A11.out).mono ?_); (case side1 => repeat (first | exact (Kd.C_below HR219.out HB.out) | (with_reducible refine Kd.C_alloc ?_ _) | (with_reducible refine Kd.C_drewN ?_ _) | (with_reducible refine Kd.C_drew ?_))); (case side2 => exact HC219.out); (case side3 => repeat (first | exact (Kd.C_below HR220.out HB.out) | (with_reducible refine Kd.C_alloc ?_ _) | (with_reducible refine Kd.C_drewN ?_ _) | (with_reducible refine Kd.C_drew ?_))); (case side4 => exact HC220.out); rintro e w29 ⟨rfl, hb⟩; refine ⟨_, rfl, ?_⟩; have n0_ := Aside0.mk (blk_below (g := gb217) (o := .cells #[.int .u64 a0_0, .int .u64 a0_1, .slice A0_2 (tkQ10 ((ji4) : Int).toNat l0_2).length c0_2, .slice A0_3 (tkQ10 ((ji7) : Int).toNat l0_3).length c0_3] 25 (0, 0)) (by (with_reducible repeat (first | refine blk_drewN ?_ _ | refine blk_drew ?_ | refine blk_alloc ?_ _)); exact BK217.out) hb); have n1_ := Aside0.mk (below_step (by repeat (first | (with_reducible first | exact HB.out | apply below_alloc | apply pw_below_drewN | apply below_drew1 | refine below_set ?_ GE217.out) | exact HB.out)) hb); clear BK217; clear HB; have BK217 := n0_; have HB := n1_; clear n0_ n1_; (try clear hb); (try clear hb2); (try clear hk); (try clear hi)) | ((with_reducible refine gate_callee (f := 10) rfl ?_); refine goesL_ (some 43) rfl rfl Try.func10 (by kernel_rfl) rfl #[.string a1] rfl (by (try simp only [List.map_toArray, List.map_cons, List.map_nil]); first | done | rfl | (simp only [List.length_drop, tkQ10_len]; rfl)) ?_; (with_reducible refine (root_Decode.calls k a1 t225 t226 t227 t230 t233 _ A12.out).mono ?_); rintro e w30 ⟨v228, v231, rfl, ho0, ho1, hb⟩; refine ⟨_, rfl, ?_⟩; have n0_ := Aside0.mk (Kd.R_lower ho0 (below_size (by repeat (first | (with_reducible first | exact HB.out | apply below_alloc | apply pw_below_drewN | apply below_drew1 | refine below_set ?_ GE217.out) | exact HB.out)))); have n1_ := Aside0.mk (Kd.R_lower ho1 (below_size (by repeat (first | (with_reducible first | exact HB.out | apply below_alloc | apply pw_below_drewN | apply below_drew1 | refine below_set ?_ GE217.out) | exact HB.out)))); have n2_ := Aside0.mk (blk_below (g := gb217) (o := .cells #[.int .u64 a0_0, .int .u64 a0_1, .slice A0_2 (tkQ10 ((ji4) : Int).toNat l0_2).length c0_2, .slice A0_3 (tkQ10 ((ji7) : Int).toNat l0_3).length c0_3] 25 (0, 0)) (by (with_reducible repeat (first | refine blk_drewN ?_ _ | refine blk_drew ?_ | refine blk_alloc ?_ _)); exact BK217.out) hb); have n3_ := Aside0.mk (below_step (by repeat (first | (with_reducible first | exact HB.out | apply below_alloc | apply pw_below_drewN | apply below_drew1 | refine below_set ?_ GE217.out) | exact HB.out)) hb); clear BK217; clear HB; have HO229 := n0_; have HO232 := n1_; have BK217 := n2_; have HB := n3_; clear n0_ n1_ n2_ n3_; (try clear hb); (try clear hb2); (try clear hk); (try clear hi); (try clear ho0); (try clear ho1)) | ((with_reducible refine gate_dst (N := 10) rfl ?_); refine box_event ?hg (N := 10) ?hd (cs := #[.int .u64 0, .int .u64 0, .slice none 0 0, .slice none 0 0]) (t := 25) ?hr ?_; (case hd => rfl); (case hg => rfl); (case hr => first | (go_simp; done) | (go_simp; rfl)); intro gb234 hg w31 hbox hb; have n0_ := Aside0.mk (Kd.R_below (by (with_reducible repeat (first | apply Kd.R_alloc | apply Kd.R_drewN | apply Kd.R_drew)); exact HO229.out) hb); have n1_ := Aside0.mk (Kd.R_below (by (with_reducible repeat (first | apply Kd.R_alloc | apply Kd.R_drewN | apply Kd.R_drew)); exact HO232.out) hb); have n2_ := Aside0.mk (blk_below (g := gb217) (o := .cells #[.int .u64 a0_0, .int .u64 a0_1, .slice A0_2 (tkQ10 ((ji4) : Int).toNat l0_2).length c0_2, .slice A0_3 (tkQ10 ((ji7) : Int).toNat l0_3).length c0_3] 25 (0, 0)) (by (with_reducible repeat (first | refine blk_drewN ?_ _ | refine blk_drew ?_ | refine blk_alloc ?_ _)); exact BK217.out) hb); have n3_ := Aside0.mk (below_step (by repeat (first | (with_reducible first | exact HB.out | apply below_alloc | apply pw_below_drewN | apply below_drew1 | refine below_set ?_ GE217.out) | exact HB.out)) hb); have n4_ := Aside0.mk (hbox); have n5_ := Aside0.mk ((by rw [hg]; exact (below_size (by repeat (first | (with_reducible first | exact HB.out | apply below_alloc | apply pw_below_drewN | apply below_drew1 | refine below_set ?_ GE217.out) | exact HB.out))) : w.heap.size ≤ gb234)); have n6_ := Aside0.mk ((by rw [hg]; exact (below_size (by repeat (first | (with_reducible first | exact HB.out | apply below_alloc | apply pw_below_drewN | apply below_drew1 | refine below_set ?_ GE217.out) | exact HB.out))) : w.heap.size ≤ gb234)); have n7_ := Aside0.mk ((by rw [hg]; exact Nat.ne_of_lt (blk_lt (g := gb217) (o := .cells #[.int .u64 a0_0, .int .u64 a0_1, .slice A0_2 (tkQ10 ((ji4) : Int).toNat l0_2).length c0_2, .slice A0_3 (tkQ10 ((ji7) : Int).toNat l0_3).length c0_3] 25 (0, 0)) (by (with_reducible repeat (first | refine blk_drewN ?_ _ | refine blk_drew ?_ | refine blk_alloc ?_ _)); exact BK217.out)) : gb217 ≠ gb234)); have n8_ := Aside0.mk ((by rw [hg]; exact Nat.ne_of_gt (blk_lt (g := gb217) (o := .cells #[.int .u64 a0_0, .int .u64 a0_1, .slice A0_2 (tkQ10 ((ji4) : Int).toNat l0_2).length c0_2, .slice A0_3 (tkQ10 ((ji7) : Int).toNat l0_3).length c0_3] 25 (0, 0)) (by (with_reducible repeat (first | refine blk_drewN ?_ _ | refine blk_drew ?_ | refine blk_alloc ?_ _)); exact BK217.out)) : gb234 ≠ gb217)); clear HO229; clear HO232; clear BK217; clear HB; have HO229 := n0_; have HO232 := n1_; have BK217 := n2_; have HB := n3_; have BK234 := n4_; have GW234 := n5_; have GE234 := n6_; have NB217_234 := n7_; have NB234_217 := n8_; clear n0_ n1_ n2_ n3_ n4_ n5_ n6_ n7_ n8_; clear hb hbox hg; have hnb32 := NB234_217.out; have hnc32 := NB217_234.out; have hcz33_0 : w31.cell? ⟨gb234, 0, none⟩ = some (.int .u64 0) := (blk_cell BK234.out 0).trans rfl; have hcz33_1 : w31.cell? ⟨gb234, 1, none⟩ = some (.int .u64 0) := (blk_cell BK234.out 1).trans rfl; have hcz33_2 : w31.cell? ⟨gb234, 2, none⟩ = some (.slice none 0 0) := (blk_cell BK234.out 2).trans rfl; have hcz33_3 : w31.cell? ⟨gb234, 3, none⟩ = some (.slice none 0 0) := (blk_cell BK234.out 3).trans rfl; have hfz33_0 := blk_frozen BK234.out 0; have hfz33_1 := blk_frozen BK234.out 1; have hfz33_2 := blk_frozen BK234.out 2; have hfz33_3 := blk_frozen BK234.out 3; obtain ⟨Ao34, co34, eo34⟩ := Kd.R_slice HO229.out; subst eo34; obtain ⟨Ao35, co35, eo35⟩ := Kd.R_slice HO232.out; subst eo35) | ((with_reducible refine gate_callee (f := 11) rfl ?_); refine goesL_ (some 48) rfl rfl Try.func11 (by kernel_rfl) rfl #[.string a1] rfl (by (try simp only [List.map_toArray, List.map_cons, List.map_nil]); first | done | rfl | (simp only [List.length_drop, tkQ10_len]; rfl)) ?_; (with_reducible refine (nautilusref16_Decode.calls k a1 t235 t236 t237 t240 t243 _ A13.out).mono ?_); rintro e w36 ⟨v238, v241, rfl, ho0, ho1, hb⟩; refine ⟨_, rfl, ?_⟩; have n0_ := Aside0.mk (Kd.R_mono (Kd.R_told (Kd.R_told (Kd.R_old (by (with_reducible repeat (first | apply Kd.R_alloc | apply Kd.R_drewN | apply Kd.R_drew)); exact (Kd.R_mono (Kd.R_far (p := ⟨gb234, 3, none⟩) (Kd.R_far (p := ⟨gb234, 2, none⟩) (Kd.R_far (p := ⟨gb234, 1, none⟩) (Kd.R_far (p := ⟨gb234, 0, none⟩) (Kd.R_types HO229.out BK234.out (by decide)) (fun _ hk => hk.2) (.int .u64 t225)) (fun _ hk => hk.2) (.int .u64 t226)) (fun _ hk => hk.2) (.slice Ao34 t227.length co34)) (fun _ hk => hk.2) (.slice Ao35 t230.length co35)) (fun _ h_ => h_.1))) hb) (Kd.R_base ho0)) (Kd.R_base ho1)) (fun _ h_ => h_.1)); have n1_ := Aside0.mk (Kd.R_mono (Kd.R_told (Kd.R_told (Kd.R_old (by (with_reducible repeat (first | apply Kd.R_alloc | apply Kd.R_drewN | apply Kd.R_drew)); exact (Kd.R_mono (Kd.R_far (p := ⟨gb234, 3, none⟩) (Kd.R_far (p := ⟨gb234, 2, none⟩) (Kd.R_far (p := ⟨gb234, 1, none⟩) (Kd.R_far (p := ⟨gb234, 0, none⟩) (Kd.R_types HO232.out BK234.out (by decide)) (fun _ hk => hk.2) (.int .u64 t225)) (fun _ hk => hk.2) (.int .u64 t226)) (fun _ hk => hk.2) (.slice Ao34 t227.length co34)) (fun _ hk => hk.2) (.slice Ao35 t230.length co35)) (fun _ h_ => h_.1))) hb) (Kd.R_base ho0)) (Kd.R_base ho1)) (fun _ h_ => h_.1)); have n2_ := Aside0.mk (Kd.R_lower (Kd.R_new' (Kd.R_new' ho0 (Kd.R_lt (by (with_reducible repeat (first | apply Kd.R_alloc | apply Kd.R_drewN | apply Kd.R_drew)); exact (Kd.R_mono (Kd.R_far (p := ⟨gb234, 3, none⟩) (Kd.R_far (p := ⟨gb234, 2, none⟩) (Kd.R_far (p := ⟨gb234, 1, none⟩) (Kd.R_far (p := ⟨gb234, 0, none⟩) (Kd.R_types HO229.out BK234.out (by decide)) (fun _ hk => hk.2) (.int .u64 t225)) (fun _ hk => hk.2) (.int .u64 t226)) (fun _ hk => hk.2) (.slice Ao34 t227.length co34)) (fun _ hk => hk.2) (.slice Ao35 t230.length co35)) (fun _ h_ => h_.1))))) (Kd.R_lt (by (with_reducible repeat (first | apply Kd.R_alloc | apply Kd.R_drewN | apply Kd.R_drew)); exact (Kd.R_mono (Kd.R_far (p := ⟨gb234, 3, none⟩) (Kd.R_far (p := ⟨gb234, 2, none⟩) (Kd.R_far (p := ⟨gb234, 1, none⟩) (Kd.R_far (p := ⟨gb234, 0, none⟩) (Kd.R_types HO232.out BK234.out (by decide)) (fun _ hk => hk.2) (.int .u64 t225)) (fun _ hk => hk.2) (.int .u64 t226)) (fun _ hk => hk.2) (.slice Ao34 t227.length co34)) (fun _ hk => hk.2) (.slice Ao35 t230.length co35)) (fun _ h_ => h_.1))))) (below_size (by repeat (first | (with_reducible first | exact HB.out | apply below_alloc | apply pw_below_drewN | apply below_drew1 | refine below_set ?_ GE217.out | refine below_set ?_ GE234.out) | exact HB.out)))); have n3_ := Aside0.mk (Kd.R_lower (Kd.R_new' (Kd.R_new' ho1 (Kd.R_lt (by (with_reducible repeat (first | apply Kd.R_alloc | apply Kd.R_drewN | apply Kd.R_drew)); exact (Kd.R_mono (Kd.R_far (p := ⟨gb234, 3, none⟩) (Kd.R_far (p := ⟨gb234, 2, none⟩) (Kd.R_far (p := ⟨gb234, 1, none⟩) (Kd.R_far (p := ⟨gb234, 0, none⟩) (Kd.R_types HO229.out BK234.out (by decide)) (fun _ hk => hk.2) (.int .u64 t225)) (fun _ hk => hk.2) (.int .u64 t226)) (fun _ hk => hk.2) (.slice Ao34 t227.length co34)) (fun _ hk => hk.2) (.slice Ao35 t230.length co35)) (fun _ h_ => h_.1))))) (Kd.R_lt (by (with_reducible repeat (first | apply Kd.R_alloc | apply Kd.R_drewN | apply Kd.R_drew)); exact (Kd.R_mono (Kd.R_far (p := ⟨gb234, 3, none⟩) (Kd.R_far (p := ⟨gb234, 2, none⟩) (Kd.R_far (p := ⟨gb234, 1, none⟩) (Kd.R_far (p := ⟨gb234, 0, none⟩) (Kd.R_types HO232.out BK234.out (by decide)) (fun _ hk => hk.2) (.int .u64 t225)) (fun _ hk => hk.2) (.int .u64 t226)) (fun _ hk => hk.2) (.slice Ao34 t227.length co34)) (fun _ hk => hk.2) (.slice Ao35 t230.length co35)) (fun _ h_ => h_.1))))) (below_size (by repeat (first | (with_reducible first | exact HB.out | apply below_alloc | apply pw_below_drewN | apply below_drew1 | refine below_set ?_ GE217.out | refine below_set ?_ GE234.out) | exact HB.out)))); have n4_ := Aside0.mk (blk_below (g := gb217) (o := .cells #[.int .u64 a0_0, .int .u64 a0_1, .slice A0_2 (tkQ10 ((ji4) : Int).toNat l0_2).length c0_2, .slice A0_3 (tkQ10 ((ji7) : Int).toNat l0_3).length c0_3] 25 (0, 0)) (by (with_reducible repeat (first | refine blk_drewN ?_ _ | refine blk_drew ?_ | refine blk_alloc ?_ _)); refine blk_far ?_ NB217_234.out _; (with_reducible repeat (first | refine blk_drewN ?_ _ | refine blk_drew ?_ | refine blk_alloc ?_ _)); refine blk_far ?_ NB217_234.out _; (with_reducible repeat (first | refine blk_drewN ?_ _ | refine blk_drew ?_ | refine blk_alloc ?_ _)); refine blk_far ?_ NB217_234.out _; (with_reducible repeat (first | refine blk_drewN ?_ _ | refine blk_drew ?_ | refine blk_alloc ?_ _)); refine blk_far ?_ NB217_234.out _; (with_reducible repeat (first | refine blk_drewN ?_ _ | refine blk_drew ?_ | refine blk_alloc ?_ _)); exact BK217.out) hb); have n5_ := Aside0.mk (blk_below (g := gb234) (o := .cells #[.int .u64 t225, .int .u64 t226, .slice Ao34 t227.length co34, .slice Ao35 t230.length co35] 25 (0, 0)) (by (with_reducible repeat (first | refine blk_drewN ?_ _ | refine blk_drew ?_ | refine blk_alloc ?_ _)); refine blk_put (cs := #[.int .u64 t225, .int .u64 t226, .slice Ao34 t227.length co34, .slice none 0 0]) ?_ 3 _ rfl; (with_reducible repeat (first | refine blk_drewN ?_ _ | refine blk_drew ?_ | refine blk_alloc ?_ _)); refine blk_put (cs := #[.int .u64 t225, .int .u64 t226, .slice none 0 0, .slice none 0 0]) ?_ 2 _ rfl; (with_reducible repeat (first | refine blk_drewN ?_ _ | refine blk_drew ?_ | refine blk_alloc ?_ _)); refine blk_put (cs := #[.int .u64 t225, .int .u64 0, .slice none 0 0, .slice none 0 0]) ?_ 1 _ rfl; (with_reducible repeat (first | refine blk_drewN ?_ _ | refine blk_drew ?_ | refine blk_alloc ?_ _)); refine blk_put (cs := #[.int .u64 0, .int .u64 0, .slice none 0 0, .slice none 0 0]) ?_ 0 _ rfl; (with_reducible repeat (first | refine blk_drewN ?_ _ | refine blk_drew ?_ | refine blk_alloc ?_ _)); exact BK234.out) hb); have n6_ := Aside0.mk (below_step (by repeat (first | (with_reducible first | exact HB.out | apply below_alloc | apply pw_below_drewN | apply below_drew1 | refine below_set ?_ GE217.out | refine below_set ?_ GE234.out) | exact HB.out)) hb); clear HO229; clear HO232; clear BK217; clear BK234; clear HB; have HO229 := n0_; have HO232 := n1_; have HO239 := n2_; have HO242 := n3_; have BK217 := n4_; have BK234 := n5_; have HB := n6_; clear n0_ n1_ n2_ n3_ n4_ n5_ n6_; (try clear hb); (try clear hb2); (try clear hk); (try clear hi); (try clear ho0); (try clear ho1)) | ((with_reducible refine gate_dst (N := 12) rfl ?_); refine box_event ?hg (N := 12) ?hd (cs := #[.int .u64 0, .int .u64 0, .slice none 0 0, .slice none 0 0]) (t := 25) ?hr ?_; (case hd => rfl); (case hg => rfl); (case hr => first | (go_simp; done) | (go_simp; rfl)); intro gb244 hg w37 hbox hb; have n0_ := Aside0.mk (Kd.R_below (by (with_reducible repeat (first | apply Kd.R_alloc | apply Kd.R_drewN | apply Kd.R_drew)); exact HO229.out) hb); have n1_ := Aside0.mk (Kd.R_below (by (with_reducible repeat (first | apply Kd.R_alloc | apply Kd.R_drewN | apply Kd.R_drew)); exact HO232.out) hb); have n2_ := Aside0.mk (Kd.R_below (by (with_reducible repeat (first | apply Kd.R_alloc | apply Kd.R_drewN | apply Kd.R_drew)); exact HO239.out) hb); have n3_ := Aside0.mk (Kd.R_below (by (with_reducible repeat (first | apply Kd.R_alloc | apply Kd.R_drewN | apply Kd.R_drew)); exact HO242.out) hb); have n4_ := Aside0.mk (blk_below (g := gb217) (o := .cells #[.int .u64 a0_0, .int .u64 a0_1, .slice A0_2 (tkQ10 ((ji4) : Int).toNat l0_2).length c0_2, .slice A0_3 (tkQ10 ((ji7) : Int).toNat l0_3).length c0_3] 25 (0, 0)) (by (with_reducible repeat (first | refine blk_drewN ?_ _ | refine blk_drew ?_ | refine blk_alloc ?_ _)); exact BK217.out) hb); have n5_ := Aside0.mk (blk_below (g := gb234) (o := .cells #[.int .u64 t225, .int .u64 t226, .slice Ao34 t227.length co34, .slice Ao35 t230.length co35] 25 (0, 0)) (by (with_reducible repeat (first | refine blk_drewN ?_ _ | refine blk_drew ?_ | refine blk_alloc ?_ _)); exact BK234.out) hb); have n6_ := Aside0.mk (below_step (by repeat (first | (with_reducible first | exact HB.out | apply below_alloc | apply pw_below_drewN | apply below_drew1 | refine below_set ?_ GE217.out | refine below_set ?_ GE234.out) | exact HB.out)) hb); have n7_ := Aside0.mk (hbox); have n8_ := Aside0.mk ((by rw [hg]; exact (below_size (by repeat (first | (with_reducible first | exact HB.out | apply below_alloc | apply pw_below_drewN | apply below_drew1 | refine below_set ?_ GE217.out | refine below_set ?_ GE234.out) | exact HB.out))) : w.heap.size ≤ gb244)); have n9_ := Aside0.mk ((by rw [hg]; exact (below_size (by repeat (first | (with_reducible first | exact HB.out | apply below_alloc | apply pw_below_drewN | apply below_drew1 | refine below_set ?_ GE217.out | refine below_set ?_ GE234.out) | exact HB.out))) : w.heap.size ≤ gb244)); have n10_ := Aside0.mk ((by rw [hg]; exact Nat.ne_of_lt (blk_lt (g := gb217) (o := .cells #[.int .u64 a0_0, .int .u64 a0_1, .slice A0_2 (tkQ10 ((ji4) : Int).toNat l0_2).length c0_2, .slice A0_3 (tkQ10 ((ji7) : Int).toNat l0_3).length c0_3] 25 (0, 0)) (by (with_reducible repeat (first | refine blk_drewN ?_ _ | refine blk_drew ?_ | refine blk_alloc ?_ _)); exact BK217.out)) : gb217 ≠ gb244)); have n11_ := Aside0.mk ((by rw [hg]; exact Nat.ne_of_gt (blk_lt (g := gb217) (o := .cells #[.int .u64 a0_0, .int .u64 a0_1, .slice A0_2 (tkQ10 ((ji4) : Int).toNat l0_2).length c0_2, .slice A0_3 (tkQ10 ((ji7) : Int).toNat l0_3).length c0_3] 25 (0, 0)) (by (with_reducible repeat (first | refine blk_drewN ?_ _ | refine blk_drew ?_ | refine blk_alloc ?_ _)); exact BK217.out)) : gb244 ≠ gb217)); have n12_ := Aside0.mk ((by rw [hg]; exact Nat.ne_of_lt (blk_lt (g := gb234) (o := .cells #[.int .u64 t225, .int .u64 t226, .slice Ao34 t227.length co34, .slice Ao35 t230.length co35] 25 (0, 0)) (by (with_reducible repeat (first | refine blk_drewN ?_ _ | refine blk_drew ?_ | refine blk_alloc ?_ _)); exact BK234.out)) : gb234 ≠ gb244)); have n13_ := Aside0.mk ((by rw [hg]; exact Nat.ne_of_gt (blk_lt (g := gb234) (o := .cells #[.int .u64 t225, .int .u64 t226, .slice Ao34 t227.length co34, .slice Ao35 t230.length co35] 25 (0, 0)) (by (with_reducible repeat (first | refine blk_drewN ?_ _ | refine blk_drew ?_ | refine blk_alloc ?_ _)); exact BK234.out)) : gb244 ≠ gb234)); clear HO229; clear HO232; clear HO239; clear HO242; clear BK217; clear BK234; clear HB; have HO229 := n0_; have HO232 := n1_; have HO239 := n2_; have HO242 := n3_; have BK217 := n4_; have BK234 := n5_; have HB := n6_; have BK244 := n7_; have GW244 := n8_; have GE244 := n9_; have NB217_244 := n10_; have NB244_217 := n11_; have NB234_244 := n12_; have NB244_234 := n13_; clear n0_ n1_ n2_ n3_ n4_ n5_ n6_ n7_ n8_ n9_ n10_ n11_ n12_ n13_; clear hb hbox hg; have hnb38 := NB244_217.out; have hnc38 := NB217_244.out; have hnb39 := NB244_234.out; have hnc39 := NB234_244.out; have hcz40_0 : w37.cell? ⟨gb244, 0, none⟩ = some (.int .u64 0) := (blk_cell BK244.out 0).trans rfl; have hcz40_1 : w37.cell? ⟨gb244, 1, none⟩ = some (.int .u64 0) := (blk_cell BK244.out 1).trans rfl; have hcz40_2 : w37.cell? ⟨gb244, 2, none⟩ = some (.slice none 0 0) := (blk_cell BK244.out 2).trans rfl; have hcz40_3 : w37.cell? ⟨gb244, 3, none⟩ = some (.slice none 0 0) := (blk_cell BK244.out 3).trans rfl; have hfz40_0 := blk_frozen BK244.out 0; have hfz40_1 := blk_frozen BK244.out 1; have hfz40_2 := blk_frozen BK244.out 2; have hfz40_3 := blk_frozen BK244.out 3; obtain ⟨Ao41, co41, eo41⟩ := Kd.R_slice HO239.out; subst eo41; obtain ⟨Ao42, co42, eo42⟩ := Kd.R_slice HO242.out; subst eo42))
                    have n0_ : Aside0 (Kd.R (Kd.int .u32) 35 ((((w37.setCell ⟨gb244, 0, none⟩ (.int .u64 t235)).setCell ⟨gb244, 1, none⟩ (.int .u64 t236)).setCell ⟨gb244, 2, none⟩ (.slice Ao41 t237.length co41)).setCell ⟨gb244, 3, none⟩ (.slice Ao42 t240.length co42)) w.heap.size (fun k_ => some k_ ≠ (.slice Ao35 t230.length co35 : Value).ownBlock ∧ some k_ ≠ (.slice Ao41 t237.length co41 : Value).ownBlock ∧ some k_ ≠ (.slice Ao42 t240.length co42 : Value).ownBlock) (.slice Ao34 t227.length co34) t227) := ⟨by (with_reducible repeat (first | apply Kd.R_alloc | apply Kd.R_drewN | apply Kd.R_drew)); exact Kd.R_mono (Kd.R_far (p := ⟨gb244, 3, none⟩) (Kd.R_far (p := ⟨gb244, 2, none⟩) (Kd.R_far (p := ⟨gb244, 1, none⟩) (Kd.R_far (p := ⟨gb244, 0, none⟩) (Kd.R_types HO229.out BK244.out (by decide)) (fun _ hk => hk.2) (.int .u64 t235)) (fun _ hk => hk.2) (.int .u64 t236)) (fun _ hk => hk.2) (.slice Ao41 t237.length co41)) (fun _ hk => hk.2) (.slice Ao42 t240.length co42)) (fun _ hk => ⟨hk.1.1.1, ⟨hk.1.1.2, hk.1.2⟩⟩)⟩
                    have n1_ : Aside0 (Kd.R (Kd.int .u32) 35 ((((w37.setCell ⟨gb244, 0, none⟩ (.int .u64 t235)).setCell ⟨gb244, 1, none⟩ (.int .u64 t236)).setCell ⟨gb244, 2, none⟩ (.slice Ao41 t237.length co41)).setCell ⟨gb244, 3, none⟩ (.slice Ao42 t240.length co42)) w.heap.size (fun k_ => some k_ ≠ (.slice Ao34 t227.length co34 : Value).ownBlock ∧ some k_ ≠ (.slice Ao41 t237.length co41 : Value).ownBlock ∧ some k_ ≠ (.slice Ao42 t240.length co42 : Value).ownBlock) (.slice Ao35 t230.length co35) t230) := ⟨by (with_reducible repeat (first | apply Kd.R_alloc | apply Kd.R_drewN | apply Kd.R_drew)); exact Kd.R_mono (Kd.R_far (p := ⟨gb244, 3, none⟩) (Kd.R_far (p := ⟨gb244, 2, none⟩) (Kd.R_far (p := ⟨gb244, 1, none⟩) (Kd.R_far (p := ⟨gb244, 0, none⟩) (Kd.R_types HO232.out BK244.out (by decide)) (fun _ hk => hk.2) (.int .u64 t235)) (fun _ hk => hk.2) (.int .u64 t236)) (fun _ hk => hk.2) (.slice Ao41 t237.length co41)) (fun _ hk => hk.2) (.slice Ao42 t240.length co42)) (fun _ hk => ⟨hk.1.1.1, ⟨hk.1.1.2, hk.1.2⟩⟩)⟩
                    have n2_ : Aside0 (Kd.R (Kd.int .u32) 35 ((((w37.setCell ⟨gb244, 0, none⟩ (.int .u64 t235)).setCell ⟨gb244, 1, none⟩ (.int .u64 t236)).setCell ⟨gb244, 2, none⟩ (.slice Ao41 t237.length co41)).setCell ⟨gb244, 3, none⟩ (.slice Ao42 t240.length co42)) w.heap.size (fun k_ => some k_ ≠ (.slice Ao34 t227.length co34 : Value).ownBlock ∧ some k_ ≠ (.slice Ao35 t230.length co35 : Value).ownBlock ∧ some k_ ≠ (.slice Ao42 t240.length co42 : Value).ownBlock) (.slice Ao41 t237.length co41) t237) := ⟨by (with_reducible repeat (first | apply Kd.R_alloc | apply Kd.R_drewN | apply Kd.R_drew)); exact Kd.R_mono (Kd.R_far (p := ⟨gb244, 3, none⟩) (Kd.R_far (p := ⟨gb244, 2, none⟩) (Kd.R_far (p := ⟨gb244, 1, none⟩) (Kd.R_far (p := ⟨gb244, 0, none⟩) (Kd.R_types HO239.out BK244.out (by decide)) (fun _ hk => hk.2) (.int .u64 t235)) (fun _ hk => hk.2) (.int .u64 t236)) (fun _ hk => hk.2) (.slice Ao41 t237.length co41)) (fun _ hk => hk.2) (.slice Ao42 t240.length co42)) (fun _ hk => ⟨hk.1.1.2, ⟨hk.1.2, hk.1.1.1⟩⟩)⟩
                    have n3_ : Aside0 (Kd.R (Kd.int .u32) 35 ((((w37.setCell ⟨gb244, 0, none⟩ (.int .u64 t235)).setCell ⟨gb244, 1, none⟩ (.int .u64 t236)).setCell ⟨gb244, 2, none⟩ (.slice Ao41 t237.length co41)).setCell ⟨gb244, 3, none⟩ (.slice Ao42 t240.length co42)) w.heap.size (fun k_ => some k_ ≠ (.slice Ao34 t227.length co34 : Value).ownBlock ∧ some k_ ≠ (.slice Ao35 t230.length co35 : Value).ownBlock ∧ some k_ ≠ (.slice Ao41 t237.length co41 : Value).ownBlock) (.slice Ao42 t240.length co42) t240) := ⟨by (with_reducible repeat (first | apply Kd.R_alloc | apply Kd.R_drewN | apply Kd.R_drew)); exact Kd.R_mono (Kd.R_far (p := ⟨gb244, 3, none⟩) (Kd.R_far (p := ⟨gb244, 2, none⟩) (Kd.R_far (p := ⟨gb244, 1, none⟩) (Kd.R_far (p := ⟨gb244, 0, none⟩) (Kd.R_types HO242.out BK244.out (by decide)) (fun _ hk => hk.2) (.int .u64 t235)) (fun _ hk => hk.2) (.int .u64 t236)) (fun _ hk => hk.2) (.slice Ao41 t237.length co41)) (fun _ hk => hk.2) (.slice Ao42 t240.length co42)) (fun _ hk => ⟨hk.1.1.2, ⟨hk.1.2, hk.1.1.1⟩⟩)⟩
                    have n4_ : Aside0 (((((w37.setCell ⟨gb244, 0, none⟩ (.int .u64 t235)).setCell ⟨gb244, 1, none⟩ (.int .u64 t236)).setCell ⟨gb244, 2, none⟩ (.slice Ao41 t237.length co41)).setCell ⟨gb244, 3, none⟩ (.slice Ao42 t240.length co42)).heap[gb217]? = some (.cells #[.int .u64 a0_0, .int .u64 a0_1, .slice A0_2 (tkQ10 ((ji4) : Int).toNat l0_2).length c0_2, .slice A0_3 (tkQ10 ((ji7) : Int).toNat l0_3).length c0_3] 25 (0, 0))) := ⟨by (with_reducible repeat (first | refine blk_drewN ?_ _ | refine blk_drew ?_ | refine blk_alloc ?_ _)); refine blk_far ?_ NB217_244.out _; (with_reducible repeat (first | refine blk_drewN ?_ _ | refine blk_drew ?_ | refine blk_alloc ?_ _)); refine blk_far ?_ NB217_244.out _; (with_reducible repeat (first | refine blk_drewN ?_ _ | refine blk_drew ?_ | refine blk_alloc ?_ _)); refine blk_far ?_ NB217_244.out _; (with_reducible repeat (first | refine blk_drewN ?_ _ | refine blk_drew ?_ | refine blk_alloc ?_ _)); refine blk_far ?_ NB217_244.out _; (with_reducible repeat (first | refine blk_drewN ?_ _ | refine blk_drew ?_ | refine blk_alloc ?_ _)); exact BK217.out⟩
                    have n5_ : Aside0 (((((w37.setCell ⟨gb244, 0, none⟩ (.int .u64 t235)).setCell ⟨gb244, 1, none⟩ (.int .u64 t236)).setCell ⟨gb244, 2, none⟩ (.slice Ao41 t237.length co41)).setCell ⟨gb244, 3, none⟩ (.slice Ao42 t240.length co42)).heap[gb234]? = some (.cells #[.int .u64 t225, .int .u64 t226, .slice Ao34 t227.length co34, .slice Ao35 t230.length co35] 25 (0, 0))) := ⟨by (with_reducible repeat (first | refine blk_drewN ?_ _ | refine blk_drew ?_ | refine blk_alloc ?_ _)); refine blk_far ?_ NB234_244.out _; (with_reducible repeat (first | refine blk_drewN ?_ _ | refine blk_drew ?_ | refine blk_alloc ?_ _)); refine blk_far ?_ NB234_244.out _; (with_reducible repeat (first | refine blk_drewN ?_ _ | refine blk_drew ?_ | refine blk_alloc ?_ _)); refine blk_far ?_ NB234_244.out _; (with_reducible repeat (first | refine blk_drewN ?_ _ | refine blk_drew ?_ | refine blk_alloc ?_ _)); refine blk_far ?_ NB234_244.out _; (with_reducible repeat (first | refine blk_drewN ?_ _ | refine blk_drew ?_ | refine blk_alloc ?_ _)); exact BK234.out⟩
                    have n6_ : Aside0 (((((w37.setCell ⟨gb244, 0, none⟩ (.int .u64 t235)).setCell ⟨gb244, 1, none⟩ (.int .u64 t236)).setCell ⟨gb244, 2, none⟩ (.slice Ao41 t237.length co41)).setCell ⟨gb244, 3, none⟩ (.slice Ao42 t240.length co42)).heap[gb244]? = some (.cells #[.int .u64 t235, .int .u64 t236, .slice Ao41 t237.length co41, .slice Ao42 t240.length co42] 25 (0, 0))) := ⟨by (with_reducible repeat (first | refine blk_drewN ?_ _ | refine blk_drew ?_ | refine blk_alloc ?_ _)); refine blk_put (cs := #[.int .u64 t235, .int .u64 t236, .slice Ao41 t237.length co41, .slice none 0 0]) ?_ 3 _ rfl; (with_reducible repeat (first | refine blk_drewN ?_ _ | refine blk_drew ?_ | refine blk_alloc ?_ _)); refine blk_put (cs := #[.int .u64 t235, .int .u64 t236, .slice none 0 0, .slice none 0 0]) ?_ 2 _ rfl; (with_reducible repeat (first | refine blk_drewN ?_ _ | refine blk_drew ?_ | refine blk_alloc ?_ _)); refine blk_put (cs := #[.int .u64 t235, .int .u64 0, .slice none 0 0, .slice none 0 0]) ?_ 1 _ rfl; (with_reducible repeat (first | refine blk_drewN ?_ _ | refine blk_drew ?_ | refine blk_alloc ?_ _)); refine blk_put (cs := #[.int .u64 0, .int .u64 0, .slice none 0 0, .slice none 0 0]) ?_ 0 _ rfl; (with_reducible repeat (first | refine blk_drewN ?_ _ | refine blk_drew ?_ | refine blk_alloc ?_ _)); exact BK244.out⟩
                    have n7_ : Aside0 (Below w.heap.size w ((((w37.setCell ⟨gb244, 0, none⟩ (.int .u64 t235)).setCell ⟨gb244, 1, none⟩ (.int .u64 t236)).setCell ⟨gb244, 2, none⟩ (.slice Ao41 t237.length co41)).setCell ⟨gb244, 3, none⟩ (.slice Ao42 t240.length co42))) := ⟨by repeat (first | (with_reducible first | exact HB.out | apply below_alloc | apply pw_below_drewN | apply below_drew1 | refine below_set ?_ GE217.out | refine below_set ?_ GE234.out | refine below_set ?_ GE244.out) | exact HB.out)⟩
                    (try clear HO229)
                    (try clear HO232)
                    (try clear HO239)
                    (try clear HO242)
                    (try clear BK217)
                    (try clear BK234)
                    (try clear BK244)
                    (try clear HB)
                    generalize ((((w37.setCell ⟨gb244, 0, none⟩ (.int .u64 t235)).setCell ⟨gb244, 1, none⟩ (.int .u64 t236)).setCell ⟨gb244, 2, none⟩ (.slice Ao41 t237.length co41)).setCell ⟨gb244, 3, none⟩ (.slice Ao42 t240.length co42)) = w43 at n0_ n1_ n2_ n3_ n4_ n5_ n6_ n7_ ⊢
                    have HO229 := n0_
                    have HO232 := n1_
                    have HO239 := n2_
                    have HO242 := n3_
                    have BK217 := n4_
                    have BK234 := n5_
                    have BK244 := n6_
                    have HB := n7_
                    clear n0_ n1_ n2_ n3_ n4_ n5_ n6_ n7_
                    have n0_ := Aside0.mk (Kd.R_drew HO229.out)
                    have n1_ := Aside0.mk (Kd.R_drew HO232.out)
                    have n2_ := Aside0.mk (Kd.R_drew HO239.out)
                    have n3_ := Aside0.mk (Kd.R_drew HO242.out)
                    have n4_ := Aside0.mk (blk_drew BK217.out)
                    have n5_ := Aside0.mk (blk_drew BK234.out)
                    have n6_ := Aside0.mk (blk_drew BK244.out)
                    have n7_ := Aside0.mk (below_drew1 HB.out)
                    clear HO229
                    clear HO232
                    clear HO239
                    clear HO242
                    clear BK217
                    clear BK234
                    clear BK244
                    clear HB
                    have HO229 := n0_
                    have HO232 := n1_
                    have HO239 := n2_
                    have HO242 := n3_
                    have BK217 := n4_
                    have BK234 := n5_
                    have BK244 := n6_
                    have HB := n7_
                    clear n0_ n1_ n2_ n3_ n4_ n5_ n6_ n7_
                    refine start_ (n := 29) (S := fun w' => w'.cell? ⟨gb217, 0, none⟩ = some (.int .u64 a0_0) ∧ w'.cell? ⟨gb217, 1, none⟩ = some (.int .u64 a0_1) ∧ w'.cell? ⟨gb217, 2, none⟩ = some (.slice A0_2 (tkQ10 ((ji4) : Int).toNat l0_2).length c0_2) ∧ w'.cell? ⟨gb217, 3, none⟩ = some (.slice A0_3 (tkQ10 ((ji7) : Int).toNat l0_3).length c0_3) ∧ w'.cell? ⟨gb234, 0, none⟩ = some (.int .u64 t225) ∧ w'.cell? ⟨gb234, 1, none⟩ = some (.int .u64 t226) ∧ w'.cell? ⟨gb234, 2, none⟩ = some (.slice Ao34 t227.length co34) ∧ w'.cell? ⟨gb234, 3, none⟩ = some (.slice Ao35 t230.length co35) ∧ w'.cell? ⟨gb244, 0, none⟩ = some (.int .u64 t235) ∧ w'.cell? ⟨gb244, 1, none⟩ = some (.int .u64 t236) ∧ w'.cell? ⟨gb244, 2, none⟩ = some (.slice Ao41 t237.length co41) ∧ w'.cell? ⟨gb244, 3, none⟩ = some (.slice Ao42 t240.length co42)) (ds := []) #[false, false, false, false, false, false, false, false, false, false, false, false, false, false, false, false, false, false, false, false, false, false, false, false, false, false, false, false, false] (by kernel_rfl) rfl rfl ⟨(blk_cell BK217.out 0).trans rfl, (blk_cell BK217.out 1).trans rfl, (blk_cell BK217.out 2).trans rfl, (blk_cell BK217.out 3).trans rfl, (blk_cell BK234.out 0).trans rfl, (blk_cell BK234.out 1).trans rfl, (blk_cell BK234.out 2).trans rfl, (blk_cell BK234.out 3).trans rfl, (blk_cell BK244.out 0).trans rfl, (blk_cell BK244.out 1).trans rfl, (blk_cell BK244.out 2).trans rfl, (blk_cell BK244.out 3).trans rfl⟩ (fun hHeld => ?_); refine with_tabW nautiluslaw16_RootBytes.tab8 nautiluslaw16_RootBytes.bits8 (fun HT_ HW_ => ?_)
                    generalize w43.drew = w44 at HO229 HO232 HO239 HO242 BK217 BK234 BK244 HB hHeld ⊢
                    refine pure_ (i := 0) (N := some 51) (v := ?_) (a' := ?_) #[true, false, false, false, false, false, false, false, false, false, false, false, false, false, false, false, false, false, false, false, false, false, false, false, false, false, false, false, false] rfl rfl (any_of HT_.out (by kernel_rfl)) (fun _ _ _ h => h) (Or.inl ⟨by rfl, ?_⟩) ?_ ?_
                    rotate_left
                    · intro w'
                      go_simp
                      with_reducible rfl
                    rotate_left
                    · simp only [Act.put, List.setIfInBounds_toArray, List.set_cons_zero, List.set_cons_succ, i64_w, i32_w]
                      rfl
                    refine pure_ (i := 1) (N := some 52) (v := ?_) (a' := ?_) #[true, true, false, false, false, false, false, false, false, false, false, false, false, false, false, false, false, false, false, false, false, false, false, false, false, false, false, false, false] rfl rfl (any_of HT_.out (by kernel_rfl)) (fun _ _ _ h => h) (Or.inl ⟨by rfl, ?_⟩) ?_ ?_
                    rotate_left
                    · intro w'
                      go_simp
                      with_reducible rfl
                    rotate_left
                    · simp only [Act.put, List.setIfInBounds_toArray, List.set_cons_zero, List.set_cons_succ, i64_w, i32_w]
                      rfl
                    refine take_ (i := 2) (N := some 53) (v := ?_) (a' := ?_) #[true, true, true, false, false, false, false, false, false, false, false, false, false, false, false, false, false, false, false, false, false, false, false, false, false, false, false, false, false] rfl rfl (take_ofW HT_.out HW_.out (by kernel_rfl)) (fun _ _ _ h => h) (Or.inl ⟨by rfl, ?_⟩) hHeld ?_ ?_
                    rotate_left
                    · rintro w' ⟨s0, s1, s2, s3, s4, s5, s6, s7, s8, s9, s10, s11⟩
                      go_simp
                      with_reducible rfl
                    rotate_left
                    · simp only [Act.put, List.setIfInBounds_toArray, List.set_cons_zero, List.set_cons_succ, i64_w, i32_w]
                      rfl
                    refine take_ (i := 4) (N := some 55) (v := ?_) (a' := ?_) #[true, true, true, false, true, false, false, false, false, false, false, false, false, false, false, false, false, false, false, false, false, false, false, false, false, false, false, false, false] rfl rfl (take_ofW HT_.out HW_.out (by kernel_rfl)) (fun _ _ _ h => h) (Or.inl ⟨by rfl, ?_⟩) hHeld ?_ ?_
                    rotate_left
                    · rintro w' ⟨s0, s1, s2, s3, s4, s5, s6, s7, s8, s9, s10, s11⟩
                      go_simp
                      with_reducible rfl
                    rotate_left
                    · simp only [Act.put, List.setIfInBounds_toArray, List.set_cons_zero, List.set_cons_succ, i64_w, i32_w]
                      rfl
                    refine one_ (i := 3) (N := some 54) #[true, true, true, true, true, false, false, false, false, false, false, false, false, false, false, false, false, false, false, false, false, false, false, false, false, false, false, false, false] rfl rfl (one_of HT_.out (by kernel_rfl)) (by decide) (fun K hK => ?_)
                    refine goes_ Try.func12 (by kernel_rfl) rfl #[.agg #[.int .u64 a0_0, .int .u64 a0_1, .slice A0_2 (tkQ10 ((ji4) : Int).toNat l0_2).length c0_2, .slice A0_3 (tkQ10 ((ji7) : Int).toNat l0_3).length c0_3]] (by rfl) rfl rfl (by (try simp only [List.map_toArray, List.map_cons, List.map_nil]); first | done | (rw [show (tkQ10 ((ji4) : Int).toNat l0_2).length = (ji4).toNat from (by rw [tkQ10_len]; have h_ : ((ji4) : Int) ≤ (l0_2.length : Int) := (by first | (exact of_decide_eq_true (by with_reducible assumption)) | (rw [← hji4]; unfold mn; (repeat' split) <;> omega) | exact of_decide_eq_true (by assumption)); omega)] <;> rfl) | (rw [show (tkQ10 ((ji7) : Int).toNat l0_3).length = (ji7).toNat from (by rw [tkQ10_len]; have h_ : ((ji7) : Int) ≤ (l0_3.length : Int) := (by first | (exact of_decide_eq_true (by with_reducible assumption)) | (rw [← hji7]; unfold mn; (repeat' split) <;> omega) | exact of_decide_eq_true (by assumption)); omega)] <;> rfl) | (simp only [hji4, hji7]; rfl) | rfl | (simp only [List.length_drop, tkQ10_len]; rfl)) ?_
                    with_reducible refine (root_Right.calls a0_0 a0_1 _ _ (tkQ10 ((ji4) : Int).toNat l0_2) _ _ (tkQ10 ((ji7) : Int).toNat l0_3) t245 _ ?side1 ?side2 ?side3 ?side4 A15.out).mono ?_
                    (case side1 => repeat (first | exact (Kd.C_below HR219.out HB.out) | (with_reducible refine Kd.C_alloc ?_ _) | (with_reducible refine Kd.C_drewN ?_ _) | (with_reducible refine Kd.C_drew ?_)))
                    (case side2 => exact HC219.out)
                    (case side3 => repeat (first | exact (Kd.C_below HR220.out HB.out) | (with_reducible refine Kd.C_alloc ?_ _) | (with_reducible refine Kd.C_drewN ?_ _) | (with_reducible refine Kd.C_drew ?_)))
                    (case side4 => exact HC220.out)
                    rintro e w45 ⟨rfl, hb⟩
                    refine ⟨_, rfl, ?_⟩
                    have n0_ := Aside0.mk (Kd.R_below (by (with_reducible repeat (first | apply Kd.R_alloc | apply Kd.R_drewN | apply Kd.R_drew)); exact HO229.out) hb)
                    have n1_ := Aside0.mk (Kd.R_below (by (with_reducible repeat (first | apply Kd.R_alloc | apply Kd.R_drewN | apply Kd.R_drew)); exact HO232.out) hb)
                    have n2_ := Aside0.mk (Kd.R_below (by (with_reducible repeat (first | apply Kd.R_alloc | apply Kd.R_drewN | apply Kd.R_drew)); exact HO239.out) hb)
                    have n3_ := Aside0.mk (Kd.R_below (by (with_reducible repeat (first | apply Kd.R_alloc | apply Kd.R_drewN | apply Kd.R_drew)); exact HO242.out) hb)
                    have n4_ := Aside0.mk (blk_below (g := gb217) (o := .cells #[.int .u64 a0_0, .int .u64 a0_1, .slice A0_2 (tkQ10 ((ji4) : Int).toNat l0_2).length c0_2, .slice A0_3 (tkQ10 ((ji7) : Int).toNat l0_3).length c0_3] 25 (0, 0)) (by (with_reducible repeat (first | refine blk_drewN ?_ _ | refine blk_drew ?_ | refine blk_alloc ?_ _)); exact BK217.out) hb)
                    have n5_ := Aside0.mk (blk_below (g := gb234) (o := .cells #[.int .u64 t225, .int .u64 t226, .slice Ao34 t227.length co34, .slice Ao35 t230.length co35] 25 (0, 0)) (by (with_reducible repeat (first | refine blk_drewN ?_ _ | refine blk_drew ?_ | refine blk_alloc ?_ _)); exact BK234.out) hb)
                    have n6_ := Aside0.mk (blk_below (g := gb244) (o := .cells #[.int .u64 t235, .int .u64 t236, .slice Ao41 t237.length co41, .slice Ao42 t240.length co42] 25 (0, 0)) (by (with_reducible repeat (first | refine blk_drewN ?_ _ | refine blk_drew ?_ | refine blk_alloc ?_ _)); exact BK244.out) hb)
                    have n7_ := Aside0.mk (below_step (by repeat (first | (with_reducible first | exact HB.out | apply below_alloc | apply pw_below_drewN | apply below_drew1 | refine below_set ?_ GE217.out | refine below_set ?_ GE234.out | refine below_set ?_ GE244.out) | exact HB.out)) hb)
                    clear HO229
                    clear HO232
                    clear HO239
                    clear HO242
                    clear BK217
                    clear BK234
                    clear BK244
                    clear HB
                    have HO229 := n0_
                    have HO232 := n1_
                    have HO239 := n2_
                    have HO242 := n3_
                    have BK217 := n4_
                    have BK234 := n5_
                    have BK244 := n6_
                    have HB := n7_
                    clear n0_ n1_ n2_ n3_ n4_ n5_ n6_ n7_
                    (try clear hb)
                    (try clear hb2)
                    (try clear hk)
                    (try clear hi)
                    refine hK.out _ _ ⟨(blk_cell BK217.out 0).trans rfl, (blk_cell BK217.out 1).trans rfl, (blk_cell BK217.out 2).trans rfl, (blk_cell BK217.out 3).trans rfl, (blk_cell BK234.out 0).trans rfl, (blk_cell BK234.out 1).trans rfl, (blk_cell BK234.out 2).trans rfl, (blk_cell BK234.out 3).trans rfl, (blk_cell BK244.out 0).trans rfl, (blk_cell BK244.out 1).trans rfl, (blk_cell BK244.out 2).trans rfl, (blk_cell BK244.out 3).trans rfl⟩ (fun hHeld => ?_)
                    clear hK K
                    refine norm_ (a' := ?_) ?_ ?_
                    rotate_left
                    · show Act.put _ (some 54) _ = _
                      simp only [Act.put, List.setIfInBounds_toArray, List.set_cons_zero, List.set_cons_succ, i64_w, i32_w]
                      rfl
                    refine one_ (i := 5) (N := some 56) #[true, true, true, true, true, true, false, false, false, false, false, false, false, false, false, false, false, false, false, false, false, false, false, false, false, false, false, false, false] rfl rfl (one_of HT_.out (by kernel_rfl)) (by decide) (fun K hK => ?_)
                    refine goes_ Try.func13 (by kernel_rfl) rfl #[.agg #[.int .u64 a0_0, .int .u64 a0_1, .slice A0_2 (tkQ10 ((ji4) : Int).toNat l0_2).length c0_2, .slice A0_3 (tkQ10 ((ji7) : Int).toNat l0_3).length c0_3]] (by rfl) rfl rfl (by (try simp only [List.map_toArray, List.map_cons, List.map_nil]); first | done | (rw [show (tkQ10 ((ji4) : Int).toNat l0_2).length = (ji4).toNat from (by rw [tkQ10_len]; have h_ : ((ji4) : Int) ≤ (l0_2.length : Int) := (by first | (exact of_decide_eq_true (by with_reducible assumption)) | (rw [← hji4]; unfold mn; (repeat' split) <;> omega) | exact of_decide_eq_true (by assumption)); omega)] <;> rfl) | (rw [show (tkQ10 ((ji7) : Int).toNat l0_3).length = (ji7).toNat from (by rw [tkQ10_len]; have h_ : ((ji7) : Int) ≤ (l0_3.length : Int) := (by first | (exact of_decide_eq_true (by with_reducible assumption)) | (rw [← hji7]; unfold mn; (repeat' split) <;> omega) | exact of_decide_eq_true (by assumption)); omega)] <;> rfl) | (simp only [hji4, hji7]; rfl) | rfl | (simp only [List.length_drop, tkQ10_len]; rfl)) ?_
                    with_reducible refine (nautilusref16_Right.calls k a0_0 a0_1 _ _ (tkQ10 ((ji4) : Int).toNat l0_2) _ _ (tkQ10 ((ji7) : Int).toNat l0_3) t246 _ ?side1 ?side2 ?side3 ?side4 A16.out).mono ?_
                    (case side1 => repeat (first | exact (Kd.C_below HR219.out HB.out) | (with_reducible refine Kd.C_alloc ?_ _) | (with_reducible refine Kd.C_drewN ?_ _) | (with_reducible refine Kd.C_drew ?_)))
                    (case side2 => exact HC219.out)
                    (case side3 => repeat (first | exact (Kd.C_below HR220.out HB.out) | (with_reducible refine Kd.C_alloc ?_ _) | (with_reducible refine Kd.C_drewN ?_ _) | (with_reducible refine Kd.C_drew ?_)))
                    (case side4 => exact HC220.out)
                    rintro e w46 ⟨rfl, hb⟩
                    refine ⟨_, rfl, ?_⟩
                    have n0_ := Aside0.mk (Kd.R_below (by (with_reducible repeat (first | apply Kd.R_alloc | apply Kd.R_drewN | apply Kd.R_drew)); exact HO229.out) hb)
                    have n1_ := Aside0.mk (Kd.R_below (by (with_reducible repeat (first | apply Kd.R_alloc | apply Kd.R_drewN | apply Kd.R_drew)); exact HO232.out) hb)
                    have n2_ := Aside0.mk (Kd.R_below (by (with_reducible repeat (first | apply Kd.R_alloc | apply Kd.R_drewN | apply Kd.R_drew)); exact HO239.out) hb)
                    have n3_ := Aside0.mk (Kd.R_below (by (with_reducible repeat (first | apply Kd.R_alloc | apply Kd.R_drewN | apply Kd.R_drew)); exact HO242.out) hb)
                    have n4_ := Aside0.mk (blk_below (g := gb217) (o := .cells #[.int .u64 a0_0, .int .u64 a0_1, .slice A0_2 (tkQ10 ((ji4) : Int).toNat l0_2).length c0_2, .slice A0_3 (tkQ10 ((ji7) : Int).toNat l0_3).length c0_3] 25 (0, 0)) (by (with_reducible repeat (first | refine blk_drewN ?_ _ | refine blk_drew ?_ | refine blk_alloc ?_ _)); exact BK217.out) hb)
                    have n5_ := Aside0.mk (blk_below (g := gb234) (o := .cells #[.int .u64 t225, .int .u64 t226, .slice Ao34 t227.length co34, .slice Ao35 t230.length co35] 25 (0, 0)) (by (with_reducible repeat (first | refine blk_drewN ?_ _ | refine blk_drew ?_ | refine blk_alloc ?_ _)); exact BK234.out) hb)
                    have n6_ := Aside0.mk (blk_below (g := gb244) (o := .cells #[.int .u64 t235, .int .u64 t236, .slice Ao41 t237.length co41, .slice Ao42 t240.length co42] 25 (0, 0)) (by (with_reducible repeat (first | refine blk_drewN ?_ _ | refine blk_drew ?_ | refine blk_alloc ?_ _)); exact BK244.out) hb)
                    have n7_ := Aside0.mk (below_step (by repeat (first | (with_reducible first | exact HB.out | apply below_alloc | apply pw_below_drewN | apply below_drew1 | refine below_set ?_ GE217.out | refine below_set ?_ GE234.out | refine below_set ?_ GE244.out) | exact HB.out)) hb)
                    clear HO229
                    clear HO232
                    clear HO239
                    clear HO242
                    clear BK217
                    clear BK234
                    clear BK244
                    clear HB
                    have HO229 := n0_
                    have HO232 := n1_
                    have HO239 := n2_
                    have HO242 := n3_
                    have BK217 := n4_
                    have BK234 := n5_
                    have BK244 := n6_
                    have HB := n7_
                    clear n0_ n1_ n2_ n3_ n4_ n5_ n6_ n7_
                    (try clear hb)
                    (try clear hb2)
                    (try clear hk)
                    (try clear hi)
                    refine hK.out _ _ ⟨(blk_cell BK217.out 0).trans rfl, (blk_cell BK217.out 1).trans rfl, (blk_cell BK217.out 2).trans rfl, (blk_cell BK217.out 3).trans rfl, (blk_cell BK234.out 0).trans rfl, (blk_cell BK234.out 1).trans rfl, (blk_cell BK234.out 2).trans rfl, (blk_cell BK234.out 3).trans rfl, (blk_cell BK244.out 0).trans rfl, (blk_cell BK244.out 1).trans rfl, (blk_cell BK244.out 2).trans rfl, (blk_cell BK244.out 3).trans rfl⟩ (fun hHeld => ?_)
                    clear hK K
                    refine norm_ (a' := ?_) ?_ ?_
                    rotate_left
                    · show Act.put _ (some 56) _ = _
                      simp only [Act.put, List.setIfInBounds_toArray, List.set_cons_zero, List.set_cons_succ, i64_w, i32_w]
                      rfl
                    refine pure_ (i := 6) (N := some 57) (v := ?_) (a' := ?_) #[true, true, true, true, true, true, true, false, false, false, false, false, false, false, false, false, false, false, false, false, false, false, false, false, false, false, false, false, false] rfl rfl (any_of HT_.out (by kernel_rfl)) (fun _ _ _ h => h) (Or.inl ⟨by rfl, ?_⟩) ?_ ?_
                    rotate_left
                    · intro w'
                      go_simp
                      with_reducible rfl
                    rotate_left
                    · simp only [Act.put, List.setIfInBounds_toArray, List.set_cons_zero, List.set_cons_succ, i64_w, i32_w]
                      rfl
                    refine pure_ (i := 7) (N := some 58) (v := ?_) (a' := ?_) #[true, true, true, true, true, true, true, true, false, false, false, false, false, false, false, false, false, false, false, false, false, false, false, false, false, false, false, false, false] rfl rfl (any_of HT_.out (by kernel_rfl)) (fun _ _ _ h => h) (Or.inl ⟨by rfl, ?_⟩) ?_ ?_
                    rotate_left
                    · intro w'
                      go_simp
                      with_reducible rfl
                    rotate_left
                    · simp only [Act.put, List.setIfInBounds_toArray, List.set_cons_zero, List.set_cons_succ, i64_w, i32_w]
                      rfl
                    refine pure_ (i := 8) (N := some 59) (v := ?_) (a' := ?_) #[true, true, true, true, true, true, true, true, true, false, false, false, false, false, false, false, false, false, false, false, false, false, false, false, false, false, false, false, false] rfl rfl (any_of HT_.out (by kernel_rfl)) (fun _ _ _ h => h) (Or.inl ⟨by rfl, ?_⟩) ?_ ?_
                    rotate_left
                    · intro w'
                      go_simp
                      with_reducible rfl
                    rotate_left
                    · simp only [Act.put, List.setIfInBounds_toArray, List.set_cons_zero, List.set_cons_succ, i64_w, i32_w]
                      rfl
                    refine pure_ (i := 9) (N := some 60) (v := ?_) (a' := ?_) #[true, true, true, true, true, true, true, true, true, true, false, false, false, false, false, false, false, false, false, false, false, false, false, false, false, false, false, false, false] rfl rfl (any_of HT_.out (by kernel_rfl)) (fun _ _ _ h => h) (Or.inl ⟨by rfl, ?_⟩) ?_ ?_
                    rotate_left
                    · intro w'
                      go_simp
                      with_reducible rfl
                    rotate_left
                    · simp only [Act.put, List.setIfInBounds_toArray, List.set_cons_zero, List.set_cons_succ, i64_w, i32_w]
                      rfl
                    refine pure_ (i := 10) (N := some 61) (v := ?_) (a' := ?_) #[true, true, true, true, true, true, true, true, true, true, true, false, false, false, false, false, false, false, false, false, false, false, false, false, false, false, false, false, false] rfl rfl (any_of HT_.out (by kernel_rfl)) (fun _ _ _ h => h) (Or.inl ⟨by rfl, ?_⟩) ?_ ?_
                    rotate_left
                    · intro w'
                      go_simp
                      with_reducible rfl
                    rotate_left
                    · simp only [Act.put, List.setIfInBounds_toArray, List.set_cons_zero, List.set_cons_succ, i64_w, i32_w]
                      rfl
                    refine pure_ (i := 11) (N := some 62) (v := ?_) (a' := ?_) #[true, true, true, true, true, true, true, true, true, true, true, true, false, false, false, false, false, false, false, false, false, false, false, false, false, false, false, false, false] rfl rfl (any_of HT_.out (by kernel_rfl)) (fun _ _ _ h => h) (Or.inl ⟨by rfl, ?_⟩) ?_ ?_
                    rotate_left
                    · intro w'
                      go_simp
                      with_reducible rfl
                    rotate_left
                    · simp only [Act.put, List.setIfInBounds_toArray, List.set_cons_zero, List.set_cons_succ, i64_w, i32_w]
                      rfl
                    refine pure_ (i := 12) (N := some 63) (v := ?_) (a' := ?_) #[true, true, true, true, true, true, true, true, true, true, true, true, true, false, false, false, false, false, false, false, false, false, false, false, false, false, false, false, false] rfl rfl (any_of HT_.out (by kernel_rfl)) (fun _ _ _ h => h) (Or.inl ⟨by rfl, ?_⟩) ?_ ?_
                    rotate_left
                    · intro w'
                      go_simp
                      with_reducible rfl
                    rotate_left
                    · simp only [Act.put, List.setIfInBounds_toArray, List.set_cons_zero, List.set_cons_succ, i64_w, i32_w]
                      rfl
                    refine pure_ (i := 13) (N := some 64) (v := ?_) (a' := ?_) #[true, true, true, true, true, true, true, true, true, true, true, true, true, true, false, false, false, false, false, false, false, false, false, false, false, false, false, false, false] rfl rfl (any_of HT_.out (by kernel_rfl)) (fun _ _ _ h => h) (Or.inl ⟨by rfl, ?_⟩) ?_ ?_
                    rotate_left
                    · intro w'
                      go_simp
                      with_reducible rfl
                    rotate_left
                    · simp only [Act.put, List.setIfInBounds_toArray, List.set_cons_zero, List.set_cons_succ, i64_w, i32_w]
                      rfl
                    refine pure_ (i := 14) (N := some 65) (v := ?_) (a' := ?_) #[true, true, true, true, true, true, true, true, true, true, true, true, true, true, true, false, false, false, false, false, false, false, false, false, false, false, false, false, false] rfl rfl (any_of HT_.out (by kernel_rfl)) (fun _ _ _ h => h) (Or.inl ⟨by rfl, ?_⟩) ?_ ?_
                    rotate_left
                    · intro w'
                      go_simp
                      with_reducible rfl
                    rotate_left
                    · simp only [Act.put, List.setIfInBounds_toArray, List.set_cons_zero, List.set_cons_succ, i64_w, i32_w]
                      rfl
                    refine pure_ (i := 15) (N := some 66) (v := ?_) (a' := ?_) #[true, true, true, true, true, true, true, true, true, true, true, true, true, true, true, true, false, false, false, false, false, false, false, false, false, false, false, false, false] rfl rfl (any_of HT_.out (by kernel_rfl)) (fun _ _ _ h => h) (Or.inl ⟨by rfl, ?_⟩) ?_ ?_
                    rotate_left
                    · intro w'
                      go_simp
                      with_reducible rfl
                    rotate_left
                    · simp only [Act.put, List.setIfInBounds_toArray, List.set_cons_zero, List.set_cons_succ, i64_w, i32_w]
                      rfl
                    refine pure_ (i := 16) (N := some 67) (v := ?_) (a' := ?_) #[true, true, true, true, true, true, true, true, true, true, true, true, true, true, true, true, true, false, false, false, false, false, false, false, false, false, false, false, false] rfl rfl (any_of HT_.out (by kernel_rfl)) (fun _ _ _ h => h) (Or.inl ⟨by rfl, ?_⟩) ?_ ?_
                    rotate_left
                    · intro w'
                      go_simp
                      with_reducible rfl
                    rotate_left
                    · simp only [Act.put, List.setIfInBounds_toArray, List.set_cons_zero, List.set_cons_succ, i64_w, i32_w]
                      rfl
                    refine pure_ (i := 17) (N := some 68) (v := ?_) (a' := ?_) #[true, true, true, true, true, true, true, true, true, true, true, true, true, true, true, true, true, true, false, false, false, false, false, false, false, false, false, false, false] rfl rfl (any_of HT_.out (by kernel_rfl)) (fun _ _ _ h => h) (Or.inl ⟨by rfl, ?_⟩) ?_ ?_
                    rotate_left
                    · intro w'
                      go_simp
                      with_reducible rfl
                    rotate_left
                    · simp only [Act.put, List.setIfInBounds_toArray, List.set_cons_zero, List.set_cons_succ, i64_w, i32_w]
                      rfl
                    refine pure_ (i := 18) (N := some 69) (v := ?_) (a' := ?_) #[true, true, true, true, true, true, true, true, true, true, true, true, true, true, true, true, true, true, true, false, false, false, false, false, false, false, false, false, false] rfl rfl (any_of HT_.out (by kernel_rfl)) (fun _ _ _ h => h) (Or.inl ⟨by rfl, ?_⟩) ?_ ?_
                    rotate_left
                    · intro w'
                      go_simp
                      with_reducible rfl
                    rotate_left
                    · simp only [Act.put, List.setIfInBounds_toArray, List.set_cons_zero, List.set_cons_succ, i64_w, i32_w]
                      rfl
                    refine take_ (i := 19) (N := some 70) (v := ?_) (a' := ?_) #[true, true, true, true, true, true, true, true, true, true, true, true, true, true, true, true, true, true, true, true, false, false, false, false, false, false, false, false, false] rfl rfl (take_ofW HT_.out HW_.out (by kernel_rfl)) (fun _ _ _ h => h) (Or.inl ⟨by rfl, ?_⟩) hHeld ?_ ?_
                    rotate_left
                    · rintro w' ⟨s0, s1, s2, s3, s4, s5, s6, s7, s8, s9, s10, s11⟩
                      go_simp
                      with_reducible rfl
                    rotate_left
                    · simp only [Act.put, List.setIfInBounds_toArray, List.set_cons_zero, List.set_cons_succ, i64_w, i32_w]
                      rfl
                    refine take_ (i := 20) (N := some 71) (v := ?_) (a' := ?_) #[true, true, true, true, true, true, true, true, true, true, true, true, true, true, true, true, true, true, true, true, true, false, false, false, false, false, false, false, false] rfl rfl (take_ofW HT_.out HW_.out (by kernel_rfl)) (fun _ _ _ h => h) (Or.inl ⟨by rfl, ?_⟩) hHeld ?_ ?_
                    rotate_left
                    · rintro w' ⟨s0, s1, s2, s3, s4, s5, s6, s7, s8, s9, s10, s11⟩
                      go_simp
                      with_reducible rfl
                    rotate_left
                    · simp only [Act.put, List.setIfInBounds_toArray, List.set_cons_zero, List.set_cons_succ, i64_w, i32_w]
                      rfl
                    refine one_ (i := 21) (N := some 72) #[true, true, true, true, true, true, true, true, true, true, true, true, true, true, true, true, true, true, true, true, true, true, false, false, false, false, false, false, false] rfl rfl (one_of HT_.out (by kernel_rfl)) (by decide) (fun K hK => ?_)
                    refine goes_ Try.func14 (by kernel_rfl) rfl #[.agg #[.int .u64 t225, .int .u64 t226, .slice Ao34 t227.length co34, .slice Ao35 t230.length co35], .agg #[.int .u64 t235, .int .u64 t236, .slice Ao41 t237.length co41, .slice Ao42 t240.length co42]] (by rfl) rfl rfl (by (try simp only [List.map_toArray, List.map_cons, List.map_nil]); first | done | rfl | (simp only [List.length_drop, tkQ10_len]; rfl)) ?_
                    with_reducible refine (nautilusref16_Same.calls k t225 t226 _ _ t227 _ _ t230 t235 t236 _ _ t237 _ _ t240 true _ ?side1 ?side2 ?side3 ?side4 ?side5 ?side6 ?side7 ?side8 A20.out).mono ?_
                    (case side1 => repeat (first | exact (Kd.R_reads' HO229.out).2.2 | (with_reducible refine Kd.C_alloc ?_ _) | (with_reducible refine Kd.C_drewN ?_ _) | (with_reducible refine Kd.C_drew ?_)))
                    (case side2 => exact (Kd.R_reads' HO229.out).2.1)
                    (case side3 => repeat (first | exact (Kd.R_reads' HO232.out).2.2 | (with_reducible refine Kd.C_alloc ?_ _) | (with_reducible refine Kd.C_drewN ?_ _) | (with_reducible refine Kd.C_drew ?_)))
                    (case side4 => exact (Kd.R_reads' HO232.out).2.1)
                    (case side5 => repeat (first | exact (Kd.R_reads' HO239.out).2.2 | (with_reducible refine Kd.C_alloc ?_ _) | (with_reducible refine Kd.C_drewN ?_ _) | (with_reducible refine Kd.C_drew ?_)))
                    (case side6 => exact (Kd.R_reads' HO239.out).2.1)
                    (case side7 => repeat (first | exact (Kd.R_reads' HO242.out).2.2 | (with_reducible refine Kd.C_alloc ?_ _) | (with_reducible refine Kd.C_drewN ?_ _) | (with_reducible refine Kd.C_drew ?_)))
                    (case side8 => exact (Kd.R_reads' HO242.out).2.1)
                    rintro e w47 ⟨rfl, hb⟩
                    refine ⟨_, rfl, ?_⟩
                    have n0_ := Aside0.mk (Kd.R_below (by (with_reducible repeat (first | apply Kd.R_alloc | apply Kd.R_drewN | apply Kd.R_drew)); exact HO229.out) hb)
                    have n1_ := Aside0.mk (Kd.R_below (by (with_reducible repeat (first | apply Kd.R_alloc | apply Kd.R_drewN | apply Kd.R_drew)); exact HO232.out) hb)
                    have n2_ := Aside0.mk (Kd.R_below (by (with_reducible repeat (first | apply Kd.R_alloc | apply Kd.R_drewN | apply Kd.R_drew)); exact HO239.out) hb)
                    have n3_ := Aside0.mk (Kd.R_below (by (with_reducible repeat (first | apply Kd.R_alloc | apply Kd.R_drewN | apply Kd.R_drew)); exact HO242.out) hb)
                    have n4_ := Aside0.mk (blk_below (g := gb217) (o := .cells #[.int .u64 a0_0, .int .u64 a0_1, .slice A0_2 (tkQ10 ((ji4) : Int).toNat l0_2).length c0_2, .slice A0_3 (tkQ10 ((ji7) : Int).toNat l0_3).length c0_3] 25 (0, 0)) (by (with_reducible repeat (first | refine blk_drewN ?_ _ | refine blk_drew ?_ | refine blk_alloc ?_ _)); exact BK217.out) hb)
                    have n5_ := Aside0.mk (blk_below (g := gb234) (o := .cells #[.int .u64 t225, .int .u64 t226, .slice Ao34 t227.length co34, .slice Ao35 t230.length co35] 25 (0, 0)) (by (with_reducible repeat (first | refine blk_drewN ?_ _ | refine blk_drew ?_ | refine blk_alloc ?_ _)); exact BK234.out) hb)
                    have n6_ := Aside0.mk (blk_below (g := gb244) (o := .cells #[.int .u64 t235, .int .u64 t236, .slice Ao41 t237.length co41, .slice Ao42 t240.length co42] 25 (0, 0)) (by (with_reducible repeat (first | refine blk_drewN ?_ _ | refine blk_drew ?_ | refine blk_alloc ?_ _)); exact BK244.out) hb)
                    have n7_ := Aside0.mk (below_step (by repeat (first | (with_reducible first | exact HB.out | apply below_alloc | apply pw_below_drewN | apply below_drew1 | refine below_set ?_ GE217.out | refine below_set ?_ GE234.out | refine below_set ?_ GE244.out) | exact HB.out)) hb)
                    clear HO229
                    clear HO232
                    clear HO239
                    clear HO242
                    clear BK217
                    clear BK234
                    clear BK244
                    clear HB
                    have HO229 := n0_
                    have HO232 := n1_
                    have HO239 := n2_
                    have HO242 := n3_
                    have BK217 := n4_
                    have BK234 := n5_
                    have BK244 := n6_
                    have HB := n7_
                    clear n0_ n1_ n2_ n3_ n4_ n5_ n6_ n7_
                    (try clear hb)
                    (try clear hb2)
                    (try clear hk)
                    (try clear hi)
                    refine hK.out _ _ ⟨(blk_cell BK217.out 0).trans rfl, (blk_cell BK217.out 1).trans rfl, (blk_cell BK217.out 2).trans rfl, (blk_cell BK217.out 3).trans rfl, (blk_cell BK234.out 0).trans rfl, (blk_cell BK234.out 1).trans rfl, (blk_cell BK234.out 2).trans rfl, (blk_cell BK234.out 3).trans rfl, (blk_cell BK244.out 0).trans rfl, (blk_cell BK244.out 1).trans rfl, (blk_cell BK244.out 2).trans rfl, (blk_cell BK244.out 3).trans rfl⟩ (fun hHeld => ?_)
                    clear hK K
                    refine norm_ (a' := ?_) ?_ ?_
                    rotate_left
                    · show Act.put _ (some 72) _ = _
                      simp only [Act.put, List.setIfInBounds_toArray, List.set_cons_zero, List.set_cons_succ, i64_w, i32_w]
                      rfl
                    refine pure_ (i := 22) (N := some 73) (v := ?_) (a' := ?_) #[true, true, true, true, true, true, true, true, true, true, true, true, true, true, true, true, true, true, true, true, true, true, true, false, false, false, false, false, false] rfl rfl (any_of HT_.out (by kernel_rfl)) (fun _ _ _ h => h) (Or.inl ⟨by rfl, ?_⟩) ?_ ?_
                    rotate_left
                    · intro w'
                      go_simp
                      with_reducible rfl
                    rotate_left
                    · simp only [Act.put, List.setIfInBounds_toArray, List.set_cons_zero, List.set_cons_succ, i64_w, i32_w]
                      rfl
                    refine pure_ (i := 23) (N := some 74) (v := ?_) (a' := ?_) #[true, true, true, true, true, true, true, true, true, true, true, true, true, true, true, true, true, true, true, true, true, true, true, true, false, false, false, false, false] rfl rfl (any_of HT_.out (by kernel_rfl)) (fun _ _ _ h => h) (Or.inl ⟨by rfl, ?_⟩) ?_ ?_
                    rotate_left
                    · intro w'
                      go_simp
                      with_reducible rfl
                    rotate_left
                    · simp only [Act.put, List.setIfInBounds_toArray, List.set_cons_zero, List.set_cons_succ, i64_w, i32_w]
                      rfl
                    refine pure_ (i := 24) (N := some 75) (v := ?_) (a' := ?_) #[true, true, true, true, true, true, true, true, true, true, true, true, true, true, true, true, true, true, true, true, true, true, true, true, true, false, false, false, false] rfl rfl (any_of HT_.out (by kernel_rfl)) (fun _ _ _ h => h) (Or.inl ⟨by rfl, ?_⟩) ?_ ?_
                    rotate_left
                    · intro w'
                      go_simp
                      with_reducible rfl
                    rotate_left
                    · simp only [Act.put, List.setIfInBounds_toArray, List.set_cons_zero, List.set_cons_succ, i64_w, i32_w]
                      rfl
                    refine pure_ (i := 25) (N := some 76) (v := ?_) (a' := ?_) #[true, true, true, true, true, true, true, true, true, true, true, true, true, true, true, true, true, true, true, true, true, true, true, true, true, true, false, false, false] rfl rfl (any_of HT_.out (by kernel_rfl)) (fun _ _ _ h => h) (Or.inl ⟨by rfl, ?_⟩) ?_ ?_
                    rotate_left
                    · intro w'
                      go_simp
                      with_reducible rfl
                    rotate_left
                    · simp only [Act.put, List.setIfInBounds_toArray, List.set_cons_zero, List.set_cons_succ, i64_w, i32_w]
                      rfl
                    refine pure_ (i := 26) (N := some 77) (v := ?_) (a' := ?_) #[true, true, true, true, true, true, true, true, true, true, true, true, true, true, true, true, true, true, true, true, true, true, true, true, true, true, true, false, false] rfl rfl (any_of HT_.out (by kernel_rfl)) (fun _ _ _ h => h) (Or.inl ⟨by rfl, ?_⟩) ?_ ?_
                    rotate_left
                    · intro w'
                      go_simp
                      with_reducible rfl
                    rotate_left
                    · simp only [Act.put, List.setIfInBounds_toArray, List.set_cons_zero, List.set_cons_succ, i64_w, i32_w]
                      rfl
                    refine pure_ (i := 27) (N := some 78) (v := ?_) (a' := ?_) #[true, true, true, true, true, true, true, true, true, true, true, true, true, true, true, true, true, true, true, true, true, true, true, true, true, true, true, true, false] rfl rfl (any_of HT_.out (by kernel_rfl)) (fun _ _ _ h => h) (Or.inl ⟨by rfl, ?_⟩) ?_ ?_
                    rotate_left
                    · intro w'
                      go_simp
                      with_reducible rfl
                    rotate_left
                    · simp only [Act.put, List.setIfInBounds_toArray, List.set_cons_zero, List.set_cons_succ, i64_w, i32_w]
                      rfl
                    refine pure_ (i := 28) (N := some 4) (v := ?_) (a' := ?_) #[true, true, true, true, true, true, true, true, true, true, true, true, true, true, true, true, true, true, true, true, true, true, true, true, true, true, true, true, true] rfl rfl (any_of HT_.out (by kernel_rfl)) (fun _ _ _ h => h) (Or.inl ⟨by rfl, ?_⟩) ?_ ?_
                    rotate_left
                    · intro w'
                      go_simp
                      with_reducible rfl
                    rotate_left
                    · simp only [Act.put, List.setIfInBounds_toArray, List.set_cons_zero, List.set_cons_succ, i64_w, i32_w]
                      rfl
                    refine done_ (done_of HT_.out (by kernel_rfl)) ?_
                    try go_wp2
                    go_ret
                    exact ⟨by first | rfl | (simp [errW_none, errW_some] <;> rfl) | (simp only [← hji4, ← hji7]; first | rfl | (simp [errW_none, errW_some] <;> rfl)) | (simp [*, errW_none, errW_some] <;> rfl) | (simp [show IntKind.u64.wrap 0 = 0 from rfl, Int.zero_tdiv]; done), by repeat (first | (with_reducible first | exact HB.out | apply below_alloc | apply pw_below_drewN | apply below_drew1 | refine below_set ?_ GE217.out | refine below_set ?_ GE234.out | refine below_set ?_ GE244.out) | exact HB.out)⟩
                  · replace c21 := Bool.eq_false_iff.mpr c21
                    subst c21
                    have H1 : (none) = some r := by rw [if_neg (show ¬ (false = true) by decide)] at H; exact H
                    clear H
                    have H := H1
                    clear H1
                    exact absurd H (by simp)
                · rw [if_neg c19] at H
                  have c19b0 : (t222 == t224) = false := beq_eq_false_iff_ne.mpr c19
                  have c19b1 : (t222 != t224) = true := bne_iff_ne.mpr c19
                  exact absurd H (by simp)
              · rw [if_neg c18] at H
                have c18b0 : (t221.toList == t223.toList) = false := beq_eq_false_iff_ne.mpr c18
                have c18b1 : (t221.toList != t223.toList) = true := bne_iff_ne.mpr c18
                exact absurd H (by simp)
            · rw [if_neg c17] at H
              have c17b0 : (t245 == t246) = false := by simpa using c17
              (try (have c17b1 : decide (t245 = t246) = false := by simpa using c17))
              (try (have c17b2 : (t245 == t246) = false := by simpa using c17))
              (try (have c17b3 : ¬ (t245 = t246) := by simpa using c17))
              clear c17
              exact absurd H (by simp)
          · replace c14 := Bool.eq_false_iff.mpr c14
            subst c14
            have H1 : (none) = some r := by rw [if_neg (show ¬ (false = true) by decide)] at H; exact H
            clear H
            have H := H1
            clear H1
            exact absurd H (by simp)
        · rw [if_neg c9] at H
          exact absurd H (by simp)
      · rw [if_neg c8] at H
        exact absurd H (by simp)
    · rw [if_neg c6] at H
      exact absurd H (by simp)
  · rw [if_neg c5] at H
    exact absurd H (by simp)

/-- THE ONE PURE STATEMENT of nautiluslaw16_RootBytes: yours. -/
def nautiluslaw16_RootBytes.Pure : Prop := ∀ (a0_0 : Int) (a0_1 : Int) (l0_2 : List Int) (l0_3 : List Int) (a1 : ByteArray), (Lit.int .u64 a0_0).wf = true → (Lit.int .u64 a0_1).wf = true → l0_2.length ≤ maxLen → (∀ x ∈ l0_2, (Lit.int .u32 x).wf = true) → l0_3.length ≤ maxLen → (∀ x ∈ l0_3, (Lit.int .u32 x).wf = true) → a1.size ≤ 140737488351232 → ∃ k, nautiluslaw16_RootBytes.f k a0_0 a0_1 l0_2 l0_3 a1 = some true
theorem nautiluslaw16_RootBytes.walk (P : nautiluslaw16_RootBytes.Pure) (a0_0 : Int) (a0_1 : Int) (a0_2 : Option Addr) (len0_2 cap0_2 : Nat) (z0_2 : List Int) (a0_3 : Option Addr) (len0_3 cap0_3 : Nat) (z0_3 : List Int) (a1 : ByteArray) (w : World) (w0_0 : (Lit.int .u64 a0_0).wf = true) (w0_1 : (Lit.int .u64 a0_1).wf = true) (w0_2 : z0_2.length = len0_2 ∧ len0_2 ≤ cap0_2 ∧ len0_2 ≤ maxLen ∧ Kd.C (Kd.int .u32) w a0_2 len0_2 z0_2 ∧ ∀ x ∈ z0_2, (Lit.int .u32 x).wf = true) (w0_3 : z0_3.length = len0_3 ∧ len0_3 ≤ cap0_3 ∧ len0_3 ≤ maxLen ∧ Kd.C (Kd.int .u32) w a0_3 len0_3 z0_3 ∧ ∀ x ∈ z0_3, (Lit.int .u32 x).wf = true) (w1 : a1.size ≤ 140737488351232) :
    Calls Try.prog 3 #[.agg #[.int .u64 a0_0, .int .u64 a0_1, .slice a0_2 len0_2 cap0_2, .slice a0_3 len0_3 cap0_3], .string a1] w fun e w' => e = .returned (.bool true) ∧ Below w.heap.size w w' := by
  obtain ⟨hl0_2, hc0_2, hm0_2, hC0_2, hw0_2⟩ := w0_2
  subst hl0_2
  obtain ⟨hl0_3, hc0_3, hm0_3, hC0_3, hw0_3⟩ := w0_3
  subst hl0_3
  obtain ⟨k, h⟩ := P a0_0 a0_1 z0_2 z0_3 a1 w0_0 w0_1 hm0_2 hw0_2 hm0_3 hw0_3 w1
  refine (nautiluslaw16_RootBytes.calls k a0_0 a0_1 _ _ z0_2 _ _ z0_3 a1 true w hC0_2 hc0_2 hC0_3 hc0_3 h).mono ?_
  rintro e w' ⟨rfl, hd⟩
  exact ⟨rfl, hd⟩

end Go.Proofs.Ytmpcpcfdomlehaa.Q
