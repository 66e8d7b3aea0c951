/- Functions of the translation as plain Lean functions, and that the translation computes them: printed by this session's driver of the print. -/
import Derived.Test.YtiajhfinkpddbaaQ0
import Derived.Test.YtiajhfinkpddbaaQ11
namespace Go.Proofs.Ytiajhfinkpddbaa.Q
open Go.Proofs.Ytiajhfinkpddbaa.H
open Go.RowKit Go.Proofs.YtiajhfinkpddbaaW.PrintWords Go.Proofs.YtiajhfinkpddbaaW.PrintLast Go.Proofs.YtiajhfinkpddbaaW.PrintMore
attribute [local go_sem] max2_int min2_int max_two min_two max_three min_three max_four min_four   -- for this text's walks alone
set_option linter.unusedVariables false
set_option linter.unusedSimpArgs false

/-! ### nautilusref08_Encode: function 26 -/
mutual
def nautilusref08_Encode.l0 : Nat → List (S31) → List ByteArray → Int → Option (List ByteArray × Int)
  | 0, _, _, _ => none
  | k + 1, x0, x5, x6 => if x6 < (x0.length : Int) then (nautilusref08_Encode.l1 k x0 x5 x6 (⟨#[]⟩ : ByteArray) x6) else (some (x5, 0))
def nautilusref08_Encode.l1 : Nat → List (S31) → List ByteArray → Int → ByteArray → Int → Option (List ByteArray × Int)
  | 0, _, _, _, _, _ => none
  | k + 1, x0, x5, x6, x7, x8 => if x8 < (x0.length : Int) then (nautilusref08_Encode.j2 k x0 x5 x6 x7 x8 (decide (x8 < (wrap64 (x6 + 31))))) else (nautilusref08_Encode.j2 k x0 x5 x6 x7 x8 false)
def nautilusref08_Encode.j2 : Nat → List (S31) → List ByteArray → Int → ByteArray → Int → Bool → Option (List ByteArray × Int)
  | 0, _, _, _, _, _, _ => none
  | k + 1, x0, x5, x6, x7, x8, x29 => if x29 = true then (if 0 ≤ x8 then (if x8 < (x0.length : Int) then ((nautilusref01_Bytes.f k (IntKind.u64.wrap ((rd_T31 x0 x8).f0)) 4).bind fun t209 => (if x7.size + t209.size ≤ 9223372036854775807 then ((nautilusref01_Bytes.f k ((rd_T31 x0 x8).f1) 6).bind fun t211 => (if (x7 ++ t209).size + t211.size ≤ 9223372036854775807 then ((nautilusref01_Bytes.f k ((rd_T31 x0 x8).f2) 6).bind fun t213 => (if ((x7 ++ t209) ++ t211).size + t213.size ≤ 9223372036854775807 then (nautilusref08_Encode.l1 k x0 x5 x6 (((x7 ++ t209) ++ t211) ++ t213) (wrap64 (x8 + 1))) else (none))) else (none))) else (none))) else (none)) else (none)) else (if 0 ≤ (wrap64 (508 - (x7.size : Int))) then (if (wrap64 (508 - (x7.size : Int)) : Int).toNat ≤ 281474976710656 then ((some (List.replicate (wrap64 (508 - (x7.size : Int)) : Int).toNat 0 : List Int)).bind fun y214 => (if x7.size + (strOfNums y214).size ≤ 9223372036854775807 then (if x5.length < 8796093022208 then (nautilusref08_Encode.l0 k x0 (x5 ++ [x7 ++ (strOfNums y214)]) (wrap64 (x6 + 31))) else (none)) else (none))) else (none)) else (none))
end
def nautilusref08_Encode.f (k : Nat) (l0 : List (S31)) : Option (List ByteArray × Int) := (nautilusref08_Right.f k l0).bind fun t207 => (if t207 = true then (nautilusref08_Encode.l0 k l0 ([] : List ByteArray) 0) else (some (([] : List ByteArray), 80)))
theorem nautilusref08_Encode.mono_l : ∀ k, (∀ y0 y1 y2, LeO (nautilusref08_Encode.l0 k y0 y1 y2) (nautilusref08_Encode.l0 (k + 1) y0 y1 y2)) ∧ (∀ y0 y1 y2 y3 y4, LeO (nautilusref08_Encode.l1 k y0 y1 y2 y3 y4) (nautilusref08_Encode.l1 (k + 1) y0 y1 y2 y3 y4)) ∧ (∀ y0 y1 y2 y3 y4 y5, LeO (nautilusref08_Encode.j2 k y0 y1 y2 y3 y4 y5) (nautilusref08_Encode.j2 (k + 1) y0 y1 y2 y3 y4 y5))
  | 0 => ⟨fun _ _ _ r h => by simp [nautilusref08_Encode.l0] at h, fun _ _ _ _ _ r h => by simp [nautilusref08_Encode.l1] at h, fun _ _ _ _ _ _ r h => by simp [nautilusref08_Encode.j2] at h⟩
  | k + 1 => by
    obtain ⟨ih0, ih1, ih2⟩ := nautilusref08_Encode.mono_l k
    refine ⟨?_, ?_, ?_⟩
    · intro y0 y1 y2
      unfold nautilusref08_Encode.l0
      repeat' first
      | (with_reducible exact ih0 _ _ _)
      | (with_reducible exact ih1 _ _ _ _ _)
      | (with_reducible exact ih2 _ _ _ _ _ _)
      | (with_reducible exact nautilusref01_Bytes.mono _ _ _)
      | (with_reducible exact nautilusref08_Right.mono _ _)
      | (with_reducible exact LeO.refl _)
      | (with_reducible exact LeO.none _)
      | (with_reducible refine LeO.ite ?_ ?_)
      | (with_reducible refine LeO.bind ?_ (fun _ => ?_))
      | exact ih0 _ _ _
      | exact ih1 _ _ _ _ _
      | exact ih2 _ _ _ _ _ _
      | exact nautilusref01_Bytes.mono _ _ _
      | exact nautilusref08_Right.mono _ _
      | exact LeO.none _
      | refine LeO.ite ?_ ?_
      | refine LeO.bind ?_ (fun _ => ?_)
    · intro y0 y1 y2 y3 y4
      unfold nautilusref08_Encode.l1
      repeat' first
      | (with_reducible exact ih0 _ _ _)
      | (with_reducible exact ih1 _ _ _ _ _)
      | (with_reducible exact ih2 _ _ _ _ _ _)
      | (with_reducible exact nautilusref01_Bytes.mono _ _ _)
      | (with_reducible exact nautilusref08_Right.mono _ _)
      | (with_reducible exact LeO.refl _)
      | (with_reducible exact LeO.none _)
      | (with_reducible refine LeO.ite ?_ ?_)
      | (with_reducible refine LeO.bind ?_ (fun _ => ?_))
      | exact ih0 _ _ _
      | exact ih1 _ _ _ _ _
      | exact ih2 _ _ _ _ _ _
      | exact nautilusref01_Bytes.mono _ _ _
      | exact nautilusref08_Right.mono _ _
      | exact LeO.none _
      | refine LeO.ite ?_ ?_
      | refine LeO.bind ?_ (fun _ => ?_)
    · intro y0 y1 y2 y3 y4 y5
      unfold nautilusref08_Encode.j2
      repeat' first
      | (with_reducible exact ih0 _ _ _)
      | (with_reducible exact ih1 _ _ _ _ _)
      | (with_reducible exact ih2 _ _ _ _ _ _)
      | (with_reducible exact nautilusref01_Bytes.mono _ _ _)
      | (with_reducible exact nautilusref08_Right.mono _ _)
      | (with_reducible exact LeO.refl _)
      | (with_reducible exact LeO.none _)
      | (with_reducible refine LeO.ite ?_ ?_)
      | (with_reducible refine LeO.bind ?_ (fun _ => ?_))
      | exact ih0 _ _ _
      | exact ih1 _ _ _ _ _
      | exact ih2 _ _ _ _ _ _
      | exact nautilusref01_Bytes.mono _ _ _
      | exact nautilusref08_Right.mono _ _
      | exact LeO.none _
      | refine LeO.ite ?_ ?_
      | refine LeO.bind ?_ (fun _ => ?_)
theorem nautilusref08_Encode.mono : ∀ a0 k, LeO (nautilusref08_Encode.f k a0) (nautilusref08_Encode.f (k + 1) a0) := by
  intro a0 k
  obtain ⟨ih0, ih1, ih2⟩ := nautilusref08_Encode.mono_l k
  unfold nautilusref08_Encode.f
  repeat' first
      | (with_reducible exact ih0 _ _ _)
      | (with_reducible exact ih1 _ _ _ _ _)
      | (with_reducible exact ih2 _ _ _ _ _ _)
      | (with_reducible exact nautilusref01_Bytes.mono _ _ _)
      | (with_reducible exact nautilusref08_Right.mono _ _)
      | (with_reducible exact LeO.refl _)
      | (with_reducible exact LeO.none _)
      | (with_reducible refine LeO.ite ?_ ?_)
      | (with_reducible refine LeO.bind ?_ (fun _ => ?_))
      | exact ih0 _ _ _
      | exact ih1 _ _ _ _ _
      | exact ih2 _ _ _ _ _ _
      | exact nautilusref01_Bytes.mono _ _ _
      | exact nautilusref08_Right.mono _ _
      | exact LeO.none _
      | refine LeO.ite ?_ ?_
      | refine LeO.bind ?_ (fun _ => ?_)
def nautilusref08_Encode.T12 : Bool × List (List Nat × List Nat) := (true, [([], []), ([], []), ([], []), ([1, 2], [1, 2]), ([3], [3]), ([4], [4]), ([5], [5]), ([6], [6]), ([0, 7], [0, 7]), ([], []), ([], []), ([9, 10], [9, 10]), ([11], [11]), ([12], [12]), ([13, 7], [13]), ([8, 14], [8, 14]), ([], []), ([], []), ([16, 17], [16, 17]), ([18], [18]), ([19], [19]), ([20, 14], [20]), ([15, 21], [15, 21]), ([22, 21, 0, 1, 2, 3, 4, 5, 6, 7, 8, 9, 10, 11, 12, 13, 14, 15, 16, 17, 18, 19, 20, 21, 22], [0, 22])])
def nautilusref08_Encode.B12 : List Nat := [0, 0, 0, 6, 14, 30, 62, 126, 255, 0, 0, 1536, 3584, 7680, 16126, 32767, 0, 0, 196608, 458752, 983040, 2064126, 4194303, 8388607]
theorem nautilusref08_Encode.tab12 : rtab .any (opsOf Try.f26 12) = nautilusref08_Encode.T12 := by kernel_rfl
theorem nautilusref08_Encode.bits12 : waitsOk nautilusref08_Encode.T12.2 nautilusref08_Encode.B12 = true := by kernel_rfl
set_option maxHeartbeats 8000000 in
set_option maxRecDepth 100000 in
theorem nautilusref08_Encode.calls (k : Nat) (A0 : Option Addr) (c0 : Nat) (l0 : List (S31)) (r1 : List ByteArray) (r2 : Int) (w : World) (hr0 : Kd.C k31 w A0 l0.length l0) (hc0 : l0.length ≤ c0) (h : nautilusref08_Encode.f k l0 = some (r1, r2)) :
    Calls Try.prog 26 #[.slice A0 l0.length c0] w fun e w' => ∃ v0_ : Value, e = .returned (.tuple #[v0_, .int .i64 r2]) ∧ Kd.R Kd.string 9 w' w.heap.size (fun _ => True) v0_ r1 ∧ Below w.heap.size w w' := by
  have HR0 := Aside0.mk hr0
  have HC0 := Aside0.mk hc0
  clear hr0 hc0
  have HB := Aside0.mk (Below.refl w.heap.size w)
  have H : ((nautilusref08_Right.f k l0).bind fun t207 => (if t207 = true then (nautilusref08_Encode.l0 k l0 ([] : List ByteArray) 0) else (some (([] : List ByteArray), 80)))) = some (r1, r2) := h
  clear h
  replace H := Option.bind_eq_some_iff.mp H
  obtain ⟨t207, A20, H⟩ := H
  replace H : (if t207 = true then (nautilusref08_Encode.l0 k l0 ([] : List ByteArray) 0) else (some (([] : List ByteArray), 80))) = some (r1, r2) := H
  have A2 := Aside0.mk A20
  clear A20
  by_cases c3 : t207 = true
  · subst c3
    have H1 : (nautilusref08_Encode.l0 k l0 ([] : List ByteArray) 0) = some (r1, r2) := by rw [if_pos rfl] at H; exact H
    clear H
    have H := H1
    clear H1
    have H' := Aside0.mk H
    clear H
    go_enter Try.func26, Try.ntmps26
    go_wp2_with (first | ((with_reducible refine gate_callee (f := 18) rfl ?_); refine goesL_ (some 10) rfl rfl Try.func18 (by kernel_rfl) rfl #[.slice A0 l0.length c0] rfl (by (try simp only [List.map_toArray, List.map_cons, List.map_nil]); first | done | rfl | (simp only [List.length_drop, List.length_take]; rfl)) ?_; (with_reducible refine (nautilusref08_Right.calls k _ _ l0 true _ ?side1 ?side2 A2.out).mono ?_); (case side1 => repeat (first | exact HR0.out | (with_reducible refine Kd.C_alloc ?_ _) | (with_reducible refine Kd.C_drewN ?_ _) | (with_reducible refine Kd.C_drew ?_))); (case side2 => exact HC0.out); rintro e w4 ⟨rfl, hb⟩; refine ⟨_, rfl, ?_⟩; have n0_ := Aside0.mk (below_step (by repeat (first | (with_reducible first | exact HB.out | apply below_alloc | apply pw_below_drewN | apply below_drew1) | exact HB.out)) hb); clear HB; have HB := n0_; clear n0_; (try clear hb); (try clear hb2); (try clear hk); (try clear hi)))
    go_loopg [5, 6] k (fun kq v5 v6 w' => ∃ (x5_1 : List ByteArray) (x6_1 : Int), v6 = .int .i64 x6_1 ∧ Aside0 (nautilusref08_Encode.l0 kq l0 x5_1 x6_1 = some (r1, r2)) ∧ Aside0 (kq ≤ k) ∧ Aside0 (Kd.R Kd.string 9 w' w.heap.size (fun _ => True) v5 x5_1) ∧ Aside0 (Below w.heap.size w w'))
    case atStart => exact ⟨(([] : List ByteArray)), (0), (by first | rfl | (simp; done) | (simp [*]; done)), H', ⟨Nat.le_refl _⟩, ⟨by first | exact Kd.R_nil _ _ _ _ _ | exact Kd.N_nil _ _ _ _ _ | exact Kd.V_nil _ _ _ _ _ | exact Kd.Q_nil _ _ _ _ _ | exact Kd.S_nil _ _ _ _ _⟩, ⟨by repeat (first | (with_reducible first | exact HB.out | apply below_alloc | apply pw_below_drewN | apply below_drew1) | exact HB.out)⟩⟩
    case round =>
      clear H'
      try clear c1
      try clear c2
      try clear p2
      try clear c3
      obtain ⟨x5_1, x6_1, rfl, HA, HK1, HO_5, HB⟩ := hrel
      cases gk with
      | zero => exact absurd HA.out (by simp [nautilusref08_Encode.l0])
      | succ k1 =>
        have H := HA.out
        clear HA
        simp only [nautilusref08_Encode.l0] at H
        by_cases c5 : x6_1 < (l0.length : Int)
        · rw [if_pos c5] at H
          have c5b0 : decide (x6_1 < (l0.length : Int)) = true := decide_eq_true c5
          clear c5
          have H' := Aside0.mk H
          clear H
          go_wp2
          go_loopg [7, 8] k1 (fun kq v7 v8 w' => ∃ (x7_2 : ByteArray) (x8_2 : Int), v7 = .string x7_2 ∧ v8 = .int .i64 x8_2 ∧ Aside0 (nautilusref08_Encode.l1 kq l0 x5_1 x6_1 x7_2 x8_2 = some (r1, r2)) ∧ Aside0 (kq ≤ k1) ∧ Aside0 (Kd.R Kd.string 9 w' w.heap.size (fun _ => True) u5 x5_1) ∧ Aside0 (Below w.heap.size w w'))
          case atStart => exact ⟨((⟨#[]⟩ : ByteArray)), (x6_1), (by first | rfl | (simp; done) | (simp [*]; done)), (by first | rfl | (simp; done) | (simp [*]; done)), H', ⟨Nat.le_refl _⟩, ⟨by (with_reducible repeat (first | apply Kd.R_alloc | apply Kd.R_drewN | apply Kd.R_drew)); exact HO_5.out⟩, ⟨by repeat (first | (with_reducible first | exact HB.out | apply below_alloc | apply pw_below_drewN | apply below_drew1) | exact HB.out)⟩⟩
          case round =>
            clear H'
            try clear c1
            try clear c2
            try clear p2
            try clear c3
            try clear c5
            try clear c5b0
            try clear p2
            obtain ⟨x7_2, x8_2, rfl, rfl, HA, HK2, HO_5, HB⟩ := hrel
            cases gk with
            | zero => exact absurd HA.out (by simp [nautilusref08_Encode.l1])
            | succ k2 =>
              have H := HA.out
              clear HA
              simp only [nautilusref08_Encode.l1] at H
              have HC6 := Aside0.mk H
              clear H
              go_upto_region 10 with (fail)
              go_cut [29] (fun v29 wc => ∃ (kq : Nat) (x29_5 : Bool), v29 = .bool x29_5 ∧ Aside0 (nautilusref08_Encode.j2 kq l0 x5_1 x6_1 x7_2 x8_2 x29_5 = some (r1, r2)) ∧ Aside0 (kq ≤ k2) ∧ Aside0 (Kd.R Kd.string 9 wc w.heap.size (fun _ => True) u5 x5_1) ∧ Aside0 (Below w.heap.size w wc))
              case first =>
                have H := HC6.out
                clear HC6
                by_cases c7 : x8_2 < (l0.length : Int)
                · rw [if_pos c7] at H
                  have c7b0 : decide (x8_2 < (l0.length : Int)) = true := decide_eq_true c7
                  clear c7
                  (first | rw [c7b0] | (simp only [i64_w, i32_w]; rw [c7b0]) | skip)
                  have H' := Aside0.mk H
                  clear H
                  go_wp2
                  go_meet
                  case rel => exact ⟨_, (decide (x8_2 < (wrap64 (x6_1 + 31)))), (by first | rfl | (simp; done) | (simp [*]; done)), H', ⟨by have := HK1.out; have := HK2.out; first | omega | exact Nat.le_refl _⟩, ⟨by (with_reducible repeat (first | apply Kd.R_alloc | apply Kd.R_drewN | apply Kd.R_drew)); exact HO_5.out⟩, ⟨by repeat (first | (with_reducible first | exact HB.out | apply below_alloc | apply pw_below_drewN | apply below_drew1) | exact HB.out)⟩⟩
                · rw [if_neg c7] at H
                  have c7b0 : decide (x8_2 < (l0.length : Int)) = false := decide_eq_false c7
                  clear c7
                  (first | rw [c7b0] | (simp only [i64_w, i32_w]; rw [c7b0]) | skip)
                  have H' := Aside0.mk H
                  clear H
                  go_wp2
                  go_meet
                  case rel => exact ⟨_, (false), (by first | rfl | (simp; done) | (simp [*]; done)), H', ⟨by have := HK1.out; have := HK2.out; first | omega | exact Nat.le_refl _⟩, ⟨by (with_reducible repeat (first | apply Kd.R_alloc | apply Kd.R_drewN | apply Kd.R_drew)); exact HO_5.out⟩, ⟨by repeat (first | (with_reducible first | exact HB.out | apply below_alloc | apply pw_below_drewN | apply below_drew1) | exact HB.out)⟩⟩
              case rest =>
                clear HC6
                try clear c1
                try clear c2
                try clear p2
                try clear c3
                try clear c5
                try clear c5b0
                try clear p6
                try clear c7
                try clear c7b0
                try clear p2
                obtain ⟨kq, x29_5, rfl, HA, HJ5, HO_5, HB⟩ := hcut
                cases kq with
                | zero => exact absurd HA.out (by simp [nautilusref08_Encode.j2])
                | succ kj5 =>
                  have H := HA.out
                  clear HA
                  simp only [nautilusref08_Encode.j2] at H
                  by_cases c8 : x29_5 = true
                  · subst c8
                    have H1 : (if 0 ≤ x8_2 then (if x8_2 < (l0.length : Int) then ((nautilusref01_Bytes.f kj5 (IntKind.u64.wrap ((rd_T31 l0 x8_2).f0)) 4).bind fun t209 => (if x7_2.size + t209.size ≤ 9223372036854775807 then ((nautilusref01_Bytes.f kj5 ((rd_T31 l0 x8_2).f1) 6).bind fun t211 => (if (x7_2 ++ t209).size + t211.size ≤ 9223372036854775807 then ((nautilusref01_Bytes.f kj5 ((rd_T31 l0 x8_2).f2) 6).bind fun t213 => (if ((x7_2 ++ t209) ++ t211).size + t213.size ≤ 9223372036854775807 then (nautilusref08_Encode.l1 kj5 l0 x5_1 x6_1 (((x7_2 ++ t209) ++ t211) ++ t213) (wrap64 (x8_2 + 1))) else (none))) else (none))) else (none))) else (none)) else (none)) = some (r1, r2) := by rw [if_pos rfl] at H; exact H
                    clear H
                    have H := H1
                    clear H1
                    by_cases c9 : 0 ≤ x8_2
                    · rw [if_pos c9] at H
                      have c9b0 : decide (0 ≤ x8_2) = true := decide_eq_true c9
                      clear c9
                      by_cases c10 : x8_2 < (l0.length : Int)
                      · rw [if_pos c10] at H
                        have c10b0 : decide (x8_2 < (l0.length : Int)) = true := decide_eq_true c10
                        clear c10
                        replace H := Option.bind_eq_some_iff.mp H
                        obtain ⟨t209, A110, H⟩ := H
                        replace H : (if x7_2.size + t209.size ≤ 9223372036854775807 then ((nautilusref01_Bytes.f kj5 ((rd_T31 l0 x8_2).f1) 6).bind fun t211 => (if (x7_2 ++ t209).size + t211.size ≤ 9223372036854775807 then ((nautilusref01_Bytes.f kj5 ((rd_T31 l0 x8_2).f2) 6).bind fun t213 => (if ((x7_2 ++ t209) ++ t211).size + t213.size ≤ 9223372036854775807 then (nautilusref08_Encode.l1 kj5 l0 x5_1 x6_1 (((x7_2 ++ t209) ++ t211) ++ t213) (wrap64 (x8_2 + 1))) else (none))) else (none))) else (none)) = some (r1, r2) := H
                        have A11 := Aside0.mk A110
                        clear A110
                        by_cases c12 : x7_2.size + t209.size ≤ 9223372036854775807
                        · rw [if_pos c12] at H
                          have c12b0 := eq_true c12
                          have c12b1 : decide (x7_2.size + t209.size ≤ 9223372036854775807) = true := decide_eq_true c12
                          obtain ⟨sxa, hsxa⟩ : ∃ s_ : ByteArray, x7_2 ++ t209 = s_ := ⟨_, rfl⟩
                          rw [hsxa] at H
                          try have c12b2 : (9223372036854775807 < x7_2.size + t209.size) = False := eq_false (Nat.not_lt.2 c12)
                          replace H := Option.bind_eq_some_iff.mp H
                          obtain ⟨t211, A130, H⟩ := H
                          replace H : (if sxa.size + t211.size ≤ 9223372036854775807 then ((nautilusref01_Bytes.f kj5 ((rd_T31 l0 x8_2).f2) 6).bind fun t213 => (if (sxa ++ t211).size + t213.size ≤ 9223372036854775807 then (nautilusref08_Encode.l1 kj5 l0 x5_1 x6_1 ((sxa ++ t211) ++ t213) (wrap64 (x8_2 + 1))) else (none))) else (none)) = some (r1, r2) := H
                          have A13 := Aside0.mk A130
                          clear A130
                          by_cases c14 : sxa.size + t211.size ≤ 9223372036854775807
                          · rw [if_pos c14] at H
                            have c14b0 := eq_true c14
                            have c14b1 : decide (sxa.size + t211.size ≤ 9223372036854775807) = true := decide_eq_true c14
                            obtain ⟨sxb, hsxb⟩ : ∃ s_ : ByteArray, sxa ++ t211 = s_ := ⟨_, rfl⟩
                            rw [hsxb] at H
                            try have c14b2 : (9223372036854775807 < sxa.size + t211.size) = False := eq_false (Nat.not_lt.2 c14)
                            replace H := Option.bind_eq_some_iff.mp H
                            obtain ⟨t213, A150, H⟩ := H
                            replace H : (if sxb.size + t213.size ≤ 9223372036854775807 then (nautilusref08_Encode.l1 kj5 l0 x5_1 x6_1 (sxb ++ t213) (wrap64 (x8_2 + 1))) else (none)) = some (r1, r2) := H
                            have A15 := Aside0.mk A150
                            clear A150
                            by_cases c16 : sxb.size + t213.size ≤ 9223372036854775807
                            · rw [if_pos c16] at H
                              have c16b0 := eq_true c16
                              have c16b1 : decide (sxb.size + t213.size ≤ 9223372036854775807) = true := decide_eq_true c16
                              try have c16b2 : (9223372036854775807 < sxb.size + t213.size) = False := eq_false (Nat.not_lt.2 c16)
                              have H' := Aside0.mk H
                              clear H
                              try go_wp2
                              have n0_ := Aside0.mk (Kd.R_drew HO_5.out)
                              have n1_ := Aside0.mk (below_drew1 HB.out)
                              clear HO_5
                              clear HB
                              have HO_5 := n0_
                              have HB := n1_
                              clear n0_ n1_
                              have p208 : 0 ≤ (x8_2 : Int) := of_decide_eq_true (by first | (with_reducible assumption) | assumption)
                              have q208 : x8_2 < (l0.length : Int) := of_decide_eq_true (by first | (with_reducible assumption) | assumption)
                              obtain ⟨ad208, e208, hx208_0, hx208_1, hx208_2⟩ := at_T31 HR0.out x8_2 p208 q208
                              have hw208_2 := hx208_2
                              have hw208_1 := hx208_1
                              have hw208_0 := hx208_0
                              cases e208
                              replace hx208_0 := (HB.out.cell (World.block_lt_of_cell? w _ hx208_0)).trans hx208_0
                              replace hx208_1 := (HB.out.cell (World.block_lt_of_cell? w _ hx208_1)).trans hx208_1
                              replace hx208_2 := (HB.out.cell (World.block_lt_of_cell? w _ hx208_2)).trans hx208_2
                              replace p208 := eq_true p208
                              replace q208 := eq_true q208
                              have p210 : 0 ≤ (x8_2 : Int) := of_decide_eq_true (by first | (with_reducible assumption) | assumption)
                              have q210 : x8_2 < (l0.length : Int) := of_decide_eq_true (by first | (with_reducible assumption) | assumption)
                              obtain ⟨ad210, e210, hx210_0, hx210_1, hx210_2⟩ := at_T31 HR0.out x8_2 p210 q210
                              have hw210_2 := hx210_2
                              have hw210_1 := hx210_1
                              have hw210_0 := hx210_0
                              obtain rfl : ad208 = ad210 := (by injection e210)
                              replace hx210_0 := (HB.out.cell (World.block_lt_of_cell? w _ hx210_0)).trans hx210_0
                              replace hx210_1 := (HB.out.cell (World.block_lt_of_cell? w _ hx210_1)).trans hx210_1
                              replace hx210_2 := (HB.out.cell (World.block_lt_of_cell? w _ hx210_2)).trans hx210_2
                              replace p210 := eq_true p210
                              replace q210 := eq_true q210
                              have p212 : 0 ≤ (x8_2 : Int) := of_decide_eq_true (by first | (with_reducible assumption) | assumption)
                              have q212 : x8_2 < (l0.length : Int) := of_decide_eq_true (by first | (with_reducible assumption) | assumption)
                              obtain ⟨ad212, e212, hx212_0, hx212_1, hx212_2⟩ := at_T31 HR0.out x8_2 p212 q212
                              have hw212_2 := hx212_2
                              have hw212_1 := hx212_1
                              have hw212_0 := hx212_0
                              obtain rfl : ad208 = ad212 := (by injection e212)
                              replace hx212_0 := (HB.out.cell (World.block_lt_of_cell? w _ hx212_0)).trans hx212_0
                              replace hx212_1 := (HB.out.cell (World.block_lt_of_cell? w _ hx212_1)).trans hx212_1
                              replace hx212_2 := (HB.out.cell (World.block_lt_of_cell? w _ hx212_2)).trans hx212_2
                              replace p212 := eq_true p212
                              replace q212 := eq_true q212
                              refine start_ (n := 24) (S := fun w' => w'.cell? (ad208.add ((x8_2).toNat * 3)) = some (.int .u32 ((rd_T31 l0 x8_2).f0)) ∧ w'.cell? ⟨(ad208.add ((x8_2).toNat * 3)).block, (ad208.add ((x8_2).toNat * 3)).off + 1, none⟩ = some (.int .u64 ((rd_T31 l0 x8_2).f1)) ∧ w'.cell? ⟨(ad208.add ((x8_2).toNat * 3)).block, (ad208.add ((x8_2).toNat * 3)).off + 2, none⟩ = some (.int .u64 ((rd_T31 l0 x8_2).f2)) ∧ w'.cell? (ad208.add ((x8_2).toNat * 3)) = some (.int .u32 ((rd_T31 l0 x8_2).f0)) ∧ w'.cell? ⟨(ad208.add ((x8_2).toNat * 3)).block, (ad208.add ((x8_2).toNat * 3)).off + 1, none⟩ = some (.int .u64 ((rd_T31 l0 x8_2).f1)) ∧ w'.cell? ⟨(ad208.add ((x8_2).toNat * 3)).block, (ad208.add ((x8_2).toNat * 3)).off + 2, none⟩ = some (.int .u64 ((rd_T31 l0 x8_2).f2)) ∧ w'.cell? (ad208.add ((x8_2).toNat * 3)) = some (.int .u32 ((rd_T31 l0 x8_2).f0)) ∧ w'.cell? ⟨(ad208.add ((x8_2).toNat * 3)).block, (ad208.add ((x8_2).toNat * 3)).off + 1, none⟩ = some (.int .u64 ((rd_T31 l0 x8_2).f1)) ∧ w'.cell? ⟨(ad208.add ((x8_2).toNat * 3)).block, (ad208.add ((x8_2).toNat * 3)).off + 2, none⟩ = some (.int .u64 ((rd_T31 l0 x8_2).f2))) (ds := []) #[false, false, false, false, false, false, false, false, false, false, false, false, false, false, false, false, false, false, false, false, false, false, false, false] (by kernel_rfl) rfl rfl ⟨((HB.out.cell (World.block_lt_of_cell? w _ hw208_0)).trans hw208_0), ((HB.out.cell (World.block_lt_of_cell? w _ hw208_1)).trans hw208_1), ((HB.out.cell (World.block_lt_of_cell? w _ hw208_2)).trans hw208_2), ((HB.out.cell (World.block_lt_of_cell? w _ hw210_0)).trans hw210_0), ((HB.out.cell (World.block_lt_of_cell? w _ hw210_1)).trans hw210_1), ((HB.out.cell (World.block_lt_of_cell? w _ hw210_2)).trans hw210_2), ((HB.out.cell (World.block_lt_of_cell? w _ hw212_0)).trans hw212_0), ((HB.out.cell (World.block_lt_of_cell? w _ hw212_1)).trans hw212_1), ((HB.out.cell (World.block_lt_of_cell? w _ hw212_2)).trans hw212_2)⟩ (fun hHeld => ?_); refine with_tabW nautilusref08_Encode.tab12 nautilusref08_Encode.bits12 (fun HT_ HW_ => ?_)
                              generalize wc.drew = w17 at HO_5 HB hx208_0 hx208_1 hx208_2 hx210_0 hx210_1 hx210_2 hx212_0 hx212_1 hx212_2 hHeld ⊢
                              refine pure_ (i := 0) (N := some 32) (v := ?_) (a' := ?_) #[true, false, false, false, false, false, false, false, false, false, false, false, false, false, false, false, false, false, false, false, false, false, false, false] rfl rfl (any_of HT_.out (by kernel_rfl)) (fun _ _ _ h => h) (Or.inl ⟨by rfl, ?_⟩) ?_ ?_
                              rotate_left
                              · intro w'
                                go_simp
                                with_reducible rfl
                              rotate_left
                              · simp only [Act.put, List.setIfInBounds_toArray, List.set_cons_zero, List.set_cons_succ, i64_w, i32_w]
                                rfl
                              refine pure_ (i := 1) (N := some 33) (v := ?_) (a' := ?_) #[true, true, false, false, false, false, false, false, false, false, false, false, false, false, false, false, false, false, false, false, false, false, false, false] rfl rfl (any_of HT_.out (by kernel_rfl)) (fun _ _ _ h => h) (Or.inl ⟨by rfl, ?_⟩) ?_ ?_
                              rotate_left
                              · intro w'
                                go_simp
                                with_reducible rfl
                              rotate_left
                              · simp only [Act.put, List.setIfInBounds_toArray, List.set_cons_zero, List.set_cons_succ, i64_w, i32_w]
                                rfl
                              refine pure_ (i := 2) (N := some 34) (v := ?_) (a' := ?_) #[true, true, true, false, false, false, false, false, false, false, false, false, false, false, false, false, false, false, false, false, false, false, false, false] rfl rfl (any_of HT_.out (by kernel_rfl)) (fun _ _ _ h => h) (Or.inl ⟨by rfl, ?_⟩) ?_ ?_
                              rotate_left
                              · intro w'
                                go_simp
                                with_reducible rfl
                              rotate_left
                              · simp only [Act.put, List.setIfInBounds_toArray, List.set_cons_zero, List.set_cons_succ, i64_w, i32_w]
                                rfl
                              refine pure_ (i := 3) (N := some 35) (v := ?_) (a' := ?_) #[true, true, true, true, false, false, false, false, false, false, false, false, false, false, false, false, false, false, false, false, false, false, false, false] rfl rfl (any_of HT_.out (by kernel_rfl)) (fun _ _ _ h => h) (Or.inl ⟨by rfl, ?_⟩) ?_ ?_
                              rotate_left
                              · intro w'
                                go_simp
                                with_reducible rfl
                              rotate_left
                              · simp only [Act.put, List.setIfInBounds_toArray, List.set_cons_zero, List.set_cons_succ, i64_w, i32_w]
                                rfl
                              refine pure_ (i := 4) (N := some 36) (v := ?_) (a' := ?_) #[true, true, true, true, true, false, false, false, false, false, false, false, false, false, false, false, false, false, false, false, false, false, false, false] rfl rfl (any_of HT_.out (by kernel_rfl)) (fun _ _ _ h => h) (Or.inl ⟨by rfl, ?_⟩) ?_ ?_
                              rotate_left
                              · intro w'
                                go_simp
                                with_reducible rfl
                              rotate_left
                              · simp only [Act.put, List.setIfInBounds_toArray, List.set_cons_zero, List.set_cons_succ, i64_w, i32_w]
                                rfl
                              refine pure_ (i := 9) (N := some 41) (v := ?_) (a' := ?_) #[true, true, true, true, true, false, false, false, false, true, false, false, false, false, false, false, false, false, false, false, false, false, false, false] rfl rfl (any_of HT_.out (by kernel_rfl)) (fun _ _ _ h => h) (Or.inl ⟨by rfl, ?_⟩) ?_ ?_
                              rotate_left
                              · intro w'
                                go_simp
                                with_reducible rfl
                              rotate_left
                              · simp only [Act.put, List.setIfInBounds_toArray, List.set_cons_zero, List.set_cons_succ, i64_w, i32_w]
                                rfl
                              refine pure_ (i := 10) (N := some 42) (v := ?_) (a' := ?_) #[true, true, true, true, true, false, false, false, false, true, true, false, false, false, false, false, false, false, false, false, false, false, false, false] rfl rfl (any_of HT_.out (by kernel_rfl)) (fun _ _ _ h => h) (Or.inl ⟨by rfl, ?_⟩) ?_ ?_
                              rotate_left
                              · intro w'
                                go_simp
                                with_reducible rfl
                              rotate_left
                              · simp only [Act.put, List.setIfInBounds_toArray, List.set_cons_zero, List.set_cons_succ, i64_w, i32_w]
                                rfl
                              refine pure_ (i := 11) (N := some 43) (v := ?_) (a' := ?_) #[true, true, true, true, true, false, false, false, false, true, true, true, false, false, false, false, false, false, false, false, false, false, false, false] rfl rfl (any_of HT_.out (by kernel_rfl)) (fun _ _ _ h => h) (Or.inl ⟨by rfl, ?_⟩) ?_ ?_
                              rotate_left
                              · intro w'
                                go_simp
                                with_reducible rfl
                              rotate_left
                              · simp only [Act.put, List.setIfInBounds_toArray, List.set_cons_zero, List.set_cons_succ, i64_w, i32_w]
                                rfl
                              refine pure_ (i := 12) (N := some 44) (v := ?_) (a' := ?_) #[true, true, true, true, true, false, false, false, false, true, true, true, true, false, false, false, false, false, false, false, false, false, false, false] rfl rfl (any_of HT_.out (by kernel_rfl)) (fun _ _ _ h => h) (Or.inl ⟨by rfl, ?_⟩) ?_ ?_
                              rotate_left
                              · intro w'
                                go_simp
                                with_reducible rfl
                              rotate_left
                              · simp only [Act.put, List.setIfInBounds_toArray, List.set_cons_zero, List.set_cons_succ, i64_w, i32_w]
                                rfl
                              refine pure_ (i := 16) (N := some 48) (v := ?_) (a' := ?_) #[true, true, true, true, true, false, false, false, false, true, true, true, true, false, false, false, true, false, false, false, false, false, false, false] rfl rfl (any_of HT_.out (by kernel_rfl)) (fun _ _ _ h => h) (Or.inl ⟨by rfl, ?_⟩) ?_ ?_
                              rotate_left
                              · intro w'
                                go_simp
                                with_reducible rfl
                              rotate_left
                              · simp only [Act.put, List.setIfInBounds_toArray, List.set_cons_zero, List.set_cons_succ, i64_w, i32_w]
                                rfl
                              refine pure_ (i := 17) (N := some 49) (v := ?_) (a' := ?_) #[true, true, true, true, true, false, false, false, false, true, true, true, true, false, false, false, true, true, false, false, false, false, false, false] rfl rfl (any_of HT_.out (by kernel_rfl)) (fun _ _ _ h => h) (Or.inl ⟨by rfl, ?_⟩) ?_ ?_
                              rotate_left
                              · intro w'
                                go_simp
                                with_reducible rfl
                              rotate_left
                              · simp only [Act.put, List.setIfInBounds_toArray, List.set_cons_zero, List.set_cons_succ, i64_w, i32_w]
                                rfl
                              refine pure_ (i := 18) (N := some 50) (v := ?_) (a' := ?_) #[true, true, true, true, true, false, false, false, false, true, true, true, true, false, false, false, true, true, true, false, false, false, false, false] rfl rfl (any_of HT_.out (by kernel_rfl)) (fun _ _ _ h => h) (Or.inl ⟨by rfl, ?_⟩) ?_ ?_
                              rotate_left
                              · intro w'
                                go_simp
                                with_reducible rfl
                              rotate_left
                              · simp only [Act.put, List.setIfInBounds_toArray, List.set_cons_zero, List.set_cons_succ, i64_w, i32_w]
                                rfl
                              refine pure_ (i := 19) (N := some 51) (v := ?_) (a' := ?_) #[true, true, true, true, true, false, false, false, false, true, true, true, true, false, false, false, true, true, true, true, false, false, false, false] rfl rfl (any_of HT_.out (by kernel_rfl)) (fun _ _ _ h => h) (Or.inl ⟨by rfl, ?_⟩) ?_ ?_
                              rotate_left
                              · intro w'
                                go_simp
                                with_reducible rfl
                              rotate_left
                              · simp only [Act.put, List.setIfInBounds_toArray, List.set_cons_zero, List.set_cons_succ, i64_w, i32_w]
                                rfl
                              refine take_ (i := 5) (N := some 37) (v := ?_) (a' := ?_) #[true, true, true, true, true, true, false, false, false, true, true, true, true, false, false, false, true, true, true, true, false, false, false, false] rfl rfl (take_ofW HT_.out HW_.out (by kernel_rfl)) (fun _ _ _ h => h) (Or.inl ⟨by rfl, ?_⟩) hHeld ?_ ?_
                              rotate_left
                              · rintro w' ⟨s0, s1, s2, s3, s4, s5, s6, s7, s8⟩
                                go_simp
                                with_reducible rfl
                              rotate_left
                              · simp only [Act.put, List.setIfInBounds_toArray, List.set_cons_zero, List.set_cons_succ, i64_w, i32_w]
                                rfl
                              refine pure_ (i := 6) (N := some 38) (v := ?_) (a' := ?_) #[true, true, true, true, true, true, true, false, false, true, true, true, true, false, false, false, true, true, true, true, false, false, false, false] rfl rfl (any_of HT_.out (by kernel_rfl)) (fun _ _ _ h => h) (Or.inl ⟨by rfl, ?_⟩) ?_ ?_
                              rotate_left
                              · intro w'
                                go_simp
                                with_reducible rfl
                              rotate_left
                              · simp only [Act.put, List.setIfInBounds_toArray, List.set_cons_zero, List.set_cons_succ, i64_w, i32_w]
                                rfl
                              refine take_ (i := 13) (N := some 45) (v := ?_) (a' := ?_) #[true, true, true, true, true, true, true, false, false, true, true, true, true, true, false, false, true, true, true, true, false, false, false, false] rfl rfl (take_ofW HT_.out HW_.out (by kernel_rfl)) (fun _ _ _ h => h) (Or.inl ⟨by rfl, ?_⟩) hHeld ?_ ?_
                              rotate_left
                              · rintro w' ⟨s0, s1, s2, s3, s4, s5, s6, s7, s8⟩
                                go_simp
                                with_reducible rfl
                              rotate_left
                              · simp only [Act.put, List.setIfInBounds_toArray, List.set_cons_zero, List.set_cons_succ, i64_w, i32_w]
                                rfl
                              refine take_ (i := 20) (N := some 52) (v := ?_) (a' := ?_) #[true, true, true, true, true, true, true, false, false, true, true, true, true, true, false, false, true, true, true, true, true, false, false, false] rfl rfl (take_ofW HT_.out HW_.out (by kernel_rfl)) (fun _ _ _ h => h) (Or.inl ⟨by rfl, ?_⟩) hHeld ?_ ?_
                              rotate_left
                              · rintro w' ⟨s0, s1, s2, s3, s4, s5, s6, s7, s8⟩
                                go_simp
                                with_reducible rfl
                              rotate_left
                              · simp only [Act.put, List.setIfInBounds_toArray, List.set_cons_zero, List.set_cons_succ, i64_w, i32_w]
                                rfl
                              refine one_ (i := 7) (N := some 39) #[true, true, true, true, true, true, true, true, false, true, true, true, true, true, false, false, true, true, true, true, true, false, false, false] rfl rfl (one_of HT_.out (by kernel_rfl)) (by decide) (fun K hK => ?_)
                              refine goes_ Try.func51 (by kernel_rfl) rfl #[.int .u64 (IntKind.u64.wrap ((rd_T31 l0 x8_2).f0)), .int .i64 4] (by rfl) rfl rfl (by (try simp only [List.map_toArray, List.map_cons, List.map_nil]); first | done | rfl | (simp only [List.length_drop, List.length_take]; rfl) | (simp [Act.eval, go_sem]; simp only [decide_eq_false_iff_not, decide_eq_true_eq] at *; (repeat' apply And.intro) <;> first | done | (symm; first | (apply IntWalk.u64_in; omega) | (apply IntWalk.u32_in; omega) | (apply IntWalk.i64_in; omega) | (apply IntWalk.wrap64_in; omega) | (apply IntWalk.u16_in; omega) | (apply IntWalk.u8_in; omega)))) ?_
                              with_reducible refine (nautilusref01_Bytes.calls kj5 (IntKind.u64.wrap ((rd_T31 l0 x8_2).f0)) 4 t209 _ A11.out).mono ?_
                              rintro e w18 ⟨rfl, hb⟩
                              refine ⟨_, rfl, ?_⟩
                              have n0_ := Aside0.mk (Kd.R_below (by (with_reducible repeat (first | apply Kd.R_alloc | apply Kd.R_drewN | apply Kd.R_drew)); exact HO_5.out) hb)
                              have n1_ := Aside0.mk (below_step (by repeat (first | (with_reducible first | exact HB.out | apply below_alloc | apply pw_below_drewN | apply below_drew1) | exact HB.out)) hb)
                              clear HO_5
                              clear HB
                              have HO_5 := n0_
                              have HB := n1_
                              clear n0_ n1_
                              (try clear hb)
                              (try clear hb2)
                              (try clear hk)
                              (try clear hi)
                              refine hK.out _ _ ⟨((HB.out.cell (World.block_lt_of_cell? w _ hw208_0)).trans hw208_0), ((HB.out.cell (World.block_lt_of_cell? w _ hw208_1)).trans hw208_1), ((HB.out.cell (World.block_lt_of_cell? w _ hw208_2)).trans hw208_2), ((HB.out.cell (World.block_lt_of_cell? w _ hw210_0)).trans hw210_0), ((HB.out.cell (World.block_lt_of_cell? w _ hw210_1)).trans hw210_1), ((HB.out.cell (World.block_lt_of_cell? w _ hw210_2)).trans hw210_2), ((HB.out.cell (World.block_lt_of_cell? w _ hw212_0)).trans hw212_0), ((HB.out.cell (World.block_lt_of_cell? w _ hw212_1)).trans hw212_1), ((HB.out.cell (World.block_lt_of_cell? w _ hw212_2)).trans hw212_2)⟩ (fun hHeld => ?_)
                              clear hK K
                              refine norm_ (a' := ?_) ?_ ?_
                              rotate_left
                              · show Act.put _ (some 39) _ = _
                                simp only [Act.put, List.setIfInBounds_toArray, List.set_cons_zero, List.set_cons_succ, i64_w, i32_w]
                                rfl
                              refine pure_ (i := 8) (N := some 40) (v := ?_) (a' := ?_) #[true, true, true, true, true, true, true, true, true, true, true, true, true, true, false, false, true, true, true, true, true, false, false, false] rfl rfl (any_of HT_.out (by kernel_rfl)) (fun _ _ _ h => h) (Or.inl ⟨by rfl, ?_⟩) ?_ ?_
                              rotate_left
                              · intro w'
                                go_simp
                                with_reducible rfl
                              rotate_left
                              · simp only [Act.put, List.setIfInBounds_toArray, List.set_cons_zero, List.set_cons_succ, i64_w, i32_w]
                                rfl
                              refine one_ (i := 14) (N := some 46) #[true, true, true, true, true, true, true, true, true, true, true, true, true, true, true, false, true, true, true, true, true, false, false, false] rfl rfl (one_of HT_.out (by kernel_rfl)) (by decide) (fun K hK => ?_)
                              refine goes_ Try.func51 (by kernel_rfl) rfl #[.int .u64 ((rd_T31 l0 x8_2).f1), .int .i64 6] (by rfl) rfl rfl (by (try simp only [List.map_toArray, List.map_cons, List.map_nil]); first | done | rfl | (simp only [List.length_drop, List.length_take]; rfl)) ?_
                              with_reducible refine (nautilusref01_Bytes.calls kj5 ((rd_T31 l0 x8_2).f1) 6 t211 _ A13.out).mono ?_
                              rintro e w19 ⟨rfl, hb⟩
                              refine ⟨_, rfl, ?_⟩
                              have n0_ := Aside0.mk (Kd.R_below (by (with_reducible repeat (first | apply Kd.R_alloc | apply Kd.R_drewN | apply Kd.R_drew)); exact HO_5.out) hb)
                              have n1_ := Aside0.mk (below_step (by repeat (first | (with_reducible first | exact HB.out | apply below_alloc | apply pw_below_drewN | apply below_drew1) | exact HB.out)) hb)
                              clear HO_5
                              clear HB
                              have HO_5 := n0_
                              have HB := n1_
                              clear n0_ n1_
                              (try clear hb)
                              (try clear hb2)
                              (try clear hk)
                              (try clear hi)
                              refine hK.out _ _ ⟨((HB.out.cell (World.block_lt_of_cell? w _ hw208_0)).trans hw208_0), ((HB.out.cell (World.block_lt_of_cell? w _ hw208_1)).trans hw208_1), ((HB.out.cell (World.block_lt_of_cell? w _ hw208_2)).trans hw208_2), ((HB.out.cell (World.block_lt_of_cell? w _ hw210_0)).trans hw210_0), ((HB.out.cell (World.block_lt_of_cell? w _ hw210_1)).trans hw210_1), ((HB.out.cell (World.block_lt_of_cell? w _ hw210_2)).trans hw210_2), ((HB.out.cell (World.block_lt_of_cell? w _ hw212_0)).trans hw212_0), ((HB.out.cell (World.block_lt_of_cell? w _ hw212_1)).trans hw212_1), ((HB.out.cell (World.block_lt_of_cell? w _ hw212_2)).trans hw212_2)⟩ (fun hHeld => ?_)
                              clear hK K
                              refine norm_ (a' := ?_) ?_ ?_
                              rotate_left
                              · show Act.put _ (some 46) _ = _
                                simp only [Act.put, List.setIfInBounds_toArray, List.set_cons_zero, List.set_cons_succ, i64_w, i32_w]
                                rfl
                              refine pure_ (i := 15) (N := some 47) (v := ?_) (a' := ?_) #[true, true, true, true, true, true, true, true, true, true, true, true, true, true, true, true, true, true, true, true, true, false, false, false] rfl rfl (any_of HT_.out (by kernel_rfl)) (fun _ _ _ h => h) (Or.inl ⟨by rfl, ?_⟩) ?_ ?_
                              rotate_left
                              · intro w'
                                go_simp
                                with_reducible rfl
                              rotate_left
                              · simp only [Act.put, List.setIfInBounds_toArray, List.set_cons_zero, List.set_cons_succ, i64_w, i32_w]
                                rfl
                              refine one_ (i := 21) (N := some 53) #[true, true, true, true, true, true, true, true, true, true, true, true, true, true, true, true, true, true, true, true, true, true, false, false] rfl rfl (one_of HT_.out (by kernel_rfl)) (by decide) (fun K hK => ?_)
                              refine goes_ Try.func51 (by kernel_rfl) rfl #[.int .u64 ((rd_T31 l0 x8_2).f2), .int .i64 6] (by rfl) rfl rfl (by (try simp only [List.map_toArray, List.map_cons, List.map_nil]); first | done | rfl | (simp only [List.length_drop, List.length_take]; rfl)) ?_
                              with_reducible refine (nautilusref01_Bytes.calls kj5 ((rd_T31 l0 x8_2).f2) 6 t213 _ A15.out).mono ?_
                              rintro e w20 ⟨rfl, hb⟩
                              refine ⟨_, rfl, ?_⟩
                              have n0_ := Aside0.mk (Kd.R_below (by (with_reducible repeat (first | apply Kd.R_alloc | apply Kd.R_drewN | apply Kd.R_drew)); exact HO_5.out) hb)
                              have n1_ := Aside0.mk (below_step (by repeat (first | (with_reducible first | exact HB.out | apply below_alloc | apply pw_below_drewN | apply below_drew1) | exact HB.out)) hb)
                              clear HO_5
                              clear HB
                              have HO_5 := n0_
                              have HB := n1_
                              clear n0_ n1_
                              (try clear hb)
                              (try clear hb2)
                              (try clear hk)
                              (try clear hi)
                              refine hK.out _ _ ⟨((HB.out.cell (World.block_lt_of_cell? w _ hw208_0)).trans hw208_0), ((HB.out.cell (World.block_lt_of_cell? w _ hw208_1)).trans hw208_1), ((HB.out.cell (World.block_lt_of_cell? w _ hw208_2)).trans hw208_2), ((HB.out.cell (World.block_lt_of_cell? w _ hw210_0)).trans hw210_0), ((HB.out.cell (World.block_lt_of_cell? w _ hw210_1)).trans hw210_1), ((HB.out.cell (World.block_lt_of_cell? w _ hw210_2)).trans hw210_2), ((HB.out.cell (World.block_lt_of_cell? w _ hw212_0)).trans hw212_0), ((HB.out.cell (World.block_lt_of_cell? w _ hw212_1)).trans hw212_1), ((HB.out.cell (World.block_lt_of_cell? w _ hw212_2)).trans hw212_2)⟩ (fun hHeld => ?_)
                              clear hK K
                              refine norm_ (a' := ?_) ?_ ?_
                              rotate_left
                              · show Act.put _ (some 53) _ = _
                                simp only [Act.put, List.setIfInBounds_toArray, List.set_cons_zero, List.set_cons_succ, i64_w, i32_w]
                                rfl
                              refine pure_ (i := 22) (N := some 54) (v := ?_) (a' := ?_) #[true, true, true, true, true, true, true, true, true, true, true, true, true, true, true, true, true, true, true, true, true, true, true, false] rfl rfl (any_of HT_.out (by kernel_rfl)) (fun _ _ _ h => h) (Or.inl ⟨by rfl, ?_⟩) ?_ ?_
                              rotate_left
                              · intro w'
                                go_simp
                                with_reducible rfl
                              rotate_left
                              · simp only [Act.put, List.setIfInBounds_toArray, List.set_cons_zero, List.set_cons_succ, i64_w, i32_w]
                                rfl
                              refine pure_ (i := 23) (N := some 7) (v := ?_) (a' := ?_) #[true, true, true, true, true, true, true, true, true, true, true, true, true, true, true, true, true, true, true, true, true, true, true, true] rfl rfl (any_of HT_.out (by kernel_rfl)) (fun _ _ _ h => h) (Or.inl ⟨by rfl, ?_⟩) ?_ ?_
                              rotate_left
                              · intro w'
                                go_simp
                                with_reducible rfl
                              rotate_left
                              · simp only [Act.put, List.setIfInBounds_toArray, List.set_cons_zero, List.set_cons_succ, i64_w, i32_w]
                                rfl
                              refine done_ (done_of HT_.out (by kernel_rfl)) ?_
                              try go_wp2
                              go_roundg kj5
                              case measure => have := HK1.out; have := HK2.out; have := HJ5.out; omega
                              case rel => exact ⟨(sxb ++ t213), (wrap64 (x8_2 + 1)), (by first | rfl | (simp; done) | (simp [*]; done)), (by first | rfl | (simp; done) | (simp [*]; done)), H', ⟨by have := HK1.out; have := HK2.out; have := HJ5.out; omega⟩, ⟨by (with_reducible repeat (first | apply Kd.R_alloc | apply Kd.R_drewN | apply Kd.R_drew)); exact HO_5.out⟩, ⟨by repeat (first | (with_reducible first | exact HB.out | apply below_alloc | apply pw_below_drewN | apply below_drew1) | exact HB.out)⟩⟩
                            · rw [if_neg c16] at H
                              exact absurd H (by simp)
                          · rw [if_neg c14] at H
                            exact absurd H (by simp)
                        · rw [if_neg c12] at H
                          exact absurd H (by simp)
                      · rw [if_neg c10] at H
                        exact absurd H (by simp)
                    · rw [if_neg c9] at H
                      exact absurd H (by simp)
                  · replace c8 := Bool.eq_false_iff.mpr c8
                    subst c8
                    have H1 : (if 0 ≤ (wrap64 (508 - (x7_2.size : Int))) then (if (wrap64 (508 - (x7_2.size : Int)) : Int).toNat ≤ 281474976710656 then ((some (List.replicate (wrap64 (508 - (x7_2.size : Int)) : Int).toNat 0 : List Int)).bind fun y214 => (if x7_2.size + (strOfNums y214).size ≤ 9223372036854775807 then (if x5_1.length < 8796093022208 then (nautilusref08_Encode.l0 kj5 l0 (x5_1 ++ [x7_2 ++ (strOfNums y214)]) (wrap64 (x6_1 + 31))) else (none)) else (none))) else (none)) else (none)) = some (r1, r2) := by rw [if_neg (show ¬ (false = true) by decide)] at H; exact H
                    clear H
                    have H := H1
                    clear H1
                    obtain ⟨ji21, hji21⟩ : ∃ j_ : Int, (wrap64 (508 - (x7_2.size : Int))) = j_ := ⟨_, rfl⟩
                    replace H : (if 0 ≤ (ji21) then (if (ji21 : Int).toNat ≤ 281474976710656 then ((some (List.replicate (ji21 : Int).toNat 0 : List Int)).bind fun y214 => (if x7_2.size + (strOfNums y214).size ≤ 9223372036854775807 then (if x5_1.length < 8796093022208 then (nautilusref08_Encode.l0 kj5 l0 (x5_1 ++ [x7_2 ++ (strOfNums y214)]) (wrap64 (x6_1 + 31))) else (none)) else (none))) else (none)) else (none)) = some (r1, r2) := by first | (rw [hji21] at H; exact H) | (simp only [hji21] at H ⊢; exact H)
                    have hji21w : (IntKind.i64.wrap (508 - (x7_2.size : Int))) = ji21 := (i64_w _).trans hji21
                    by_cases c22 : 0 ≤ (ji21)
                    · rw [if_pos c22] at H
                      have c22b0 := eq_true c22
                      have c22b1 : decide (0 ≤ (ji21)) = true := decide_eq_true c22
                      clear c22
                      by_cases c23 : (ji21 : Int).toNat ≤ 281474976710656
                      · rw [if_pos c23] at H
                        have c23b0 := eq_true c23
                        have c23b1 : decide ((ji21 : Int).toNat ≤ 281474976710656) = true := decide_eq_true c23
                        clear c23
                        obtain ⟨y214, hy214⟩ : ∃ y_ : List Int, y_ = (List.replicate (ji21 : Int).toNat 0) := ⟨_, rfl⟩
                        replace H : (if x7_2.size + (strOfNums y214).size ≤ 9223372036854775807 then (if x5_1.length < 8796093022208 then (nautilusref08_Encode.l0 kj5 l0 (x5_1 ++ [x7_2 ++ (strOfNums y214)]) (wrap64 (x6_1 + 31))) else (none)) else (none)) = some (r1, r2) := by first | (rw [hy214]; with_reducible exact H) | (have H2_ := (Option.bind_some _ _).symm.trans H; rw [hy214]; with_reducible exact H2_) | (have H2_ := (Option.bind_some _ _).symm.trans H; with_reducible exact H2_) | with_reducible exact H | (rw [hy214]; exact H) | exact H
                        have Ny214 := Aside0.mk hy214
                        clear hy214
                        by_cases c24 : x7_2.size + (strOfNums y214).size ≤ 9223372036854775807
                        · rw [if_pos c24] at H
                          have c24b0 := eq_true c24
                          have c24b1 : decide (x7_2.size + (strOfNums y214).size ≤ 9223372036854775807) = true := decide_eq_true c24
                          try have c24b2 : (9223372036854775807 < x7_2.size + (strOfNums y214).size) = False := eq_false (Nat.not_lt.2 c24)
                          by_cases c25 : x5_1.length < 8796093022208
                          · rw [if_pos c25] at H
                            have LMc25 := Aside0.mk c25
                            clear c25
                            obtain ⟨y217, hy217⟩ : ∃ y_ : List ByteArray, y_ = (x5_1 ++ [x7_2 ++ (strOfNums y214)]) := ⟨_, rfl⟩
                            replace H : (nautilusref08_Encode.l0 kj5 l0 y217 (wrap64 (x6_1 + 31))) = some (r1, r2) := by first | (rw [hy217]; with_reducible exact H) | (have H2_ := (Option.bind_some _ _).symm.trans H; rw [hy217]; with_reducible exact H2_) | (have H2_ := (Option.bind_some _ _).symm.trans H; with_reducible exact H2_) | with_reducible exact H | (rw [hy217]; exact H) | exact H
                            have Ny217 := Aside0.mk hy217
                            clear hy217
                            have H' := Aside0.mk H
                            clear H
                            go_wp2_with (first | ((with_reducible refine gate_dst (N := 60) rfl ?_); refine Kd.R_make (Kd.int .u8) _ 5 rfl (N := 60) rfl 68 _ _ rfl ji21 rfl rfl Try.underlying68 (.int .u8 0) 1 info5 rfl (by decide) (by omega) 0 (ok := fun _ => True) (okp := fun _ => True) rfl (fun _ hk => hk) trivial (of_decide_eq_true (by first | (with_reducible assumption) | assumption)) (Nat.le_trans (Nat.mul_le_mul_right _ (of_decide_eq_true (by first | (with_reducible assumption) | assumption) : ji21.toNat ≤ 281474976710656)) (by omega)) (Below.refl _ _) (Nat.le_refl _) ?_; intro v215 w26 ho27 hb hg_ hnew_; clear hg_ hnew_; (first | rw [← Ny214.out] at ho27 | (simp only [Int.reduceToNat] at ho27; rw [← Ny214.out] at ho27)); have n0_ := Aside0.mk (Kd.R_below (by (with_reducible repeat (first | apply Kd.R_alloc | apply Kd.R_drewN | apply Kd.R_drew)); exact HO_5.out) hb); have n1_ := Aside0.mk (Kd.R_lower ho27 (below_size (by repeat (first | (with_reducible first | exact HB.out | apply below_alloc | apply pw_below_drewN | apply below_drew1) | exact HB.out)))); have n2_ := Aside0.mk (below_step (by repeat (first | (with_reducible first | exact HB.out | apply below_alloc | apply pw_below_drewN | apply below_drew1) | exact HB.out)) hb); clear HO_5; clear HB; have HO_5 := n0_; have HO216 := n1_; have HB := n2_; clear n0_ n1_ n2_; clear hb ho27; have hcv28 := own_string (P := Try.prog) Try.underlying68 Try.underlying5 Try.underlying9 (Kd.own_of_R HO216.out)) | ((with_reducible refine gate_builtin (b := .append) (xs := #[.tmp 55, .tmp 63]) rfl ?_); at_builtin; refine Kd.R_append Kd.string (w0 := w) w.heap.size rfl (.tmp 55) (.tmp 63) 49 9 (.string ⟨#[]⟩) 16 rfl Try.underlying49 info9 rfl (by decide) (by omega) u5 x5_1 (x7_2 ++ (strOfNums y214)) [.string (x7_2 ++ (strOfNums y214))] (fun _ => True) (fun _ => False) rfl rfl ?aP (fun _ hk => hk.elim) ?aF ?aO ?aB ?aS ?aL ?_; (case aP => exact rfl); (case aB => exact (by repeat (first | (with_reducible first | exact HB.out | apply below_alloc | apply pw_below_drewN | apply below_drew1) | exact HB.out))); (case aF => exact (fun _ _ => trivial)); (case aO => exact (by (with_reducible repeat (first | apply Kd.R_alloc | apply Kd.R_drewN | apply Kd.R_drew)); exact HO_5.out)); (case aS => exact (below_size (by repeat (first | (with_reducible first | exact HB.out | apply below_alloc | apply pw_below_drewN | apply below_drew1) | exact HB.out)))); (case aL => have := LMc25.out; omega); intro v218 w29 ho hb hg hat; rw [← Ny217.out] at ho; have n0_ := Aside0.mk (Kd.R_over' (by (with_reducible repeat (first | apply Kd.R_alloc | apply Kd.R_drewN | apply Kd.R_drew)); exact HO216.out) (Kd.R_typed (by (with_reducible repeat (first | apply Kd.R_alloc | apply Kd.R_drewN | apply Kd.R_drew)); exact HO_5.out)) (by decide) hg); have n1_ := Aside0.mk (hb); have n2_ := Aside0.mk (ho); clear HO216; clear HB; clear HO_5; have HO216 := n0_; have HB := n1_; have HO219 := n2_; clear n0_ n1_ n2_; clear ho hb hg hat))
                            go_roundg kj5
                            case measure => have := HK1.out; have := HK2.out; have := HJ5.out; omega
                            case rel => exact ⟨(y217), (wrap64 (x6_1 + 31)), (by first | rfl | (simp; done) | (simp [*]; done)), H', ⟨by have := HK1.out; have := HK2.out; have := HJ5.out; omega⟩, ⟨by (with_reducible repeat (first | apply Kd.R_alloc | apply Kd.R_drewN | apply Kd.R_drew)); exact HO219.out⟩, ⟨by repeat (first | (with_reducible first | exact HB.out | apply below_alloc | apply pw_below_drewN | apply below_drew1) | exact HB.out)⟩⟩
                          · rw [if_neg c25] at H
                            exact absurd H (by simp)
                        · rw [if_neg c24] at H
                          exact absurd H (by simp)
                      · rw [if_neg c23] at H
                        exact absurd H (by simp)
                    · rw [if_neg c22] at H
                      exact absurd H (by simp)
        · rw [if_neg c5] at H
          have c5b0 : decide (x6_1 < (l0.length : Int)) = false := decide_eq_false c5
          clear c5
          simp only [Option.some.injEq, Prod.mk.injEq] at H
          obtain ⟨rfl, rfl⟩ := H
          go_wp2
          go_ret2
          exact ⟨_, by first | rfl | (simp [errW_none, errW_some] <;> rfl) | (simp [*, errW_none, errW_some] <;> rfl), by (with_reducible repeat (first | apply Kd.R_alloc | apply Kd.R_drewN | apply Kd.R_drew)); exact HO_5.out, by repeat (first | (with_reducible first | exact HB.out | apply below_alloc | apply pw_below_drewN | apply below_drew1) | exact HB.out)⟩
  · replace c3 := Bool.eq_false_iff.mpr c3
    subst c3
    have H1 : (some (([] : List ByteArray), 80)) = some (r1, r2) := by rw [if_neg (show ¬ (false = true) by decide)] at H; exact H
    clear H
    have H := H1
    clear H1
    simp only [Option.some.injEq, Prod.mk.injEq] at H
    obtain ⟨rfl, rfl⟩ := H
    go_enter Try.func26, Try.ntmps26
    go_wp2_with (first | ((with_reducible refine gate_callee (f := 18) rfl ?_); refine goesL_ (some 10) rfl rfl Try.func18 (by kernel_rfl) rfl #[.slice A0 l0.length c0] rfl (by (try simp only [List.map_toArray, List.map_cons, List.map_nil]); first | done | rfl | (simp only [List.length_drop, List.length_take]; rfl)) ?_; (with_reducible refine (nautilusref08_Right.calls k _ _ l0 false _ ?side1 ?side2 A2.out).mono ?_); (case side1 => repeat (first | exact HR0.out | (with_reducible refine Kd.C_alloc ?_ _) | (with_reducible refine Kd.C_drewN ?_ _) | (with_reducible refine Kd.C_drew ?_))); (case side2 => exact HC0.out); rintro e w30 ⟨rfl, hb⟩; refine ⟨_, rfl, ?_⟩; have n0_ := Aside0.mk (below_step (by repeat (first | (with_reducible first | exact HB.out | apply below_alloc | apply pw_below_drewN | apply below_drew1) | exact HB.out)) hb); clear HB; have HB := n0_; clear n0_; (try clear hb); (try clear hb2); (try clear hk); (try clear hi)))
    go_ret2
    exact ⟨_, by first | rfl | (simp [errW_none, errW_some] <;> rfl) | (simp [*, errW_none, errW_some] <;> rfl), by first | exact Kd.R_nil _ _ _ _ _ | exact Kd.N_nil _ _ _ _ _ | exact Kd.V_nil _ _ _ _ _ | exact Kd.Q_nil _ _ _ _ _ | exact Kd.S_nil _ _ _ _ _, by repeat (first | (with_reducible first | exact HB.out | apply below_alloc | apply pw_below_drewN | apply below_drew1) | exact HB.out)⟩

end Go.Proofs.Ytiajhfinkpddbaa.Q
