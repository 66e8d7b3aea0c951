/- Functions of the translation as plain Lean functions, and that the translation computes them: printed by this session's driver of the print. -/
import Derived.Test.YtllcmalgahnnhaaQ0
import Derived.Test.YtllcmalgahnnhaaQ11
import Derived.Test.YtllcmalgahnnhaaQ12
import Derived.Test.YtllcmalgahnnhaaQ13
namespace Go.Proofs.Ytllcmalgahnnhaa.Q
open Go.Proofs.Ytllcmalgahnnhaa.H
open Go.RowKit Go.Proofs.YtllcmalgahnnhaaW.PrintWords Go.Proofs.YtllcmalgahnnhaaW.PrintLast Go.Proofs.YtllcmalgahnnhaaW.PrintMore
attribute [local go_sem] max2_int min2_int max_two min_two max_three min_three max_four min_four   -- for this text's walks alone
set_option linter.unusedVariables false
set_option linter.unusedSimpArgs false

/-! ### nautilusref09_Decode: function 33 -/
mutual
def nautilusref09_Decode.l0 : Nat → List ByteArray → List (S33) → Int → Option ((List (S33)) × Int)
  | 0, _, _, _ => none
  | k + 1, x0, x4, x5 => if x5 < (x0.length : Int) then (if 0 ≤ x5 then (if ((rdOf ByteArray.empty x0 x5).size : Int) = 508 then (nautilusref09_Decode.l1 k x0 x4 x5 0) else (some (([] : List (S33)), 90))) else (none)) else ((nautilusref09_Encode.f k x4).bind fun bt257 => ((nautilusref09_SameTexts.f k bt257.1 x0).bind fun t261 => (if bt257.2 = 0 then (if t261 = true then (some (x4, 0)) else (some (([] : List (S33)), 90))) else (some (([] : List (S33)), 90)))))
def nautilusref09_Decode.l1 : Nat → List ByteArray → List (S33) → Int → Int → Option ((List (S33)) × Int)
  | 0, _, _, _, _ => none
  | k + 1, x0, x4, x5, x6 => if x6 < 9 then (if 0 ≤ x5 then (if x5 < (x0.length : Int) then ((nautilusref01_Bare.f k (rdOf ByteArray.empty x0 x5) (wrap64 (55 * x6))).bind fun t247 => (if t247 = true then (nautilusref09_Decode.l0 k x0 x4 (wrap64 (x5 + 1))) else ((nautilusref09_take.f k (rdOf ByteArray.empty x0 x5) (wrap64 (55 * x6)) 6).bind fun t249 => ((nautilusref09_take.f k (rdOf ByteArray.empty x0 x5) (wrap64 ((wrap64 (55 * x6)) + 6)) 6).bind fun t251 => (if 0 ≤ (wrap64 ((wrap64 (55 * x6)) + 12)) then (if (wrap64 ((wrap64 (55 * x6)) + 12)) < ((rdOf ByteArray.empty x0 x5).size : Int) then (if 0 ≤ (wrap64 ((wrap64 (55 * x6)) + 13)) then (if (wrap64 ((wrap64 (55 * x6)) + 13)) ≤ (wrap64 ((wrap64 (55 * x6)) + 55)) then (if (wrap64 ((wrap64 (55 * x6)) + 55)) ≤ ((rdOf ByteArray.empty x0 x5).size : Int) then (if x4.length < 3518437208883 then (nautilusref09_Decode.l1 k x0 (x4 ++ [(⟨t249, t251, ((bt (rdOf ByteArray.empty x0 x5) (wrap64 ((wrap64 (55 * x6)) + 12))) != 0), (rdOf ByteArray.empty x0 x5).extract ((wrap64 ((wrap64 (55 * x6)) + 13)) : Int).toNat ((wrap64 ((wrap64 (55 * x6)) + 55)) : Int).toNat⟩ : S33)]) x5 (wrap64 (x6 + 1))) else (none)) else (none)) else (none)) else (none)) else (none)) else (none)))))) else (none)) else (none)) else (nautilusref09_Decode.l0 k x0 x4 (wrap64 (x5 + 1)))
end
def nautilusref09_Decode.f (k : Nat) (l0 : List ByteArray) : Option ((List (S33)) × Int) := if (l0.length : Int) > 108 then (some (([] : List (S33)), 90)) else (nautilusref09_Decode.l0 k l0 ([] : List (S33)) 0)
theorem nautilusref09_Decode.mono_l : ∀ k, (∀ y0 y1 y2, LeO (nautilusref09_Decode.l0 k y0 y1 y2) (nautilusref09_Decode.l0 (k + 1) y0 y1 y2)) ∧ (∀ y0 y1 y2 y3, LeO (nautilusref09_Decode.l1 k y0 y1 y2 y3) (nautilusref09_Decode.l1 (k + 1) y0 y1 y2 y3))
  | 0 => ⟨fun _ _ _ r h => by simp [nautilusref09_Decode.l0] at h, fun _ _ _ _ r h => by simp [nautilusref09_Decode.l1] at h⟩
  | k + 1 => by
    obtain ⟨ih0, ih1⟩ := nautilusref09_Decode.mono_l k
    refine ⟨?_, ?_⟩
    · intro y0 y1 y2
      unfold nautilusref09_Decode.l0
      repeat' first
      | (with_reducible exact ih0 _ _ _)
      | (with_reducible exact ih1 _ _ _ _)
      | (with_reducible exact nautilusref01_Bare.mono _ _ _)
      | (with_reducible exact nautilusref09_Encode.mono _ _)
      | (with_reducible exact nautilusref09_SameTexts.mono _ _ _)
      | (with_reducible exact nautilusref09_take.mono _ _ _ _)
      | (with_reducible exact LeO.refl _)
      | (with_reducible exact LeO.none _)
      | (with_reducible refine LeO.ite ?_ ?_)
      | (with_reducible refine LeO.bind ?_ (fun _ => ?_))
      | exact ih0 _ _ _
      | exact ih1 _ _ _ _
      | exact nautilusref01_Bare.mono _ _ _
      | exact nautilusref09_Encode.mono _ _
      | exact nautilusref09_SameTexts.mono _ _ _
      | exact nautilusref09_take.mono _ _ _ _
      | exact LeO.none _
      | refine LeO.ite ?_ ?_
      | refine LeO.bind ?_ (fun _ => ?_)
    · intro y0 y1 y2 y3
      unfold nautilusref09_Decode.l1
      repeat' first
      | (with_reducible exact ih0 _ _ _)
      | (with_reducible exact ih1 _ _ _ _)
      | (with_reducible exact nautilusref01_Bare.mono _ _ _)
      | (with_reducible exact nautilusref09_Encode.mono _ _)
      | (with_reducible exact nautilusref09_SameTexts.mono _ _ _)
      | (with_reducible exact nautilusref09_take.mono _ _ _ _)
      | (with_reducible exact LeO.refl _)
      | (with_reducible exact LeO.none _)
      | (with_reducible refine LeO.ite ?_ ?_)
      | (with_reducible refine LeO.bind ?_ (fun _ => ?_))
      | exact ih0 _ _ _
      | exact ih1 _ _ _ _
      | exact nautilusref01_Bare.mono _ _ _
      | exact nautilusref09_Encode.mono _ _
      | exact nautilusref09_SameTexts.mono _ _ _
      | exact nautilusref09_take.mono _ _ _ _
      | exact LeO.none _
      | refine LeO.ite ?_ ?_
      | refine LeO.bind ?_ (fun _ => ?_)
theorem nautilusref09_Decode.mono : ∀ a0 k, LeO (nautilusref09_Decode.f k a0) (nautilusref09_Decode.f (k + 1) a0) := by
  intro a0 k
  obtain ⟨ih0, ih1⟩ := nautilusref09_Decode.mono_l k
  unfold nautilusref09_Decode.f
  repeat' first
      | (with_reducible exact ih0 _ _ _)
      | (with_reducible exact ih1 _ _ _ _)
      | (with_reducible exact nautilusref01_Bare.mono _ _ _)
      | (with_reducible exact nautilusref09_Encode.mono _ _)
      | (with_reducible exact nautilusref09_SameTexts.mono _ _ _)
      | (with_reducible exact nautilusref09_take.mono _ _ _ _)
      | (with_reducible exact LeO.refl _)
      | (with_reducible exact LeO.none _)
      | (with_reducible refine LeO.ite ?_ ?_)
      | (with_reducible refine LeO.bind ?_ (fun _ => ?_))
      | exact ih0 _ _ _
      | exact ih1 _ _ _ _
      | exact nautilusref01_Bare.mono _ _ _
      | exact nautilusref09_Encode.mono _ _
      | exact nautilusref09_SameTexts.mono _ _ _
      | exact nautilusref09_take.mono _ _ _ _
      | exact LeO.none _
      | refine LeO.ite ?_ ?_
      | refine LeO.bind ?_ (fun _ => ?_)
def nautilusref09_Decode.T14 : Bool × List (List Nat × List Nat) := (true, [([], []), ([], []), ([], []), ([1, 2], [1, 2]), ([3], [3]), ([], []), ([4, 5], [4, 5]), ([], []), ([], []), ([7, 8], [7, 8]), ([9], [9]), ([], []), ([11], [11]), ([10, 12, 6], [10, 12]), ([], []), ([], []), ([14, 15], [14, 15]), ([16], [16]), ([], []), ([18], [18]), ([17, 19], [17, 19]), ([20], [20]), ([], []), ([], []), ([22, 23], [22, 23]), ([24], [24]), ([], []), ([26], [26]), ([], []), ([28], [28]), ([25, 27, 29], [25, 27, 29]), ([6, 13, 21, 30], [6, 13, 21, 30]), ([31], [31]), ([0, 32, 13], [0, 32]), ([33, 33, 0, 1, 2, 3, 4, 5, 6, 7, 8, 9, 10, 11, 12, 13, 14, 15, 16, 17, 18, 19, 20, 21, 22, 23, 24, 25, 26, 27, 28, 29, 30, 31, 32, 33], [0, 33])])
def nautilusref09_Decode.B14 : List Nat := [0, 0, 0, 6, 14, 0, 62, 0, 0, 384, 896, 0, 2048, 8190, 0, 0, 49152, 114688, 0, 262144, 1032192, 2080768, 0, 0, 12582912, 29360128, 0, 67108864, 0, 268435456, 1069547520, 2147483646, 4294967294, 8589934591, 17179869183]
theorem nautilusref09_Decode.tab14 : rtab .any (opsOf Try.f33 14) = nautilusref09_Decode.T14 := by kernel_rfl
theorem nautilusref09_Decode.bits14 : waitsOk nautilusref09_Decode.T14.2 nautilusref09_Decode.B14 = true := by kernel_rfl
set_option maxHeartbeats 8000000 in
set_option maxRecDepth 100000 in
theorem nautilusref09_Decode.calls (k : Nat) (A0 : Option Addr) (c0 : Nat) (l0 : List ByteArray) (r1 : List (S33)) (r2 : Int) (w : World) (hr0 : Kd.C Kd.string w A0 l0.length l0) (hc0 : l0.length ≤ c0) (h : nautilusref09_Decode.f k l0 = some (r1, r2)) :
    Calls Try.prog 33 #[.slice A0 l0.length c0] w fun e w' => ∃ v0_ : Value, e = .returned (.tuple #[v0_, .int .i64 r2]) ∧ Kd.R k33 33 w' w.heap.size (fun _ => True) v0_ r1 ∧ Below w.heap.size w w' := by
  have hu33 := Try.underlying33
  have HR0 := Aside0.mk hr0
  have HC0 := Aside0.mk hc0
  clear hr0 hc0
  have HB := Aside0.mk (Below.refl w.heap.size w)
  have H : (if (l0.length : Int) > 108 then (some (([] : List (S33)), 90)) else (nautilusref09_Decode.l0 k l0 ([] : List (S33)) 0)) = some (r1, r2) := h
  clear h
  by_cases c2 : (l0.length : Int) > 108
  · rw [if_pos c2] at H
    have c2b0 : decide (108 < (l0.length : Int)) = true := decide_eq_true c2
    have c2b1 : decide (108 < l0.length) = true := decide_eq_true (by omega)
    clear c2
    simp only [Option.some.injEq, Prod.mk.injEq] at H
    obtain ⟨rfl, rfl⟩ := H
    go_enter Try.func33, Try.ntmps33
    go_wp2
    go_ret2
    exact ⟨_, by first | rfl | (simp [errW_none, errW_some] <;> rfl) | (simp [*, errW_none, errW_some] <;> rfl), by first | exact Kd.R_nil _ _ _ _ _ | exact Kd.N_nil _ _ _ _ _ | exact Kd.V_nil _ _ _ _ _ | exact Kd.Q_nil _ _ _ _ _ | exact Kd.S_nil _ _ _ _ _, by repeat (first | (with_reducible first | exact HB.out | apply below_alloc | apply pw_below_drewN | apply below_drew1) | exact HB.out)⟩
  · rw [if_neg c2] at H
    have c2b0 : decide (108 < (l0.length : Int)) = false := decide_eq_false c2
    have c2b1 : decide (108 < l0.length) = false := decide_eq_false (by omega)
    clear c2
    have H' := Aside0.mk H
    clear H
    go_enter Try.func33, Try.ntmps33
    go_wp2
    go_loopg [4, 5] k (fun kq v4 v5 w' => ∃ (x4_1 : List (S33)) (x5_1 : Int), v5 = .int .i64 x5_1 ∧ Aside0 (nautilusref09_Decode.l0 kq l0 x4_1 x5_1 = some (r1, r2)) ∧ Aside0 (kq ≤ k) ∧ Aside0 (Kd.R k33 33 w' w.heap.size (fun _ => True) v4 x4_1) ∧ Aside0 (Below w.heap.size w w'))
    case atStart => exact ⟨(([] : List (S33))), (0), (by first | rfl | (simp; done) | (simp [*]; done)), H', ⟨Nat.le_refl _⟩, ⟨by first | exact Kd.R_nil _ _ _ _ _ | exact Kd.N_nil _ _ _ _ _ | exact Kd.V_nil _ _ _ _ _ | exact Kd.Q_nil _ _ _ _ _ | exact Kd.S_nil _ _ _ _ _⟩, ⟨by repeat (first | (with_reducible first | exact HB.out | apply below_alloc | apply pw_below_drewN | apply below_drew1) | exact HB.out)⟩⟩
    case round =>
      clear H'
      try clear c2
      try clear c2b0
      try clear c2b1
      try clear p2
      obtain ⟨x4_1, x5_1, rfl, HA, HK1, HO_4, HB⟩ := hrel
      cases gk with
      | zero => exact absurd HA.out (by simp [nautilusref09_Decode.l0])
      | succ k1 =>
        have H := HA.out
        clear HA
        simp only [nautilusref09_Decode.l0] at H
        by_cases c3 : x5_1 < (l0.length : Int)
        · rw [if_pos c3] at H
          have c3b0 : decide (x5_1 < (l0.length : Int)) = true := decide_eq_true c3
          clear c3
          by_cases c4 : 0 ≤ x5_1
          · rw [if_pos c4] at H
            have c4b0 : decide (0 ≤ x5_1) = true := decide_eq_true c4
            clear c4
            by_cases c5 : ((rdOf ByteArray.empty l0 x5_1).size : Int) = 508
            · rw [if_pos c5] at H
              have c5b0 : (((rdOf ByteArray.empty l0 x5_1).size : Int) == 508) = true := beq_iff_eq.mpr c5
              have c5b1 : (((rdOf ByteArray.empty l0 x5_1).size : Int) != 508) = false := bne_eq_false_iff_eq.mpr c5
              clear c5
              have H' := Aside0.mk H
              clear H
              have p245 : 0 ≤ (x5_1 : Int) := of_decide_eq_true (by first | (with_reducible assumption) | assumption)
              have q245 : x5_1 < (l0.length : Int) := of_decide_eq_true (by first | (with_reducible assumption) | assumption)
              obtain ⟨ad245, e245, hx245_0⟩ := Kd.at_string HR0.out x5_1 p245 q245
              cases e245
              replace hx245_0 := (HB.out.cell (World.block_lt_of_cell? w _ hx245_0)).trans hx245_0
              replace p245 := eq_true p245
              replace q245 := eq_true q245
              go_wp2
              go_loopg [4, 6] k1 (fun kq v4 v6 w' => ∃ (x4_2 : List (S33)) (x6_2 : Int), v6 = .int .i64 x6_2 ∧ Aside0 (nautilusref09_Decode.l1 kq l0 x4_2 x5_1 x6_2 = some (r1, r2)) ∧ Aside0 (kq ≤ k1) ∧ Aside0 (Kd.R k33 33 w' w.heap.size (fun _ => True) v4 x4_2) ∧ Aside0 (Below w.heap.size w w'))
              case atStart => exact ⟨(x4_1), (0), (by first | rfl | (simp; done) | (simp [*]; done)), H', ⟨Nat.le_refl _⟩, ⟨by (with_reducible repeat (first | apply Kd.R_alloc | apply Kd.R_drewN | apply Kd.R_drew)); exact HO_4.out⟩, ⟨by repeat (first | (with_reducible first | exact HB.out | apply below_alloc | apply pw_below_drewN | apply below_drew1) | exact HB.out)⟩⟩
              case round =>
                clear H'
                try clear c2
                try clear c2b0
                try clear c2b1
                try clear p2
                try clear q2
                try clear hx2
                try clear c3
                try clear c3b0
                try clear c4
                try clear c4b0
                try clear c5
                try clear c5b0
                try clear c5b1
                try clear hx245_0
                try clear p2
                try clear p245
                try clear q245
                obtain ⟨x4_2, x6_2, rfl, HA, HK2, HO_4, HB⟩ := hrel
                cases gk with
                | zero => exact absurd HA.out (by simp [nautilusref09_Decode.l1])
                | succ k2 =>
                  have H := HA.out
                  clear HA
                  simp only [nautilusref09_Decode.l1] at H
                  by_cases c6 : x6_2 < 9
                  · rw [if_pos c6] at H
                    have c6b0 : decide (x6_2 < 9) = true := decide_eq_true c6
                    clear c6
                    by_cases c7 : 0 ≤ x5_1
                    · rw [if_pos c7] at H
                      have c7b0 : decide (0 ≤ x5_1) = true := decide_eq_true c7
                      clear c7
                      by_cases c8 : x5_1 < (l0.length : Int)
                      · rw [if_pos c8] at H
                        have c8b0 : decide (x5_1 < (l0.length : Int)) = true := decide_eq_true c8
                        clear c8
                        replace H := Option.bind_eq_some_iff.mp H
                        obtain ⟨t247, A90, H⟩ := H
                        replace H : (if t247 = true then (nautilusref09_Decode.l0 k2 l0 x4_2 (wrap64 (x5_1 + 1))) else ((nautilusref09_take.f k2 (rdOf ByteArray.empty l0 x5_1) (wrap64 (55 * x6_2)) 6).bind fun t249 => ((nautilusref09_take.f k2 (rdOf ByteArray.empty l0 x5_1) (wrap64 ((wrap64 (55 * x6_2)) + 6)) 6).bind fun t251 => (if 0 ≤ (wrap64 ((wrap64 (55 * x6_2)) + 12)) then (if (wrap64 ((wrap64 (55 * x6_2)) + 12)) < ((rdOf ByteArray.empty l0 x5_1).size : Int) then (if 0 ≤ (wrap64 ((wrap64 (55 * x6_2)) + 13)) then (if (wrap64 ((wrap64 (55 * x6_2)) + 13)) ≤ (wrap64 ((wrap64 (55 * x6_2)) + 55)) then (if (wrap64 ((wrap64 (55 * x6_2)) + 55)) ≤ ((rdOf ByteArray.empty l0 x5_1).size : Int) then (if x4_2.length < 3518437208883 then (nautilusref09_Decode.l1 k2 l0 (x4_2 ++ [(⟨t249, t251, ((bt (rdOf ByteArray.empty l0 x5_1) (wrap64 ((wrap64 (55 * x6_2)) + 12))) != 0), (rdOf ByteArray.empty l0 x5_1).extract ((wrap64 ((wrap64 (55 * x6_2)) + 13)) : Int).toNat ((wrap64 ((wrap64 (55 * x6_2)) + 55)) : Int).toNat⟩ : S33)]) x5_1 (wrap64 (x6_2 + 1))) else (none)) else (none)) else (none)) else (none)) else (none)) else (none))))) = some (r1, r2) := H
                        have A9 := Aside0.mk A90
                        clear A90
                        by_cases c10 : t247 = true
                        · subst c10
                          have H1 : (nautilusref09_Decode.l0 k2 l0 x4_2 (wrap64 (x5_1 + 1))) = some (r1, r2) := by rw [if_pos rfl] at H; exact H
                          clear H
                          have H := H1
                          clear H1
                          have H' := Aside0.mk H
                          clear H
                          have p246 : 0 ≤ (x5_1 : Int) := of_decide_eq_true (by first | (with_reducible assumption) | assumption)
                          have q246 : x5_1 < (l0.length : Int) := of_decide_eq_true (by first | (with_reducible assumption) | assumption)
                          obtain ⟨ad246, e246, hx246_0⟩ := Kd.at_string HR0.out x5_1 p246 q246
                          obtain rfl : ad245 = ad246 := (by injection e246)
                          replace hx246_0 := (HB.out.cell (World.block_lt_of_cell? w _ hx246_0)).trans hx246_0
                          replace p246 := eq_true p246
                          replace q246 := eq_true q246
                          go_wp2_with (first | ((with_reducible refine gate_callee (f := 51) rfl ?_); refine goesL_ (some 37) rfl rfl Try.func51 (by kernel_rfl) rfl #[.string (rdOf ByteArray.empty l0 x5_1), .int .i64 (wrap64 (55 * x6_2))] rfl (by (try simp only [List.map_toArray, List.map_cons, List.map_nil]); first | done | rfl | (simp only [List.length_drop, List.length_take]; rfl) | (simp [Act.eval, go_sem]; simp only [decide_eq_false_iff_not, decide_eq_true_eq] at *; (repeat' apply And.intro) <;> first | done | (symm; first | (apply IntWalk.u64_in; omega) | (apply IntWalk.u32_in; omega) | (apply IntWalk.i64_in; omega) | (apply IntWalk.wrap64_in; omega) | (apply IntWalk.u16_in; omega) | (apply IntWalk.u8_in; omega)))) ?_; (with_reducible refine (nautilusref01_Bare.calls k2 (rdOf ByteArray.empty l0 x5_1) (wrap64 (55 * x6_2)) true _ A9.out).mono ?_); rintro e w11 ⟨rfl, hb⟩; refine ⟨_, rfl, ?_⟩; have n0_ := Aside0.mk (Kd.R_below (by (with_reducible repeat (first | apply Kd.R_alloc | apply Kd.R_drewN | apply Kd.R_drew)); exact HO_4.out) hb); have n1_ := Aside0.mk (below_step (by repeat (first | (with_reducible first | exact HB.out | apply below_alloc | apply pw_below_drewN | apply below_drew1) | exact HB.out)) hb); clear HO_4; clear HB; have HO_4 := n0_; have HB := n1_; clear n0_ n1_; (try clear hb); (try clear hb2); (try clear hk); (try clear hi)))
                          go_roundg k2
                          case measure => have := HK1.out; have := HK2.out; omega
                          case rel => exact ⟨(x4_2), (wrap64 (x5_1 + 1)), (by first | rfl | (simp; done) | (simp [*]; done)), H', ⟨by have := HK1.out; have := HK2.out; omega⟩, ⟨by (with_reducible repeat (first | apply Kd.R_alloc | apply Kd.R_drewN | apply Kd.R_drew)); exact HO_4.out⟩, ⟨by repeat (first | (with_reducible first | exact HB.out | apply below_alloc | apply pw_below_drewN | apply below_drew1) | exact HB.out)⟩⟩
                        · replace c10 := Bool.eq_false_iff.mpr c10
                          subst c10
                          have H1 : ((nautilusref09_take.f k2 (rdOf ByteArray.empty l0 x5_1) (wrap64 (55 * x6_2)) 6).bind fun t249 => ((nautilusref09_take.f k2 (rdOf ByteArray.empty l0 x5_1) (wrap64 ((wrap64 (55 * x6_2)) + 6)) 6).bind fun t251 => (if 0 ≤ (wrap64 ((wrap64 (55 * x6_2)) + 12)) then (if (wrap64 ((wrap64 (55 * x6_2)) + 12)) < ((rdOf ByteArray.empty l0 x5_1).size : Int) then (if 0 ≤ (wrap64 ((wrap64 (55 * x6_2)) + 13)) then (if (wrap64 ((wrap64 (55 * x6_2)) + 13)) ≤ (wrap64 ((wrap64 (55 * x6_2)) + 55)) then (if (wrap64 ((wrap64 (55 * x6_2)) + 55)) ≤ ((rdOf ByteArray.empty l0 x5_1).size : Int) then (if x4_2.length < 3518437208883 then (nautilusref09_Decode.l1 k2 l0 (x4_2 ++ [(⟨t249, t251, ((bt (rdOf ByteArray.empty l0 x5_1) (wrap64 ((wrap64 (55 * x6_2)) + 12))) != 0), (rdOf ByteArray.empty l0 x5_1).extract ((wrap64 ((wrap64 (55 * x6_2)) + 13)) : Int).toNat ((wrap64 ((wrap64 (55 * x6_2)) + 55)) : Int).toNat⟩ : S33)]) x5_1 (wrap64 (x6_2 + 1))) else (none)) else (none)) else (none)) else (none)) else (none)) else (none)))) = some (r1, r2) := by rw [if_neg (show ¬ (false = true) by decide)] at H; exact H
                          clear H
                          have H := H1
                          clear H1
                          replace H := Option.bind_eq_some_iff.mp H
                          obtain ⟨t249, A120, H⟩ := H
                          replace H : ((nautilusref09_take.f k2 (rdOf ByteArray.empty l0 x5_1) (wrap64 ((wrap64 (55 * x6_2)) + 6)) 6).bind fun t251 => (if 0 ≤ (wrap64 ((wrap64 (55 * x6_2)) + 12)) then (if (wrap64 ((wrap64 (55 * x6_2)) + 12)) < ((rdOf ByteArray.empty l0 x5_1).size : Int) then (if 0 ≤ (wrap64 ((wrap64 (55 * x6_2)) + 13)) then (if (wrap64 ((wrap64 (55 * x6_2)) + 13)) ≤ (wrap64 ((wrap64 (55 * x6_2)) + 55)) then (if (wrap64 ((wrap64 (55 * x6_2)) + 55)) ≤ ((rdOf ByteArray.empty l0 x5_1).size : Int) then (if x4_2.length < 3518437208883 then (nautilusref09_Decode.l1 k2 l0 (x4_2 ++ [(⟨t249, t251, ((bt (rdOf ByteArray.empty l0 x5_1) (wrap64 ((wrap64 (55 * x6_2)) + 12))) != 0), (rdOf ByteArray.empty l0 x5_1).extract ((wrap64 ((wrap64 (55 * x6_2)) + 13)) : Int).toNat ((wrap64 ((wrap64 (55 * x6_2)) + 55)) : Int).toNat⟩ : S33)]) x5_1 (wrap64 (x6_2 + 1))) else (none)) else (none)) else (none)) else (none)) else (none)) else (none))) = some (r1, r2) := H
                          have A12 := Aside0.mk A120
                          clear A120
                          replace H := Option.bind_eq_some_iff.mp H
                          obtain ⟨t251, A130, H⟩ := H
                          replace H : (if 0 ≤ (wrap64 ((wrap64 (55 * x6_2)) + 12)) then (if (wrap64 ((wrap64 (55 * x6_2)) + 12)) < ((rdOf ByteArray.empty l0 x5_1).size : Int) then (if 0 ≤ (wrap64 ((wrap64 (55 * x6_2)) + 13)) then (if (wrap64 ((wrap64 (55 * x6_2)) + 13)) ≤ (wrap64 ((wrap64 (55 * x6_2)) + 55)) then (if (wrap64 ((wrap64 (55 * x6_2)) + 55)) ≤ ((rdOf ByteArray.empty l0 x5_1).size : Int) then (if x4_2.length < 3518437208883 then (nautilusref09_Decode.l1 k2 l0 (x4_2 ++ [(⟨t249, t251, ((bt (rdOf ByteArray.empty l0 x5_1) (wrap64 ((wrap64 (55 * x6_2)) + 12))) != 0), (rdOf ByteArray.empty l0 x5_1).extract ((wrap64 ((wrap64 (55 * x6_2)) + 13)) : Int).toNat ((wrap64 ((wrap64 (55 * x6_2)) + 55)) : Int).toNat⟩ : S33)]) x5_1 (wrap64 (x6_2 + 1))) else (none)) else (none)) else (none)) else (none)) else (none)) else (none)) = some (r1, r2) := H
                          have A13 := Aside0.mk A130
                          clear A130
                          obtain ⟨ji14, hji14⟩ : ∃ j_ : Int, (wrap64 ((wrap64 (55 * x6_2)) + 12)) = j_ := ⟨_, rfl⟩
                          replace H : (if 0 ≤ (ji14) then (if (ji14) < ((rdOf ByteArray.empty l0 x5_1).size : Int) then (if 0 ≤ (wrap64 ((wrap64 (55 * x6_2)) + 13)) then (if (wrap64 ((wrap64 (55 * x6_2)) + 13)) ≤ (wrap64 ((wrap64 (55 * x6_2)) + 55)) then (if (wrap64 ((wrap64 (55 * x6_2)) + 55)) ≤ ((rdOf ByteArray.empty l0 x5_1).size : Int) then (if x4_2.length < 3518437208883 then (nautilusref09_Decode.l1 k2 l0 (x4_2 ++ [(⟨t249, t251, ((bt (rdOf ByteArray.empty l0 x5_1) (ji14)) != 0), (rdOf ByteArray.empty l0 x5_1).extract ((wrap64 ((wrap64 (55 * x6_2)) + 13)) : Int).toNat ((wrap64 ((wrap64 (55 * x6_2)) + 55)) : Int).toNat⟩ : S33)]) x5_1 (wrap64 (x6_2 + 1))) else (none)) else (none)) else (none)) else (none)) else (none)) else (none)) = some (r1, r2) := by first | (rw [hji14] at H; exact H) | (simp only [hji14] at H ⊢; exact H)
                          (try rw [hji14] at A9)
                          (try rw [hji14] at A12)
                          (try rw [hji14] at A13)
                          have hji14w : (IntKind.i64.wrap ((wrap64 (55 * x6_2)) + 12)) = ji14 := (i64_w _).trans hji14
                          by_cases c15 : 0 ≤ (ji14)
                          · rw [if_pos c15] at H
                            have c15b0 : decide (0 ≤ (ji14)) = true := decide_eq_true c15
                            clear c15
                            by_cases c16 : (ji14) < ((rdOf ByteArray.empty l0 x5_1).size : Int)
                            · rw [if_pos c16] at H
                              have c16b0 : decide ((ji14) < ((rdOf ByteArray.empty l0 x5_1).size : Int)) = true := decide_eq_true c16
                              clear c16
                              obtain ⟨ji18, hji18⟩ : ∃ j_ : Int, (wrap64 ((wrap64 (55 * x6_2)) + 13)) = j_ := ⟨_, rfl⟩
                              replace H : (if 0 ≤ (ji18) then (if (ji18) ≤ (wrap64 ((wrap64 (55 * x6_2)) + 55)) then (if (wrap64 ((wrap64 (55 * x6_2)) + 55)) ≤ ((rdOf ByteArray.empty l0 x5_1).size : Int) then (if x4_2.length < 3518437208883 then (nautilusref09_Decode.l1 k2 l0 (x4_2 ++ [(⟨t249, t251, ((bt (rdOf ByteArray.empty l0 x5_1) (ji14)) != 0), (rdOf ByteArray.empty l0 x5_1).extract ((ji18) : Int).toNat ((wrap64 ((wrap64 (55 * x6_2)) + 55)) : Int).toNat⟩ : S33)]) x5_1 (wrap64 (x6_2 + 1))) else (none)) else (none)) else (none)) else (none)) = some (r1, r2) := by first | (rw [hji18] at H; exact H) | (simp only [hji18] at H ⊢; exact H)
                              (try rw [hji18] at A9)
                              (try rw [hji18] at A12)
                              (try rw [hji18] at A13)
                              have hji18w : (IntKind.i64.wrap ((wrap64 (55 * x6_2)) + 13)) = ji18 := (i64_w _).trans hji18
                              by_cases c19 : 0 ≤ (ji18)
                              · rw [if_pos c19] at H
                                have c19b0 := eq_true c19
                                have c19b1 : decide (0 ≤ (ji18)) = true := decide_eq_true c19
                                clear c19
                                by_cases c20 : (ji18) ≤ (wrap64 ((wrap64 (55 * x6_2)) + 55))
                                · rw [if_pos c20] at H
                                  have c20b0 := eq_true c20
                                  have c20b1 : decide ((ji18) ≤ (wrap64 ((wrap64 (55 * x6_2)) + 55))) = true := decide_eq_true c20
                                  by_cases c21 : (wrap64 ((wrap64 (55 * x6_2)) + 55)) ≤ ((rdOf ByteArray.empty l0 x5_1).size : Int)
                                  · rw [if_pos c21] at H
                                    have c21b0 := eq_true c21
                                    have c21b1 : decide ((wrap64 ((wrap64 (55 * x6_2)) + 55)) ≤ ((rdOf ByteArray.empty l0 x5_1).size : Int)) = true := decide_eq_true c21
                                    by_cases c22 : x4_2.length < 3518437208883
                                    · rw [if_pos c22] at H
                                      have LMc22 := Aside0.mk c22
                                      clear c22
                                      obtain ⟨y254, hy254⟩ : ∃ y_ : List (S33), y_ = (x4_2 ++ [(⟨t249, t251, ((bt (rdOf ByteArray.empty l0 x5_1) (ji14)) != 0), (rdOf ByteArray.empty l0 x5_1).extract ((ji18) : Int).toNat ((wrap64 ((wrap64 (55 * x6_2)) + 55)) : Int).toNat⟩ : S33)]) := ⟨_, rfl⟩
                                      replace H : (nautilusref09_Decode.l1 k2 l0 y254 x5_1 (wrap64 (x6_2 + 1))) = some (r1, r2) := by first | (rw [hy254]; with_reducible exact H) | (have H2_ := (Option.bind_some _ _).symm.trans H; rw [hy254]; with_reducible exact H2_) | (have H2_ := (Option.bind_some _ _).symm.trans H; with_reducible exact H2_) | with_reducible exact H | (rw [hy254]; exact H) | exact H
                                      have Ny254 := Aside0.mk hy254
                                      clear hy254
                                      have H' := Aside0.mk H
                                      clear H
                                      have p246 : 0 ≤ (x5_1 : Int) := of_decide_eq_true (by first | (with_reducible assumption) | assumption)
                                      have q246 : x5_1 < (l0.length : Int) := of_decide_eq_true (by first | (with_reducible assumption) | assumption)
                                      obtain ⟨ad246, e246, hx246_0⟩ := Kd.at_string HR0.out x5_1 p246 q246
                                      obtain rfl : ad245 = ad246 := (by injection e246)
                                      replace hx246_0 := (HB.out.cell (World.block_lt_of_cell? w _ hx246_0)).trans hx246_0
                                      replace p246 := eq_true p246
                                      replace q246 := eq_true q246
                                      try go_wp2_with (first | ((with_reducible refine gate_callee (f := 51) rfl ?_); refine goesL_ (some 37) rfl rfl Try.func51 (by kernel_rfl) rfl #[.string (rdOf ByteArray.empty l0 x5_1), .int .i64 (wrap64 (55 * x6_2))] rfl (by (try simp only [List.map_toArray, List.map_cons, List.map_nil]); first | done | rfl | (simp only [List.length_drop, List.length_take]; rfl) | (simp [Act.eval, go_sem]; simp only [decide_eq_false_iff_not, decide_eq_true_eq] at *; (repeat' apply And.intro) <;> first | done | (symm; first | (apply IntWalk.u64_in; omega) | (apply IntWalk.u32_in; omega) | (apply IntWalk.i64_in; omega) | (apply IntWalk.wrap64_in; omega) | (apply IntWalk.u16_in; omega) | (apply IntWalk.u8_in; omega)))) ?_; (with_reducible refine (nautilusref01_Bare.calls k2 (rdOf ByteArray.empty l0 x5_1) (wrap64 (55 * x6_2)) false _ A9.out).mono ?_); rintro e w23 ⟨rfl, hb⟩; refine ⟨_, rfl, ?_⟩; have n0_ := Aside0.mk (Kd.R_below (by (with_reducible repeat (first | apply Kd.R_alloc | apply Kd.R_drewN | apply Kd.R_drew)); exact HO_4.out) hb); have n1_ := Aside0.mk (below_step (by repeat (first | (with_reducible first | exact HB.out | apply below_alloc | apply pw_below_drewN | apply below_drew1) | exact HB.out)) hb); clear HO_4; clear HB; have HO_4 := n0_; have HB := n1_; clear n0_ n1_; (try clear hb); (try clear hb2); (try clear hk); (try clear hi)))
                                      have n0_ := Aside0.mk (Kd.R_drew HO_4.out)
                                      have n1_ := Aside0.mk (below_drew1 HB.out)
                                      clear HO_4
                                      clear HB
                                      have HO_4 := n0_
                                      have HB := n1_
                                      clear n0_ n1_
                                      have p248 : 0 ≤ (x5_1 : Int) := of_decide_eq_true (by first | (with_reducible assumption) | assumption)
                                      have q248 : x5_1 < (l0.length : Int) := of_decide_eq_true (by first | (with_reducible assumption) | assumption)
                                      obtain ⟨ad248, e248, hx248_0⟩ := Kd.at_string HR0.out x5_1 p248 q248
                                      have hw248_0 := hx248_0
                                      obtain rfl : ad245 = ad248 := (by injection e248)
                                      replace hx248_0 := (HB.out.cell (World.block_lt_of_cell? w _ hx248_0)).trans hx248_0
                                      replace p248 := eq_true p248
                                      replace q248 := eq_true q248
                                      have p250 : 0 ≤ (x5_1 : Int) := of_decide_eq_true (by first | (with_reducible assumption) | assumption)
                                      have q250 : x5_1 < (l0.length : Int) := of_decide_eq_true (by first | (with_reducible assumption) | assumption)
                                      obtain ⟨ad250, e250, hx250_0⟩ := Kd.at_string HR0.out x5_1 p250 q250
                                      have hw250_0 := hx250_0
                                      obtain rfl : ad245 = ad250 := (by injection e250)
                                      replace hx250_0 := (HB.out.cell (World.block_lt_of_cell? w _ hx250_0)).trans hx250_0
                                      replace p250 := eq_true p250
                                      replace q250 := eq_true q250
                                      have p252 : 0 ≤ (x5_1 : Int) := of_decide_eq_true (by first | (with_reducible assumption) | assumption)
                                      have q252 : x5_1 < (l0.length : Int) := of_decide_eq_true (by first | (with_reducible assumption) | assumption)
                                      obtain ⟨ad252, e252, hx252_0⟩ := Kd.at_string HR0.out x5_1 p252 q252
                                      have hw252_0 := hx252_0
                                      obtain rfl : ad245 = ad252 := (by injection e252)
                                      replace hx252_0 := (HB.out.cell (World.block_lt_of_cell? w _ hx252_0)).trans hx252_0
                                      replace p252 := eq_true p252
                                      replace q252 := eq_true q252
                                      have p17 : 0 ≤ ((ji14) : Int) := of_decide_eq_true (by first | (with_reducible assumption) | assumption)
                                      have q17 : (ji14) < ((rdOf ByteArray.empty l0 x5_1).size : Int) := of_decide_eq_true (by first | (with_reducible assumption) | assumption)
                                      have hx17 := bt_at (rdOf ByteArray.empty l0 x5_1) (ji14)
                                      replace p17 := eq_true p17
                                      replace q17 := eq_true q17
                                      have p253 : 0 ≤ (x5_1 : Int) := of_decide_eq_true (by first | (with_reducible assumption) | assumption)
                                      have q253 : x5_1 < (l0.length : Int) := of_decide_eq_true (by first | (with_reducible assumption) | assumption)
                                      obtain ⟨ad253, e253, hx253_0⟩ := Kd.at_string HR0.out x5_1 p253 q253
                                      have hw253_0 := hx253_0
                                      obtain rfl : ad245 = ad253 := (by injection e253)
                                      replace hx253_0 := (HB.out.cell (World.block_lt_of_cell? w _ hx253_0)).trans hx253_0
                                      replace p253 := eq_true p253
                                      replace q253 := eq_true q253
                                      refine start_ (n := 35) (S := fun w' => w'.cell? (ad245.add (x5_1).toNat) = some (.string (rdOf ByteArray.empty l0 x5_1)) ∧ w'.cell? (ad245.add (x5_1).toNat) = some (.string (rdOf ByteArray.empty l0 x5_1)) ∧ w'.cell? (ad245.add (x5_1).toNat) = some (.string (rdOf ByteArray.empty l0 x5_1)) ∧ w'.cell? (ad245.add (x5_1).toNat) = some (.string (rdOf ByteArray.empty l0 x5_1))) (ds := []) #[false, false, false, false, false, false, false, false, false, false, false, false, false, false, false, false, false, false, false, false, false, false, false, false, false, false, false, false, false, false, false, false, false, false, false] (by kernel_rfl) rfl rfl ⟨((HB.out.cell (World.block_lt_of_cell? w _ hw248_0)).trans hw248_0), ((HB.out.cell (World.block_lt_of_cell? w _ hw250_0)).trans hw250_0), ((HB.out.cell (World.block_lt_of_cell? w _ hw252_0)).trans hw252_0), ((HB.out.cell (World.block_lt_of_cell? w _ hw253_0)).trans hw253_0)⟩ (fun hHeld => ?_); refine with_tabW nautilusref09_Decode.tab14 nautilusref09_Decode.bits14 (fun HT_ HW_ => ?_)
                                      generalize w23.drew = w24 at HO_4 HB hx248_0 hx250_0 hx252_0 hx253_0 hHeld ⊢
                                      refine pure_ (i := 0) (N := some 38) (v := ?_) (a' := ?_) #[true, false, false, false, false, false, false, false, false, false, false, false, false, false, false, false, false, false, false, false, false, false, false, false, false, false, false, false, false, false, false, false, false, false, false] rfl rfl (any_of HT_.out (by kernel_rfl)) (fun _ _ _ h => h) (Or.inl ⟨by rfl, ?_⟩) ?_ ?_
                                      rotate_left
                                      · intro w'
                                        go_simp
                                        with_reducible rfl
                                      rotate_left
                                      · simp only [Act.put, List.setIfInBounds_toArray, List.set_cons_zero, List.set_cons_succ, i64_w, i32_w]
                                        rfl
                                      refine pure_ (i := 1) (N := some 39) (v := ?_) (a' := ?_) #[true, true, false, false, false, false, false, false, false, false, false, false, false, false, false, false, false, false, false, false, false, false, false, false, false, false, false, false, false, false, false, false, false, false, false] rfl rfl (any_of HT_.out (by kernel_rfl)) (fun _ _ _ h => h) (Or.inl ⟨by rfl, ?_⟩) ?_ ?_
                                      rotate_left
                                      · intro w'
                                        go_simp
                                        with_reducible rfl
                                      rotate_left
                                      · simp only [Act.put, List.setIfInBounds_toArray, List.set_cons_zero, List.set_cons_succ, i64_w, i32_w]
                                        rfl
                                      refine pure_ (i := 2) (N := some 40) (v := ?_) (a' := ?_) #[true, true, true, false, false, false, false, false, false, false, false, false, false, false, false, false, false, false, false, false, false, false, false, false, false, false, false, false, false, false, false, false, false, false, false] rfl rfl (any_of HT_.out (by kernel_rfl)) (fun _ _ _ h => h) (Or.inl ⟨by rfl, ?_⟩) ?_ ?_
                                      rotate_left
                                      · intro w'
                                        go_simp
                                        with_reducible rfl
                                      rotate_left
                                      · simp only [Act.put, List.setIfInBounds_toArray, List.set_cons_zero, List.set_cons_succ, i64_w, i32_w]
                                        rfl
                                      refine pure_ (i := 3) (N := some 41) (v := ?_) (a' := ?_) #[true, true, true, true, false, false, false, false, false, false, false, false, false, false, false, false, false, false, false, false, false, false, false, false, false, false, false, false, false, false, false, false, false, false, false] rfl rfl (any_of HT_.out (by kernel_rfl)) (fun _ _ _ h => h) (Or.inl ⟨by rfl, ?_⟩) ?_ ?_
                                      rotate_left
                                      · intro w'
                                        go_simp
                                        with_reducible rfl
                                      rotate_left
                                      · simp only [Act.put, List.setIfInBounds_toArray, List.set_cons_zero, List.set_cons_succ, i64_w, i32_w]
                                        rfl
                                      refine pure_ (i := 5) (N := some 43) (v := ?_) (a' := ?_) #[true, true, true, true, false, true, false, false, false, false, false, false, false, false, false, false, false, false, false, false, false, false, false, false, false, false, false, false, false, false, false, false, false, false, false] rfl rfl (any_of HT_.out (by kernel_rfl)) (fun _ _ _ h => h) (Or.inl ⟨by rfl, ?_⟩) ?_ ?_
                                      rotate_left
                                      · intro w'
                                        go_simp
                                        with_reducible rfl
                                      rotate_left
                                      · simp only [Act.put, List.setIfInBounds_toArray, List.set_cons_zero, List.set_cons_succ, i64_w, i32_w]
                                        rfl
                                      refine pure_ (i := 7) (N := some 45) (v := ?_) (a' := ?_) #[true, true, true, true, false, true, false, true, false, false, false, false, false, false, false, false, false, false, false, false, false, false, false, false, false, false, false, false, false, false, false, false, false, false, false] rfl rfl (any_of HT_.out (by kernel_rfl)) (fun _ _ _ h => h) (Or.inl ⟨by rfl, ?_⟩) ?_ ?_
                                      rotate_left
                                      · intro w'
                                        go_simp
                                        with_reducible rfl
                                      rotate_left
                                      · simp only [Act.put, List.setIfInBounds_toArray, List.set_cons_zero, List.set_cons_succ, i64_w, i32_w]
                                        rfl
                                      refine pure_ (i := 8) (N := some 46) (v := ?_) (a' := ?_) #[true, true, true, true, false, true, false, true, true, false, false, false, false, false, false, false, false, false, false, false, false, false, false, false, false, false, false, false, false, false, false, false, false, false, false] rfl rfl (any_of HT_.out (by kernel_rfl)) (fun _ _ _ h => h) (Or.inl ⟨by rfl, ?_⟩) ?_ ?_
                                      rotate_left
                                      · intro w'
                                        go_simp
                                        with_reducible rfl
                                      rotate_left
                                      · simp only [Act.put, List.setIfInBounds_toArray, List.set_cons_zero, List.set_cons_succ, i64_w, i32_w]
                                        rfl
                                      refine pure_ (i := 9) (N := some 47) (v := ?_) (a' := ?_) #[true, true, true, true, false, true, false, true, true, true, false, false, false, false, false, false, false, false, false, false, false, false, false, false, false, false, false, false, false, false, false, false, false, false, false] rfl rfl (any_of HT_.out (by kernel_rfl)) (fun _ _ _ h => h) (Or.inl ⟨by rfl, ?_⟩) ?_ ?_
                                      rotate_left
                                      · intro w'
                                        go_simp
                                        with_reducible rfl
                                      rotate_left
                                      · simp only [Act.put, List.setIfInBounds_toArray, List.set_cons_zero, List.set_cons_succ, i64_w, i32_w]
                                        rfl
                                      refine pure_ (i := 11) (N := some 49) (v := ?_) (a' := ?_) #[true, true, true, true, false, true, false, true, true, true, false, true, false, false, false, false, false, false, false, false, false, false, false, false, false, false, false, false, false, false, false, false, false, false, false] rfl rfl (any_of HT_.out (by kernel_rfl)) (fun _ _ _ h => h) (Or.inl ⟨by rfl, ?_⟩) ?_ ?_
                                      rotate_left
                                      · intro w'
                                        go_simp
                                        with_reducible rfl
                                      rotate_left
                                      · simp only [Act.put, List.setIfInBounds_toArray, List.set_cons_zero, List.set_cons_succ, i64_w, i32_w]
                                        rfl
                                      refine pure_ (i := 12) (N := some 50) (v := ?_) (a' := ?_) #[true, true, true, true, false, true, false, true, true, true, false, true, true, false, false, false, false, false, false, false, false, false, false, false, false, false, false, false, false, false, false, false, false, false, false] rfl rfl (any_of HT_.out (by kernel_rfl)) (fun _ _ _ h => h) (Or.inl ⟨by rfl, ?_⟩) ?_ ?_
                                      rotate_left
                                      · intro w'
                                        go_simp
                                        with_reducible rfl
                                      rotate_left
                                      · simp only [Act.put, List.setIfInBounds_toArray, List.set_cons_zero, List.set_cons_succ, i64_w, i32_w]
                                        rfl
                                      refine pure_ (i := 14) (N := some 52) (v := ?_) (a' := ?_) #[true, true, true, true, false, true, false, true, true, true, false, true, true, false, true, false, false, false, false, false, false, false, false, false, false, false, false, false, false, false, false, false, false, false, false] rfl rfl (any_of HT_.out (by kernel_rfl)) (fun _ _ _ h => h) (Or.inl ⟨by rfl, ?_⟩) ?_ ?_
                                      rotate_left
                                      · intro w'
                                        go_simp
                                        with_reducible rfl
                                      rotate_left
                                      · simp only [Act.put, List.setIfInBounds_toArray, List.set_cons_zero, List.set_cons_succ, i64_w, i32_w]
                                        rfl
                                      refine pure_ (i := 15) (N := some 53) (v := ?_) (a' := ?_) #[true, true, true, true, false, true, false, true, true, true, false, true, true, false, true, true, false, false, false, false, false, false, false, false, false, false, false, false, false, false, false, false, false, false, false] rfl rfl (any_of HT_.out (by kernel_rfl)) (fun _ _ _ h => h) (Or.inl ⟨by rfl, ?_⟩) ?_ ?_
                                      rotate_left
                                      · intro w'
                                        go_simp
                                        with_reducible rfl
                                      rotate_left
                                      · simp only [Act.put, List.setIfInBounds_toArray, List.set_cons_zero, List.set_cons_succ, i64_w, i32_w]
                                        rfl
                                      refine pure_ (i := 16) (N := some 54) (v := ?_) (a' := ?_) #[true, true, true, true, false, true, false, true, true, true, false, true, true, false, true, true, true, false, false, false, false, false, false, false, false, false, false, false, false, false, false, false, false, false, false] rfl rfl (any_of HT_.out (by kernel_rfl)) (fun _ _ _ h => h) (Or.inl ⟨by rfl, ?_⟩) ?_ ?_
                                      rotate_left
                                      · intro w'
                                        go_simp
                                        with_reducible rfl
                                      rotate_left
                                      · simp only [Act.put, List.setIfInBounds_toArray, List.set_cons_zero, List.set_cons_succ, i64_w, i32_w]
                                        rfl
                                      refine pure_ (i := 18) (N := some 56) (v := ?_) (a' := ?_) #[true, true, true, true, false, true, false, true, true, true, false, true, true, false, true, true, true, false, true, false, false, false, false, false, false, false, false, false, false, false, false, false, false, false, false] rfl rfl (any_of HT_.out (by kernel_rfl)) (fun _ _ _ h => h) (Or.inl ⟨by rfl, ?_⟩) ?_ ?_
                                      rotate_left
                                      · intro w'
                                        go_simp
                                        with_reducible rfl
                                      rotate_left
                                      · simp only [Act.put, List.setIfInBounds_toArray, List.set_cons_zero, List.set_cons_succ, i64_w, i32_w]
                                        rfl
                                      refine pure_ (i := 19) (N := some 57) (v := ?_) (a' := ?_) #[true, true, true, true, false, true, false, true, true, true, false, true, true, false, true, true, true, false, true, true, false, false, false, false, false, false, false, false, false, false, false, false, false, false, false] rfl rfl (any_of HT_.out (by kernel_rfl)) (fun _ _ _ h => h) (Or.inl ⟨by rfl, ?_⟩) ?_ ?_
                                      rotate_left
                                      · intro w'
                                        go_simp
                                        with_reducible rfl
                                      rotate_left
                                      · simp only [Act.put, List.setIfInBounds_toArray, List.set_cons_zero, List.set_cons_succ, i64_w, i32_w]
                                        rfl
                                      refine pure_ (i := 22) (N := some 60) (v := ?_) (a' := ?_) #[true, true, true, true, false, true, false, true, true, true, false, true, true, false, true, true, true, false, true, true, false, false, true, false, false, false, false, false, false, false, false, false, false, false, false] rfl rfl (any_of HT_.out (by kernel_rfl)) (fun _ _ _ h => h) (Or.inl ⟨by rfl, ?_⟩) ?_ ?_
                                      rotate_left
                                      · intro w'
                                        go_simp
                                        with_reducible rfl
                                      rotate_left
                                      · simp only [Act.put, List.setIfInBounds_toArray, List.set_cons_zero, List.set_cons_succ, i64_w, i32_w]
                                        rfl
                                      refine pure_ (i := 23) (N := some 61) (v := ?_) (a' := ?_) #[true, true, true, true, false, true, false, true, true, true, false, true, true, false, true, true, true, false, true, true, false, false, true, true, false, false, false, false, false, false, false, false, false, false, false] rfl rfl (any_of HT_.out (by kernel_rfl)) (fun _ _ _ h => h) (Or.inl ⟨by rfl, ?_⟩) ?_ ?_
                                      rotate_left
                                      · intro w'
                                        go_simp
                                        with_reducible rfl
                                      rotate_left
                                      · simp only [Act.put, List.setIfInBounds_toArray, List.set_cons_zero, List.set_cons_succ, i64_w, i32_w]
                                        rfl
                                      refine pure_ (i := 24) (N := some 62) (v := ?_) (a' := ?_) #[true, true, true, true, false, true, false, true, true, true, false, true, true, false, true, true, true, false, true, true, false, false, true, true, true, false, false, false, false, false, false, false, false, false, false] rfl rfl (any_of HT_.out (by kernel_rfl)) (fun _ _ _ h => h) (Or.inl ⟨by rfl, ?_⟩) ?_ ?_
                                      rotate_left
                                      · intro w'
                                        go_simp
                                        with_reducible rfl
                                      rotate_left
                                      · simp only [Act.put, List.setIfInBounds_toArray, List.set_cons_zero, List.set_cons_succ, i64_w, i32_w]
                                        rfl
                                      refine pure_ (i := 26) (N := some 64) (v := ?_) (a' := ?_) #[true, true, true, true, false, true, false, true, true, true, false, true, true, false, true, true, true, false, true, true, false, false, true, true, true, false, true, false, false, false, false, false, false, false, false] rfl rfl (any_of HT_.out (by kernel_rfl)) (fun _ _ _ h => h) (Or.inl ⟨by rfl, ?_⟩) ?_ ?_
                                      rotate_left
                                      · intro w'
                                        go_simp
                                        with_reducible rfl
                                      rotate_left
                                      · simp only [Act.put, List.setIfInBounds_toArray, List.set_cons_zero, List.set_cons_succ, i64_w, i32_w]
                                        rfl
                                      refine pure_ (i := 27) (N := some 65) (v := ?_) (a' := ?_) #[true, true, true, true, false, true, false, true, true, true, false, true, true, false, true, true, true, false, true, true, false, false, true, true, true, false, true, true, false, false, false, false, false, false, false] rfl rfl (any_of HT_.out (by kernel_rfl)) (fun _ _ _ h => h) (Or.inl ⟨by rfl, ?_⟩) ?_ ?_
                                      rotate_left
                                      · intro w'
                                        go_simp
                                        with_reducible rfl
                                      rotate_left
                                      · simp only [Act.put, List.setIfInBounds_toArray, List.set_cons_zero, List.set_cons_succ, i64_w, i32_w]
                                        rfl
                                      refine pure_ (i := 28) (N := some 66) (v := ?_) (a' := ?_) #[true, true, true, true, false, true, false, true, true, true, false, true, true, false, true, true, true, false, true, true, false, false, true, true, true, false, true, true, true, false, false, false, false, false, false] rfl rfl (any_of HT_.out (by kernel_rfl)) (fun _ _ _ h => h) (Or.inl ⟨by rfl, ?_⟩) ?_ ?_
                                      rotate_left
                                      · intro w'
                                        go_simp
                                        with_reducible rfl
                                      rotate_left
                                      · simp only [Act.put, List.setIfInBounds_toArray, List.set_cons_zero, List.set_cons_succ, i64_w, i32_w]
                                        rfl
                                      refine pure_ (i := 29) (N := some 67) (v := ?_) (a' := ?_) #[true, true, true, true, false, true, false, true, true, true, false, true, true, false, true, true, true, false, true, true, false, false, true, true, true, false, true, true, true, true, false, false, false, false, false] rfl rfl (any_of HT_.out (by kernel_rfl)) (fun _ _ _ h => h) (Or.inl ⟨by rfl, ?_⟩) ?_ ?_
                                      rotate_left
                                      · intro w'
                                        go_simp
                                        with_reducible rfl
                                      rotate_left
                                      · simp only [Act.put, List.setIfInBounds_toArray, List.set_cons_zero, List.set_cons_succ, i64_w, i32_w]
                                        rfl
                                      refine take_ (i := 4) (N := some 42) (v := ?_) (a' := ?_) #[true, true, true, true, true, true, false, true, true, true, false, true, true, false, true, true, true, false, true, true, false, false, true, true, true, false, true, true, true, true, false, false, false, false, false] rfl rfl (take_ofW HT_.out HW_.out (by kernel_rfl)) (fun _ _ _ h => h) (Or.inl ⟨by rfl, ?_⟩) hHeld ?_ ?_
                                      rotate_left
                                      · rintro w' ⟨s0, s1, s2, s3⟩
                                        go_simp
                                        with_reducible rfl
                                      rotate_left
                                      · simp only [Act.put, List.setIfInBounds_toArray, List.set_cons_zero, List.set_cons_succ, i64_w, i32_w]
                                        rfl
                                      refine take_ (i := 10) (N := some 48) (v := ?_) (a' := ?_) #[true, true, true, true, true, true, false, true, true, true, true, true, true, false, true, true, true, false, true, true, false, false, true, true, true, false, true, true, true, true, false, false, false, false, false] rfl rfl (take_ofW HT_.out HW_.out (by kernel_rfl)) (fun _ _ _ h => h) (Or.inl ⟨by rfl, ?_⟩) hHeld ?_ ?_
                                      rotate_left
                                      · rintro w' ⟨s0, s1, s2, s3⟩
                                        go_simp
                                        with_reducible rfl
                                      rotate_left
                                      · simp only [Act.put, List.setIfInBounds_toArray, List.set_cons_zero, List.set_cons_succ, i64_w, i32_w]
                                        rfl
                                      refine take_ (i := 17) (N := some 55) (v := ?_) (a' := ?_) #[true, true, true, true, true, true, false, true, true, true, true, true, true, false, true, true, true, true, true, true, false, false, true, true, true, false, true, true, true, true, false, false, false, false, false] rfl rfl (take_ofW HT_.out HW_.out (by kernel_rfl)) (fun _ _ _ h => h) (Or.inl ⟨by rfl, ?_⟩) hHeld ?_ ?_
                                      rotate_left
                                      · rintro w' ⟨s0, s1, s2, s3⟩
                                        go_simp
                                        with_reducible rfl
                                      rotate_left
                                      · simp only [Act.put, List.setIfInBounds_toArray, List.set_cons_zero, List.set_cons_succ, i64_w, i32_w]
                                        rfl
                                      refine take_ (i := 20) (N := some 58) (v := ?_) (a' := ?_) #[true, true, true, true, true, true, false, true, true, true, true, true, true, false, true, true, true, true, true, true, true, false, true, true, true, false, true, true, true, true, false, false, false, false, false] rfl rfl (take_ofW HT_.out HW_.out (by kernel_rfl)) (fun _ _ _ h => h) (Or.inl ⟨by rfl, ?_⟩) hHeld ?_ ?_
                                      rotate_left
                                      · rintro w' ⟨s0, s1, s2, s3⟩
                                        go_simp
                                        with_reducible rfl
                                      rotate_left
                                      · simp only [Act.put, List.setIfInBounds_toArray, List.set_cons_zero, List.set_cons_succ, i64_w, i32_w]
                                        rfl
                                      refine pure_ (i := 21) (N := some 59) (v := ?_) (a' := ?_) #[true, true, true, true, true, true, false, true, true, true, true, true, true, false, true, true, true, true, true, true, true, true, true, true, true, false, true, true, true, true, false, false, false, false, false] rfl rfl (any_of HT_.out (by kernel_rfl)) (fun _ _ _ h => h) (Or.inl ⟨by rfl, ?_⟩) ?_ ?_
                                      rotate_left
                                      · intro w'
                                        go_simp
                                        with_reducible rfl
                                      rotate_left
                                      · simp only [Act.put, List.setIfInBounds_toArray, List.set_cons_zero, List.set_cons_succ, i64_w, i32_w]
                                        rfl
                                      refine take_ (i := 25) (N := some 63) (v := ?_) (a' := ?_) #[true, true, true, true, true, true, false, true, true, true, true, true, true, false, true, true, true, true, true, true, true, true, true, true, true, true, true, true, true, true, false, false, false, false, false] rfl rfl (take_ofW HT_.out HW_.out (by kernel_rfl)) (fun _ _ _ h => h) (Or.inl ⟨by rfl, ?_⟩) hHeld ?_ ?_
                                      rotate_left
                                      · rintro w' ⟨s0, s1, s2, s3⟩
                                        go_simp
                                        with_reducible rfl
                                      rotate_left
                                      · simp only [Act.put, List.setIfInBounds_toArray, List.set_cons_zero, List.set_cons_succ, i64_w, i32_w]
                                        rfl
                                      refine pure_ (i := 30) (N := some 68) (v := ?_) (a' := ?_) #[true, true, true, true, true, true, false, true, true, true, true, true, true, false, true, true, true, true, true, true, true, true, true, true, true, true, true, true, true, true, true, false, false, false, false] rfl rfl (any_of HT_.out (by kernel_rfl)) (fun _ _ _ h => h) (Or.inl ⟨by rfl, ?_⟩) ?_ ?_
                                      rotate_left
                                      · intro w'
                                        go_simp
                                        with_reducible rfl
                                      rotate_left
                                      · simp only [Act.put, List.setIfInBounds_toArray, List.set_cons_zero, List.set_cons_succ, i64_w, i32_w]
                                        rfl
                                      refine one_ (i := 6) (N := some 44) #[true, true, true, true, true, true, true, true, true, true, true, true, true, false, true, true, true, true, true, true, true, true, true, true, true, true, true, true, true, true, true, false, false, false, false] rfl rfl (one_of HT_.out (by kernel_rfl)) (by decide) (fun K hK => ?_)
                                      refine goes_ Try.func52 (by kernel_rfl) rfl #[.string (rdOf ByteArray.empty l0 x5_1), .int .i64 (wrap64 (55 * x6_2)), .int .i64 6] (by rfl) rfl rfl (by (try simp only [List.map_toArray, List.map_cons, List.map_nil]); first | done | rfl | (simp only [List.length_drop, List.length_take]; rfl) | (simp [Act.eval, go_sem]; simp only [decide_eq_false_iff_not, decide_eq_true_eq] at *; (repeat' apply And.intro) <;> first | done | (symm; first | (apply IntWalk.u64_in; omega) | (apply IntWalk.u32_in; omega) | (apply IntWalk.i64_in; omega) | (apply IntWalk.wrap64_in; omega) | (apply IntWalk.u16_in; omega) | (apply IntWalk.u8_in; omega)))) ?_
                                      with_reducible refine (nautilusref09_take.calls k2 (rdOf ByteArray.empty l0 x5_1) (wrap64 (55 * x6_2)) 6 t249 _ A12.out).mono ?_
                                      rintro e w' ⟨rfl, ⟨nd, rfl⟩⟩
                                      refine ⟨_, rfl, ?_⟩
                                      refine hK.out _ _ ⟨((HB.out.cell (World.block_lt_of_cell? w _ hw248_0)).trans hw248_0), ((HB.out.cell (World.block_lt_of_cell? w _ hw250_0)).trans hw250_0), ((HB.out.cell (World.block_lt_of_cell? w _ hw252_0)).trans hw252_0), ((HB.out.cell (World.block_lt_of_cell? w _ hw253_0)).trans hw253_0)⟩ (fun hHeld => ?_)
                                      clear hK K
                                      refine norm_ (a' := ?_) ?_ ?_
                                      rotate_left
                                      · show Act.put _ (some 44) _ = _
                                        simp only [Act.put, List.setIfInBounds_toArray, List.set_cons_zero, List.set_cons_succ, i64_w, i32_w]
                                        rfl
                                      refine one_ (i := 13) (N := some 51) #[true, true, true, true, true, true, true, true, true, true, true, true, true, true, true, true, true, true, true, true, true, true, true, true, true, true, true, true, true, true, true, false, false, false, false] rfl rfl (one_of HT_.out (by kernel_rfl)) (by decide) (fun K hK => ?_)
                                      refine goes_ Try.func52 (by kernel_rfl) rfl #[.string (rdOf ByteArray.empty l0 x5_1), .int .i64 (wrap64 ((wrap64 (55 * x6_2)) + 6)), .int .i64 6] (by rfl) rfl rfl (by (try simp only [List.map_toArray, List.map_cons, List.map_nil]); first | done | rfl | (simp only [List.length_drop, List.length_take]; rfl) | (simp [Act.eval, go_sem]; simp only [decide_eq_false_iff_not, decide_eq_true_eq] at *; (repeat' apply And.intro) <;> first | done | (symm; first | (apply IntWalk.u64_in; omega) | (apply IntWalk.u32_in; omega) | (apply IntWalk.i64_in; omega) | (apply IntWalk.wrap64_in; omega) | (apply IntWalk.u16_in; omega) | (apply IntWalk.u8_in; omega)))) ?_
                                      with_reducible refine (nautilusref09_take.calls k2 (rdOf ByteArray.empty l0 x5_1) (wrap64 ((wrap64 (55 * x6_2)) + 6)) 6 t251 _ A13.out).mono ?_
                                      rintro e w' ⟨rfl, ⟨nd, rfl⟩⟩
                                      refine ⟨_, rfl, ?_⟩
                                      refine hK.out _ _ ⟨((HB.out.cell (World.block_lt_of_cell? w _ hw248_0)).trans hw248_0), ((HB.out.cell (World.block_lt_of_cell? w _ hw250_0)).trans hw250_0), ((HB.out.cell (World.block_lt_of_cell? w _ hw252_0)).trans hw252_0), ((HB.out.cell (World.block_lt_of_cell? w _ hw253_0)).trans hw253_0)⟩ (fun hHeld => ?_)
                                      clear hK K
                                      refine norm_ (a' := ?_) ?_ ?_
                                      rotate_left
                                      · show Act.put _ (some 51) _ = _
                                        simp only [Act.put, List.setIfInBounds_toArray, List.set_cons_zero, List.set_cons_succ, i64_w, i32_w]
                                        rfl
                                      refine pure_ (i := 31) (N := some 69) (v := ?_) (a' := ?_) #[true, true, true, true, true, true, true, true, true, true, true, true, true, true, true, true, true, true, true, true, true, true, true, true, true, true, true, true, true, true, true, true, false, false, false] rfl rfl (any_of HT_.out (by kernel_rfl)) (fun _ _ _ h => h) (Or.inl ⟨by rfl, ?_⟩) ?_ ?_
                                      rotate_left
                                      · intro w'
                                        go_simp
                                        with_reducible rfl
                                      rotate_left
                                      · simp only [Act.put, List.setIfInBounds_toArray, List.set_cons_zero, List.set_cons_succ, i64_w, i32_w]
                                        rfl
                                      refine one_ (i := 32) (N := some 70) #[true, true, true, true, true, true, true, true, true, true, true, true, true, true, true, true, true, true, true, true, true, true, true, true, true, true, true, true, true, true, true, true, true, false, false] rfl rfl (one_of HT_.out (by kernel_rfl)) (by decide) (fun K hK => ?_)
                                      refine value_ (w1 := ?_) (v := ?_) (by rfl) rfl ?_ ?_
                                      rotate_left 2
                                      · go_simp
                                        constructor
                                        · rfl
                                        · rfl
                                      refine hK.out _ _ ⟨(World.cell?_alloc_lt _ _ _ (World.block_lt_of_cell? _ _ (((HB.out.cell (World.block_lt_of_cell? w _ hw248_0)).trans hw248_0)))).trans (((HB.out.cell (World.block_lt_of_cell? w _ hw248_0)).trans hw248_0)), (World.cell?_alloc_lt _ _ _ (World.block_lt_of_cell? _ _ (((HB.out.cell (World.block_lt_of_cell? w _ hw250_0)).trans hw250_0)))).trans (((HB.out.cell (World.block_lt_of_cell? w _ hw250_0)).trans hw250_0)), (World.cell?_alloc_lt _ _ _ (World.block_lt_of_cell? _ _ (((HB.out.cell (World.block_lt_of_cell? w _ hw252_0)).trans hw252_0)))).trans (((HB.out.cell (World.block_lt_of_cell? w _ hw252_0)).trans hw252_0)), (World.cell?_alloc_lt _ _ _ (World.block_lt_of_cell? _ _ (((HB.out.cell (World.block_lt_of_cell? w _ hw253_0)).trans hw253_0)))).trans (((HB.out.cell (World.block_lt_of_cell? w _ hw253_0)).trans hw253_0))⟩ (fun hHeld => ?_)
                                      clear hK K
                                      refine norm_ (a' := ?_) ?_ ?_
                                      rotate_left
                                      · show Act.put _ (some 70) _ = _
                                        simp only [Act.put, List.setIfInBounds_toArray, List.set_cons_zero, List.set_cons_succ, i64_w, i32_w]
                                        rfl
                                      refine one_ (i := 33) (N := some 71) #[true, true, true, true, true, true, true, true, true, true, true, true, true, true, true, true, true, true, true, true, true, true, true, true, true, true, true, true, true, true, true, true, true, true, false] rfl rfl (one_of HT_.out (by kernel_rfl)) (by decide) (fun K hK => ?_)
                                      refine Kd.R_append_step k33 (w0 := w) w.heap.size (by rfl) (.tmp 38) (.tmp 70) 22 33 (.agg #[(.int .u64 0), (.int .u64 0), (.bool false), (.string ⟨#[]⟩)]) 40 rfl Try.underlying22 info33 rfl (by decide) (by omega) u4 x4_2 (⟨t249, t251, ((bt (rdOf ByteArray.empty l0 x5_1) (ji14)) != 0), (rdOf ByteArray.empty l0 x5_1).extract ((ji18) : Int).toNat ((wrap64 ((wrap64 (55 * x6_2)) + 55)) : Int).toNat⟩ : S33) [.int .u64 t249, .int .u64 t251, .bool ((bt (rdOf ByteArray.empty l0 x5_1) (ji14)) != 0), .string ((rdOf ByteArray.empty l0 x5_1).extract ((ji18) : Int).toNat ((wrap64 ((wrap64 (55 * x6_2)) + 55)) : Int).toNat)] (fun _ => True) (fun _ => False) rfl rfl ?aP (fun _ hk => hk.elim) ?aF ?aO ?aB ?aS ?aL ?_
                                      (case aP => exact k33_mkM _ _ _ (⟨t249, t251, ((bt (rdOf ByteArray.empty l0 x5_1) (ji14)) != 0), (rdOf ByteArray.empty l0 x5_1).extract ((ji18) : Int).toNat ((wrap64 ((wrap64 (55 * x6_2)) + 55)) : Int).toNat⟩ : S33))
                                      (case aB => exact (by repeat (first | (with_reducible first | exact HB.out | apply below_alloc | apply pw_below_drewN | apply below_drew1) | exact HB.out)))
                                      (case aF => exact (fun _ _ => trivial))
                                      (case aO => exact (by (with_reducible repeat (first | apply Kd.R_alloc | apply Kd.R_drewN | apply Kd.R_drew)); exact HO_4.out))
                                      (case aS => exact (below_size (by repeat (first | (with_reducible first | exact HB.out | apply below_alloc | apply pw_below_drewN | apply below_drew1) | exact HB.out))))
                                      (case aL => have := LMc22.out; omega)
                                      intro v255 w25 ho hb hg hat
                                      rw [← Ny254.out] at ho
                                      have n0_ := Aside0.mk (hb)
                                      have n1_ := Aside0.mk (ho)
                                      clear HB
                                      clear HO_4
                                      have HB := n0_
                                      have HO256 := n1_
                                      clear n0_ n1_
                                      clear ho hb hg hat
                                      refine hK.out _ _ ⟨((HB.out.cell (World.block_lt_of_cell? w _ hw248_0)).trans hw248_0), ((HB.out.cell (World.block_lt_of_cell? w _ hw250_0)).trans hw250_0), ((HB.out.cell (World.block_lt_of_cell? w _ hw252_0)).trans hw252_0), ((HB.out.cell (World.block_lt_of_cell? w _ hw253_0)).trans hw253_0)⟩ (fun hHeld => ?_)
                                      clear hK K
                                      refine norm_ (a' := ?_) ?_ ?_
                                      rotate_left
                                      · show Act.put _ (some 71) _ = _
                                        simp only [Act.put, List.setIfInBounds_toArray, List.set_cons_zero, List.set_cons_succ, i64_w, i32_w]
                                        rfl
                                      refine pure_ (i := 34) (N := some 4) (v := ?_) (a' := ?_) #[true, true, true, true, true, true, true, true, true, true, true, true, true, true, true, true, true, true, true, true, true, true, true, true, true, true, true, true, true, true, true, true, true, true, true] rfl rfl (any_of HT_.out (by kernel_rfl)) (fun _ _ _ h => h) (Or.inl ⟨by rfl, ?_⟩) ?_ ?_
                                      rotate_left
                                      · intro w'
                                        go_simp
                                        with_reducible rfl
                                      rotate_left
                                      · simp only [Act.put, List.setIfInBounds_toArray, List.set_cons_zero, List.set_cons_succ, i64_w, i32_w]
                                        rfl
                                      refine done_ (done_of HT_.out (by kernel_rfl)) ?_
                                      try go_wp2
                                      go_roundg k2
                                      case measure => have := HK1.out; have := HK2.out; omega
                                      case rel => exact ⟨(y254), (wrap64 (x6_2 + 1)), (by first | rfl | (simp; done) | (simp [*]; done)), H', ⟨by have := HK1.out; have := HK2.out; omega⟩, ⟨by (with_reducible repeat (first | apply Kd.R_alloc | apply Kd.R_drewN | apply Kd.R_drew)); exact HO256.out⟩, ⟨by repeat (first | (with_reducible first | exact HB.out | apply below_alloc | apply pw_below_drewN | apply below_drew1) | exact HB.out)⟩⟩
                                    · rw [if_neg c22] at H
                                      exact absurd H (by simp)
                                  · rw [if_neg c21] at H
                                    exact absurd H (by simp)
                                · rw [if_neg c20] at H
                                  exact absurd H (by simp)
                              · rw [if_neg c19] at H
                                exact absurd H (by simp)
                            · rw [if_neg c16] at H
                              exact absurd H (by simp)
                          · rw [if_neg c15] at H
                            exact absurd H (by simp)
                      · rw [if_neg c8] at H
                        exact absurd H (by simp)
                    · rw [if_neg c7] at H
                      exact absurd H (by simp)
                  · rw [if_neg c6] at H
                    have c6b0 : decide (x6_2 < 9) = false := decide_eq_false c6
                    clear c6
                    have H' := Aside0.mk H
                    clear H
                    go_wp2
                    go_roundg k2
                    case measure => have := HK1.out; have := HK2.out; omega
                    case rel => exact ⟨(x4_2), (wrap64 (x5_1 + 1)), (by first | rfl | (simp; done) | (simp [*]; done)), H', ⟨by have := HK1.out; have := HK2.out; omega⟩, ⟨by (with_reducible repeat (first | apply Kd.R_alloc | apply Kd.R_drewN | apply Kd.R_drew)); exact HO_4.out⟩, ⟨by repeat (first | (with_reducible first | exact HB.out | apply below_alloc | apply pw_below_drewN | apply below_drew1) | exact HB.out)⟩⟩
            · rw [if_neg c5] at H
              have c5b0 : (((rdOf ByteArray.empty l0 x5_1).size : Int) == 508) = false := beq_eq_false_iff_ne.mpr c5
              have c5b1 : (((rdOf ByteArray.empty l0 x5_1).size : Int) != 508) = true := bne_iff_ne.mpr c5
              simp only [Option.some.injEq, Prod.mk.injEq] at H
              obtain ⟨rfl, rfl⟩ := H
              have p245 : 0 ≤ (x5_1 : Int) := of_decide_eq_true (by first | (with_reducible assumption) | assumption)
              have q245 : x5_1 < (l0.length : Int) := of_decide_eq_true (by first | (with_reducible assumption) | assumption)
              obtain ⟨ad245, e245, hx245_0⟩ := Kd.at_string HR0.out x5_1 p245 q245
              cases e245
              replace hx245_0 := (HB.out.cell (World.block_lt_of_cell? w _ hx245_0)).trans hx245_0
              replace p245 := eq_true p245
              replace q245 := eq_true q245
              go_wp2
              go_ret2
              exact ⟨_, by first | rfl | (simp [errW_none, errW_some] <;> rfl) | (simp [*, errW_none, errW_some] <;> rfl), by first | exact Kd.R_nil _ _ _ _ _ | exact Kd.N_nil _ _ _ _ _ | exact Kd.V_nil _ _ _ _ _ | exact Kd.Q_nil _ _ _ _ _ | exact Kd.S_nil _ _ _ _ _, by repeat (first | (with_reducible first | exact HB.out | apply below_alloc | apply pw_below_drewN | apply below_drew1) | exact HB.out)⟩
          · rw [if_neg c4] at H
            exact absurd H (by simp)
        · rw [if_neg c3] at H
          have c3b0 : decide (x5_1 < (l0.length : Int)) = false := decide_eq_false c3
          clear c3
          replace H := Option.bind_eq_some_iff.mp H
          obtain ⟨⟨t257, t258⟩, A260, H⟩ := H
          replace H : ((nautilusref09_SameTexts.f k1 t257 l0).bind fun t261 => (if t258 = 0 then (if t261 = true then (some (x4_1, 0)) else (some (([] : List (S33)), 90))) else (some (([] : List (S33)), 90)))) = some (r1, r2) := H
          have A26 := Aside0.mk A260
          clear A260
          replace H := Option.bind_eq_some_iff.mp H
          obtain ⟨t261, A270, H⟩ := H
          replace H : (if t258 = 0 then (if t261 = true then (some (x4_1, 0)) else (some (([] : List (S33)), 90))) else (some (([] : List (S33)), 90))) = some (r1, r2) := H
          have A27 := Aside0.mk A270
          clear A270
          by_cases c28 : t258 = 0
          · rw [if_pos c28] at H
            have c28b0 : (t258 == 0) = true := beq_iff_eq.mpr c28
            have c28b1 : (t258 != 0) = false := bne_eq_false_iff_eq.mpr c28
            clear c28
            by_cases c29 : t261 = true
            · subst c29
              have H1 : (some (x4_1, 0)) = some (r1, r2) := by rw [if_pos rfl] at H; exact H
              clear H
              have H := H1
              clear H1
              simp only [Option.some.injEq, Prod.mk.injEq] at H
              obtain ⟨rfl, rfl⟩ := H
              obtain ⟨Ao30, co30, eo30⟩ := Kd.R_slice HO_4.out
              subst eo30
              go_wp2_with (first | ((with_reducible refine gate_callee (f := 31) rfl ?_); refine goesL_ (some 74) rfl rfl Try.func31 (by kernel_rfl) rfl #[.slice Ao30 x4_1.length co30] rfl (by (try simp only [List.map_toArray, List.map_cons, List.map_nil]); first | done | rfl | (simp only [List.length_drop, List.length_take]; rfl)) ?_; (with_reducible refine (nautilusref09_Encode.calls k1 _ _ x4_1 t257 t258 _ ?side1 ?side2 A26.out).mono ?_); (case side1 => repeat (first | exact (Kd.R_reads' HO_4.out).2.2 | (with_reducible refine Kd.C_alloc ?_ _) | (with_reducible refine Kd.C_drewN ?_ _) | (with_reducible refine Kd.C_drew ?_))); (case side2 => exact (Kd.R_reads' HO_4.out).2.1); rintro e w31 ⟨v259, rfl, ho0, hb⟩; refine ⟨_, rfl, ?_⟩; have n0_ := Aside0.mk (Kd.R_below (by (with_reducible repeat (first | apply Kd.R_alloc | apply Kd.R_drewN | apply Kd.R_drew)); exact HO_4.out) hb); have n1_ := Aside0.mk (Kd.R_lower ho0 (below_size (by repeat (first | (with_reducible first | exact HB.out | apply below_alloc | apply pw_below_drewN | apply below_drew1) | exact HB.out)))); have n2_ := Aside0.mk (below_step (by repeat (first | (with_reducible first | exact HB.out | apply below_alloc | apply pw_below_drewN | apply below_drew1) | exact HB.out)) hb); clear HO_4; clear HB; have HO_4 := n0_; have HO260 := n1_; have HB := n2_; clear n0_ n1_ n2_; (try clear hb); (try clear hb2); (try clear hk); (try clear hi); (try clear ho0); obtain ⟨Ao32, co32, eo32⟩ := Kd.R_slice HO260.out; subst eo32) | ((with_reducible refine gate_callee (f := 30) rfl ?_); refine goesL_ (some 79) rfl rfl Try.func30 (by kernel_rfl) rfl #[.slice Ao32 t257.length co32, .slice A0 l0.length c0] rfl (by (try simp only [List.map_toArray, List.map_cons, List.map_nil]); first | done | rfl | (simp only [List.length_drop, List.length_take]; rfl)) ?_; (with_reducible refine (nautilusref09_SameTexts.calls k1 _ _ t257 _ _ l0 true _ ?side1 ?side2 ?side3 ?side4 A27.out).mono ?_); (case side1 => repeat (first | exact (Kd.R_reads' HO260.out).2.2 | (with_reducible refine Kd.C_alloc ?_ _) | (with_reducible refine Kd.C_drewN ?_ _) | (with_reducible refine Kd.C_drew ?_))); (case side2 => exact (Kd.R_reads' HO260.out).2.1); (case side3 => repeat (first | exact (Kd.C_below HR0.out HB.out) | (with_reducible refine Kd.C_alloc ?_ _) | (with_reducible refine Kd.C_drewN ?_ _) | (with_reducible refine Kd.C_drew ?_))); (case side4 => exact HC0.out); rintro e w' ⟨rfl, ⟨nd, rfl⟩⟩; refine ⟨_, rfl, ?_⟩))
              go_ret2
              exact ⟨_, by first | rfl | (simp [errW_none, errW_some] <;> rfl) | (simp [*, errW_none, errW_some] <;> rfl), by (with_reducible repeat (first | apply Kd.R_alloc | apply Kd.R_drewN | apply Kd.R_drew)); exact HO_4.out, by repeat (first | (with_reducible first | exact HB.out | apply below_alloc | apply pw_below_drewN | apply below_drew1) | exact HB.out)⟩
            · replace c29 := Bool.eq_false_iff.mpr c29
              subst c29
              have H1 : (some (([] : List (S33)), 90)) = some (r1, r2) := by rw [if_neg (show ¬ (false = true) by decide)] at H; exact H
              clear H
              have H := H1
              clear H1
              simp only [Option.some.injEq, Prod.mk.injEq] at H
              obtain ⟨rfl, rfl⟩ := H
              obtain ⟨Ao33, co33, eo33⟩ := Kd.R_slice HO_4.out
              subst eo33
              go_wp2_with (first | ((with_reducible refine gate_callee (f := 31) rfl ?_); refine goesL_ (some 74) rfl rfl Try.func31 (by kernel_rfl) rfl #[.slice Ao33 x4_1.length co33] rfl (by (try simp only [List.map_toArray, List.map_cons, List.map_nil]); first | done | rfl | (simp only [List.length_drop, List.length_take]; rfl)) ?_; (with_reducible refine (nautilusref09_Encode.calls k1 _ _ x4_1 t257 t258 _ ?side1 ?side2 A26.out).mono ?_); (case side1 => repeat (first | exact (Kd.R_reads' HO_4.out).2.2 | (with_reducible refine Kd.C_alloc ?_ _) | (with_reducible refine Kd.C_drewN ?_ _) | (with_reducible refine Kd.C_drew ?_))); (case side2 => exact (Kd.R_reads' HO_4.out).2.1); rintro e w34 ⟨v259, rfl, ho0, hb⟩; refine ⟨_, rfl, ?_⟩; have n0_ := Aside0.mk (Kd.R_below (by (with_reducible repeat (first | apply Kd.R_alloc | apply Kd.R_drewN | apply Kd.R_drew)); exact HO_4.out) hb); have n1_ := Aside0.mk (Kd.R_lower ho0 (below_size (by repeat (first | (with_reducible first | exact HB.out | apply below_alloc | apply pw_below_drewN | apply below_drew1) | exact HB.out)))); have n2_ := Aside0.mk (below_step (by repeat (first | (with_reducible first | exact HB.out | apply below_alloc | apply pw_below_drewN | apply below_drew1) | exact HB.out)) hb); clear HO_4; clear HB; have HO_4 := n0_; have HO260 := n1_; have HB := n2_; clear n0_ n1_ n2_; (try clear hb); (try clear hb2); (try clear hk); (try clear hi); (try clear ho0); obtain ⟨Ao35, co35, eo35⟩ := Kd.R_slice HO260.out; subst eo35) | ((with_reducible refine gate_callee (f := 30) rfl ?_); refine goesL_ (some 79) rfl rfl Try.func30 (by kernel_rfl) rfl #[.slice Ao35 t257.length co35, .slice A0 l0.length c0] rfl (by (try simp only [List.map_toArray, List.map_cons, List.map_nil]); first | done | rfl | (simp only [List.length_drop, List.length_take]; rfl)) ?_; (with_reducible refine (nautilusref09_SameTexts.calls k1 _ _ t257 _ _ l0 false _ ?side1 ?side2 ?side3 ?side4 A27.out).mono ?_); (case side1 => repeat (first | exact (Kd.R_reads' HO260.out).2.2 | (with_reducible refine Kd.C_alloc ?_ _) | (with_reducible refine Kd.C_drewN ?_ _) | (with_reducible refine Kd.C_drew ?_))); (case side2 => exact (Kd.R_reads' HO260.out).2.1); (case side3 => repeat (first | exact (Kd.C_below HR0.out HB.out) | (with_reducible refine Kd.C_alloc ?_ _) | (with_reducible refine Kd.C_drewN ?_ _) | (with_reducible refine Kd.C_drew ?_))); (case side4 => exact HC0.out); rintro e w' ⟨rfl, ⟨nd, rfl⟩⟩; refine ⟨_, rfl, ?_⟩))
              go_ret2
              exact ⟨_, by first | rfl | (simp [errW_none, errW_some] <;> rfl) | (simp [*, errW_none, errW_some] <;> rfl), by first | exact Kd.R_nil _ _ _ _ _ | exact Kd.N_nil _ _ _ _ _ | exact Kd.V_nil _ _ _ _ _ | exact Kd.Q_nil _ _ _ _ _ | exact Kd.S_nil _ _ _ _ _, by repeat (first | (with_reducible first | exact HB.out | apply below_alloc | apply pw_below_drewN | apply below_drew1) | exact HB.out)⟩
          · rw [if_neg c28] at H
            have c28b0 : (t258 == 0) = false := beq_eq_false_iff_ne.mpr c28
            have c28b1 : (t258 != 0) = true := bne_iff_ne.mpr c28
            simp only [Option.some.injEq, Prod.mk.injEq] at H
            obtain ⟨rfl, rfl⟩ := H
            obtain ⟨Ao36, co36, eo36⟩ := Kd.R_slice HO_4.out
            subst eo36
            go_wp2_with (first | ((with_reducible refine gate_callee (f := 31) rfl ?_); refine goesL_ (some 74) rfl rfl Try.func31 (by kernel_rfl) rfl #[.slice Ao36 x4_1.length co36] rfl (by (try simp only [List.map_toArray, List.map_cons, List.map_nil]); first | done | rfl | (simp only [List.length_drop, List.length_take]; rfl)) ?_; (with_reducible refine (nautilusref09_Encode.calls k1 _ _ x4_1 t257 t258 _ ?side1 ?side2 A26.out).mono ?_); (case side1 => repeat (first | exact (Kd.R_reads' HO_4.out).2.2 | (with_reducible refine Kd.C_alloc ?_ _) | (with_reducible refine Kd.C_drewN ?_ _) | (with_reducible refine Kd.C_drew ?_))); (case side2 => exact (Kd.R_reads' HO_4.out).2.1); rintro e w37 ⟨v259, rfl, ho0, hb⟩; refine ⟨_, rfl, ?_⟩; have n0_ := Aside0.mk (Kd.R_below (by (with_reducible repeat (first | apply Kd.R_alloc | apply Kd.R_drewN | apply Kd.R_drew)); exact HO_4.out) hb); have n1_ := Aside0.mk (Kd.R_lower ho0 (below_size (by repeat (first | (with_reducible first | exact HB.out | apply below_alloc | apply pw_below_drewN | apply below_drew1) | exact HB.out)))); have n2_ := Aside0.mk (below_step (by repeat (first | (with_reducible first | exact HB.out | apply below_alloc | apply pw_below_drewN | apply below_drew1) | exact HB.out)) hb); clear HO_4; clear HB; have HO_4 := n0_; have HO260 := n1_; have HB := n2_; clear n0_ n1_ n2_; (try clear hb); (try clear hb2); (try clear hk); (try clear hi); (try clear ho0); obtain ⟨Ao38, co38, eo38⟩ := Kd.R_slice HO260.out; subst eo38) | ((with_reducible refine gate_callee (f := 30) rfl ?_); refine goesL_ (some 79) rfl rfl Try.func30 (by kernel_rfl) rfl #[.slice Ao38 t257.length co38, .slice A0 l0.length c0] rfl (by (try simp only [List.map_toArray, List.map_cons, List.map_nil]); first | done | rfl | (simp only [List.length_drop, List.length_take]; rfl)) ?_; (with_reducible refine (nautilusref09_SameTexts.calls k1 _ _ t257 _ _ l0 t261 _ ?side1 ?side2 ?side3 ?side4 A27.out).mono ?_); (case side1 => repeat (first | exact (Kd.R_reads' HO260.out).2.2 | (with_reducible refine Kd.C_alloc ?_ _) | (with_reducible refine Kd.C_drewN ?_ _) | (with_reducible refine Kd.C_drew ?_))); (case side2 => exact (Kd.R_reads' HO260.out).2.1); (case side3 => repeat (first | exact (Kd.C_below HR0.out HB.out) | (with_reducible refine Kd.C_alloc ?_ _) | (with_reducible refine Kd.C_drewN ?_ _) | (with_reducible refine Kd.C_drew ?_))); (case side4 => exact HC0.out); rintro e w' ⟨rfl, ⟨nd, rfl⟩⟩; refine ⟨_, rfl, ?_⟩))
            go_ret2
            exact ⟨_, by first | rfl | (simp [errW_none, errW_some] <;> rfl) | (simp [*, errW_none, errW_some] <;> rfl), by first | exact Kd.R_nil _ _ _ _ _ | exact Kd.N_nil _ _ _ _ _ | exact Kd.V_nil _ _ _ _ _ | exact Kd.Q_nil _ _ _ _ _ | exact Kd.S_nil _ _ _ _ _, by repeat (first | (with_reducible first | exact HB.out | apply below_alloc | apply pw_below_drewN | apply below_drew1) | exact HB.out)⟩

end Go.Proofs.Ytllcmalgahnnhaa.Q
