/- Functions of the translation as plain Lean functions, and that the translation computes them: printed by this session's driver of the print. -/
import Derived.Test.YtllcmalgahnnhaaQ0
import Derived.Test.YtllcmalgahnnhaaQ5
namespace Go.Proofs.Ytllcmalgahnnhaa.Q
open Go.Proofs.Ytllcmalgahnnhaa.H
open Go.RowKit Go.Proofs.YtllcmalgahnnhaaW.PrintWords Go.Proofs.YtllcmalgahnnhaaW.PrintLast Go.Proofs.YtllcmalgahnnhaaW.PrintMore
attribute [local go_sem] max2_int min2_int max_two min_two max_three min_three max_four min_four   -- for this text's walks alone
set_option linter.unusedVariables false
set_option linter.unusedSimpArgs false

/-! ### nautilusref09_place: function 40 -/
def nautilusref09_place.l0 : Nat → List (S33) → Int → Int → Option (Int)
  | 0, _, _, _ => none
  | k + 1, x0, x1, x5 => if x5 < (x0.length : Int) then (if 0 ≤ x5 then (if ((rd_T33 x0 x5).f0) = x1 then (some x5) else (nautilusref09_place.l0 k x0 x1 (wrap64 (x5 + 1)))) else (none)) else (some (-1))
def nautilusref09_place.f (k : Nat) (l0 : List (S33)) (a1 : Int) : Option (Int) := nautilusref09_place.l0 k l0 a1 0
theorem nautilusref09_place.mono_l : ∀ k, (∀ y0 y1 y2, LeO (nautilusref09_place.l0 k y0 y1 y2) (nautilusref09_place.l0 (k + 1) y0 y1 y2))
  | 0 => fun _ _ _ r h => by simp [nautilusref09_place.l0] at h
  | k + 1 => by
    have ih0 := nautilusref09_place.mono_l k
    · intro y0 y1 y2
      unfold nautilusref09_place.l0
      repeat' first
      | (with_reducible exact ih0 _ _ _)
      | (with_reducible exact LeO.refl _)
      | (with_reducible exact LeO.none _)
      | (with_reducible refine LeO.ite ?_ ?_)
      | (with_reducible refine LeO.bind ?_ (fun _ => ?_))
      | exact ih0 _ _ _
      | exact LeO.none _
      | refine LeO.ite ?_ ?_
      | refine LeO.bind ?_ (fun _ => ?_)
theorem nautilusref09_place.mono : ∀ a0 a1 k, LeO (nautilusref09_place.f k a0 a1) (nautilusref09_place.f (k + 1) a0 a1) := by
  intro a0 a1 k
  have ih0 := nautilusref09_place.mono_l k
  unfold nautilusref09_place.f
  repeat' first
      | (with_reducible exact ih0 _ _ _)
      | (with_reducible exact LeO.refl _)
      | (with_reducible exact LeO.none _)
      | (with_reducible refine LeO.ite ?_ ?_)
      | (with_reducible refine LeO.bind ?_ (fun _ => ?_))
      | exact ih0 _ _ _
      | exact LeO.none _
      | refine LeO.ite ?_ ?_
      | refine LeO.bind ?_ (fun _ => ?_)
set_option maxHeartbeats 8000000 in
set_option maxRecDepth 100000 in
theorem nautilusref09_place.calls (k : Nat) (A0 : Option Addr) (c0 : Nat) (l0 : List (S33)) (a1 : Int) (r : Int) (w : World) (hr0 : Kd.C k33 w A0 l0.length l0) (hc0 : l0.length ≤ c0) (h : nautilusref09_place.f k l0 a1 = some r) :
    Calls Try.prog 40 #[.slice A0 l0.length c0, .int .u64 a1] w fun e w' => e = .returned (.int .i64 r) ∧ Drawn0 w w' := by
  have HR0 := Aside0.mk hr0
  have HC0 := Aside0.mk hc0
  clear hr0 hc0
  have H : (nautilusref09_place.l0 k l0 a1 0) = some r := h
  clear h
  have H' := Aside0.mk H
  clear H
  go_enter Try.func40, Try.ntmps40
  go_wp2
  go_loopg [5] k (fun kq v5 w' => ∃ (x5_1 : Int), v5 = .int .i64 x5_1 ∧ Aside0 (nautilusref09_place.l0 kq l0 a1 x5_1 = some r) ∧ Aside0 (kq ≤ k) ∧ Drawn0 w w')
  case atStart => exact ⟨(0), (by first | rfl | (simp; done) | (simp [*]; done)), H', ⟨Nat.le_refl _⟩, by repeat (first | exact Drawn0.refl _ | apply Drawn0.step)⟩
  case round =>
    clear H'
    try clear p2
    obtain ⟨x5_1, rfl, HA, HK1, ⟨m1, rfl⟩⟩ := hrel
    cases gk with
    | zero => exact absurd HA.out (by simp [nautilusref09_place.l0])
    | succ k1 =>
      have H := HA.out
      clear HA
      simp only [nautilusref09_place.l0] at H
      by_cases c3 : x5_1 < (l0.length : Int)
      · rw [if_pos c3] at H
        have c3b0 : decide (x5_1 < (l0.length : Int)) = true := decide_eq_true c3
        clear c3
        by_cases c4 : 0 ≤ x5_1
        · rw [if_pos c4] at H
          have c4b0 : decide (0 ≤ x5_1) = true := decide_eq_true c4
          clear c4
          by_cases c5 : ((rd_T33 l0 x5_1).f0) = a1
          · rw [if_pos c5] at H
            have c5b0 : (((rd_T33 l0 x5_1).f0) == a1) = true := beq_iff_eq.mpr c5
            have c5b1 : (((rd_T33 l0 x5_1).f0) != a1) = false := bne_eq_false_iff_eq.mpr c5
            clear c5
            obtain rfl := Option.some.inj H
            have p207 : 0 ≤ (x5_1 : Int) := of_decide_eq_true (by first | (with_reducible assumption) | assumption)
            have q207 : x5_1 < (l0.length : Int) := of_decide_eq_true (by first | (with_reducible assumption) | assumption)
            obtain ⟨ad207, e207, hx207_0, hx207_1, hx207_2, hx207_3⟩ := at_T33 HR0.out x5_1 p207 q207
            cases e207
            replace p207 := eq_true p207
            replace q207 := eq_true q207
            go_wp2
            go_ret
            exact ⟨by first | rfl | (simp; done) | (simp [*]; done), by repeat (first | exact Drawn0.refl _ | apply Drawn0.step)⟩
          · rw [if_neg c5] at H
            have c5b0 : (((rd_T33 l0 x5_1).f0) == a1) = false := beq_eq_false_iff_ne.mpr c5
            have c5b1 : (((rd_T33 l0 x5_1).f0) != a1) = true := bne_iff_ne.mpr c5
            have H' := Aside0.mk H
            clear H
            have p207 : 0 ≤ (x5_1 : Int) := of_decide_eq_true (by first | (with_reducible assumption) | assumption)
            have q207 : x5_1 < (l0.length : Int) := of_decide_eq_true (by first | (with_reducible assumption) | assumption)
            obtain ⟨ad207, e207, hx207_0, hx207_1, hx207_2, hx207_3⟩ := at_T33 HR0.out x5_1 p207 q207
            cases e207
            replace p207 := eq_true p207
            replace q207 := eq_true q207
            go_wp2
            go_roundg k1
            case measure => have := HK1.out; omega
            case rel => exact ⟨(wrap64 (x5_1 + 1)), (by first | rfl | (simp; done) | (simp [*]; done)), H', ⟨by have := HK1.out; omega⟩, by repeat (first | exact Drawn0.refl _ | apply Drawn0.step)⟩
        · rw [if_neg c4] at H
          exact absurd H (by simp)
      · rw [if_neg c3] at H
        have c3b0 : decide (x5_1 < (l0.length : Int)) = false := decide_eq_false c3
        clear c3
        obtain rfl := Option.some.inj H
        go_wp2
        go_ret
        exact ⟨by first | rfl | (simp; done) | (simp [*]; done), by repeat (first | exact Drawn0.refl _ | apply Drawn0.step)⟩

/-! ### nautilusref09_Find: function 25 -/
def nautilusref09_Find.f (k : Nat) (l0 : List (S33)) (a1 : Int) : Option (Int × Int × Bool × ByteArray × Int) := (nautilusref09_Right.f k l0).bind fun t209 => (if t209 = true then ((nautilusref09_place.f k l0 a1).bind fun t210 => (if t210 < 0 then (some (0, 0, false, (⟨#[]⟩ : ByteArray), 92)) else (if 0 ≤ t210 then (if t210 < (l0.length : Int) then (some ((rd_T33 l0 t210).f0, (rd_T33 l0 t210).f1, (rd_T33 l0 t210).f2, (rd_T33 l0 t210).f3, 0)) else (none)) else (none)))) else (some (0, 0, false, (⟨#[]⟩ : ByteArray), 90)))
theorem nautilusref09_Find.mono : ∀ a0 a1 k, LeO (nautilusref09_Find.f k a0 a1) (nautilusref09_Find.f (k + 1) a0 a1) := by
  intro a0 a1 k
  unfold nautilusref09_Find.f
  repeat' first
      | (with_reducible exact nautilusref09_Right.mono _ _)
      | (with_reducible exact nautilusref09_place.mono _ _ _)
      | (with_reducible exact LeO.refl _)
      | (with_reducible exact LeO.none _)
      | (with_reducible refine LeO.ite ?_ ?_)
      | (with_reducible refine LeO.bind ?_ (fun _ => ?_))
      | exact nautilusref09_Right.mono _ _
      | exact nautilusref09_place.mono _ _ _
      | exact LeO.none _
      | refine LeO.ite ?_ ?_
      | refine LeO.bind ?_ (fun _ => ?_)
set_option maxHeartbeats 8000000 in
set_option maxRecDepth 100000 in
theorem nautilusref09_Find.calls (k : Nat) (A0 : Option Addr) (c0 : Nat) (l0 : List (S33)) (a1 : Int) (r1 : Int) (r2 : Int) (r3 : Bool) (r4 : ByteArray) (r5 : Int) (w : World) (hr0 : Kd.C k33 w A0 l0.length l0) (hc0 : l0.length ≤ c0) (h : nautilusref09_Find.f k l0 a1 = some (r1, r2, r3, r4, r5)) :
    Calls Try.prog 25 #[.slice A0 l0.length c0, .int .u64 a1] w fun e w' => e = .returned (.tuple #[.agg #[.int .u64 r1, .int .u64 r2, .bool r3, .string r4], .int .i64 r5]) ∧ Below w.heap.size w w' := by
  have hu33 := Try.underlying33
  have HR0 := Aside0.mk hr0
  have HC0 := Aside0.mk hc0
  clear hr0 hc0
  have HB := Aside0.mk (Below.refl w.heap.size w)
  have H : ((nautilusref09_Right.f k l0).bind fun t209 => (if t209 = true then ((nautilusref09_place.f k l0 a1).bind fun t210 => (if t210 < 0 then (some (0, 0, false, (⟨#[]⟩ : ByteArray), 92)) else (if 0 ≤ t210 then (if t210 < (l0.length : Int) then (some ((rd_T33 l0 t210).f0, (rd_T33 l0 t210).f1, (rd_T33 l0 t210).f2, (rd_T33 l0 t210).f3, 0)) else (none)) else (none)))) else (some (0, 0, false, (⟨#[]⟩ : ByteArray), 90)))) = some (r1, r2, r3, r4, r5) := h
  clear h
  replace H := Option.bind_eq_some_iff.mp H
  obtain ⟨t209, A30, H⟩ := H
  replace H : (if t209 = true then ((nautilusref09_place.f k l0 a1).bind fun t210 => (if t210 < 0 then (some (0, 0, false, (⟨#[]⟩ : ByteArray), 92)) else (if 0 ≤ t210 then (if t210 < (l0.length : Int) then (some ((rd_T33 l0 t210).f0, (rd_T33 l0 t210).f1, (rd_T33 l0 t210).f2, (rd_T33 l0 t210).f3, 0)) else (none)) else (none)))) else (some (0, 0, false, (⟨#[]⟩ : ByteArray), 90))) = some (r1, r2, r3, r4, r5) := H
  have A3 := Aside0.mk A30
  clear A30
  by_cases c4 : t209 = true
  · subst c4
    have H1 : ((nautilusref09_place.f k l0 a1).bind fun t210 => (if t210 < 0 then (some (0, 0, false, (⟨#[]⟩ : ByteArray), 92)) else (if 0 ≤ t210 then (if t210 < (l0.length : Int) then (some ((rd_T33 l0 t210).f0, (rd_T33 l0 t210).f1, (rd_T33 l0 t210).f2, (rd_T33 l0 t210).f3, 0)) else (none)) else (none)))) = some (r1, r2, r3, r4, r5) := by rw [if_pos rfl] at H; exact H
    clear H
    have H := H1
    clear H1
    replace H := Option.bind_eq_some_iff.mp H
    obtain ⟨t210, A50, H⟩ := H
    replace H : (if t210 < 0 then (some (0, 0, false, (⟨#[]⟩ : ByteArray), 92)) else (if 0 ≤ t210 then (if t210 < (l0.length : Int) then (some ((rd_T33 l0 t210).f0, (rd_T33 l0 t210).f1, (rd_T33 l0 t210).f2, (rd_T33 l0 t210).f3, 0)) else (none)) else (none))) = some (r1, r2, r3, r4, r5) := H
    have A5 := Aside0.mk A50
    clear A50
    by_cases c6 : t210 < 0
    · rw [if_pos c6] at H
      have c6b0 : decide (t210 < 0) = true := decide_eq_true c6
      clear c6
      simp only [Option.some.injEq, Prod.mk.injEq] at H
      obtain ⟨rfl, rfl, rfl, rfl, rfl⟩ := H
      go_enter Try.func25, Try.ntmps25
      go_wp2_with (first | ((with_reducible refine gate_dst (N := 4) rfl ?_); refine box_event ?hg (N := 4) ?hd (cs := #[.int .u64 0, .int .u64 0, .bool false, .string (⟨#[]⟩ : ByteArray)]) (t := 33) ?hr ?_; (case hd => rfl); (case hg => rfl); (case hr => first | (go_simp; done) | (go_simp; rfl)); intro gb208 hg w7 hbox hb; have n0_ := Aside0.mk (below_step (by repeat (first | (with_reducible first | exact HB.out | apply below_alloc | apply pw_below_drewN | apply below_drew1) | exact HB.out)) hb); have n1_ := Aside0.mk (hbox); have n2_ := Aside0.mk ((by rw [hg]; exact (below_size (by repeat (first | (with_reducible first | exact HB.out | apply below_alloc | apply pw_below_drewN | apply below_drew1) | exact HB.out))) : w.heap.size ≤ gb208)); have n3_ := Aside0.mk ((by rw [hg]; exact (below_size (by repeat (first | (with_reducible first | exact HB.out | apply below_alloc | apply pw_below_drewN | apply below_drew1) | exact HB.out))) : w.heap.size ≤ gb208)); clear HB; have HB := n0_; have BK208 := n1_; have GW208 := n2_; have GE208 := n3_; clear n0_ n1_ n2_ n3_; clear hb hbox hg) | ((with_reducible refine gate_callee (f := 26) rfl ?_); refine goesL_ (some 9) rfl rfl Try.func26 (by kernel_rfl) rfl #[.slice A0 l0.length c0] rfl (by (try simp only [List.map_toArray, List.map_cons, List.map_nil]); first | done | rfl | (simp only [List.length_drop, List.length_take]; rfl)) ?_; (with_reducible refine (nautilusref09_Right.calls k _ _ l0 true _ ?side1 ?side2 A3.out).mono ?_); (case side1 => repeat (first | exact (Kd.C_below HR0.out HB.out) | (with_reducible refine Kd.C_alloc ?_ _) | (with_reducible refine Kd.C_drewN ?_ _) | (with_reducible refine Kd.C_drew ?_))); (case side2 => exact HC0.out); rintro e w' ⟨rfl, ⟨nd, rfl⟩⟩; refine ⟨_, rfl, ?_⟩; (try (rw [drewN_self w7]; generalize hq_ : World.drewN w7 _ = w7; have n0_ : Aside0 (w7.heap[gb208]? = some (.cells #[.int .u64 0, .int .u64 0, .bool false, .string (⟨#[]⟩ : ByteArray)] 33 (0, 0))) := ⟨by rw [← hq_]; exact (by (with_reducible repeat (first | refine blk_drewN ?_ _ | refine blk_drew ?_ | refine blk_alloc ?_ _)); exact BK208.out)⟩; have n1_ : Aside0 (Below w.heap.size w w7) := ⟨by rw [← hq_]; exact (by repeat (first | (with_reducible first | exact HB.out | apply below_alloc | apply pw_below_drewN | apply below_drew1 | refine below_set ?_ GE208.out) | exact HB.out))⟩; clear BK208 HB hq_; have BK208 := n0_; have HB := n1_; clear n0_ n1_))) | ((with_reducible refine gate_callee (f := 40) rfl ?_); refine goesL_ (some 15) rfl rfl Try.func40 (by kernel_rfl) rfl #[.slice A0 l0.length c0, .int .u64 a1] rfl (by (try simp only [List.map_toArray, List.map_cons, List.map_nil]); first | done | rfl | (simp only [List.length_drop, List.length_take]; rfl)) ?_; (with_reducible refine (nautilusref09_place.calls k _ _ l0 a1 t210 _ ?side1 ?side2 A5.out).mono ?_); (case side1 => repeat (first | exact (Kd.C_below HR0.out HB.out) | (with_reducible refine Kd.C_alloc ?_ _) | (with_reducible refine Kd.C_drewN ?_ _) | (with_reducible refine Kd.C_drew ?_))); (case side2 => exact HC0.out); rintro e w' ⟨rfl, ⟨nd, rfl⟩⟩; refine ⟨_, rfl, ?_⟩; (try (rw [drewN_self w7]; generalize hq_ : World.drewN w7 _ = w7; have n0_ : Aside0 (w7.heap[gb208]? = some (.cells #[.int .u64 0, .int .u64 0, .bool false, .string (⟨#[]⟩ : ByteArray)] 33 (0, 0))) := ⟨by rw [← hq_]; exact (by (with_reducible repeat (first | refine blk_drewN ?_ _ | refine blk_drew ?_ | refine blk_alloc ?_ _)); exact BK208.out)⟩; have n1_ : Aside0 (Below w.heap.size w w7) := ⟨by rw [← hq_]; exact (by repeat (first | (with_reducible first | exact HB.out | apply below_alloc | apply pw_below_drewN | apply below_drew1 | refine below_set ?_ GE208.out) | exact HB.out))⟩; clear BK208 HB hq_; have BK208 := n0_; have HB := n1_; clear n0_ n1_)); have hcz8_0 : w7.cell? ⟨gb208, 0, none⟩ = some (.int .u64 0) := (blk_cell BK208.out 0).trans rfl; have hcz8_1 : w7.cell? ⟨gb208, 1, none⟩ = some (.int .u64 0) := (blk_cell BK208.out 1).trans rfl; have hcz8_2 : w7.cell? ⟨gb208, 2, none⟩ = some (.bool false) := (blk_cell BK208.out 2).trans rfl; have hcz8_3 : w7.cell? ⟨gb208, 3, none⟩ = some (.string (⟨#[]⟩ : ByteArray)) := (blk_cell BK208.out 3).trans rfl; have hfz8_0 := blk_frozen BK208.out 0; have hfz8_1 := blk_frozen BK208.out 1; have hfz8_2 := blk_frozen BK208.out 2; have hfz8_3 := blk_frozen BK208.out 3))
      refine bodyPost_ret (results_ct rfl _ _ gb208 33 #[.int .u64 0, .int .u64 0, .bool false, .string (⟨#[]⟩ : ByteArray)] (0, 0) _ rfl (by (with_reducible repeat (first | refine blk_drewN ?_ _ | refine blk_drew ?_ | refine blk_alloc ?_ _)); refine blk_put (cs := #[.int .u64 0, .int .u64 0, .bool false, .string (⟨#[]⟩ : ByteArray)]) ?_ 3 _ rfl; (with_reducible repeat (first | refine blk_drewN ?_ _ | refine blk_drew ?_ | refine blk_alloc ?_ _)); refine blk_put (cs := #[.int .u64 0, .int .u64 0, .bool false, .string (⟨#[]⟩ : ByteArray)]) ?_ 2 _ rfl; (with_reducible repeat (first | refine blk_drewN ?_ _ | refine blk_drew ?_ | refine blk_alloc ?_ _)); refine blk_put (cs := #[.int .u64 0, .int .u64 0, .bool false, .string (⟨#[]⟩ : ByteArray)]) ?_ 1 _ rfl; (with_reducible repeat (first | refine blk_drewN ?_ _ | refine blk_drew ?_ | refine blk_alloc ?_ _)); refine blk_put (cs := #[.int .u64 0, .int .u64 0, .bool false, .string (⟨#[]⟩ : ByteArray)]) ?_ 0 _ rfl; (with_reducible repeat (first | refine blk_drewN ?_ _ | refine blk_drew ?_ | refine blk_alloc ?_ _)); exact BK208.out) Try.underlying33 rfl (by kernel_rfl)) rfl ?_
      exact ⟨by first | rfl | (simp [errW_none, errW_some] <;> rfl) | (simp [*, errW_none, errW_some] <;> rfl) | (simp [show IntKind.u64.wrap 0 = 0 from rfl, Int.zero_tdiv]; done), by repeat (first | (with_reducible first | exact HB.out | apply below_alloc | apply pw_below_drewN | apply below_drew1 | refine below_set ?_ GE208.out) | exact HB.out)⟩
    · rw [if_neg c6] at H
      have c6b0 : decide (t210 < 0) = false := decide_eq_false c6
      clear c6
      by_cases c9 : 0 ≤ t210
      · rw [if_pos c9] at H
        have c9b0 : decide (0 ≤ t210) = true := decide_eq_true c9
        clear c9
        by_cases c10 : t210 < (l0.length : Int)
        · rw [if_pos c10] at H
          have c10b0 : decide (t210 < (l0.length : Int)) = true := decide_eq_true c10
          clear c10
          simp only [Option.some.injEq, Prod.mk.injEq] at H
          obtain ⟨rfl, rfl, rfl, rfl, rfl⟩ := H
          go_enter Try.func25, Try.ntmps25
          go_wp2_with (first | ((with_reducible refine gate_dst (N := 4) rfl ?_); refine box_event ?hg (N := 4) ?hd (cs := #[.int .u64 0, .int .u64 0, .bool false, .string (⟨#[]⟩ : ByteArray)]) (t := 33) ?hr ?_; (case hd => rfl); (case hg => rfl); (case hr => first | (go_simp; done) | (go_simp; rfl)); intro gb208 hg w11 hbox hb; have n0_ := Aside0.mk (below_step (by repeat (first | (with_reducible first | exact HB.out | apply below_alloc | apply pw_below_drewN | apply below_drew1) | exact HB.out)) hb); have n1_ := Aside0.mk (hbox); have n2_ := Aside0.mk ((by rw [hg]; exact (below_size (by repeat (first | (with_reducible first | exact HB.out | apply below_alloc | apply pw_below_drewN | apply below_drew1) | exact HB.out))) : w.heap.size ≤ gb208)); have n3_ := Aside0.mk ((by rw [hg]; exact (below_size (by repeat (first | (with_reducible first | exact HB.out | apply below_alloc | apply pw_below_drewN | apply below_drew1) | exact HB.out))) : w.heap.size ≤ gb208)); clear HB; have HB := n0_; have BK208 := n1_; have GW208 := n2_; have GE208 := n3_; clear n0_ n1_ n2_ n3_; clear hb hbox hg) | ((with_reducible refine gate_callee (f := 26) rfl ?_); refine goesL_ (some 9) rfl rfl Try.func26 (by kernel_rfl) rfl #[.slice A0 l0.length c0] rfl (by (try simp only [List.map_toArray, List.map_cons, List.map_nil]); first | done | rfl | (simp only [List.length_drop, List.length_take]; rfl)) ?_; (with_reducible refine (nautilusref09_Right.calls k _ _ l0 true _ ?side1 ?side2 A3.out).mono ?_); (case side1 => repeat (first | exact (Kd.C_below HR0.out HB.out) | (with_reducible refine Kd.C_alloc ?_ _) | (with_reducible refine Kd.C_drewN ?_ _) | (with_reducible refine Kd.C_drew ?_))); (case side2 => exact HC0.out); rintro e w' ⟨rfl, ⟨nd, rfl⟩⟩; refine ⟨_, rfl, ?_⟩; (try (rw [drewN_self w11]; generalize hq_ : World.drewN w11 _ = w11; have n0_ : Aside0 (w11.heap[gb208]? = some (.cells #[.int .u64 0, .int .u64 0, .bool false, .string (⟨#[]⟩ : ByteArray)] 33 (0, 0))) := ⟨by rw [← hq_]; exact (by (with_reducible repeat (first | refine blk_drewN ?_ _ | refine blk_drew ?_ | refine blk_alloc ?_ _)); exact BK208.out)⟩; have n1_ : Aside0 (Below w.heap.size w w11) := ⟨by rw [← hq_]; exact (by repeat (first | (with_reducible first | exact HB.out | apply below_alloc | apply pw_below_drewN | apply below_drew1 | refine below_set ?_ GE208.out) | exact HB.out))⟩; clear BK208 HB hq_; have BK208 := n0_; have HB := n1_; clear n0_ n1_))) | ((with_reducible refine gate_callee (f := 40) rfl ?_); refine goesL_ (some 15) rfl rfl Try.func40 (by kernel_rfl) rfl #[.slice A0 l0.length c0, .int .u64 a1] rfl (by (try simp only [List.map_toArray, List.map_cons, List.map_nil]); first | done | rfl | (simp only [List.length_drop, List.length_take]; rfl)) ?_; (with_reducible refine (nautilusref09_place.calls k _ _ l0 a1 t210 _ ?side1 ?side2 A5.out).mono ?_); (case side1 => repeat (first | exact (Kd.C_below HR0.out HB.out) | (with_reducible refine Kd.C_alloc ?_ _) | (with_reducible refine Kd.C_drewN ?_ _) | (with_reducible refine Kd.C_drew ?_))); (case side2 => exact HC0.out); rintro e w' ⟨rfl, ⟨nd, rfl⟩⟩; refine ⟨_, rfl, ?_⟩; (try (rw [drewN_self w11]; generalize hq_ : World.drewN w11 _ = w11; have n0_ : Aside0 (w11.heap[gb208]? = some (.cells #[.int .u64 0, .int .u64 0, .bool false, .string (⟨#[]⟩ : ByteArray)] 33 (0, 0))) := ⟨by rw [← hq_]; exact (by (with_reducible repeat (first | refine blk_drewN ?_ _ | refine blk_drew ?_ | refine blk_alloc ?_ _)); exact BK208.out)⟩; have n1_ : Aside0 (Below w.heap.size w w11) := ⟨by rw [← hq_]; exact (by repeat (first | (with_reducible first | exact HB.out | apply below_alloc | apply pw_below_drewN | apply below_drew1 | refine below_set ?_ GE208.out) | exact HB.out))⟩; clear BK208 HB hq_; have BK208 := n0_; have HB := n1_; clear n0_ n1_)); have p211 : 0 ≤ (t210 : Int) := of_decide_eq_true (by first | (with_reducible assumption) | assumption); have q211 : t210 < (l0.length : Int) := of_decide_eq_true (by first | (with_reducible assumption) | assumption); obtain ⟨ad211, e211, hx211_0, hx211_1, hx211_2, hx211_3⟩ := at_T33 HR0.out t210 p211 q211; cases e211; replace hx211_0 := (HB.out.cell (World.block_lt_of_cell? w _ hx211_0)).trans hx211_0; replace hx211_1 := (HB.out.cell (World.block_lt_of_cell? w _ hx211_1)).trans hx211_1; replace hx211_2 := (HB.out.cell (World.block_lt_of_cell? w _ hx211_2)).trans hx211_2; replace hx211_3 := (HB.out.cell (World.block_lt_of_cell? w _ hx211_3)).trans hx211_3; replace p211 := eq_true p211; replace q211 := eq_true q211; have hcz12_0 : w11.cell? ⟨gb208, 0, none⟩ = some (.int .u64 0) := (blk_cell BK208.out 0).trans rfl; have hcz12_1 : w11.cell? ⟨gb208, 1, none⟩ = some (.int .u64 0) := (blk_cell BK208.out 1).trans rfl; have hcz12_2 : w11.cell? ⟨gb208, 2, none⟩ = some (.bool false) := (blk_cell BK208.out 2).trans rfl; have hcz12_3 : w11.cell? ⟨gb208, 3, none⟩ = some (.string (⟨#[]⟩ : ByteArray)) := (blk_cell BK208.out 3).trans rfl; have hfz12_0 := blk_frozen BK208.out 0; have hfz12_1 := blk_frozen BK208.out 1; have hfz12_2 := blk_frozen BK208.out 2; have hfz12_3 := blk_frozen BK208.out 3))
          refine bodyPost_ret (results_ct rfl _ _ gb208 33 #[.int .u64 ((rd_T33 l0 t210).f0), .int .u64 ((rd_T33 l0 t210).f1), .bool ((rd_T33 l0 t210).f2), .string ((rd_T33 l0 t210).f3)] (0, 0) _ rfl (by (with_reducible repeat (first | refine blk_drewN ?_ _ | refine blk_drew ?_ | refine blk_alloc ?_ _)); refine blk_put (cs := #[.int .u64 ((rd_T33 l0 t210).f0), .int .u64 ((rd_T33 l0 t210).f1), .bool ((rd_T33 l0 t210).f2), .string (⟨#[]⟩ : ByteArray)]) ?_ 3 _ rfl; (with_reducible repeat (first | refine blk_drewN ?_ _ | refine blk_drew ?_ | refine blk_alloc ?_ _)); refine blk_put (cs := #[.int .u64 ((rd_T33 l0 t210).f0), .int .u64 ((rd_T33 l0 t210).f1), .bool false, .string (⟨#[]⟩ : ByteArray)]) ?_ 2 _ rfl; (with_reducible repeat (first | refine blk_drewN ?_ _ | refine blk_drew ?_ | refine blk_alloc ?_ _)); refine blk_put (cs := #[.int .u64 ((rd_T33 l0 t210).f0), .int .u64 0, .bool false, .string (⟨#[]⟩ : ByteArray)]) ?_ 1 _ rfl; (with_reducible repeat (first | refine blk_drewN ?_ _ | refine blk_drew ?_ | refine blk_alloc ?_ _)); refine blk_put (cs := #[.int .u64 0, .int .u64 0, .bool false, .string (⟨#[]⟩ : ByteArray)]) ?_ 0 _ rfl; (with_reducible repeat (first | refine blk_drewN ?_ _ | refine blk_drew ?_ | refine blk_alloc ?_ _)); exact BK208.out) Try.underlying33 rfl (by kernel_rfl)) rfl ?_
          exact ⟨by first | rfl | (simp [errW_none, errW_some] <;> rfl) | (simp [*, errW_none, errW_some] <;> rfl) | (simp [show IntKind.u64.wrap 0 = 0 from rfl, Int.zero_tdiv]; done), by repeat (first | (with_reducible first | exact HB.out | apply below_alloc | apply pw_below_drewN | apply below_drew1 | refine below_set ?_ GE208.out) | exact HB.out)⟩
        · rw [if_neg c10] at H
          exact absurd H (by simp)
      · rw [if_neg c9] at H
        exact absurd H (by simp)
  · replace c4 := Bool.eq_false_iff.mpr c4
    subst c4
    have H1 : (some (0, 0, false, (⟨#[]⟩ : ByteArray), 90)) = some (r1, r2, r3, r4, r5) := by rw [if_neg (show ¬ (false = true) by decide)] at H; exact H
    clear H
    have H := H1
    clear H1
    simp only [Option.some.injEq, Prod.mk.injEq] at H
    obtain ⟨rfl, rfl, rfl, rfl, rfl⟩ := H
    go_enter Try.func25, Try.ntmps25
    go_wp2_with (first | ((with_reducible refine gate_dst (N := 4) rfl ?_); refine box_event ?hg (N := 4) ?hd (cs := #[.int .u64 0, .int .u64 0, .bool false, .string (⟨#[]⟩ : ByteArray)]) (t := 33) ?hr ?_; (case hd => rfl); (case hg => rfl); (case hr => first | (go_simp; done) | (go_simp; rfl)); intro gb208 hg w13 hbox hb; have n0_ := Aside0.mk (below_step (by repeat (first | (with_reducible first | exact HB.out | apply below_alloc | apply pw_below_drewN | apply below_drew1) | exact HB.out)) hb); have n1_ := Aside0.mk (hbox); have n2_ := Aside0.mk ((by rw [hg]; exact (below_size (by repeat (first | (with_reducible first | exact HB.out | apply below_alloc | apply pw_below_drewN | apply below_drew1) | exact HB.out))) : w.heap.size ≤ gb208)); have n3_ := Aside0.mk ((by rw [hg]; exact (below_size (by repeat (first | (with_reducible first | exact HB.out | apply below_alloc | apply pw_below_drewN | apply below_drew1) | exact HB.out))) : w.heap.size ≤ gb208)); clear HB; have HB := n0_; have BK208 := n1_; have GW208 := n2_; have GE208 := n3_; clear n0_ n1_ n2_ n3_; clear hb hbox hg) | ((with_reducible refine gate_callee (f := 26) rfl ?_); refine goesL_ (some 9) rfl rfl Try.func26 (by kernel_rfl) rfl #[.slice A0 l0.length c0] rfl (by (try simp only [List.map_toArray, List.map_cons, List.map_nil]); first | done | rfl | (simp only [List.length_drop, List.length_take]; rfl)) ?_; (with_reducible refine (nautilusref09_Right.calls k _ _ l0 false _ ?side1 ?side2 A3.out).mono ?_); (case side1 => repeat (first | exact (Kd.C_below HR0.out HB.out) | (with_reducible refine Kd.C_alloc ?_ _) | (with_reducible refine Kd.C_drewN ?_ _) | (with_reducible refine Kd.C_drew ?_))); (case side2 => exact HC0.out); rintro e w' ⟨rfl, ⟨nd, rfl⟩⟩; refine ⟨_, rfl, ?_⟩; (try (rw [drewN_self w13]; generalize hq_ : World.drewN w13 _ = w13; have n0_ : Aside0 (w13.heap[gb208]? = some (.cells #[.int .u64 0, .int .u64 0, .bool false, .string (⟨#[]⟩ : ByteArray)] 33 (0, 0))) := ⟨by rw [← hq_]; exact (by (with_reducible repeat (first | refine blk_drewN ?_ _ | refine blk_drew ?_ | refine blk_alloc ?_ _)); exact BK208.out)⟩; have n1_ : Aside0 (Below w.heap.size w w13) := ⟨by rw [← hq_]; exact (by repeat (first | (with_reducible first | exact HB.out | apply below_alloc | apply pw_below_drewN | apply below_drew1 | refine below_set ?_ GE208.out) | exact HB.out))⟩; clear BK208 HB hq_; have BK208 := n0_; have HB := n1_; clear n0_ n1_)); have hcz14_0 : w13.cell? ⟨gb208, 0, none⟩ = some (.int .u64 0) := (blk_cell BK208.out 0).trans rfl; have hcz14_1 : w13.cell? ⟨gb208, 1, none⟩ = some (.int .u64 0) := (blk_cell BK208.out 1).trans rfl; have hcz14_2 : w13.cell? ⟨gb208, 2, none⟩ = some (.bool false) := (blk_cell BK208.out 2).trans rfl; have hcz14_3 : w13.cell? ⟨gb208, 3, none⟩ = some (.string (⟨#[]⟩ : ByteArray)) := (blk_cell BK208.out 3).trans rfl; have hfz14_0 := blk_frozen BK208.out 0; have hfz14_1 := blk_frozen BK208.out 1; have hfz14_2 := blk_frozen BK208.out 2; have hfz14_3 := blk_frozen BK208.out 3))
    refine bodyPost_ret (results_ct rfl _ _ gb208 33 #[.int .u64 0, .int .u64 0, .bool false, .string (⟨#[]⟩ : ByteArray)] (0, 0) _ rfl (by (with_reducible repeat (first | refine blk_drewN ?_ _ | refine blk_drew ?_ | refine blk_alloc ?_ _)); refine blk_put (cs := #[.int .u64 0, .int .u64 0, .bool false, .string (⟨#[]⟩ : ByteArray)]) ?_ 3 _ rfl; (with_reducible repeat (first | refine blk_drewN ?_ _ | refine blk_drew ?_ | refine blk_alloc ?_ _)); refine blk_put (cs := #[.int .u64 0, .int .u64 0, .bool false, .string (⟨#[]⟩ : ByteArray)]) ?_ 2 _ rfl; (with_reducible repeat (first | refine blk_drewN ?_ _ | refine blk_drew ?_ | refine blk_alloc ?_ _)); refine blk_put (cs := #[.int .u64 0, .int .u64 0, .bool false, .string (⟨#[]⟩ : ByteArray)]) ?_ 1 _ rfl; (with_reducible repeat (first | refine blk_drewN ?_ _ | refine blk_drew ?_ | refine blk_alloc ?_ _)); refine blk_put (cs := #[.int .u64 0, .int .u64 0, .bool false, .string (⟨#[]⟩ : ByteArray)]) ?_ 0 _ rfl; (with_reducible repeat (first | refine blk_drewN ?_ _ | refine blk_drew ?_ | refine blk_alloc ?_ _)); exact BK208.out) Try.underlying33 rfl (by kernel_rfl)) rfl ?_
    exact ⟨by first | rfl | (simp [errW_none, errW_some] <;> rfl) | (simp [*, errW_none, errW_some] <;> rfl) | (simp [show IntKind.u64.wrap 0 = 0 from rfl, Int.zero_tdiv]; done), by repeat (first | (with_reducible first | exact HB.out | apply below_alloc | apply pw_below_drewN | apply below_drew1 | refine below_set ?_ GE208.out) | exact HB.out)⟩

/-! ### nautilusref09_Mark: function 18 -/
def nautilusref09_Mark.f (k : Nat) (l0 : List (S33)) (a1 : Int) (a2 : Bool) : Option ((List (S33)) × Int) := (nautilusref09_Find.f k l0 a1).bind fun bt212 => (if bt212.2.2.2.2 = 0 then (if 0 ≤ (l0.length : Int) then (if ((l0.length : Int) : Int).toNat ≤ 7036874417766 then ((some (List.replicate 0 z33 : List (S33))).bind fun y218 => (if y218.length + l0.length < 3518437208883 then ((some (y218 ++ l0 : List (S33))).bind fun y221 => ((nautilusref09_place.f k l0 a1).bind fun t224 => (if 0 ≤ t224 then (if t224 < (y221.length : Int) then (some ((y221.set (t224 : Int).toNat (⟨(rd_T33 y221 t224).f0, (rd_T33 y221 t224).f1, a2, (rd_T33 y221 t224).f3⟩ : S33)), 0)) else (none)) else (none)))) else (none))) else (none)) else (none)) else (some (([] : List (S33)), bt212.2.2.2.2)))
theorem nautilusref09_Mark.mono : ∀ a0 a1 a2 k, LeO (nautilusref09_Mark.f k a0 a1 a2) (nautilusref09_Mark.f (k + 1) a0 a1 a2) := by
  intro a0 a1 a2 k
  unfold nautilusref09_Mark.f
  repeat' first
      | (with_reducible exact nautilusref09_Find.mono _ _ _)
      | (with_reducible exact nautilusref09_place.mono _ _ _)
      | (with_reducible exact LeO.refl _)
      | (with_reducible exact LeO.none _)
      | (with_reducible refine LeO.ite ?_ ?_)
      | (with_reducible refine LeO.bind ?_ (fun _ => ?_))
      | exact nautilusref09_Find.mono _ _ _
      | exact nautilusref09_place.mono _ _ _
      | exact LeO.none _
      | refine LeO.ite ?_ ?_
      | refine LeO.bind ?_ (fun _ => ?_)
set_option maxHeartbeats 8000000 in
set_option maxRecDepth 100000 in
theorem nautilusref09_Mark.calls (k : Nat) (A0 : Option Addr) (c0 : Nat) (l0 : List (S33)) (a1 : Int) (a2 : Bool) (r1 : List (S33)) (r2 : Int) (w : World) (hr0 : Kd.C k33 w A0 l0.length l0) (hc0 : l0.length ≤ c0) (h : nautilusref09_Mark.f k l0 a1 a2 = some (r1, r2)) :
    Calls Try.prog 18 #[.slice A0 l0.length c0, .int .u64 a1, .bool a2] w fun e w' => ∃ v0_ : Value, e = .returned (.tuple #[v0_, .int .i64 r2]) ∧ Kd.R k33 33 w' w.heap.size (fun _ => True) v0_ r1 ∧ Below w.heap.size w w' := by
  have hu33 := Try.underlying33
  have HR0 := Aside0.mk hr0
  have HC0 := Aside0.mk hc0
  clear hr0 hc0
  have HB := Aside0.mk (Below.refl w.heap.size w)
  have H : ((nautilusref09_Find.f k l0 a1).bind fun bt212 => (if bt212.2.2.2.2 = 0 then (if 0 ≤ (l0.length : Int) then (if ((l0.length : Int) : Int).toNat ≤ 7036874417766 then ((some (List.replicate 0 z33 : List (S33))).bind fun y218 => (if y218.length + l0.length < 3518437208883 then ((some (y218 ++ l0 : List (S33))).bind fun y221 => ((nautilusref09_place.f k l0 a1).bind fun t224 => (if 0 ≤ t224 then (if t224 < (y221.length : Int) then (some ((y221.set (t224 : Int).toNat (⟨(rd_T33 y221 t224).f0, (rd_T33 y221 t224).f1, a2, (rd_T33 y221 t224).f3⟩ : S33)), 0)) else (none)) else (none)))) else (none))) else (none)) else (none)) else (some (([] : List (S33)), bt212.2.2.2.2)))) = some (r1, r2) := h
  clear h
  replace H := Option.bind_eq_some_iff.mp H
  obtain ⟨⟨t212, t213, t214, t215, t216⟩, A40, H⟩ := H
  replace H : (if t216 = 0 then (if 0 ≤ (l0.length : Int) then (if ((l0.length : Int) : Int).toNat ≤ 7036874417766 then ((some (List.replicate 0 z33 : List (S33))).bind fun y218 => (if y218.length + l0.length < 3518437208883 then ((some (y218 ++ l0 : List (S33))).bind fun y221 => ((nautilusref09_place.f k l0 a1).bind fun t224 => (if 0 ≤ t224 then (if t224 < (y221.length : Int) then (some ((y221.set (t224 : Int).toNat (⟨(rd_T33 y221 t224).f0, (rd_T33 y221 t224).f1, a2, (rd_T33 y221 t224).f3⟩ : S33)), 0)) else (none)) else (none)))) else (none))) else (none)) else (none)) else (some (([] : List (S33)), t216))) = some (r1, r2) := H
  have A4 := Aside0.mk A40
  clear A40
  by_cases c5 : t216 = 0
  · rw [if_pos c5] at H
    have c5b0 : (t216 == 0) = true := beq_iff_eq.mpr c5
    have c5b1 : (t216 != 0) = false := bne_eq_false_iff_eq.mpr c5
    clear c5
    by_cases c6 : 0 ≤ (l0.length : Int)
    · rw [if_pos c6] at H
      have c6b0 := eq_true c6
      have c6b1 : decide (0 ≤ (l0.length : Int)) = true := decide_eq_true c6
      clear c6
      by_cases c7 : ((l0.length : Int) : Int).toNat ≤ 7036874417766
      · rw [if_pos c7] at H
        have c7b0 := eq_true c7
        have c7b1 : decide (((l0.length : Int) : Int).toNat ≤ 7036874417766) = true := decide_eq_true c7
        clear c7
        obtain ⟨y218, hy218⟩ : ∃ y_ : List (S33), y_ = (List.replicate 0 z33) := ⟨_, rfl⟩
        replace H : (if y218.length + l0.length < 3518437208883 then ((some (y218 ++ l0 : List (S33))).bind fun y221 => ((nautilusref09_place.f k l0 a1).bind fun t224 => (if 0 ≤ t224 then (if t224 < (y221.length : Int) then (some ((y221.set (t224 : Int).toNat (⟨(rd_T33 y221 t224).f0, (rd_T33 y221 t224).f1, a2, (rd_T33 y221 t224).f3⟩ : S33)), 0)) else (none)) else (none)))) else (none)) = some (r1, r2) := by first | (rw [hy218]; with_reducible exact H) | (have H2_ := (Option.bind_some _ _).symm.trans H; rw [hy218]; with_reducible exact H2_) | (have H2_ := (Option.bind_some _ _).symm.trans H; with_reducible exact H2_) | with_reducible exact H | (rw [hy218]; exact H) | exact H
        have Ny218 := Aside0.mk hy218
        clear hy218
        by_cases c8 : y218.length + l0.length < 3518437208883
        · rw [if_pos c8] at H
          have LMc8 := Aside0.mk c8
          clear c8
          obtain ⟨y221, hy221⟩ : ∃ y_ : List (S33), y_ = (y218 ++ l0) := ⟨_, rfl⟩
          replace H : ((nautilusref09_place.f k l0 a1).bind fun t224 => (if 0 ≤ t224 then (if t224 < (y221.length : Int) then (some ((y221.set (t224 : Int).toNat (⟨(rd_T33 y221 t224).f0, (rd_T33 y221 t224).f1, a2, (rd_T33 y221 t224).f3⟩ : S33)), 0)) else (none)) else (none))) = some (r1, r2) := by first | (rw [hy221]; with_reducible exact H) | (have H2_ := (Option.bind_some _ _).symm.trans H; rw [hy221]; with_reducible exact H2_) | (have H2_ := (Option.bind_some _ _).symm.trans H; with_reducible exact H2_) | with_reducible exact H | (rw [hy221]; exact H) | exact H
          have Ny221 := Aside0.mk hy221
          clear hy221
          replace H := Option.bind_eq_some_iff.mp H
          obtain ⟨t224, A90, H⟩ := H
          replace H : (if 0 ≤ t224 then (if t224 < (y221.length : Int) then (some ((y221.set (t224 : Int).toNat (⟨(rd_T33 y221 t224).f0, (rd_T33 y221 t224).f1, a2, (rd_T33 y221 t224).f3⟩ : S33)), 0)) else (none)) else (none)) = some (r1, r2) := H
          have A9 := Aside0.mk A90
          clear A90
          by_cases c10 : 0 ≤ t224
          · rw [if_pos c10] at H
            have c10b0 : decide (0 ≤ t224) = true := decide_eq_true c10
            clear c10
            by_cases c11 : t224 < (y221.length : Int)
            · rw [if_pos c11] at H
              have c11b0 : decide (t224 < (y221.length : Int)) = true := decide_eq_true c11
              clear c11
              obtain ⟨y225, hy225⟩ : ∃ y_ : List (S33), y_ = (y221.set (t224 : Int).toNat (⟨(rd_T33 y221 t224).f0, (rd_T33 y221 t224).f1, a2, (rd_T33 y221 t224).f3⟩ : S33)) := ⟨_, rfl⟩
              replace H : (some (y225, 0)) = some (r1, r2) := by first | (rw [hy225]; with_reducible exact H) | (have H2_ := (Option.bind_some _ _).symm.trans H; rw [hy225]; with_reducible exact H2_) | (have H2_ := (Option.bind_some _ _).symm.trans H; with_reducible exact H2_) | with_reducible exact H | (rw [hy225]; exact H) | exact H
              have Ny225 := Aside0.mk hy225
              clear hy225
              simp only [Option.some.injEq, Prod.mk.injEq] at H
              obtain ⟨rfl, rfl⟩ := H
              go_enter Try.func18, Try.ntmps18
              go_wp2_with (first | ((with_reducible refine gate_callee (f := 25) rfl ?_); refine goesL_ (some 14) rfl rfl Try.func25 (by kernel_rfl) rfl #[.slice A0 l0.length c0, .int .u64 a1] rfl (by (try simp only [List.map_toArray, List.map_cons, List.map_nil]); first | done | rfl | (simp only [List.length_drop, List.length_take]; rfl)) ?_; (with_reducible refine (nautilusref09_Find.calls k _ _ l0 a1 t212 t213 t214 t215 t216 _ ?side1 ?side2 A4.out).mono ?_); (case side1 => repeat (first | exact HR0.out | (with_reducible refine Kd.C_alloc ?_ _) | (with_reducible refine Kd.C_drewN ?_ _) | (with_reducible refine Kd.C_drew ?_))); (case side2 => exact HC0.out); rintro e w13 ⟨rfl, hb⟩; refine ⟨_, rfl, ?_⟩; have n0_ := Aside0.mk (below_step (by repeat (first | (with_reducible first | exact HB.out | apply below_alloc | apply pw_below_drewN | apply below_drew1) | exact HB.out)) hb); clear HB; have HB := n0_; clear n0_; (try clear hb); (try clear hb2); (try clear hk); (try clear hi)) | ((with_reducible refine gate_dst (N := 8) rfl ?_); refine box_event ?hg (N := 8) ?hd (cs := #[.int .u64 0, .int .u64 0, .bool false, .string (⟨#[]⟩ : ByteArray)]) (t := 33) ?hr ?_; (case hd => rfl); (case hg => rfl); (case hr => first | (go_simp; done) | (go_simp; rfl)); intro gb217 hg w14 hbox hb; have n0_ := Aside0.mk (below_step (by repeat (first | (with_reducible first | exact HB.out | apply below_alloc | apply pw_below_drewN | apply below_drew1) | exact HB.out)) hb); have n1_ := Aside0.mk (hbox); have n2_ := Aside0.mk ((by rw [hg]; exact (below_size (by repeat (first | (with_reducible first | exact HB.out | apply below_alloc | apply pw_below_drewN | apply below_drew1) | exact HB.out))) : w.heap.size ≤ gb217)); have n3_ := Aside0.mk ((by rw [hg]; exact (below_size (by repeat (first | (with_reducible first | exact HB.out | apply below_alloc | apply pw_below_drewN | apply below_drew1) | exact HB.out))) : w.heap.size ≤ gb217)); clear HB; have HB := n0_; have BK217 := n1_; have GW217 := n2_; have GE217 := n3_; clear n0_ n1_ n2_ n3_; clear hb hbox hg; have hcz15_0 : w14.cell? ⟨gb217, 0, none⟩ = some (.int .u64 0) := (blk_cell BK217.out 0).trans rfl; have hcz15_1 : w14.cell? ⟨gb217, 1, none⟩ = some (.int .u64 0) := (blk_cell BK217.out 1).trans rfl; have hcz15_2 : w14.cell? ⟨gb217, 2, none⟩ = some (.bool false) := (blk_cell BK217.out 2).trans rfl; have hcz15_3 : w14.cell? ⟨gb217, 3, none⟩ = some (.string (⟨#[]⟩ : ByteArray)) := (blk_cell BK217.out 3).trans rfl; have hfz15_0 := blk_frozen BK217.out 0; have hfz15_1 := blk_frozen BK217.out 1; have hfz15_2 := blk_frozen BK217.out 2; have hfz15_3 := blk_frozen BK217.out 3) | ((with_reducible refine gate_dst (N := 22) rfl ?_); refine R_make0 k33 _ 33 rfl (N := 22) rfl 22 _ _ rfl (l0.length : Int) rfl rfl Try.underlying22 (.agg #[(.int .u64 0), (.int .u64 0), (.bool false), (.string ⟨#[]⟩)]) 40 info33 rfl (by decide) (by omega) z33 (ok := fun _ => True) (okp := fun _ => True) (k33_mkM _ _ _ z33 ) (fun _ hk => hk) trivial (of_decide_eq_true (by first | (with_reducible assumption) | assumption)) (Nat.le_trans (Nat.mul_le_mul_right _ (of_decide_eq_true (by first | (with_reducible assumption) | assumption) : (l0.length : Int).toNat ≤ 7036874417766)) (by omega)) (Below.refl _ _) (Nat.le_refl _) ?_; intro v219 w16 ho17 hb hg_ hnew_; clear hg_ hnew_; (first | rw [← Ny218.out] at ho17 | (simp only [Int.reduceToNat] at ho17; rw [← Ny218.out] at ho17)); have n0_ := Aside0.mk (Kd.R_lower (Kd.R_newB ho17 (g := gb217) (o := .cells #[.int .u64 t212, .int .u64 t213, .bool t214, .string t215] 33 (0, 0)) (by (with_reducible repeat (first | refine blk_drewN ?_ _ | refine blk_drew ?_ | refine blk_alloc ?_ _)); refine blk_put (cs := #[.int .u64 t212, .int .u64 t213, .bool t214, .string (⟨#[]⟩ : ByteArray)]) ?_ 3 _ rfl; (with_reducible repeat (first | refine blk_drewN ?_ _ | refine blk_drew ?_ | refine blk_alloc ?_ _)); refine blk_put (cs := #[.int .u64 t212, .int .u64 t213, .bool false, .string (⟨#[]⟩ : ByteArray)]) ?_ 2 _ rfl; (with_reducible repeat (first | refine blk_drewN ?_ _ | refine blk_drew ?_ | refine blk_alloc ?_ _)); refine blk_put (cs := #[.int .u64 t212, .int .u64 0, .bool false, .string (⟨#[]⟩ : ByteArray)]) ?_ 1 _ rfl; (with_reducible repeat (first | refine blk_drewN ?_ _ | refine blk_drew ?_ | refine blk_alloc ?_ _)); refine blk_put (cs := #[.int .u64 0, .int .u64 0, .bool false, .string (⟨#[]⟩ : ByteArray)]) ?_ 0 _ rfl; (with_reducible repeat (first | refine blk_drewN ?_ _ | refine blk_drew ?_ | refine blk_alloc ?_ _)); exact BK217.out)) (below_size (by repeat (first | (with_reducible first | exact HB.out | apply below_alloc | apply pw_below_drewN | apply below_drew1 | refine below_set ?_ GE217.out) | exact HB.out)))); have n1_ := Aside0.mk (blk_below (g := gb217) (o := .cells #[.int .u64 t212, .int .u64 t213, .bool t214, .string t215] 33 (0, 0)) (by (with_reducible repeat (first | refine blk_drewN ?_ _ | refine blk_drew ?_ | refine blk_alloc ?_ _)); refine blk_put (cs := #[.int .u64 t212, .int .u64 t213, .bool t214, .string (⟨#[]⟩ : ByteArray)]) ?_ 3 _ rfl; (with_reducible repeat (first | refine blk_drewN ?_ _ | refine blk_drew ?_ | refine blk_alloc ?_ _)); refine blk_put (cs := #[.int .u64 t212, .int .u64 t213, .bool false, .string (⟨#[]⟩ : ByteArray)]) ?_ 2 _ rfl; (with_reducible repeat (first | refine blk_drewN ?_ _ | refine blk_drew ?_ | refine blk_alloc ?_ _)); refine blk_put (cs := #[.int .u64 t212, .int .u64 0, .bool false, .string (⟨#[]⟩ : ByteArray)]) ?_ 1 _ rfl; (with_reducible repeat (first | refine blk_drewN ?_ _ | refine blk_drew ?_ | refine blk_alloc ?_ _)); refine blk_put (cs := #[.int .u64 0, .int .u64 0, .bool false, .string (⟨#[]⟩ : ByteArray)]) ?_ 0 _ rfl; (with_reducible repeat (first | refine blk_drewN ?_ _ | refine blk_drew ?_ | refine blk_alloc ?_ _)); exact BK217.out) hb); have n2_ := Aside0.mk (below_step (by repeat (first | (with_reducible first | exact HB.out | apply below_alloc | apply pw_below_drewN | apply below_drew1 | refine below_set ?_ GE217.out) | exact HB.out)) hb); clear BK217; clear HB; have HO220 := n0_; have BK217 := n1_; have HB := n2_; clear n0_ n1_ n2_; clear hb ho17) | ((with_reducible refine gate_builtin (b := .append) (xs := #[.tmp 22, .tmp 23]) rfl ?_); at_builtin; refine Kd.R_append_rows k33 (w0 := w) w.heap.size rfl (.tmp 22) (.tmp 23) 22 33 (.agg #[(.int .u64 0), (.int .u64 0), (.bool false), (.string ⟨#[]⟩)]) 40 rfl Try.underlying22 info33 rfl (by decide) (by omega) v219 y218 l0 _ _ _ (fun k_ => k_ ≠ gb217) (fun _ => False) rfl rfl ?aO ?aR (fun _ _ h => h) (fun _ h => h.elim) ?aF ?aB ?aS ?aL ?_; (case aR => repeat (first | exact (Kd.C_below HR0.out HB.out) | (with_reducible refine Kd.C_alloc ?_ _) | (with_reducible refine Kd.C_drewN ?_ _) | (with_reducible refine Kd.C_drew ?_))); (case aB => exact (by repeat (first | (with_reducible first | exact HB.out | apply below_alloc | apply pw_below_drewN | apply below_drew1 | refine below_set ?_ GE217.out) | exact HB.out))); (case aF => exact (fun k_ hk => Kd.freshB (g := gb217) (o := .cells #[.int .u64 t212, .int .u64 t213, .bool t214, .string t215] 33 (0, 0)) (by (with_reducible repeat (first | refine blk_drewN ?_ _ | refine blk_drew ?_ | refine blk_alloc ?_ _)); exact BK217.out) k_ hk)); (case aO => exact (by (with_reducible repeat (first | apply Kd.R_alloc | apply Kd.R_drewN | apply Kd.R_drew)); exact Kd.R_mono HO220.out (fun _ hk => hk.2))); (case aS => exact (below_size (by repeat (first | (with_reducible first | exact HB.out | apply below_alloc | apply pw_below_drewN | apply below_drew1 | refine below_set ?_ GE217.out) | exact HB.out)))); (case aL => have := LMc8.out; omega); intro v222 w18 ho hb hg hat; rw [← Ny221.out] at ho; have n0_ := Aside0.mk (blk_grown (g := gb217) (o := .cells #[.int .u64 t212, .int .u64 t213, .bool t214, .string t215] 33 (0, 0)) (by (with_reducible repeat (first | refine blk_drewN ?_ _ | refine blk_drew ?_ | refine blk_alloc ?_ _)); exact BK217.out) hg (Kd.R_away HO220.out (fun _ hk => hk.2))); have n1_ := Aside0.mk (hb); have n2_ := Aside0.mk (ho); clear BK217; clear HB; clear HO220; have BK217 := n0_; have HB := n1_; have HO223 := n2_; clear n0_ n1_ n2_; clear ho hb hg hat) | ((with_reducible refine gate_callee (f := 40) rfl ?_); refine goesL_ (some 28) rfl rfl Try.func40 (by kernel_rfl) rfl #[.slice A0 l0.length c0, .int .u64 a1] rfl (by (try simp only [List.map_toArray, List.map_cons, List.map_nil]); first | done | rfl | (simp only [List.length_drop, List.length_take]; rfl)) ?_; (with_reducible refine (nautilusref09_place.calls k _ _ l0 a1 t224 _ ?side1 ?side2 A9.out).mono ?_); (case side1 => repeat (first | exact (Kd.C_below HR0.out HB.out) | (with_reducible refine Kd.C_alloc ?_ _) | (with_reducible refine Kd.C_drewN ?_ _) | (with_reducible refine Kd.C_drew ?_))); (case side2 => exact HC0.out); rintro e w' ⟨rfl, ⟨nd, rfl⟩⟩; refine ⟨_, rfl, ?_⟩; (try (rw [drewN_self w18]; generalize hq_ : World.drewN w18 _ = w18; have n0_ : Aside0 (Kd.R k33 33 w18 w.heap.size (fun k_ => k_ ≠ gb217) v222 y221) := ⟨by rw [← hq_]; exact (by (with_reducible repeat (first | apply Kd.R_alloc | apply Kd.R_drewN | apply Kd.R_drew)); exact HO223.out)⟩; have n1_ : Aside0 (w18.heap[gb217]? = some (.cells #[.int .u64 t212, .int .u64 t213, .bool t214, .string t215] 33 (0, 0))) := ⟨by rw [← hq_]; exact (by (with_reducible repeat (first | refine blk_drewN ?_ _ | refine blk_drew ?_ | refine blk_alloc ?_ _)); exact BK217.out)⟩; have n2_ : Aside0 (Below w.heap.size w w18) := ⟨by rw [← hq_]; exact (by repeat (first | (with_reducible first | exact HB.out | apply below_alloc | apply pw_below_drewN | apply below_drew1 | refine below_set ?_ GE217.out) | exact HB.out))⟩; clear HO223 BK217 HB hq_; have HO223 := n0_; have BK217 := n1_; have HB := n2_; clear n0_ n1_ n2_)); have p12 : 0 ≤ (t224 : Int) := of_decide_eq_true (by first | (with_reducible assumption) | assumption); have q12 : (t224 : Int) < ((y221.length : Int) : Int) := of_decide_eq_true (by first | (with_reducible assumption) | assumption); obtain ⟨go12, co12, eo12, gb12, gl12, cl12, HG12⟩ := Kd.R_form HO223.out (by omega); (first | cases eo12 | (injection eo12 with ea_ en_ ec_; (first | subst ea_ | (injection ea_ with ea_; subst ea_)); subst ec_; clear en_)); have GB12 := Aside0.mk gb12; have GG12 := Aside0.mk HG12; clear gb12 gl12 HG12; obtain ⟨ce12, hcl12, hM12, hcc12, hfr12⟩ := Kd.R_elem HO223.out z33 (t224 : Int) p12 q12; obtain rfl := k33_openM hM12; have hx12_0 : w18.cell? ⟨go12, (t224 : Int).toNat * 4, none⟩ = some (.int .u64 ((rd_T33 y221 t224).f0)) := hcc12 0 _ rfl; have hx12_1 : w18.cell? ⟨go12, (t224 : Int).toNat * 4 + 1, none⟩ = some (.int .u64 ((rd_T33 y221 t224).f1)) := hcc12 1 _ rfl; have hx12_2 : w18.cell? ⟨go12, (t224 : Int).toNat * 4 + 2, none⟩ = some (.bool ((rd_T33 y221 t224).f2)) := hcc12 2 _ rfl; have hx12_3 : w18.cell? ⟨go12, (t224 : Int).toNat * 4 + 3, none⟩ = some (.string ((rd_T33 y221 t224).f3)) := hcc12 3 _ rfl; have hf12_0 : w18.frozen? ⟨go12, (t224 : Int).toNat * 4, none⟩ = false := hfr12 0; have hf12_1 : w18.frozen? ⟨go12, (t224 : Int).toNat * 4 + 1, none⟩ = false := hfr12 1; have hf12_2 : w18.frozen? ⟨go12, (t224 : Int).toNat * 4 + 2, none⟩ = false := hfr12 2; have hf12_3 : w18.frozen? ⟨go12, (t224 : Int).toNat * 4 + 3, none⟩ = false := hfr12 3; clear hcl12 hcc12 hfr12 hM12; replace p12 := eq_true p12; replace q12 := eq_true q12; have HX19 := Aside0.mk (show Kd.R k33 33 w18 w.heap.size (fun k_ => k_ ≠ gb217) (.slice (some ⟨go12, 0, none⟩) y221.length co12) y221 from (by (with_reducible repeat (first | apply Kd.R_alloc | apply Kd.R_drewN | apply Kd.R_drew)); exact HO223.out)); obtain ⟨ce19, hcl19, hM19, hcc19, hfr19⟩ := Kd.R_elem HX19.out z33 (t224 : Int) (of_decide_eq_true (by first | (with_reducible assumption) | assumption)) (by have h_ : (t224 : Int) < ((y221.length : Int) : Int) := of_decide_eq_true (by first | (with_reducible assumption) | assumption); first | exact h_ | (have e_ := (Kd.R_reads' HO223.out).1; omega) | simpa using h_); obtain rfl := k33_openM hM19; have HP19 := Kd.R_seg HX19.out (t224 : Int) (of_decide_eq_true (by first | (with_reducible assumption) | assumption)) (by have h_ : (t224 : Int) < ((y221.length : Int) : Int) := of_decide_eq_true (by first | (with_reducible assumption) | assumption); first | exact h_ | (have e_ := (Kd.R_reads' HO223.out).1; omega) | simpa using h_) (seg := [.bool a2]) (j := 2) hcl19 hcc19 (show 3 ≤ 4 from by decide) (x' := (⟨(rd_T33 y221 t224).f0, (rd_T33 y221 t224).f1, a2, (rd_T33 y221 t224).f3⟩ : S33)) (k33_mkM _ _ _ (⟨(rd_T33 y221 t224).f0, (rd_T33 y221 t224).f1, a2, (rd_T33 y221 t224).f3⟩ : S33) ) (fun _ hk => hk); have hx19_2 := hcc19 2 _ rfl; (try simp only [show (k33).sz = 4 from rfl, Nat.mul_one, Nat.add_zero] at hx19_2); have hf19_2 := hfr19 2; (try simp only [show (k33).sz = 4 from rfl, Nat.mul_one, Nat.add_zero] at hf19_2); clear hcl19 hcc19 hfr19 hM19) | ((with_reducible refine gate_store (t := 4) (p := 31) rfl ?_); refine store_event (t := 4) (p := 31) (v := ?vo_w20) (w1 := (w18.setCell ⟨go12, (t224 : Int).toNat * 4 + 2, none⟩ (.bool a2))) ?hg ?ho ?hn ?hr ?_; (case ho => rfl); (case hg => rfl); (case hn => rfl); (case hr => first | (go_simp; done) | (go_simp; rfl)); intro w20 hw; have hg : w18.grownBy w20 (some go12) := (by rw [hw]; exact HP19.2); have hp_ : Kd.R k33 33 w20 w.heap.size (fun k_ => k_ ≠ gb217) (.slice (some ⟨go12, 0, none⟩) y221.length co12) y225 := (by rw [hw, Ny225.out]; exact HP19.1); clear HP19; have n0_ := Aside0.mk (blk_grown (g := gb217) (o := .cells #[.int .u64 t212, .int .u64 t213, .bool t214, .string t215] 33 (0, 0)) (by (with_reducible repeat (first | refine blk_drewN ?_ _ | refine blk_drew ?_ | refine blk_alloc ?_ _)); exact BK217.out) hg (Kd.R_away HO223.out (fun _ hk => hk))); have n1_ := Aside0.mk (hp_); have n2_ := Aside0.mk ((by rw [hw]; exact below_set (HB.out) GB12.out : Below w.heap.size w w20)); clear BK217; clear HO223; clear HB; have BK217 := n0_; have HO223 := n1_; have HB := n2_; clear n0_ n1_ n2_; clear hg hw hp_))
              go_ret2
              exact ⟨_, by first | rfl | (simp [errW_none, errW_some] <;> rfl) | (simp [*, errW_none, errW_some] <;> rfl), by (with_reducible repeat (first | apply Kd.R_alloc | apply Kd.R_drewN | apply Kd.R_drew)); exact Kd.R_mono HO223.out (fun _ hk => trivial), by repeat (first | (with_reducible first | exact HB.out | apply below_alloc | apply pw_below_drewN | apply below_drew1 | refine below_set ?_ GE217.out) | exact HB.out)⟩
            · rw [if_neg c11] at H
              exact absurd H (by simp)
          · rw [if_neg c10] at H
            exact absurd H (by simp)
        · rw [if_neg c8] at H
          exact absurd H (by simp)
      · rw [if_neg c7] at H
        exact absurd H (by simp)
    · rw [if_neg c6] at H
      exact absurd H (by simp)
  · rw [if_neg c5] at H
    have c5b0 : (t216 == 0) = false := beq_eq_false_iff_ne.mpr c5
    have c5b1 : (t216 != 0) = true := bne_iff_ne.mpr c5
    simp only [Option.some.injEq, Prod.mk.injEq] at H
    obtain ⟨rfl, rfl⟩ := H
    go_enter Try.func18, Try.ntmps18
    go_wp2_with (first | ((with_reducible refine gate_callee (f := 25) rfl ?_); refine goesL_ (some 14) rfl rfl Try.func25 (by kernel_rfl) rfl #[.slice A0 l0.length c0, .int .u64 a1] rfl (by (try simp only [List.map_toArray, List.map_cons, List.map_nil]); first | done | rfl | (simp only [List.length_drop, List.length_take]; rfl)) ?_; (with_reducible refine (nautilusref09_Find.calls k _ _ l0 a1 t212 t213 t214 t215 t216 _ ?side1 ?side2 A4.out).mono ?_); (case side1 => repeat (first | exact HR0.out | (with_reducible refine Kd.C_alloc ?_ _) | (with_reducible refine Kd.C_drewN ?_ _) | (with_reducible refine Kd.C_drew ?_))); (case side2 => exact HC0.out); rintro e w21 ⟨rfl, hb⟩; refine ⟨_, rfl, ?_⟩; have n0_ := Aside0.mk (below_step (by repeat (first | (with_reducible first | exact HB.out | apply below_alloc | apply pw_below_drewN | apply below_drew1) | exact HB.out)) hb); clear HB; have HB := n0_; clear n0_; (try clear hb); (try clear hb2); (try clear hk); (try clear hi)) | ((with_reducible refine gate_dst (N := 8) rfl ?_); refine box_event ?hg (N := 8) ?hd (cs := #[.int .u64 0, .int .u64 0, .bool false, .string (⟨#[]⟩ : ByteArray)]) (t := 33) ?hr ?_; (case hd => rfl); (case hg => rfl); (case hr => first | (go_simp; done) | (go_simp; rfl)); intro gb217 hg w22 hbox hb; have n0_ := Aside0.mk (below_step (by repeat (first | (with_reducible first | exact HB.out | apply below_alloc | apply pw_below_drewN | apply below_drew1) | exact HB.out)) hb); have n1_ := Aside0.mk (hbox); have n2_ := Aside0.mk ((by rw [hg]; exact (below_size (by repeat (first | (with_reducible first | exact HB.out | apply below_alloc | apply pw_below_drewN | apply below_drew1) | exact HB.out))) : w.heap.size ≤ gb217)); have n3_ := Aside0.mk ((by rw [hg]; exact (below_size (by repeat (first | (with_reducible first | exact HB.out | apply below_alloc | apply pw_below_drewN | apply below_drew1) | exact HB.out))) : w.heap.size ≤ gb217)); clear HB; have HB := n0_; have BK217 := n1_; have GW217 := n2_; have GE217 := n3_; clear n0_ n1_ n2_ n3_; clear hb hbox hg; have hcz23_0 : w22.cell? ⟨gb217, 0, none⟩ = some (.int .u64 0) := (blk_cell BK217.out 0).trans rfl; have hcz23_1 : w22.cell? ⟨gb217, 1, none⟩ = some (.int .u64 0) := (blk_cell BK217.out 1).trans rfl; have hcz23_2 : w22.cell? ⟨gb217, 2, none⟩ = some (.bool false) := (blk_cell BK217.out 2).trans rfl; have hcz23_3 : w22.cell? ⟨gb217, 3, none⟩ = some (.string (⟨#[]⟩ : ByteArray)) := (blk_cell BK217.out 3).trans rfl; have hfz23_0 := blk_frozen BK217.out 0; have hfz23_1 := blk_frozen BK217.out 1; have hfz23_2 := blk_frozen BK217.out 2; have hfz23_3 := blk_frozen BK217.out 3))
    go_ret2
    exact ⟨_, by first | rfl | (simp [errW_none, errW_some] <;> rfl) | (simp [*, errW_none, errW_some] <;> rfl), by first | exact Kd.R_nil _ _ _ _ _ | exact Kd.N_nil _ _ _ _ _ | exact Kd.V_nil _ _ _ _ _ | exact Kd.Q_nil _ _ _ _ _ | exact Kd.S_nil _ _ _ _ _, by repeat (first | (with_reducible first | exact HB.out | apply below_alloc | apply pw_below_drewN | apply below_drew1 | refine below_set ?_ GE217.out) | exact HB.out)⟩

/-! ### nautilusref09_without: function 41 -/
def nautilusref09_without.l0 : Nat → List (S33) → Int → List (S33) → Int → Option ((List (S33)))
  | 0, _, _, _, _ => none
  | k + 1, x0, x1, x5, x6 => if x6 < (x0.length : Int) then (if x6 = x1 then (nautilusref09_without.l0 k x0 x1 x5 (wrap64 (x6 + 1))) else (if 0 ≤ x6 then (if x5.length < 3518437208883 then (nautilusref09_without.l0 k x0 x1 (x5 ++ [(⟨(rd_T33 x0 x6).f0, (rd_T33 x0 x6).f1, (rd_T33 x0 x6).f2, (rd_T33 x0 x6).f3⟩ : S33)]) (wrap64 (x6 + 1))) else (none)) else (none))) else (some x5)
def nautilusref09_without.f (k : Nat) (l0 : List (S33)) (a1 : Int) : Option ((List (S33))) := nautilusref09_without.l0 k l0 a1 ([] : List (S33)) 0
theorem nautilusref09_without.mono_l : ∀ k, (∀ y0 y1 y2 y3, LeO (nautilusref09_without.l0 k y0 y1 y2 y3) (nautilusref09_without.l0 (k + 1) y0 y1 y2 y3))
  | 0 => fun _ _ _ _ r h => by simp [nautilusref09_without.l0] at h
  | k + 1 => by
    have ih0 := nautilusref09_without.mono_l k
    · intro y0 y1 y2 y3
      unfold nautilusref09_without.l0
      repeat' first
      | (with_reducible exact ih0 _ _ _ _)
      | (with_reducible exact LeO.refl _)
      | (with_reducible exact LeO.none _)
      | (with_reducible refine LeO.ite ?_ ?_)
      | (with_reducible refine LeO.bind ?_ (fun _ => ?_))
      | exact ih0 _ _ _ _
      | exact LeO.none _
      | refine LeO.ite ?_ ?_
      | refine LeO.bind ?_ (fun _ => ?_)
theorem nautilusref09_without.mono : ∀ a0 a1 k, LeO (nautilusref09_without.f k a0 a1) (nautilusref09_without.f (k + 1) a0 a1) := by
  intro a0 a1 k
  have ih0 := nautilusref09_without.mono_l k
  unfold nautilusref09_without.f
  repeat' first
      | (with_reducible exact ih0 _ _ _ _)
      | (with_reducible exact LeO.refl _)
      | (with_reducible exact LeO.none _)
      | (with_reducible refine LeO.ite ?_ ?_)
      | (with_reducible refine LeO.bind ?_ (fun _ => ?_))
      | exact ih0 _ _ _ _
      | exact LeO.none _
      | refine LeO.ite ?_ ?_
      | refine LeO.bind ?_ (fun _ => ?_)
set_option maxHeartbeats 8000000 in
set_option maxRecDepth 100000 in
theorem nautilusref09_without.calls (k : Nat) (A0 : Option Addr) (c0 : Nat) (l0 : List (S33)) (a1 : Int) (r : List (S33)) (w : World) (hr0 : Kd.C k33 w A0 l0.length l0) (hc0 : l0.length ≤ c0) (h : nautilusref09_without.f k l0 a1 = some r) :
    Calls Try.prog 41 #[.slice A0 l0.length c0, .int .i64 a1] w fun e w' => ∃ v0_ : Value, e = .returned (v0_) ∧ Kd.R k33 33 w' w.heap.size (fun _ => True) v0_ r ∧ Below w.heap.size w w' := by
  have hu33 := Try.underlying33
  have HR0 := Aside0.mk hr0
  have HC0 := Aside0.mk hc0
  clear hr0 hc0
  have HB := Aside0.mk (Below.refl w.heap.size w)
  have H : (nautilusref09_without.l0 k l0 a1 ([] : List (S33)) 0) = some r := h
  clear h
  have H' := Aside0.mk H
  clear H
  go_enter Try.func41, Try.ntmps41
  go_wp2
  go_loopg [5, 6] k (fun kq v5 v6 w' => ∃ (x5_1 : List (S33)) (x6_1 : Int), v6 = .int .i64 x6_1 ∧ Aside0 (nautilusref09_without.l0 kq l0 a1 x5_1 x6_1 = some r) ∧ Aside0 (kq ≤ k) ∧ Aside0 (Kd.R k33 33 w' w.heap.size (fun _ => True) v5 x5_1) ∧ Aside0 (Below w.heap.size w w'))
  case atStart => exact ⟨(([] : List (S33))), (0), (by first | rfl | (simp; done) | (simp [*]; done)), H', ⟨Nat.le_refl _⟩, ⟨by first | exact Kd.R_nil _ _ _ _ _ | exact Kd.N_nil _ _ _ _ _ | exact Kd.V_nil _ _ _ _ _ | exact Kd.Q_nil _ _ _ _ _ | exact Kd.S_nil _ _ _ _ _⟩, ⟨by repeat (first | (with_reducible first | exact HB.out | apply below_alloc | apply pw_below_drewN | apply below_drew1) | exact HB.out)⟩⟩
  case round =>
    clear H'
    try clear p2
    obtain ⟨x5_1, x6_1, rfl, HA, HK1, HO_5, HB⟩ := hrel
    cases gk with
    | zero => exact absurd HA.out (by simp [nautilusref09_without.l0])
    | succ k1 =>
      have H := HA.out
      clear HA
      simp only [nautilusref09_without.l0] at H
      by_cases c3 : x6_1 < (l0.length : Int)
      · rw [if_pos c3] at H
        have c3b0 : decide (x6_1 < (l0.length : Int)) = true := decide_eq_true c3
        clear c3
        by_cases c4 : x6_1 = a1
        · rw [if_pos c4] at H
          have c4b0 : (x6_1 == a1) = true := beq_iff_eq.mpr c4
          have c4b1 : (x6_1 != a1) = false := bne_eq_false_iff_eq.mpr c4
          clear c4
          have H' := Aside0.mk H
          clear H
          go_wp2
          go_roundg k1
          case measure => have := HK1.out; omega
          case rel => exact ⟨(x5_1), (wrap64 (x6_1 + 1)), (by first | rfl | (simp; done) | (simp [*]; done)), H', ⟨by have := HK1.out; omega⟩, ⟨by (with_reducible repeat (first | apply Kd.R_alloc | apply Kd.R_drewN | apply Kd.R_drew)); exact HO_5.out⟩, ⟨by repeat (first | (with_reducible first | exact HB.out | apply below_alloc | apply pw_below_drewN | apply below_drew1) | exact HB.out)⟩⟩
        · rw [if_neg c4] at H
          have c4b0 : (x6_1 == a1) = false := beq_eq_false_iff_ne.mpr c4
          have c4b1 : (x6_1 != a1) = true := bne_iff_ne.mpr c4
          by_cases c5 : 0 ≤ x6_1
          · rw [if_pos c5] at H
            have c5b0 : decide (0 ≤ x6_1) = true := decide_eq_true c5
            clear c5
            by_cases c6 : x5_1.length < 3518437208883
            · rw [if_pos c6] at H
              have LMc6 := Aside0.mk c6
              clear c6
              obtain ⟨y227, hy227⟩ : ∃ y_ : List (S33), y_ = (x5_1 ++ [(⟨(rd_T33 l0 x6_1).f0, (rd_T33 l0 x6_1).f1, (rd_T33 l0 x6_1).f2, (rd_T33 l0 x6_1).f3⟩ : S33)]) := ⟨_, rfl⟩
              replace H : (nautilusref09_without.l0 k1 l0 a1 y227 (wrap64 (x6_1 + 1))) = some r := by first | (rw [hy227]; with_reducible exact H) | (have H2_ := (Option.bind_some _ _).symm.trans H; rw [hy227]; with_reducible exact H2_) | (have H2_ := (Option.bind_some _ _).symm.trans H; with_reducible exact H2_) | with_reducible exact H | (rw [hy227]; exact H) | exact H
              have Ny227 := Aside0.mk hy227
              clear hy227
              have H' := Aside0.mk H
              clear H
              have p226 : 0 ≤ (x6_1 : Int) := of_decide_eq_true (by first | (with_reducible assumption) | assumption)
              have q226 : x6_1 < (l0.length : Int) := of_decide_eq_true (by first | (with_reducible assumption) | assumption)
              obtain ⟨ad226, e226, hx226_0, hx226_1, hx226_2, hx226_3⟩ := at_T33 HR0.out x6_1 p226 q226
              cases e226
              replace hx226_0 := (HB.out.cell (World.block_lt_of_cell? w _ hx226_0)).trans hx226_0
              replace hx226_1 := (HB.out.cell (World.block_lt_of_cell? w _ hx226_1)).trans hx226_1
              replace hx226_2 := (HB.out.cell (World.block_lt_of_cell? w _ hx226_2)).trans hx226_2
              replace hx226_3 := (HB.out.cell (World.block_lt_of_cell? w _ hx226_3)).trans hx226_3
              replace p226 := eq_true p226
              replace q226 := eq_true q226
              go_wp2_with (first | ((with_reducible refine gate_builtin (b := .append) (xs := #[.tmp 16, .tmp 21]) rfl ?_); at_builtin; refine Kd.R_append k33 (w0 := w) w.heap.size rfl (.tmp 16) (.tmp 21) 22 33 (.agg #[(.int .u64 0), (.int .u64 0), (.bool false), (.string ⟨#[]⟩)]) 40 rfl Try.underlying22 info33 rfl (by decide) (by omega) u5 x5_1 (⟨(rd_T33 l0 x6_1).f0, (rd_T33 l0 x6_1).f1, (rd_T33 l0 x6_1).f2, (rd_T33 l0 x6_1).f3⟩ : S33) [.int .u64 ((rd_T33 l0 x6_1).f0), .int .u64 ((rd_T33 l0 x6_1).f1), .bool ((rd_T33 l0 x6_1).f2), .string ((rd_T33 l0 x6_1).f3)] (fun _ => True) (fun _ => False) rfl rfl ?aP (fun _ hk => hk.elim) ?aF ?aO ?aB ?aS ?aL ?_; (case aP => exact k33_mkM _ _ _ (⟨(rd_T33 l0 x6_1).f0, (rd_T33 l0 x6_1).f1, (rd_T33 l0 x6_1).f2, (rd_T33 l0 x6_1).f3⟩ : S33)); (case aB => exact (by repeat (first | (with_reducible first | exact HB.out | apply below_alloc | apply pw_below_drewN | apply below_drew1) | exact HB.out))); (case aF => exact (fun _ _ => trivial)); (case aO => exact (by (with_reducible repeat (first | apply Kd.R_alloc | apply Kd.R_drewN | apply Kd.R_drew)); exact HO_5.out)); (case aS => exact (below_size (by repeat (first | (with_reducible first | exact HB.out | apply below_alloc | apply pw_below_drewN | apply below_drew1) | exact HB.out)))); (case aL => have := LMc6.out; omega); intro v228 w7 ho hb hg hat; rw [← Ny227.out] at ho; have n0_ := Aside0.mk (hb); have n1_ := Aside0.mk (ho); clear HB; clear HO_5; have HB := n0_; have HO229 := n1_; clear n0_ n1_; clear ho hb hg hat))
              go_roundg k1
              case measure => have := HK1.out; omega
              case rel => exact ⟨(y227), (wrap64 (x6_1 + 1)), (by first | rfl | (simp; done) | (simp [*]; done)), H', ⟨by have := HK1.out; omega⟩, ⟨by (with_reducible repeat (first | apply Kd.R_alloc | apply Kd.R_drewN | apply Kd.R_drew)); exact HO229.out⟩, ⟨by repeat (first | (with_reducible first | exact HB.out | apply below_alloc | apply pw_below_drewN | apply below_drew1) | exact HB.out)⟩⟩
            · rw [if_neg c6] at H
              exact absurd H (by simp)
          · rw [if_neg c5] at H
            exact absurd H (by simp)
      · rw [if_neg c3] at H
        have c3b0 : decide (x6_1 < (l0.length : Int)) = false := decide_eq_false c3
        clear c3
        obtain rfl := Option.some.inj H
        go_wp2
        go_ret
        exact ⟨_, by first | rfl | (simp [errW_none, errW_some] <;> rfl) | (simp [*, errW_none, errW_some] <;> rfl), by (with_reducible repeat (first | apply Kd.R_alloc | apply Kd.R_drewN | apply Kd.R_drew)); exact HO_5.out, by repeat (first | (with_reducible first | exact HB.out | apply below_alloc | apply pw_below_drewN | apply below_drew1) | exact HB.out)⟩

end Go.Proofs.Ytllcmalgahnnhaa.Q
