/- Functions of the translation as plain Lean functions, and that the translation computes them: printed by this session's driver of the print. -/
import Derived.Test.YtllcmalgahnnhaaQ0
import Derived.Test.YtllcmalgahnnhaaQ5
namespace Go.Proofs.Ytllcmalgahnnhaa.Q
open Go.Proofs.Ytllcmalgahnnhaa.H
open Go.RowKit Go.Proofs.YtllcmalgahnnhaaW.PrintWords Go.Proofs.YtllcmalgahnnhaaW.PrintLast Go.Proofs.YtllcmalgahnnhaaW.PrintMore
attribute [local go_sem] max2_int min2_int max_two min_two max_three min_three max_four min_four   -- for this text's walks alone
set_option linter.unusedVariables false
set_option linter.unusedSimpArgs false

/-! ### nautilusref09_Expire: function 20 -/
def nautilusref09_Expire.l0 : Nat → List (S33) → Int → Int → List (S33) → Int → Option ((List (S33)) × Int × Int)
  | 0, _, _, _, _, _ => none
  | k + 1, x0, x1, x2, x10, x11 => if x11 < (x0.length : Int) then (if 0 ≤ x11 then (if x1 > ((rd_T33 x0 x11).f1) then (if x11 = (wrap64 ((x0.length : Int) - 1)) then (if x10.length < 3518437208883 then (nautilusref09_Expire.l0 k x0 x1 x2 (x10 ++ [(⟨(rd_T33 x0 x11).f0, (rd_T33 x0 x11).f1, (rd_T33 x0 x11).f2, (rd_T33 x0 x11).f3⟩ : S33)]) (wrap64 (x11 + 1))) else (none)) else (if (rd_T33 x0 x11).f2 = true then (if x10.length < 3518437208883 then (nautilusref09_Expire.l0 k x0 x1 x2 (x10 ++ [(⟨(rd_T33 x0 x11).f0, (rd_T33 x0 x11).f1, (rd_T33 x0 x11).f2, (rd_T33 x0 x11).f3⟩ : S33)]) (wrap64 (x11 + 1))) else (none)) else (if ((IntKind.u64.wrap (x1 - ((rd_T33 x0 x11).f1))) > x2) then (nautilusref09_Expire.l0 k x0 x1 x2 x10 (wrap64 (x11 + 1))) else (if x10.length < 3518437208883 then (nautilusref09_Expire.l0 k x0 x1 x2 (x10 ++ [(⟨(rd_T33 x0 x11).f0, (rd_T33 x0 x11).f1, (rd_T33 x0 x11).f2, (rd_T33 x0 x11).f3⟩ : S33)]) (wrap64 (x11 + 1))) else (none))))) else (if x11 = (wrap64 ((x0.length : Int) - 1)) then (if x10.length < 3518437208883 then (nautilusref09_Expire.l0 k x0 x1 x2 (x10 ++ [(⟨(rd_T33 x0 x11).f0, (rd_T33 x0 x11).f1, (rd_T33 x0 x11).f2, (rd_T33 x0 x11).f3⟩ : S33)]) (wrap64 (x11 + 1))) else (none)) else (if (rd_T33 x0 x11).f2 = true then (if x10.length < 3518437208883 then (nautilusref09_Expire.l0 k x0 x1 x2 (x10 ++ [(⟨(rd_T33 x0 x11).f0, (rd_T33 x0 x11).f1, (rd_T33 x0 x11).f2, (rd_T33 x0 x11).f3⟩ : S33)]) (wrap64 (x11 + 1))) else (none)) else (if x10.length < 3518437208883 then (nautilusref09_Expire.l0 k x0 x1 x2 (x10 ++ [(⟨(rd_T33 x0 x11).f0, (rd_T33 x0 x11).f1, (rd_T33 x0 x11).f2, (rd_T33 x0 x11).f3⟩ : S33)]) (wrap64 (x11 + 1))) else (none))))) else (none)) else (some (x10, wrap64 ((x0.length : Int) - (x10.length : Int)), 0))
def nautilusref09_Expire.f (k : Nat) (l0 : List (S33)) (a1 : Int) (a2 : Int) : Option ((List (S33)) × Int × Int) := (nautilusref09_Right.f k l0).bind fun t240 => (if t240 = true then (nautilusref09_Expire.l0 k l0 a1 a2 ([] : List (S33)) 0) else (some (([] : List (S33)), 0, 90)))
theorem nautilusref09_Expire.mono_l : ∀ k, (∀ y0 y1 y2 y3 y4, LeO (nautilusref09_Expire.l0 k y0 y1 y2 y3 y4) (nautilusref09_Expire.l0 (k + 1) y0 y1 y2 y3 y4))
  | 0 => fun _ _ _ _ _ r h => by simp [nautilusref09_Expire.l0] at h
  | k + 1 => by
    have ih0 := nautilusref09_Expire.mono_l k
    · intro y0 y1 y2 y3 y4
      unfold nautilusref09_Expire.l0
      repeat' first
      | (with_reducible exact ih0 _ _ _ _ _)
      | (with_reducible exact nautilusref09_Right.mono _ _)
      | (with_reducible exact LeO.refl _)
      | (with_reducible exact LeO.none _)
      | (with_reducible refine LeO.ite ?_ ?_)
      | (with_reducible refine LeO.bind ?_ (fun _ => ?_))
      | exact ih0 _ _ _ _ _
      | exact nautilusref09_Right.mono _ _
      | exact LeO.none _
      | refine LeO.ite ?_ ?_
      | refine LeO.bind ?_ (fun _ => ?_)
theorem nautilusref09_Expire.mono : ∀ a0 a1 a2 k, LeO (nautilusref09_Expire.f k a0 a1 a2) (nautilusref09_Expire.f (k + 1) a0 a1 a2) := by
  intro a0 a1 a2 k
  have ih0 := nautilusref09_Expire.mono_l k
  unfold nautilusref09_Expire.f
  repeat' first
      | (with_reducible exact ih0 _ _ _ _ _)
      | (with_reducible exact nautilusref09_Right.mono _ _)
      | (with_reducible exact LeO.refl _)
      | (with_reducible exact LeO.none _)
      | (with_reducible refine LeO.ite ?_ ?_)
      | (with_reducible refine LeO.bind ?_ (fun _ => ?_))
      | exact ih0 _ _ _ _ _
      | exact nautilusref09_Right.mono _ _
      | exact LeO.none _
      | refine LeO.ite ?_ ?_
      | refine LeO.bind ?_ (fun _ => ?_)
set_option maxHeartbeats 8000000 in
set_option maxRecDepth 100000 in
theorem nautilusref09_Expire.calls (k : Nat) (A0 : Option Addr) (c0 : Nat) (l0 : List (S33)) (a1 : Int) (a2 : Int) (r1 : List (S33)) (r2 : Int) (r3 : Int) (w : World) (hr0 : Kd.C k33 w A0 l0.length l0) (hc0 : l0.length ≤ c0) (h : nautilusref09_Expire.f k l0 a1 a2 = some (r1, r2, r3)) :
    Calls Try.prog 20 #[.slice A0 l0.length c0, .int .u64 a1, .int .u64 a2] w fun e w' => ∃ v0_ : Value, e = .returned (.tuple #[v0_, .int .i64 r2, .int .i64 r3]) ∧ Kd.R k33 33 w' w.heap.size (fun _ => True) v0_ r1 ∧ Below w.heap.size w w' := by
  have hu33 := Try.underlying33
  have HR0 := Aside0.mk hr0
  have HC0 := Aside0.mk hc0
  clear hr0 hc0
  have HB := Aside0.mk (Below.refl w.heap.size w)
  have H : ((nautilusref09_Right.f k l0).bind fun t240 => (if t240 = true then (nautilusref09_Expire.l0 k l0 a1 a2 ([] : List (S33)) 0) else (some (([] : List (S33)), 0, 90)))) = some (r1, r2, r3) := h
  clear h
  replace H := Option.bind_eq_some_iff.mp H
  obtain ⟨t240, A40, H⟩ := H
  replace H : (if t240 = true then (nautilusref09_Expire.l0 k l0 a1 a2 ([] : List (S33)) 0) else (some (([] : List (S33)), 0, 90))) = some (r1, r2, r3) := H
  have A4 := Aside0.mk A40
  clear A40
  by_cases c5 : t240 = true
  · subst c5
    have H1 : (nautilusref09_Expire.l0 k l0 a1 a2 ([] : List (S33)) 0) = some (r1, r2, r3) := by rw [if_pos rfl] at H; exact H
    clear H
    have H := H1
    clear H1
    have H' := Aside0.mk H
    clear H
    go_enter Try.func20, Try.ntmps20
    go_wp2_with (first | ((with_reducible refine gate_callee (f := 26) rfl ?_); refine goesL_ (some 14) rfl rfl Try.func26 (by kernel_rfl) rfl #[.slice A0 l0.length c0] rfl (by (try simp only [List.map_toArray, List.map_cons, List.map_nil]); first | done | rfl | (simp only [List.length_drop, List.length_take]; rfl)) ?_; (with_reducible refine (nautilusref09_Right.calls k _ _ l0 true _ ?side1 ?side2 A4.out).mono ?_); (case side1 => repeat (first | exact HR0.out | (with_reducible refine Kd.C_alloc ?_ _) | (with_reducible refine Kd.C_drewN ?_ _) | (with_reducible refine Kd.C_drew ?_))); (case side2 => exact HC0.out); rintro e w' ⟨rfl, ⟨nd, rfl⟩⟩; refine ⟨_, rfl, ?_⟩))
    go_loopg [10, 11] k (fun kq v10 v11 w' => ∃ (x10_1 : List (S33)) (x11_1 : Int), v11 = .int .i64 x11_1 ∧ Aside0 (nautilusref09_Expire.l0 kq l0 a1 a2 x10_1 x11_1 = some (r1, r2, r3)) ∧ Aside0 (kq ≤ k) ∧ Aside0 (Kd.R k33 33 w' w.heap.size (fun _ => True) v10 x10_1) ∧ Aside0 (Below w.heap.size w w'))
    case atStart => exact ⟨(([] : List (S33))), (0), (by first | rfl | (simp; done) | (simp [*]; done)), H', ⟨Nat.le_refl _⟩, ⟨by first | exact Kd.R_nil _ _ _ _ _ | exact Kd.N_nil _ _ _ _ _ | exact Kd.V_nil _ _ _ _ _ | exact Kd.Q_nil _ _ _ _ _ | exact Kd.S_nil _ _ _ _ _⟩, ⟨by repeat (first | (with_reducible first | exact HB.out | apply below_alloc | apply pw_below_drewN | apply below_drew1) | exact HB.out)⟩⟩
    case round =>
      clear H'
      try clear c2
      try clear p2
      try clear c5
      obtain ⟨x10_1, x11_1, rfl, HA, HK1, HO_10, HB⟩ := hrel
      cases gk with
      | zero => exact absurd HA.out (by simp [nautilusref09_Expire.l0])
      | succ k1 =>
        have H := HA.out
        clear HA
        simp only [nautilusref09_Expire.l0] at H
        by_cases c6 : x11_1 < (l0.length : Int)
        · rw [if_pos c6] at H
          have c6b0 : decide (x11_1 < (l0.length : Int)) = true := decide_eq_true c6
          clear c6
          by_cases c7 : 0 ≤ x11_1
          · rw [if_pos c7] at H
            have c7b0 : decide (0 ≤ x11_1) = true := decide_eq_true c7
            clear c7
            by_cases c8 : a1 > ((rd_T33 l0 x11_1).f1)
            · rw [if_pos c8] at H
              have c8b0 : decide (((rd_T33 l0 x11_1).f1) < a1) = true := decide_eq_true c8
              clear c8
              by_cases c9 : x11_1 = (wrap64 ((l0.length : Int) - 1))
              · rw [if_pos c9] at H
                have c9b0 : (x11_1 == (wrap64 ((l0.length : Int) - 1))) = true := beq_iff_eq.mpr c9
                have c9b1 : (x11_1 != (wrap64 ((l0.length : Int) - 1))) = false := bne_eq_false_iff_eq.mpr c9
                clear c9
                by_cases c10 : x10_1.length < 3518437208883
                · rw [if_pos c10] at H
                  have LMc10 := Aside0.mk c10
                  clear c10
                  obtain ⟨y244, hy244⟩ : ∃ y_ : List (S33), y_ = (x10_1 ++ [(⟨(rd_T33 l0 x11_1).f0, (rd_T33 l0 x11_1).f1, (rd_T33 l0 x11_1).f2, (rd_T33 l0 x11_1).f3⟩ : S33)]) := ⟨_, rfl⟩
                  replace H : (nautilusref09_Expire.l0 k1 l0 a1 a2 y244 (wrap64 (x11_1 + 1))) = some (r1, r2, r3) := by first | (rw [hy244]; with_reducible exact H) | (have H2_ := (Option.bind_some _ _).symm.trans H; rw [hy244]; with_reducible exact H2_) | (have H2_ := (Option.bind_some _ _).symm.trans H; with_reducible exact H2_) | with_reducible exact H | (rw [hy244]; exact H) | exact H
                  have Ny244 := Aside0.mk hy244
                  clear hy244
                  have H' := Aside0.mk H
                  clear H
                  have p241 : 0 ≤ (x11_1 : Int) := of_decide_eq_true (by first | (with_reducible assumption) | assumption)
                  have q241 : x11_1 < (l0.length : Int) := of_decide_eq_true (by first | (with_reducible assumption) | assumption)
                  obtain ⟨ad241, e241, hx241_0, hx241_1, hx241_2, hx241_3⟩ := at_T33 HR0.out x11_1 p241 q241
                  cases e241
                  replace hx241_0 := (HB.out.cell (World.block_lt_of_cell? w _ hx241_0)).trans hx241_0
                  replace hx241_1 := (HB.out.cell (World.block_lt_of_cell? w _ hx241_1)).trans hx241_1
                  replace hx241_2 := (HB.out.cell (World.block_lt_of_cell? w _ hx241_2)).trans hx241_2
                  replace hx241_3 := (HB.out.cell (World.block_lt_of_cell? w _ hx241_3)).trans hx241_3
                  replace p241 := eq_true p241
                  replace q241 := eq_true q241
                  have p242 : 0 ≤ (x11_1 : Int) := of_decide_eq_true (by first | (with_reducible assumption) | assumption)
                  have q242 : x11_1 < (l0.length : Int) := of_decide_eq_true (by first | (with_reducible assumption) | assumption)
                  obtain ⟨ad242, e242, hx242_0, hx242_1, hx242_2, hx242_3⟩ := at_T33 HR0.out x11_1 p242 q242
                  obtain rfl : ad241 = ad242 := (by injection e242)
                  replace hx242_0 := (HB.out.cell (World.block_lt_of_cell? w _ hx242_0)).trans hx242_0
                  replace hx242_1 := (HB.out.cell (World.block_lt_of_cell? w _ hx242_1)).trans hx242_1
                  replace hx242_2 := (HB.out.cell (World.block_lt_of_cell? w _ hx242_2)).trans hx242_2
                  replace hx242_3 := (HB.out.cell (World.block_lt_of_cell? w _ hx242_3)).trans hx242_3
                  replace p242 := eq_true p242
                  replace q242 := eq_true q242
                  have p243 : 0 ≤ (x11_1 : Int) := of_decide_eq_true (by first | (with_reducible assumption) | assumption)
                  have q243 : x11_1 < (l0.length : Int) := of_decide_eq_true (by first | (with_reducible assumption) | assumption)
                  obtain ⟨ad243, e243, hx243_0, hx243_1, hx243_2, hx243_3⟩ := at_T33 HR0.out x11_1 p243 q243
                  obtain rfl : ad241 = ad243 := (by injection e243)
                  replace hx243_0 := (HB.out.cell (World.block_lt_of_cell? w _ hx243_0)).trans hx243_0
                  replace hx243_1 := (HB.out.cell (World.block_lt_of_cell? w _ hx243_1)).trans hx243_1
                  replace hx243_2 := (HB.out.cell (World.block_lt_of_cell? w _ hx243_2)).trans hx243_2
                  replace hx243_3 := (HB.out.cell (World.block_lt_of_cell? w _ hx243_3)).trans hx243_3
                  replace p243 := eq_true p243
                  replace q243 := eq_true q243
                  go_wp2_with (first | ((with_reducible refine gate_builtin (b := .append) (xs := #[.tmp 57, .tmp 62]) rfl ?_); at_builtin; refine Kd.R_append k33 (w0 := w) w.heap.size rfl (.tmp 57) (.tmp 62) 22 33 (.agg #[(.int .u64 0), (.int .u64 0), (.bool false), (.string ⟨#[]⟩)]) 40 rfl Try.underlying22 info33 rfl (by decide) (by omega) u10 x10_1 (⟨(rd_T33 l0 x11_1).f0, (rd_T33 l0 x11_1).f1, (rd_T33 l0 x11_1).f2, (rd_T33 l0 x11_1).f3⟩ : S33) [.int .u64 ((rd_T33 l0 x11_1).f0), .int .u64 ((rd_T33 l0 x11_1).f1), .bool ((rd_T33 l0 x11_1).f2), .string ((rd_T33 l0 x11_1).f3)] (fun _ => True) (fun _ => False) rfl rfl ?aP (fun _ hk => hk.elim) ?aF ?aO ?aB ?aS ?aL ?_; (case aP => exact k33_mkM _ _ _ (⟨(rd_T33 l0 x11_1).f0, (rd_T33 l0 x11_1).f1, (rd_T33 l0 x11_1).f2, (rd_T33 l0 x11_1).f3⟩ : S33)); (case aB => exact (by repeat (first | (with_reducible first | exact HB.out | apply below_alloc | apply pw_below_drewN | apply below_drew1) | exact HB.out))); (case aF => exact (fun _ _ => trivial)); (case aO => exact (by (with_reducible repeat (first | apply Kd.R_alloc | apply Kd.R_drewN | apply Kd.R_drew)); exact HO_10.out)); (case aS => exact (below_size (by repeat (first | (with_reducible first | exact HB.out | apply below_alloc | apply pw_below_drewN | apply below_drew1) | exact HB.out)))); (case aL => have := LMc10.out; omega); intro v245 w11 ho hb hg hat; rw [← Ny244.out] at ho; have n0_ := Aside0.mk (hb); have n1_ := Aside0.mk (ho); clear HB; clear HO_10; have HB := n0_; have HO246 := n1_; clear n0_ n1_; clear ho hb hg hat))
                  go_roundg k1
                  case measure => have := HK1.out; omega
                  case rel => exact ⟨(y244), (wrap64 (x11_1 + 1)), (by first | rfl | (simp; done) | (simp [*]; done)), H', ⟨by have := HK1.out; omega⟩, ⟨by (with_reducible repeat (first | apply Kd.R_alloc | apply Kd.R_drewN | apply Kd.R_drew)); exact HO246.out⟩, ⟨by repeat (first | (with_reducible first | exact HB.out | apply below_alloc | apply pw_below_drewN | apply below_drew1) | exact HB.out)⟩⟩
                · rw [if_neg c10] at H
                  exact absurd H (by simp)
              · rw [if_neg c9] at H
                have c9b0 : (x11_1 == (wrap64 ((l0.length : Int) - 1))) = false := beq_eq_false_iff_ne.mpr c9
                have c9b1 : (x11_1 != (wrap64 ((l0.length : Int) - 1))) = true := bne_iff_ne.mpr c9
                obtain ⟨bq12, hbq12⟩ : ∃ b_ : Bool, b_ = ((rd_T33 l0 x11_1).f2) := ⟨_, rfl⟩
                replace H : (if bq12 = true then (if x10_1.length < 3518437208883 then (nautilusref09_Expire.l0 k1 l0 a1 a2 (x10_1 ++ [(⟨(rd_T33 l0 x11_1).f0, (rd_T33 l0 x11_1).f1, bq12, (rd_T33 l0 x11_1).f3⟩ : S33)]) (wrap64 (x11_1 + 1))) else (none)) else (if ((IntKind.u64.wrap (a1 - ((rd_T33 l0 x11_1).f1))) > a2) then (nautilusref09_Expire.l0 k1 l0 a1 a2 x10_1 (wrap64 (x11_1 + 1))) else (if x10_1.length < 3518437208883 then (nautilusref09_Expire.l0 k1 l0 a1 a2 (x10_1 ++ [(⟨(rd_T33 l0 x11_1).f0, (rd_T33 l0 x11_1).f1, bq12, (rd_T33 l0 x11_1).f3⟩ : S33)]) (wrap64 (x11_1 + 1))) else (none)))) = some (r1, r2, r3) := by rw [← hbq12] at H; exact H
                have Nbq12 := Aside0.mk hbq12
                clear hbq12
                by_cases c13 : bq12 = true
                · subst c13
                  have H1 : (if x10_1.length < 3518437208883 then (nautilusref09_Expire.l0 k1 l0 a1 a2 (x10_1 ++ [(⟨(rd_T33 l0 x11_1).f0, (rd_T33 l0 x11_1).f1, true, (rd_T33 l0 x11_1).f3⟩ : S33)]) (wrap64 (x11_1 + 1))) else (none)) = some (r1, r2, r3) := by rw [if_pos rfl] at H; exact H
                  clear H
                  have H := H1
                  clear H1
                  by_cases c14 : x10_1.length < 3518437208883
                  · rw [if_pos c14] at H
                    have LMc14 := Aside0.mk c14
                    clear c14
                    obtain ⟨y249, hy249⟩ : ∃ y_ : List (S33), y_ = (x10_1 ++ [(⟨(rd_T33 l0 x11_1).f0, (rd_T33 l0 x11_1).f1, true, (rd_T33 l0 x11_1).f3⟩ : S33)]) := ⟨_, rfl⟩
                    replace H : (nautilusref09_Expire.l0 k1 l0 a1 a2 y249 (wrap64 (x11_1 + 1))) = some (r1, r2, r3) := by first | (rw [hy249]; with_reducible exact H) | (have H2_ := (Option.bind_some _ _).symm.trans H; rw [hy249]; with_reducible exact H2_) | (have H2_ := (Option.bind_some _ _).symm.trans H; with_reducible exact H2_) | with_reducible exact H | (rw [hy249]; exact H) | exact H
                    have Ny249 := Aside0.mk hy249
                    clear hy249
                    have H' := Aside0.mk H
                    clear H
                    have p241 : 0 ≤ (x11_1 : Int) := of_decide_eq_true (by first | (with_reducible assumption) | assumption)
                    have q241 : x11_1 < (l0.length : Int) := of_decide_eq_true (by first | (with_reducible assumption) | assumption)
                    obtain ⟨ad241, e241, hx241_0, hx241_1, hx241_2, hx241_3⟩ := at_T33 HR0.out x11_1 p241 q241
                    (try rw [← Nbq12.out] at hx241_2)
                    cases e241
                    replace hx241_0 := (HB.out.cell (World.block_lt_of_cell? w _ hx241_0)).trans hx241_0
                    replace hx241_1 := (HB.out.cell (World.block_lt_of_cell? w _ hx241_1)).trans hx241_1
                    replace hx241_2 := (HB.out.cell (World.block_lt_of_cell? w _ hx241_2)).trans hx241_2
                    replace hx241_3 := (HB.out.cell (World.block_lt_of_cell? w _ hx241_3)).trans hx241_3
                    replace p241 := eq_true p241
                    replace q241 := eq_true q241
                    have p242 : 0 ≤ (x11_1 : Int) := of_decide_eq_true (by first | (with_reducible assumption) | assumption)
                    have q242 : x11_1 < (l0.length : Int) := of_decide_eq_true (by first | (with_reducible assumption) | assumption)
                    obtain ⟨ad242, e242, hx242_0, hx242_1, hx242_2, hx242_3⟩ := at_T33 HR0.out x11_1 p242 q242
                    (try rw [← Nbq12.out] at hx242_2)
                    obtain rfl : ad241 = ad242 := (by injection e242)
                    replace hx242_0 := (HB.out.cell (World.block_lt_of_cell? w _ hx242_0)).trans hx242_0
                    replace hx242_1 := (HB.out.cell (World.block_lt_of_cell? w _ hx242_1)).trans hx242_1
                    replace hx242_2 := (HB.out.cell (World.block_lt_of_cell? w _ hx242_2)).trans hx242_2
                    replace hx242_3 := (HB.out.cell (World.block_lt_of_cell? w _ hx242_3)).trans hx242_3
                    replace p242 := eq_true p242
                    replace q242 := eq_true q242
                    have p247 : 0 ≤ (x11_1 : Int) := of_decide_eq_true (by first | (with_reducible assumption) | assumption)
                    have q247 : x11_1 < (l0.length : Int) := of_decide_eq_true (by first | (with_reducible assumption) | assumption)
                    obtain ⟨ad247, e247, hx247_0, hx247_1, hx247_2, hx247_3⟩ := at_T33 HR0.out x11_1 p247 q247
                    (try rw [← Nbq12.out] at hx247_2)
                    obtain rfl : ad241 = ad247 := (by injection e247)
                    replace hx247_0 := (HB.out.cell (World.block_lt_of_cell? w _ hx247_0)).trans hx247_0
                    replace hx247_1 := (HB.out.cell (World.block_lt_of_cell? w _ hx247_1)).trans hx247_1
                    replace hx247_2 := (HB.out.cell (World.block_lt_of_cell? w _ hx247_2)).trans hx247_2
                    replace hx247_3 := (HB.out.cell (World.block_lt_of_cell? w _ hx247_3)).trans hx247_3
                    replace p247 := eq_true p247
                    replace q247 := eq_true q247
                    have p248 : 0 ≤ (x11_1 : Int) := of_decide_eq_true (by first | (with_reducible assumption) | assumption)
                    have q248 : x11_1 < (l0.length : Int) := of_decide_eq_true (by first | (with_reducible assumption) | assumption)
                    obtain ⟨ad248, e248, hx248_0, hx248_1, hx248_2, hx248_3⟩ := at_T33 HR0.out x11_1 p248 q248
                    (try rw [← Nbq12.out] at hx248_2)
                    obtain rfl : ad241 = ad248 := (by injection e248)
                    replace hx248_0 := (HB.out.cell (World.block_lt_of_cell? w _ hx248_0)).trans hx248_0
                    replace hx248_1 := (HB.out.cell (World.block_lt_of_cell? w _ hx248_1)).trans hx248_1
                    replace hx248_2 := (HB.out.cell (World.block_lt_of_cell? w _ hx248_2)).trans hx248_2
                    replace hx248_3 := (HB.out.cell (World.block_lt_of_cell? w _ hx248_3)).trans hx248_3
                    replace p248 := eq_true p248
                    replace q248 := eq_true q248
                    go_wp2_with (first | ((with_reducible refine gate_builtin (b := .append) (xs := #[.tmp 57, .tmp 62]) rfl ?_); at_builtin; refine Kd.R_append k33 (w0 := w) w.heap.size rfl (.tmp 57) (.tmp 62) 22 33 (.agg #[(.int .u64 0), (.int .u64 0), (.bool false), (.string ⟨#[]⟩)]) 40 rfl Try.underlying22 info33 rfl (by decide) (by omega) u10 x10_1 (⟨(rd_T33 l0 x11_1).f0, (rd_T33 l0 x11_1).f1, true, (rd_T33 l0 x11_1).f3⟩ : S33) [.int .u64 ((rd_T33 l0 x11_1).f0), .int .u64 ((rd_T33 l0 x11_1).f1), .bool true, .string ((rd_T33 l0 x11_1).f3)] (fun _ => True) (fun _ => False) rfl rfl ?aP (fun _ hk => hk.elim) ?aF ?aO ?aB ?aS ?aL ?_; (case aP => exact k33_mkM _ _ _ (⟨(rd_T33 l0 x11_1).f0, (rd_T33 l0 x11_1).f1, true, (rd_T33 l0 x11_1).f3⟩ : S33)); (case aB => exact (by repeat (first | (with_reducible first | exact HB.out | apply below_alloc | apply pw_below_drewN | apply below_drew1) | exact HB.out))); (case aF => exact (fun _ _ => trivial)); (case aO => exact (by (with_reducible repeat (first | apply Kd.R_alloc | apply Kd.R_drewN | apply Kd.R_drew)); exact HO_10.out)); (case aS => exact (below_size (by repeat (first | (with_reducible first | exact HB.out | apply below_alloc | apply pw_below_drewN | apply below_drew1) | exact HB.out)))); (case aL => have := LMc14.out; omega); intro v250 w15 ho hb hg hat; rw [← Ny249.out] at ho; have n0_ := Aside0.mk (hb); have n1_ := Aside0.mk (ho); clear HB; clear HO_10; have HB := n0_; have HO251 := n1_; clear n0_ n1_; clear ho hb hg hat))
                    go_roundg k1
                    case measure => have := HK1.out; omega
                    case rel => exact ⟨(y249), (wrap64 (x11_1 + 1)), (by first | rfl | (simp; done) | (simp [*]; done)), H', ⟨by have := HK1.out; omega⟩, ⟨by (with_reducible repeat (first | apply Kd.R_alloc | apply Kd.R_drewN | apply Kd.R_drew)); exact HO251.out⟩, ⟨by repeat (first | (with_reducible first | exact HB.out | apply below_alloc | apply pw_below_drewN | apply below_drew1) | exact HB.out)⟩⟩
                  · rw [if_neg c14] at H
                    exact absurd H (by simp)
                · replace c13 := Bool.eq_false_iff.mpr c13
                  subst c13
                  have H1 : (if ((IntKind.u64.wrap (a1 - ((rd_T33 l0 x11_1).f1))) > a2) then (nautilusref09_Expire.l0 k1 l0 a1 a2 x10_1 (wrap64 (x11_1 + 1))) else (if x10_1.length < 3518437208883 then (nautilusref09_Expire.l0 k1 l0 a1 a2 (x10_1 ++ [(⟨(rd_T33 l0 x11_1).f0, (rd_T33 l0 x11_1).f1, false, (rd_T33 l0 x11_1).f3⟩ : S33)]) (wrap64 (x11_1 + 1))) else (none))) = some (r1, r2, r3) := by rw [if_neg (show ¬ (false = true) by decide)] at H; exact H
                  clear H
                  have H := H1
                  clear H1
                  by_cases c16 : ((IntKind.u64.wrap (a1 - ((rd_T33 l0 x11_1).f1))) > a2)
                  · rw [if_pos c16] at H
                    have c16b0 : decide (a2 < (IntKind.u64.wrap (a1 - ((rd_T33 l0 x11_1).f1)))) = true := decide_eq_true c16
                    clear c16
                    have H' := Aside0.mk H
                    clear H
                    have p241 : 0 ≤ (x11_1 : Int) := of_decide_eq_true (by first | (with_reducible assumption) | assumption)
                    have q241 : x11_1 < (l0.length : Int) := of_decide_eq_true (by first | (with_reducible assumption) | assumption)
                    obtain ⟨ad241, e241, hx241_0, hx241_1, hx241_2, hx241_3⟩ := at_T33 HR0.out x11_1 p241 q241
                    (try rw [← Nbq12.out] at hx241_2)
                    cases e241
                    replace hx241_0 := (HB.out.cell (World.block_lt_of_cell? w _ hx241_0)).trans hx241_0
                    replace hx241_1 := (HB.out.cell (World.block_lt_of_cell? w _ hx241_1)).trans hx241_1
                    replace hx241_2 := (HB.out.cell (World.block_lt_of_cell? w _ hx241_2)).trans hx241_2
                    replace hx241_3 := (HB.out.cell (World.block_lt_of_cell? w _ hx241_3)).trans hx241_3
                    replace p241 := eq_true p241
                    replace q241 := eq_true q241
                    have p242 : 0 ≤ (x11_1 : Int) := of_decide_eq_true (by first | (with_reducible assumption) | assumption)
                    have q242 : x11_1 < (l0.length : Int) := of_decide_eq_true (by first | (with_reducible assumption) | assumption)
                    obtain ⟨ad242, e242, hx242_0, hx242_1, hx242_2, hx242_3⟩ := at_T33 HR0.out x11_1 p242 q242
                    (try rw [← Nbq12.out] at hx242_2)
                    obtain rfl : ad241 = ad242 := (by injection e242)
                    replace hx242_0 := (HB.out.cell (World.block_lt_of_cell? w _ hx242_0)).trans hx242_0
                    replace hx242_1 := (HB.out.cell (World.block_lt_of_cell? w _ hx242_1)).trans hx242_1
                    replace hx242_2 := (HB.out.cell (World.block_lt_of_cell? w _ hx242_2)).trans hx242_2
                    replace hx242_3 := (HB.out.cell (World.block_lt_of_cell? w _ hx242_3)).trans hx242_3
                    replace p242 := eq_true p242
                    replace q242 := eq_true q242
                    have p247 : 0 ≤ (x11_1 : Int) := of_decide_eq_true (by first | (with_reducible assumption) | assumption)
                    have q247 : x11_1 < (l0.length : Int) := of_decide_eq_true (by first | (with_reducible assumption) | assumption)
                    obtain ⟨ad247, e247, hx247_0, hx247_1, hx247_2, hx247_3⟩ := at_T33 HR0.out x11_1 p247 q247
                    (try rw [← Nbq12.out] at hx247_2)
                    obtain rfl : ad241 = ad247 := (by injection e247)
                    replace hx247_0 := (HB.out.cell (World.block_lt_of_cell? w _ hx247_0)).trans hx247_0
                    replace hx247_1 := (HB.out.cell (World.block_lt_of_cell? w _ hx247_1)).trans hx247_1
                    replace hx247_2 := (HB.out.cell (World.block_lt_of_cell? w _ hx247_2)).trans hx247_2
                    replace hx247_3 := (HB.out.cell (World.block_lt_of_cell? w _ hx247_3)).trans hx247_3
                    replace p247 := eq_true p247
                    replace q247 := eq_true q247
                    go_wp2
                    go_roundg k1
                    case measure => have := HK1.out; omega
                    case rel => exact ⟨(x10_1), (wrap64 (x11_1 + 1)), (by first | rfl | (simp; done) | (simp [*]; done)), H', ⟨by have := HK1.out; omega⟩, ⟨by (with_reducible repeat (first | apply Kd.R_alloc | apply Kd.R_drewN | apply Kd.R_drew)); exact HO_10.out⟩, ⟨by repeat (first | (with_reducible first | exact HB.out | apply below_alloc | apply pw_below_drewN | apply below_drew1) | exact HB.out)⟩⟩
                  · rw [if_neg c16] at H
                    have c16b0 : decide (a2 < (IntKind.u64.wrap (a1 - ((rd_T33 l0 x11_1).f1)))) = false := decide_eq_false c16
                    clear c16
                    by_cases c17 : x10_1.length < 3518437208883
                    · rw [if_pos c17] at H
                      have LMc17 := Aside0.mk c17
                      clear c17
                      obtain ⟨y253, hy253⟩ : ∃ y_ : List (S33), y_ = (x10_1 ++ [(⟨(rd_T33 l0 x11_1).f0, (rd_T33 l0 x11_1).f1, false, (rd_T33 l0 x11_1).f3⟩ : S33)]) := ⟨_, rfl⟩
                      replace H : (nautilusref09_Expire.l0 k1 l0 a1 a2 y253 (wrap64 (x11_1 + 1))) = some (r1, r2, r3) := by first | (rw [hy253]; with_reducible exact H) | (have H2_ := (Option.bind_some _ _).symm.trans H; rw [hy253]; with_reducible exact H2_) | (have H2_ := (Option.bind_some _ _).symm.trans H; with_reducible exact H2_) | with_reducible exact H | (rw [hy253]; exact H) | exact H
                      have Ny253 := Aside0.mk hy253
                      clear hy253
                      have H' := Aside0.mk H
                      clear H
                      have p241 : 0 ≤ (x11_1 : Int) := of_decide_eq_true (by first | (with_reducible assumption) | assumption)
                      have q241 : x11_1 < (l0.length : Int) := of_decide_eq_true (by first | (with_reducible assumption) | assumption)
                      obtain ⟨ad241, e241, hx241_0, hx241_1, hx241_2, hx241_3⟩ := at_T33 HR0.out x11_1 p241 q241
                      (try rw [← Nbq12.out] at hx241_2)
                      cases e241
                      replace hx241_0 := (HB.out.cell (World.block_lt_of_cell? w _ hx241_0)).trans hx241_0
                      replace hx241_1 := (HB.out.cell (World.block_lt_of_cell? w _ hx241_1)).trans hx241_1
                      replace hx241_2 := (HB.out.cell (World.block_lt_of_cell? w _ hx241_2)).trans hx241_2
                      replace hx241_3 := (HB.out.cell (World.block_lt_of_cell? w _ hx241_3)).trans hx241_3
                      replace p241 := eq_true p241
                      replace q241 := eq_true q241
                      have p242 : 0 ≤ (x11_1 : Int) := of_decide_eq_true (by first | (with_reducible assumption) | assumption)
                      have q242 : x11_1 < (l0.length : Int) := of_decide_eq_true (by first | (with_reducible assumption) | assumption)
                      obtain ⟨ad242, e242, hx242_0, hx242_1, hx242_2, hx242_3⟩ := at_T33 HR0.out x11_1 p242 q242
                      (try rw [← Nbq12.out] at hx242_2)
                      obtain rfl : ad241 = ad242 := (by injection e242)
                      replace hx242_0 := (HB.out.cell (World.block_lt_of_cell? w _ hx242_0)).trans hx242_0
                      replace hx242_1 := (HB.out.cell (World.block_lt_of_cell? w _ hx242_1)).trans hx242_1
                      replace hx242_2 := (HB.out.cell (World.block_lt_of_cell? w _ hx242_2)).trans hx242_2
                      replace hx242_3 := (HB.out.cell (World.block_lt_of_cell? w _ hx242_3)).trans hx242_3
                      replace p242 := eq_true p242
                      replace q242 := eq_true q242
                      have p247 : 0 ≤ (x11_1 : Int) := of_decide_eq_true (by first | (with_reducible assumption) | assumption)
                      have q247 : x11_1 < (l0.length : Int) := of_decide_eq_true (by first | (with_reducible assumption) | assumption)
                      obtain ⟨ad247, e247, hx247_0, hx247_1, hx247_2, hx247_3⟩ := at_T33 HR0.out x11_1 p247 q247
                      (try rw [← Nbq12.out] at hx247_2)
                      obtain rfl : ad241 = ad247 := (by injection e247)
                      replace hx247_0 := (HB.out.cell (World.block_lt_of_cell? w _ hx247_0)).trans hx247_0
                      replace hx247_1 := (HB.out.cell (World.block_lt_of_cell? w _ hx247_1)).trans hx247_1
                      replace hx247_2 := (HB.out.cell (World.block_lt_of_cell? w _ hx247_2)).trans hx247_2
                      replace hx247_3 := (HB.out.cell (World.block_lt_of_cell? w _ hx247_3)).trans hx247_3
                      replace p247 := eq_true p247
                      replace q247 := eq_true q247
                      have p252 : 0 ≤ (x11_1 : Int) := of_decide_eq_true (by first | (with_reducible assumption) | assumption)
                      have q252 : x11_1 < (l0.length : Int) := of_decide_eq_true (by first | (with_reducible assumption) | assumption)
                      obtain ⟨ad252, e252, hx252_0, hx252_1, hx252_2, hx252_3⟩ := at_T33 HR0.out x11_1 p252 q252
                      (try rw [← Nbq12.out] at hx252_2)
                      obtain rfl : ad241 = ad252 := (by injection e252)
                      replace hx252_0 := (HB.out.cell (World.block_lt_of_cell? w _ hx252_0)).trans hx252_0
                      replace hx252_1 := (HB.out.cell (World.block_lt_of_cell? w _ hx252_1)).trans hx252_1
                      replace hx252_2 := (HB.out.cell (World.block_lt_of_cell? w _ hx252_2)).trans hx252_2
                      replace hx252_3 := (HB.out.cell (World.block_lt_of_cell? w _ hx252_3)).trans hx252_3
                      replace p252 := eq_true p252
                      replace q252 := eq_true q252
                      go_wp2_with (first | ((with_reducible refine gate_builtin (b := .append) (xs := #[.tmp 57, .tmp 62]) rfl ?_); at_builtin; refine Kd.R_append k33 (w0 := w) w.heap.size rfl (.tmp 57) (.tmp 62) 22 33 (.agg #[(.int .u64 0), (.int .u64 0), (.bool false), (.string ⟨#[]⟩)]) 40 rfl Try.underlying22 info33 rfl (by decide) (by omega) u10 x10_1 (⟨(rd_T33 l0 x11_1).f0, (rd_T33 l0 x11_1).f1, false, (rd_T33 l0 x11_1).f3⟩ : S33) [.int .u64 ((rd_T33 l0 x11_1).f0), .int .u64 ((rd_T33 l0 x11_1).f1), .bool false, .string ((rd_T33 l0 x11_1).f3)] (fun _ => True) (fun _ => False) rfl rfl ?aP (fun _ hk => hk.elim) ?aF ?aO ?aB ?aS ?aL ?_; (case aP => exact k33_mkM _ _ _ (⟨(rd_T33 l0 x11_1).f0, (rd_T33 l0 x11_1).f1, false, (rd_T33 l0 x11_1).f3⟩ : S33)); (case aB => exact (by repeat (first | (with_reducible first | exact HB.out | apply below_alloc | apply pw_below_drewN | apply below_drew1) | exact HB.out))); (case aF => exact (fun _ _ => trivial)); (case aO => exact (by (with_reducible repeat (first | apply Kd.R_alloc | apply Kd.R_drewN | apply Kd.R_drew)); exact HO_10.out)); (case aS => exact (below_size (by repeat (first | (with_reducible first | exact HB.out | apply below_alloc | apply pw_below_drewN | apply below_drew1) | exact HB.out)))); (case aL => have := LMc17.out; omega); intro v254 w18 ho hb hg hat; rw [← Ny253.out] at ho; have n0_ := Aside0.mk (hb); have n1_ := Aside0.mk (ho); clear HB; clear HO_10; have HB := n0_; have HO255 := n1_; clear n0_ n1_; clear ho hb hg hat))
                      go_roundg k1
                      case measure => have := HK1.out; omega
                      case rel => exact ⟨(y253), (wrap64 (x11_1 + 1)), (by first | rfl | (simp; done) | (simp [*]; done)), H', ⟨by have := HK1.out; omega⟩, ⟨by (with_reducible repeat (first | apply Kd.R_alloc | apply Kd.R_drewN | apply Kd.R_drew)); exact HO255.out⟩, ⟨by repeat (first | (with_reducible first | exact HB.out | apply below_alloc | apply pw_below_drewN | apply below_drew1) | exact HB.out)⟩⟩
                    · rw [if_neg c17] at H
                      exact absurd H (by simp)
            · rw [if_neg c8] at H
              have c8b0 : decide (((rd_T33 l0 x11_1).f1) < a1) = false := decide_eq_false c8
              clear c8
              by_cases c19 : x11_1 = (wrap64 ((l0.length : Int) - 1))
              · rw [if_pos c19] at H
                have c19b0 : (x11_1 == (wrap64 ((l0.length : Int) - 1))) = true := beq_iff_eq.mpr c19
                have c19b1 : (x11_1 != (wrap64 ((l0.length : Int) - 1))) = false := bne_eq_false_iff_eq.mpr c19
                clear c19
                by_cases c20 : x10_1.length < 3518437208883
                · rw [if_pos c20] at H
                  have LMc20 := Aside0.mk c20
                  clear c20
                  obtain ⟨y257, hy257⟩ : ∃ y_ : List (S33), y_ = (x10_1 ++ [(⟨(rd_T33 l0 x11_1).f0, (rd_T33 l0 x11_1).f1, (rd_T33 l0 x11_1).f2, (rd_T33 l0 x11_1).f3⟩ : S33)]) := ⟨_, rfl⟩
                  replace H : (nautilusref09_Expire.l0 k1 l0 a1 a2 y257 (wrap64 (x11_1 + 1))) = some (r1, r2, r3) := by first | (rw [hy257]; with_reducible exact H) | (have H2_ := (Option.bind_some _ _).symm.trans H; rw [hy257]; with_reducible exact H2_) | (have H2_ := (Option.bind_some _ _).symm.trans H; with_reducible exact H2_) | with_reducible exact H | (rw [hy257]; exact H) | exact H
                  have Ny257 := Aside0.mk hy257
                  clear hy257
                  have H' := Aside0.mk H
                  clear H
                  have p241 : 0 ≤ (x11_1 : Int) := of_decide_eq_true (by first | (with_reducible assumption) | assumption)
                  have q241 : x11_1 < (l0.length : Int) := of_decide_eq_true (by first | (with_reducible assumption) | assumption)
                  obtain ⟨ad241, e241, hx241_0, hx241_1, hx241_2, hx241_3⟩ := at_T33 HR0.out x11_1 p241 q241
                  cases e241
                  replace hx241_0 := (HB.out.cell (World.block_lt_of_cell? w _ hx241_0)).trans hx241_0
                  replace hx241_1 := (HB.out.cell (World.block_lt_of_cell? w _ hx241_1)).trans hx241_1
                  replace hx241_2 := (HB.out.cell (World.block_lt_of_cell? w _ hx241_2)).trans hx241_2
                  replace hx241_3 := (HB.out.cell (World.block_lt_of_cell? w _ hx241_3)).trans hx241_3
                  replace p241 := eq_true p241
                  replace q241 := eq_true q241
                  have p256 : 0 ≤ (x11_1 : Int) := of_decide_eq_true (by first | (with_reducible assumption) | assumption)
                  have q256 : x11_1 < (l0.length : Int) := of_decide_eq_true (by first | (with_reducible assumption) | assumption)
                  obtain ⟨ad256, e256, hx256_0, hx256_1, hx256_2, hx256_3⟩ := at_T33 HR0.out x11_1 p256 q256
                  obtain rfl : ad241 = ad256 := (by injection e256)
                  replace hx256_0 := (HB.out.cell (World.block_lt_of_cell? w _ hx256_0)).trans hx256_0
                  replace hx256_1 := (HB.out.cell (World.block_lt_of_cell? w _ hx256_1)).trans hx256_1
                  replace hx256_2 := (HB.out.cell (World.block_lt_of_cell? w _ hx256_2)).trans hx256_2
                  replace hx256_3 := (HB.out.cell (World.block_lt_of_cell? w _ hx256_3)).trans hx256_3
                  replace p256 := eq_true p256
                  replace q256 := eq_true q256
                  go_wp2_with (first | ((with_reducible refine gate_builtin (b := .append) (xs := #[.tmp 57, .tmp 62]) rfl ?_); at_builtin; refine Kd.R_append k33 (w0 := w) w.heap.size rfl (.tmp 57) (.tmp 62) 22 33 (.agg #[(.int .u64 0), (.int .u64 0), (.bool false), (.string ⟨#[]⟩)]) 40 rfl Try.underlying22 info33 rfl (by decide) (by omega) u10 x10_1 (⟨(rd_T33 l0 x11_1).f0, (rd_T33 l0 x11_1).f1, (rd_T33 l0 x11_1).f2, (rd_T33 l0 x11_1).f3⟩ : S33) [.int .u64 ((rd_T33 l0 x11_1).f0), .int .u64 ((rd_T33 l0 x11_1).f1), .bool ((rd_T33 l0 x11_1).f2), .string ((rd_T33 l0 x11_1).f3)] (fun _ => True) (fun _ => False) rfl rfl ?aP (fun _ hk => hk.elim) ?aF ?aO ?aB ?aS ?aL ?_; (case aP => exact k33_mkM _ _ _ (⟨(rd_T33 l0 x11_1).f0, (rd_T33 l0 x11_1).f1, (rd_T33 l0 x11_1).f2, (rd_T33 l0 x11_1).f3⟩ : S33)); (case aB => exact (by repeat (first | (with_reducible first | exact HB.out | apply below_alloc | apply pw_below_drewN | apply below_drew1) | exact HB.out))); (case aF => exact (fun _ _ => trivial)); (case aO => exact (by (with_reducible repeat (first | apply Kd.R_alloc | apply Kd.R_drewN | apply Kd.R_drew)); exact HO_10.out)); (case aS => exact (below_size (by repeat (first | (with_reducible first | exact HB.out | apply below_alloc | apply pw_below_drewN | apply below_drew1) | exact HB.out)))); (case aL => have := LMc20.out; omega); intro v258 w21 ho hb hg hat; rw [← Ny257.out] at ho; have n0_ := Aside0.mk (hb); have n1_ := Aside0.mk (ho); clear HB; clear HO_10; have HB := n0_; have HO259 := n1_; clear n0_ n1_; clear ho hb hg hat))
                  go_roundg k1
                  case measure => have := HK1.out; omega
                  case rel => exact ⟨(y257), (wrap64 (x11_1 + 1)), (by first | rfl | (simp; done) | (simp [*]; done)), H', ⟨by have := HK1.out; omega⟩, ⟨by (with_reducible repeat (first | apply Kd.R_alloc | apply Kd.R_drewN | apply Kd.R_drew)); exact HO259.out⟩, ⟨by repeat (first | (with_reducible first | exact HB.out | apply below_alloc | apply pw_below_drewN | apply below_drew1) | exact HB.out)⟩⟩
                · rw [if_neg c20] at H
                  exact absurd H (by simp)
              · rw [if_neg c19] at H
                have c19b0 : (x11_1 == (wrap64 ((l0.length : Int) - 1))) = false := beq_eq_false_iff_ne.mpr c19
                have c19b1 : (x11_1 != (wrap64 ((l0.length : Int) - 1))) = true := bne_iff_ne.mpr c19
                obtain ⟨bq22, hbq22⟩ : ∃ b_ : Bool, b_ = ((rd_T33 l0 x11_1).f2) := ⟨_, rfl⟩
                replace H : (if bq22 = true then (if x10_1.length < 3518437208883 then (nautilusref09_Expire.l0 k1 l0 a1 a2 (x10_1 ++ [(⟨(rd_T33 l0 x11_1).f0, (rd_T33 l0 x11_1).f1, bq22, (rd_T33 l0 x11_1).f3⟩ : S33)]) (wrap64 (x11_1 + 1))) else (none)) else (if x10_1.length < 3518437208883 then (nautilusref09_Expire.l0 k1 l0 a1 a2 (x10_1 ++ [(⟨(rd_T33 l0 x11_1).f0, (rd_T33 l0 x11_1).f1, bq22, (rd_T33 l0 x11_1).f3⟩ : S33)]) (wrap64 (x11_1 + 1))) else (none))) = some (r1, r2, r3) := by rw [← hbq22] at H; exact H
                have Nbq22 := Aside0.mk hbq22
                clear hbq22
                by_cases c23 : bq22 = true
                · subst c23
                  have H1 : (if x10_1.length < 3518437208883 then (nautilusref09_Expire.l0 k1 l0 a1 a2 (x10_1 ++ [(⟨(rd_T33 l0 x11_1).f0, (rd_T33 l0 x11_1).f1, true, (rd_T33 l0 x11_1).f3⟩ : S33)]) (wrap64 (x11_1 + 1))) else (none)) = some (r1, r2, r3) := by rw [if_pos rfl] at H; exact H
                  clear H
                  have H := H1
                  clear H1
                  by_cases c24 : x10_1.length < 3518437208883
                  · rw [if_pos c24] at H
                    have LMc24 := Aside0.mk c24
                    clear c24
                    obtain ⟨y262, hy262⟩ : ∃ y_ : List (S33), y_ = (x10_1 ++ [(⟨(rd_T33 l0 x11_1).f0, (rd_T33 l0 x11_1).f1, true, (rd_T33 l0 x11_1).f3⟩ : S33)]) := ⟨_, rfl⟩
                    replace H : (nautilusref09_Expire.l0 k1 l0 a1 a2 y262 (wrap64 (x11_1 + 1))) = some (r1, r2, r3) := by first | (rw [hy262]; with_reducible exact H) | (have H2_ := (Option.bind_some _ _).symm.trans H; rw [hy262]; with_reducible exact H2_) | (have H2_ := (Option.bind_some _ _).symm.trans H; with_reducible exact H2_) | with_reducible exact H | (rw [hy262]; exact H) | exact H
                    have Ny262 := Aside0.mk hy262
                    clear hy262
                    have H' := Aside0.mk H
                    clear H
                    have p241 : 0 ≤ (x11_1 : Int) := of_decide_eq_true (by first | (with_reducible assumption) | assumption)
                    have q241 : x11_1 < (l0.length : Int) := of_decide_eq_true (by first | (with_reducible assumption) | assumption)
                    obtain ⟨ad241, e241, hx241_0, hx241_1, hx241_2, hx241_3⟩ := at_T33 HR0.out x11_1 p241 q241
                    (try rw [← Nbq22.out] at hx241_2)
                    cases e241
                    replace hx241_0 := (HB.out.cell (World.block_lt_of_cell? w _ hx241_0)).trans hx241_0
                    replace hx241_1 := (HB.out.cell (World.block_lt_of_cell? w _ hx241_1)).trans hx241_1
                    replace hx241_2 := (HB.out.cell (World.block_lt_of_cell? w _ hx241_2)).trans hx241_2
                    replace hx241_3 := (HB.out.cell (World.block_lt_of_cell? w _ hx241_3)).trans hx241_3
                    replace p241 := eq_true p241
                    replace q241 := eq_true q241
                    have p260 : 0 ≤ (x11_1 : Int) := of_decide_eq_true (by first | (with_reducible assumption) | assumption)
                    have q260 : x11_1 < (l0.length : Int) := of_decide_eq_true (by first | (with_reducible assumption) | assumption)
                    obtain ⟨ad260, e260, hx260_0, hx260_1, hx260_2, hx260_3⟩ := at_T33 HR0.out x11_1 p260 q260
                    (try rw [← Nbq22.out] at hx260_2)
                    obtain rfl : ad241 = ad260 := (by injection e260)
                    replace hx260_0 := (HB.out.cell (World.block_lt_of_cell? w _ hx260_0)).trans hx260_0
                    replace hx260_1 := (HB.out.cell (World.block_lt_of_cell? w _ hx260_1)).trans hx260_1
                    replace hx260_2 := (HB.out.cell (World.block_lt_of_cell? w _ hx260_2)).trans hx260_2
                    replace hx260_3 := (HB.out.cell (World.block_lt_of_cell? w _ hx260_3)).trans hx260_3
                    replace p260 := eq_true p260
                    replace q260 := eq_true q260
                    have p261 : 0 ≤ (x11_1 : Int) := of_decide_eq_true (by first | (with_reducible assumption) | assumption)
                    have q261 : x11_1 < (l0.length : Int) := of_decide_eq_true (by first | (with_reducible assumption) | assumption)
                    obtain ⟨ad261, e261, hx261_0, hx261_1, hx261_2, hx261_3⟩ := at_T33 HR0.out x11_1 p261 q261
                    (try rw [← Nbq22.out] at hx261_2)
                    obtain rfl : ad241 = ad261 := (by injection e261)
                    replace hx261_0 := (HB.out.cell (World.block_lt_of_cell? w _ hx261_0)).trans hx261_0
                    replace hx261_1 := (HB.out.cell (World.block_lt_of_cell? w _ hx261_1)).trans hx261_1
                    replace hx261_2 := (HB.out.cell (World.block_lt_of_cell? w _ hx261_2)).trans hx261_2
                    replace hx261_3 := (HB.out.cell (World.block_lt_of_cell? w _ hx261_3)).trans hx261_3
                    replace p261 := eq_true p261
                    replace q261 := eq_true q261
                    go_wp2_with (first | ((with_reducible refine gate_builtin (b := .append) (xs := #[.tmp 57, .tmp 62]) rfl ?_); at_builtin; refine Kd.R_append k33 (w0 := w) w.heap.size rfl (.tmp 57) (.tmp 62) 22 33 (.agg #[(.int .u64 0), (.int .u64 0), (.bool false), (.string ⟨#[]⟩)]) 40 rfl Try.underlying22 info33 rfl (by decide) (by omega) u10 x10_1 (⟨(rd_T33 l0 x11_1).f0, (rd_T33 l0 x11_1).f1, true, (rd_T33 l0 x11_1).f3⟩ : S33) [.int .u64 ((rd_T33 l0 x11_1).f0), .int .u64 ((rd_T33 l0 x11_1).f1), .bool true, .string ((rd_T33 l0 x11_1).f3)] (fun _ => True) (fun _ => False) rfl rfl ?aP (fun _ hk => hk.elim) ?aF ?aO ?aB ?aS ?aL ?_; (case aP => exact k33_mkM _ _ _ (⟨(rd_T33 l0 x11_1).f0, (rd_T33 l0 x11_1).f1, true, (rd_T33 l0 x11_1).f3⟩ : S33)); (case aB => exact (by repeat (first | (with_reducible first | exact HB.out | apply below_alloc | apply pw_below_drewN | apply below_drew1) | exact HB.out))); (case aF => exact (fun _ _ => trivial)); (case aO => exact (by (with_reducible repeat (first | apply Kd.R_alloc | apply Kd.R_drewN | apply Kd.R_drew)); exact HO_10.out)); (case aS => exact (below_size (by repeat (first | (with_reducible first | exact HB.out | apply below_alloc | apply pw_below_drewN | apply below_drew1) | exact HB.out)))); (case aL => have := LMc24.out; omega); intro v263 w25 ho hb hg hat; rw [← Ny262.out] at ho; have n0_ := Aside0.mk (hb); have n1_ := Aside0.mk (ho); clear HB; clear HO_10; have HB := n0_; have HO264 := n1_; clear n0_ n1_; clear ho hb hg hat))
                    go_roundg k1
                    case measure => have := HK1.out; omega
                    case rel => exact ⟨(y262), (wrap64 (x11_1 + 1)), (by first | rfl | (simp; done) | (simp [*]; done)), H', ⟨by have := HK1.out; omega⟩, ⟨by (with_reducible repeat (first | apply Kd.R_alloc | apply Kd.R_drewN | apply Kd.R_drew)); exact HO264.out⟩, ⟨by repeat (first | (with_reducible first | exact HB.out | apply below_alloc | apply pw_below_drewN | apply below_drew1) | exact HB.out)⟩⟩
                  · rw [if_neg c24] at H
                    exact absurd H (by simp)
                · replace c23 := Bool.eq_false_iff.mpr c23
                  subst c23
                  have H1 : (if x10_1.length < 3518437208883 then (nautilusref09_Expire.l0 k1 l0 a1 a2 (x10_1 ++ [(⟨(rd_T33 l0 x11_1).f0, (rd_T33 l0 x11_1).f1, false, (rd_T33 l0 x11_1).f3⟩ : S33)]) (wrap64 (x11_1 + 1))) else (none)) = some (r1, r2, r3) := by rw [if_neg (show ¬ (false = true) by decide)] at H; exact H
                  clear H
                  have H := H1
                  clear H1
                  by_cases c26 : x10_1.length < 3518437208883
                  · rw [if_pos c26] at H
                    have LMc26 := Aside0.mk c26
                    clear c26
                    obtain ⟨y266, hy266⟩ : ∃ y_ : List (S33), y_ = (x10_1 ++ [(⟨(rd_T33 l0 x11_1).f0, (rd_T33 l0 x11_1).f1, false, (rd_T33 l0 x11_1).f3⟩ : S33)]) := ⟨_, rfl⟩
                    replace H : (nautilusref09_Expire.l0 k1 l0 a1 a2 y266 (wrap64 (x11_1 + 1))) = some (r1, r2, r3) := by first | (rw [hy266]; with_reducible exact H) | (have H2_ := (Option.bind_some _ _).symm.trans H; rw [hy266]; with_reducible exact H2_) | (have H2_ := (Option.bind_some _ _).symm.trans H; with_reducible exact H2_) | with_reducible exact H | (rw [hy266]; exact H) | exact H
                    have Ny266 := Aside0.mk hy266
                    clear hy266
                    have H' := Aside0.mk H
                    clear H
                    have p241 : 0 ≤ (x11_1 : Int) := of_decide_eq_true (by first | (with_reducible assumption) | assumption)
                    have q241 : x11_1 < (l0.length : Int) := of_decide_eq_true (by first | (with_reducible assumption) | assumption)
                    obtain ⟨ad241, e241, hx241_0, hx241_1, hx241_2, hx241_3⟩ := at_T33 HR0.out x11_1 p241 q241
                    (try rw [← Nbq22.out] at hx241_2)
                    cases e241
                    replace hx241_0 := (HB.out.cell (World.block_lt_of_cell? w _ hx241_0)).trans hx241_0
                    replace hx241_1 := (HB.out.cell (World.block_lt_of_cell? w _ hx241_1)).trans hx241_1
                    replace hx241_2 := (HB.out.cell (World.block_lt_of_cell? w _ hx241_2)).trans hx241_2
                    replace hx241_3 := (HB.out.cell (World.block_lt_of_cell? w _ hx241_3)).trans hx241_3
                    replace p241 := eq_true p241
                    replace q241 := eq_true q241
                    have p260 : 0 ≤ (x11_1 : Int) := of_decide_eq_true (by first | (with_reducible assumption) | assumption)
                    have q260 : x11_1 < (l0.length : Int) := of_decide_eq_true (by first | (with_reducible assumption) | assumption)
                    obtain ⟨ad260, e260, hx260_0, hx260_1, hx260_2, hx260_3⟩ := at_T33 HR0.out x11_1 p260 q260
                    (try rw [← Nbq22.out] at hx260_2)
                    obtain rfl : ad241 = ad260 := (by injection e260)
                    replace hx260_0 := (HB.out.cell (World.block_lt_of_cell? w _ hx260_0)).trans hx260_0
                    replace hx260_1 := (HB.out.cell (World.block_lt_of_cell? w _ hx260_1)).trans hx260_1
                    replace hx260_2 := (HB.out.cell (World.block_lt_of_cell? w _ hx260_2)).trans hx260_2
                    replace hx260_3 := (HB.out.cell (World.block_lt_of_cell? w _ hx260_3)).trans hx260_3
                    replace p260 := eq_true p260
                    replace q260 := eq_true q260
                    have p265 : 0 ≤ (x11_1 : Int) := of_decide_eq_true (by first | (with_reducible assumption) | assumption)
                    have q265 : x11_1 < (l0.length : Int) := of_decide_eq_true (by first | (with_reducible assumption) | assumption)
                    obtain ⟨ad265, e265, hx265_0, hx265_1, hx265_2, hx265_3⟩ := at_T33 HR0.out x11_1 p265 q265
                    (try rw [← Nbq22.out] at hx265_2)
                    obtain rfl : ad241 = ad265 := (by injection e265)
                    replace hx265_0 := (HB.out.cell (World.block_lt_of_cell? w _ hx265_0)).trans hx265_0
                    replace hx265_1 := (HB.out.cell (World.block_lt_of_cell? w _ hx265_1)).trans hx265_1
                    replace hx265_2 := (HB.out.cell (World.block_lt_of_cell? w _ hx265_2)).trans hx265_2
                    replace hx265_3 := (HB.out.cell (World.block_lt_of_cell? w _ hx265_3)).trans hx265_3
                    replace p265 := eq_true p265
                    replace q265 := eq_true q265
                    go_wp2_with (first | ((with_reducible refine gate_builtin (b := .append) (xs := #[.tmp 57, .tmp 62]) rfl ?_); at_builtin; refine Kd.R_append k33 (w0 := w) w.heap.size rfl (.tmp 57) (.tmp 62) 22 33 (.agg #[(.int .u64 0), (.int .u64 0), (.bool false), (.string ⟨#[]⟩)]) 40 rfl Try.underlying22 info33 rfl (by decide) (by omega) u10 x10_1 (⟨(rd_T33 l0 x11_1).f0, (rd_T33 l0 x11_1).f1, false, (rd_T33 l0 x11_1).f3⟩ : S33) [.int .u64 ((rd_T33 l0 x11_1).f0), .int .u64 ((rd_T33 l0 x11_1).f1), .bool false, .string ((rd_T33 l0 x11_1).f3)] (fun _ => True) (fun _ => False) rfl rfl ?aP (fun _ hk => hk.elim) ?aF ?aO ?aB ?aS ?aL ?_; (case aP => exact k33_mkM _ _ _ (⟨(rd_T33 l0 x11_1).f0, (rd_T33 l0 x11_1).f1, false, (rd_T33 l0 x11_1).f3⟩ : S33)); (case aB => exact (by repeat (first | (with_reducible first | exact HB.out | apply below_alloc | apply pw_below_drewN | apply below_drew1) | exact HB.out))); (case aF => exact (fun _ _ => trivial)); (case aO => exact (by (with_reducible repeat (first | apply Kd.R_alloc | apply Kd.R_drewN | apply Kd.R_drew)); exact HO_10.out)); (case aS => exact (below_size (by repeat (first | (with_reducible first | exact HB.out | apply below_alloc | apply pw_below_drewN | apply below_drew1) | exact HB.out)))); (case aL => have := LMc26.out; omega); intro v267 w27 ho hb hg hat; rw [← Ny266.out] at ho; have n0_ := Aside0.mk (hb); have n1_ := Aside0.mk (ho); clear HB; clear HO_10; have HB := n0_; have HO268 := n1_; clear n0_ n1_; clear ho hb hg hat))
                    go_roundg k1
                    case measure => have := HK1.out; omega
                    case rel => exact ⟨(y266), (wrap64 (x11_1 + 1)), (by first | rfl | (simp; done) | (simp [*]; done)), H', ⟨by have := HK1.out; omega⟩, ⟨by (with_reducible repeat (first | apply Kd.R_alloc | apply Kd.R_drewN | apply Kd.R_drew)); exact HO268.out⟩, ⟨by repeat (first | (with_reducible first | exact HB.out | apply below_alloc | apply pw_below_drewN | apply below_drew1) | exact HB.out)⟩⟩
                  · rw [if_neg c26] at H
                    exact absurd H (by simp)
          · rw [if_neg c7] at H
            exact absurd H (by simp)
        · rw [if_neg c6] at H
          have c6b0 : decide (x11_1 < (l0.length : Int)) = false := decide_eq_false c6
          clear c6
          simp only [Option.some.injEq, Prod.mk.injEq] at H
          obtain ⟨rfl, rfl, rfl⟩ := H
          obtain ⟨Ao28, co28, eo28⟩ := Kd.R_slice HO_10.out
          subst eo28
          go_wp2
          go_ret3
          exact ⟨_, by first | rfl | (simp [errW_none, errW_some] <;> rfl) | (simp [*, errW_none, errW_some] <;> rfl), by (with_reducible repeat (first | apply Kd.R_alloc | apply Kd.R_drewN | apply Kd.R_drew)); exact HO_10.out, by repeat (first | (with_reducible first | exact HB.out | apply below_alloc | apply pw_below_drewN | apply below_drew1) | exact HB.out)⟩
  · replace c5 := Bool.eq_false_iff.mpr c5
    subst c5
    have H1 : (some (([] : List (S33)), 0, 90)) = some (r1, r2, r3) := by rw [if_neg (show ¬ (false = true) by decide)] at H; exact H
    clear H
    have H := H1
    clear H1
    simp only [Option.some.injEq, Prod.mk.injEq] at H
    obtain ⟨rfl, rfl, rfl⟩ := H
    go_enter Try.func20, Try.ntmps20
    go_wp2_with (first | ((with_reducible refine gate_callee (f := 26) rfl ?_); refine goesL_ (some 14) rfl rfl Try.func26 (by kernel_rfl) rfl #[.slice A0 l0.length c0] rfl (by (try simp only [List.map_toArray, List.map_cons, List.map_nil]); first | done | rfl | (simp only [List.length_drop, List.length_take]; rfl)) ?_; (with_reducible refine (nautilusref09_Right.calls k _ _ l0 false _ ?side1 ?side2 A4.out).mono ?_); (case side1 => repeat (first | exact HR0.out | (with_reducible refine Kd.C_alloc ?_ _) | (with_reducible refine Kd.C_drewN ?_ _) | (with_reducible refine Kd.C_drew ?_))); (case side2 => exact HC0.out); rintro e w' ⟨rfl, ⟨nd, rfl⟩⟩; refine ⟨_, rfl, ?_⟩))
    go_ret3
    exact ⟨_, by first | rfl | (simp [errW_none, errW_some] <;> rfl) | (simp [*, errW_none, errW_some] <;> rfl), by first | exact Kd.R_nil _ _ _ _ _ | exact Kd.N_nil _ _ _ _ _ | exact Kd.V_nil _ _ _ _ _ | exact Kd.Q_nil _ _ _ _ _ | exact Kd.S_nil _ _ _ _ _, by repeat (first | (with_reducible first | exact HB.out | apply below_alloc | apply pw_below_drewN | apply below_drew1) | exact HB.out)⟩

end Go.Proofs.Ytllcmalgahnnhaa.Q
