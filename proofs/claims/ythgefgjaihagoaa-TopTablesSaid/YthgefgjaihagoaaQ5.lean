/- Functions of the translation as plain Lean functions, and that the translation computes them: printed by this session's driver of the print. -/
import Derived.Test.YthgefgjaihagoaaQ0
import Derived.Test.YthgefgjaihagoaaQ3
namespace Go.Proofs.Ythgefgjaihagoaa.Q
open Go.Proofs.Ythgefgjaihagoaa.H
open Go.RowKit Go.Proofs.YthgefgjaihagoaaW.PrintWords Go.Proofs.YthgefgjaihagoaaW.PrintLast Go.Proofs.YthgefgjaihagoaaW.PrintMore
attribute [local go_sem] max2_int min2_int max_two min_two max_three min_three max_four min_four   -- for this text's walks alone
set_option linter.unusedVariables false
set_option linter.unusedSimpArgs false

/-! ### dat_bare: function 49 -/
def dat_bare.l0 : Nat → List (S106) → Int → Option ((List (S106)))
 | 0, _, _ => none
 | k + 1, x0, x3 => if x3 > 1 then (if 0 ≤ (wrap64 (x3 - 1)) then (if (wrap64 (x3 - 1)) < (x0.length : Int) then ((dat_isFree.f ((rd_T106 x0 (wrap64 (x3 - 1))).f0) ((rd_T106 x0 (wrap64 (x3 - 1))).f1) ((rd_T106 x0 (wrap64 (x3 - 1))).f2)).bind fun t106 => (if t106 = true then (dat_bare.l0 k x0 (wrap64 (x3 - 1))) else (if 0 ≤ x3 then (if x3 ≤ (x0.length : Int) then (some (x0.take (x3 : Int).toNat)) else (none)) else (none)))) else (none)) else (none)) else (if 0 ≤ x3 then (if x3 ≤ (x0.length : Int) then (some (x0.take (x3 : Int).toNat)) else (none)) else (none))
def dat_bare.f (k : Nat) (l0 : List (S106)) : Option ((List (S106))) := dat_bare.l0 k l0 (l0.length : Int)
set_option maxHeartbeats 8000000 in
set_option maxRecDepth 100000 in
theorem dat_bare.calls (k : Nat) (P0_ : Nat → Prop) (u9000_ : Value) (l0 : List (S106)) (r : List (S106)) (w0 w : World) (hB : Below w0.heap.size w0 w) (ho0 : Kd.R k106 106 w w0.heap.size P0_ u9000_ l0) (h : dat_bare.f k l0 = some r) :
  Calls Try.prog 49 #[u9000_] w fun e w' => ∃ v0_ : Value, e = .returned (v0_) ∧ Kd.R k106 106 w' w0.heap.size (fun k_ => (P0_ k_ ∨ w.heap.size ≤ k_)) v0_ r ∧ Below w0.heap.size w0 w' ∧ Kept w w' (fun k_ => P0_ k_) := by
 have hu106 := Try.underlying106
 have HO0 := Aside0.mk (show Kd.R k106 106 w w0.heap.size (fun k_ => (P0_ k_ ∨ w.heap.size ≤ k_)) u9000_ l0 from Kd.R_mono ho0 (fun k_ hk => (.inl hk)))
 have HK := Aside0.mk (Kept.refl w (fun k_ => P0_ k_))
 have HW0 := Aside0.mk hB.size
 have HB := Aside0.mk hB
 clear hB
 have H : (dat_bare.l0 k l0 (l0.length : Int)) = some r := h
 clear h
 have H' := Aside0.mk H
 clear H
 obtain ⟨Ao2, co2, eo2⟩ := Kd.R_slice HO0.out
 subst eo2
 go_enter Try.func49, Try.ntmps49
 iterate 4 ((try go_wp2); (try first | (with_reducible refine wp_scope_straight ?_) | (with_reducible refine wp_label ?_)))
 go_loopg [3] k (fun kq v3 w' => ∃ (x3_1 : Int), v3 = .int .i64 x3_1 ∧ Aside0 (dat_bare.l0 kq l0 x3_1 = some r) ∧ Aside0 (kq ≤ k) ∧ Aside0 (Kd.R k106 106 w' w0.heap.size (fun k_ => (P0_ k_ ∨ w.heap.size ≤ k_)) (.slice Ao2 l0.length co2) l0) ∧ Aside0 (Kept w w' (fun k_ => P0_ k_)) ∧ Aside0 (Below w0.heap.size w0 w'))
 case atStart => exact ⟨((l0.length : Int)), (by first | rfl | (simp; done) | (simp [*]; done)), H', ⟨Nat.le_refl _⟩, ⟨by (with_reducible repeat (first | apply Kd.R_alloc | apply Kd.R_drewN | apply Kd.R_drew)); exact HO0.out⟩, ⟨by repeat (first | (with_reducible first | exact HK.out | apply Kept.alloc | apply Kept.drewN | apply Kept.drew) | exact HK.out)⟩, ⟨by repeat (first | (with_reducible first | exact HB.out | apply below_alloc | apply pw_below_drewN | apply below_drew1) | exact HB.out)⟩⟩
 case round =>
  clear H'
  try clear p2
  obtain ⟨x3_1, rfl, HA, HK1, HO_0, HK, HB⟩ := hrel
  cases gk with
  | zero => exact absurd HA.out (by simp [dat_bare.l0])
  | succ k1 =>
   have H := HA.out
   clear HA
   simp only [dat_bare.l0] at H
   by_cases c3 : x3_1 > 1
   ·rw [if_pos c3] at H
    have c3b0 : decide (1 < x3_1) = true := decide_eq_true c3
    clear c3
    obtain ⟨ji4, hji4⟩ : ∃ j_ : Int, (wrap64 (x3_1 - 1)) = j_ := ⟨_, rfl⟩
    replace H : (if 0 ≤ (ji4) then (if (ji4) < (l0.length : Int) then ((dat_isFree.f ((rd_T106 l0 (ji4)).f0) ((rd_T106 l0 (ji4)).f1) ((rd_T106 l0 (ji4)).f2)).bind fun t106 => (if t106 = true then (dat_bare.l0 k1 l0 ji4) else (if 0 ≤ x3_1 then (if x3_1 ≤ (l0.length : Int) then (some (l0.take (x3_1 : Int).toNat)) else (none)) else (none)))) else (none)) else (none)) = some r := by first | (rw [hji4] at H; exact H) | (simp only [hji4] at H ⊢; exact H)
    have hji4w : (IntKind.i64.wrap (x3_1 - 1)) = ji4 := (i64_w _).trans hji4
    by_cases c5 : 0 ≤ (ji4)
    ·rw [if_pos c5] at H
     have c5b0 : decide (0 ≤ (ji4)) = true := decide_eq_true c5
     clear c5
     by_cases c6 : (ji4) < (l0.length : Int)
     ·rw [if_pos c6] at H
      have c6b0 : decide ((ji4) < (l0.length : Int)) = true := decide_eq_true c6
      clear c6
      replace H := Option.bind_eq_some_iff.mp H
      obtain ⟨t106, A70, H⟩ := H
      replace H : (if t106 = true then (dat_bare.l0 k1 l0 ji4) else (if 0 ≤ x3_1 then (if x3_1 ≤ (l0.length : Int) then (some (l0.take (x3_1 : Int).toNat)) else (none)) else (none))) = some r := H
      have A7 := Aside0.mk A70
      clear A70
      by_cases c8 : t106 = true
      ·subst c8
       have H1 : (dat_bare.l0 k1 l0 ji4) = some r := by rw [if_pos rfl] at H; exact H
       clear H
       have H := H1
       clear H1
       have H' := Aside0.mk H
       clear H
       have p105 : 0 ≤ ((ji4) : Int) := of_decide_eq_true (by first | (with_reducible assumption) | assumption)
       have q105 : (ji4) < (l0.length : Int) := of_decide_eq_true (by first | (with_reducible assumption) | assumption)
       obtain ⟨ad105, e105, hx105_0, hx105_1, hx105_2⟩ := at_T106 (Kd.R_reads' HO_0.out).2.2 (ji4) p105 q105
       cases e105
       replace p105 := eq_true p105
       replace q105 := eq_true q105
       iterate 4 ((try go_wp2_with (first | ((with_reducible refine gate_callee (f := 47) rfl ?_); refine goesL_ (some 13) rfl rfl Try.func47 (by kernel_rfl) rfl #[.agg #[.int .u32 ((rd_T106 l0 (ji4)).f0), .int .u64 ((rd_T106 l0 (ji4)).f1), .int .u64 ((rd_T106 l0 (ji4)).f2)]] rfl (by (try simp only [List.map_toArray, List.map_cons, List.map_nil]); first | done | (simp only [hji4]; rfl) | rfl | (simp only [List.length_drop, List.length_take]; rfl)) ?_; (with_reducible refine (dat_isFree.calls ((rd_T106 l0 (ji4)).f0) ((rd_T106 l0 (ji4)).f1) ((rd_T106 l0 (ji4)).f2) true _ A7.out).mono ?_); rintro e w9 ⟨rfl, hb⟩; refine ⟨_, rfl, ?_⟩; have n0_ := Aside0.mk (Kd.R_below (by (with_reducible repeat (first | apply Kd.R_alloc | apply Kd.R_drewN | apply Kd.R_drew)); exact HO_0.out) hb); have n1_ := Aside0.mk (Kept.below (S := (fun k_ => P0_ k_)) (by repeat (first | (with_reducible first | exact HK.out | apply Kept.alloc | apply Kept.drewN | apply Kept.drew) | exact HK.out)) hb); have n2_ := Aside0.mk (below_step (by repeat (first | (with_reducible first | exact HB.out | apply below_alloc | apply pw_below_drewN | apply below_drew1) | exact HB.out)) hb); clear HO_0; clear HK; clear HB; have HO_0 := n0_; have HK := n1_; have HB := n2_; clear n0_ n1_ n2_; (try clear hb); (try clear hb2); (try clear hk); (try clear hi)))); (try first | (with_reducible refine wp_scope_straight ?_) | (with_reducible refine wp_label ?_)))
       go_roundg k1
       case measure => have := HK1.out; omega
       case rel => exact ⟨(ji4), (by first | rfl | (simp; done) | (simp only [← hji4] <;> (first | rfl | simp)) | (simp [*]; done)), H', ⟨by have := HK1.out; omega⟩, ⟨by (with_reducible repeat (first | apply Kd.R_alloc | apply Kd.R_drewN | apply Kd.R_drew)); exact HO_0.out⟩, ⟨by repeat (first | (with_reducible first | exact HK.out | apply Kept.alloc | apply Kept.drewN | apply Kept.drew) | exact HK.out)⟩, ⟨by repeat (first | (with_reducible first | exact HB.out | apply below_alloc | apply pw_below_drewN | apply below_drew1) | exact HB.out)⟩⟩
      ·replace c8 := Bool.eq_false_iff.mpr c8
       subst c8
       have H1 : (if 0 ≤ x3_1 then (if x3_1 ≤ (l0.length : Int) then (some (l0.take (x3_1 : Int).toNat)) else (none)) else (none)) = some r := by rw [if_neg (show ¬ (false = true) by decide)] at H; exact H
       clear H
       have H := H1
       clear H1
       by_cases c10 : 0 ≤ x3_1
       ·rw [if_pos c10] at H
        have c10b0 := eq_true c10
        have c10b1 : decide (0 ≤ x3_1) = true := decide_eq_true c10
        clear c10
        by_cases c11 : x3_1 ≤ (l0.length : Int)
        ·rw [if_pos c11] at H
         have c11b0 := eq_true c11
         have c11b1 : decide (x3_1 ≤ (l0.length : Int)) = true := decide_eq_true c11
         clear c11
         obtain ⟨y107, hy107⟩ : ∃ y_ : List (S106), y_ = (l0.take (x3_1 : Int).toNat) := ⟨_, rfl⟩
         replace H : (some y107) = some r := by first | (rw [hy107]; with_reducible exact H) | (have H2_ := (Option.bind_some _ _).symm.trans H; rw [hy107]; with_reducible exact H2_) | (have H2_ := (Option.bind_some _ _).symm.trans H; with_reducible exact H2_) | with_reducible exact H | (rw [hy107]; exact H) | exact H
         have Ny107 := Aside0.mk hy107
         clear hy107
         obtain rfl := Option.some.inj H
         have p105 : 0 ≤ ((ji4) : Int) := of_decide_eq_true (by first | (with_reducible assumption) | assumption)
         have q105 : (ji4) < (l0.length : Int) := of_decide_eq_true (by first | (with_reducible assumption) | assumption)
         obtain ⟨ad105, e105, hx105_0, hx105_1, hx105_2⟩ := at_T106 (Kd.R_reads' HO_0.out).2.2 (ji4) p105 q105
         cases e105
         replace p105 := eq_true p105
         replace q105 := eq_true q105
         iterate 4 ((try go_wp2_with (first | ((with_reducible refine gate_callee (f := 47) rfl ?_); refine goesL_ (some 13) rfl rfl Try.func47 (by kernel_rfl) rfl #[.agg #[.int .u32 ((rd_T106 l0 (ji4)).f0), .int .u64 ((rd_T106 l0 (ji4)).f1), .int .u64 ((rd_T106 l0 (ji4)).f2)]] rfl (by (try simp only [List.map_toArray, List.map_cons, List.map_nil]); first | done | (simp only [hji4]; rfl) | rfl | (simp only [List.length_drop, List.length_take]; rfl)) ?_; (with_reducible refine (dat_isFree.calls ((rd_T106 l0 (ji4)).f0) ((rd_T106 l0 (ji4)).f1) ((rd_T106 l0 (ji4)).f2) false _ A7.out).mono ?_); rintro e w12 ⟨rfl, hb⟩; refine ⟨_, rfl, ?_⟩; have n0_ := Aside0.mk (Kd.R_below (by (with_reducible repeat (first | apply Kd.R_alloc | apply Kd.R_drewN | apply Kd.R_drew)); exact HO_0.out) hb); have n1_ := Aside0.mk (Kept.below (S := (fun k_ => P0_ k_)) (by repeat (first | (with_reducible first | exact HK.out | apply Kept.alloc | apply Kept.drewN | apply Kept.drew) | exact HK.out)) hb); have n2_ := Aside0.mk (below_step (by repeat (first | (with_reducible first | exact HB.out | apply below_alloc | apply pw_below_drewN | apply below_drew1) | exact HB.out)) hb); clear HO_0; clear HK; clear HB; have HO_0 := n0_; have HK := n1_; have HB := n2_; clear n0_ n1_ n2_; (try clear hb); (try clear hb2); (try clear hk); (try clear hi); have q13 : (x3_1 : Int) ≤ ((l0.length : Int) : Int) := of_decide_eq_true (by first | (with_reducible assumption) | assumption); obtain ⟨i013, hi013, _, hsz13, _⟩ := info_parts info106; have hcut13 := cut_to (P := Try.prog) 51 106 .i64 Try.underlying51 hi013 (some ad105) l0.length co2 x3_1 (of_decide_eq_true (by first | (with_reducible assumption) | assumption)) q13 (Kd.R_reads' HO_0.out).2.1; have hr13 := Kd.R_take (m := (x3_1 : Int).toNat) HO_0.out (by omega); have hy13 : y107.length = (x3_1 : Int).toNat := (by rw [Ny107.out, List.length_take]; omega); rw [← Ny107.out] at hr13; rw [← hy13] at hr13 hcut13; clear hy13 hi013 hsz13 HO_0; have HO109 := Aside0.mk hr13; clear hr13; replace q13 := eq_true q13))); (try first | (with_reducible refine wp_scope_straight ?_) | (with_reducible refine wp_label ?_)))
         (try simp only [Exit.noGoto]); go_ret
         exact ⟨_, by first | rfl | (simp [errW_none, errW_some] <;> rfl) | (simp only [← hji4]; first | rfl | (simp [errW_none, errW_some] <;> rfl)) | (simp [*, errW_none, errW_some] <;> rfl), by (with_reducible repeat (first | apply Kd.R_alloc | apply Kd.R_drewN | apply Kd.R_drew)); exact HO109.out, by repeat (first | (with_reducible first | exact HB.out | apply below_alloc | apply pw_below_drewN | apply below_drew1) | exact HB.out), by repeat (first | (with_reducible first | exact HK.out | apply Kept.alloc | apply Kept.drewN | apply Kept.drew) | exact HK.out)⟩
        ·rw [if_neg c11] at H
         exact absurd H (by simp)
       ·rw [if_neg c10] at H
        exact absurd H (by simp)
     ·rw [if_neg c6] at H
      exact absurd H (by simp)
    ·rw [if_neg c5] at H
     exact absurd H (by simp)
   ·rw [if_neg c3] at H
    have c3b0 : decide (1 < x3_1) = false := decide_eq_false c3
    clear c3
    by_cases c14 : 0 ≤ x3_1
    ·rw [if_pos c14] at H
     have c14b0 := eq_true c14
     have c14b1 : decide (0 ≤ x3_1) = true := decide_eq_true c14
     clear c14
     by_cases c15 : x3_1 ≤ (l0.length : Int)
     ·rw [if_pos c15] at H
      have c15b0 := eq_true c15
      have c15b1 : decide (x3_1 ≤ (l0.length : Int)) = true := decide_eq_true c15
      clear c15
      obtain ⟨y110, hy110⟩ : ∃ y_ : List (S106), y_ = (l0.take (x3_1 : Int).toNat) := ⟨_, rfl⟩
      replace H : (some y110) = some r := by first | (rw [hy110]; with_reducible exact H) | (have H2_ := (Option.bind_some _ _).symm.trans H; rw [hy110]; with_reducible exact H2_) | (have H2_ := (Option.bind_some _ _).symm.trans H; with_reducible exact H2_) | with_reducible exact H | (rw [hy110]; exact H) | exact H
      have Ny110 := Aside0.mk hy110
      clear hy110
      obtain rfl := Option.some.inj H
      have q16 : (x3_1 : Int) ≤ ((l0.length : Int) : Int) := of_decide_eq_true (by first | (with_reducible assumption) | assumption)
      obtain ⟨i016, hi016, _, hsz16, _⟩ := info_parts info106
      have hcut16 := cut_to (P := Try.prog) 51 106 .i64 Try.underlying51 hi016 Ao2 l0.length co2 x3_1 (of_decide_eq_true (by first | (with_reducible assumption) | assumption)) q16 (Kd.R_reads' HO_0.out).2.1
      have hr16 := Kd.R_take (m := (x3_1 : Int).toNat) HO_0.out (by omega)
      have hy16 : y110.length = (x3_1 : Int).toNat := (by rw [Ny110.out, List.length_take]; omega)
      rw [← Ny110.out] at hr16
      rw [← hy16] at hr16 hcut16
      clear hy16 hi016 hsz16 HO_0
      have HO112 := Aside0.mk hr16
      clear hr16
      replace q16 := eq_true q16
      iterate 4 ((try go_wp2); (try first | (with_reducible refine wp_scope_straight ?_) | (with_reducible refine wp_label ?_)))
      (try simp only [Exit.noGoto]); go_ret
      exact ⟨_, by first | rfl | (simp [errW_none, errW_some] <;> rfl) | (simp [*, errW_none, errW_some] <;> rfl), by (with_reducible repeat (first | apply Kd.R_alloc | apply Kd.R_drewN | apply Kd.R_drew)); exact HO112.out, by repeat (first | (with_reducible first | exact HB.out | apply below_alloc | apply pw_below_drewN | apply below_drew1) | exact HB.out), by repeat (first | (with_reducible first | exact HK.out | apply Kept.alloc | apply Kept.drewN | apply Kept.drew) | exact HK.out)⟩
     ·rw [if_neg c15] at H
      exact absurd H (by simp)
    ·rw [if_neg c14] at H
     exact absurd H (by simp)

end Go.Proofs.Ythgefgjaihagoaa.Q
