/- Functions of the translation as plain Lean functions, and that the translation computes them: printed by this session's driver of the print. -/
import Derived.Test.YtiajhfinkpddbaaQ0
import Derived.Test.YtiajhfinkpddbaaQ1
import Derived.Test.YtiajhfinkpddbaaQ7
import Derived.Test.YtiajhfinkpddbaaQ8
import Derived.Test.YtiajhfinkpddbaaHLives
namespace Go.Proofs.Ytiajhfinkpddbaa.Q
open Go.Proofs.Ytiajhfinkpddbaa.H
open Go.RowKit Go.Proofs.YtiajhfinkpddbaaW.PrintWords Go.Proofs.YtiajhfinkpddbaaW.PrintLast Go.Proofs.YtiajhfinkpddbaaW.PrintMore
attribute [local go_sem] max2_int min2_int max_two min_two max_three min_three max_four min_four   -- for this text's walks alone
set_option linter.unusedVariables false
set_option linter.unusedSimpArgs false

attribute [local go_sem high] eqA31
/-! ### nautiluslaw08_shown: function 9 -/
def nautiluslaw08_shown.j0 : Nat → List (S31) → List (S31) → List (S31) → Bool → Option (Bool)
  | 0, _, _, _, _ => none
  | k + 1, x1, x4, x6, x48 => if x48 = true then (some false) else (if 1 < (x1.length : Int) then ((dat_Lives.f ((rd_T31 x1 1).f0) ((rd_T31 x1 1).f1) ((rd_T31 x1 1).f2) ([] : List Int)).bind fun t176 => (if t176 = true then (if 1 < (x4.length : Int) then ((dat_Lives.f ((rd_T31 x4 1).f0) ((rd_T31 x4 1).f1) ((rd_T31 x4 1).f2) (([2] : List Int))).bind fun t181 => (if t181 = true then ((dat_Lives.f ((rd_T31 x4 1).f0) ((rd_T31 x4 1).f1) ((rd_T31 x4 1).f2) (([3] : List Int))).bind fun t186 => (if t186 = true then (some false) else (if 1 < (x6.length : Int) then (some (((rd_T31 x6 1).f0) == 0 && (((rd_T31 x6 1).f1) == 0 && (((rd_T31 x6 1).f2) == 0)))) else (none)))) else (some false))) else (none)) else (some false))) else (none))
def nautiluslaw08_shown.f (k : Nat)  : Option (Bool) := (dat_Begin.f k (([(⟨0, 0, 0⟩ : S31)] : List (S31))) 16 1).bind fun bt162 => ((dat_End.f bt162.1 1 3).bind fun bt167 => ((dat_End.f bt162.1 1 1).bind fun bt171 => (if bt162.2.2 = 0 then (if bt167.2 = 0 then (if bt171.2 = 0 then (if bt162.2.1 = 1 then (if (bt167.1.length : Int) = 2 then (nautiluslaw08_shown.j0 k bt162.1 bt167.1 bt171.1 ((bt171.1.length : Int) != 2)) else (nautiluslaw08_shown.j0 k bt162.1 bt167.1 bt171.1 true)) else (nautiluslaw08_shown.j0 k bt162.1 bt167.1 bt171.1 true)) else (nautiluslaw08_shown.j0 k bt162.1 bt167.1 bt171.1 true)) else (nautiluslaw08_shown.j0 k bt162.1 bt167.1 bt171.1 true)) else (nautiluslaw08_shown.j0 k bt162.1 bt167.1 bt171.1 true))))
theorem nautiluslaw08_shown.mono_l : ∀ k, (∀ y0 y1 y2 y3, LeO (nautiluslaw08_shown.j0 k y0 y1 y2 y3) (nautiluslaw08_shown.j0 (k + 1) y0 y1 y2 y3))
  | 0 => fun _ _ _ _ r h => by simp [nautiluslaw08_shown.j0] at h
  | k + 1 => by
    have ih0 := nautiluslaw08_shown.mono_l k
    · intro y0 y1 y2 y3
      unfold nautiluslaw08_shown.j0
      repeat' first
      | (with_reducible exact ih0 _ _ _ _)
      | (with_reducible exact dat_Begin.mono _ _ _ _)
      | (with_reducible exact LeO.refl _)
      | (with_reducible exact LeO.none _)
      | (with_reducible refine LeO.ite ?_ ?_)
      | (with_reducible refine LeO.bind ?_ (fun _ => ?_))
      | exact ih0 _ _ _ _
      | exact dat_Begin.mono _ _ _ _
      | exact LeO.none _
      | refine LeO.ite ?_ ?_
      | refine LeO.bind ?_ (fun _ => ?_)
theorem nautiluslaw08_shown.mono : ∀ k, LeO (nautiluslaw08_shown.f k ) (nautiluslaw08_shown.f (k + 1) ) := by
  intro  k
  have ih0 := nautiluslaw08_shown.mono_l k
  unfold nautiluslaw08_shown.f
  repeat' first
      | (with_reducible exact ih0 _ _ _ _)
      | (with_reducible exact dat_Begin.mono _ _ _ _)
      | (with_reducible exact LeO.refl _)
      | (with_reducible exact LeO.none _)
      | (with_reducible refine LeO.ite ?_ ?_)
      | (with_reducible refine LeO.bind ?_ (fun _ => ?_))
      | exact ih0 _ _ _ _
      | exact dat_Begin.mono _ _ _ _
      | exact LeO.none _
      | refine LeO.ite ?_ ?_
      | refine LeO.bind ?_ (fun _ => ?_)
set_option maxHeartbeats 8000000 in
set_option maxRecDepth 100000 in
theorem nautiluslaw08_shown.calls (k : Nat)  (r : Bool) (w : World) (h : nautiluslaw08_shown.f k  = some r) :
    Calls Try.prog 9 #[] w fun e w' => e = .returned (.bool r) ∧ Below w.heap.size w w' := by
  have hu31 := Try.underlying31
  have HB := Aside0.mk (Below.refl w.heap.size w)
  have H : ((dat_Begin.f k (([(⟨0, 0, 0⟩ : S31)] : List (S31))) 16 1).bind fun bt162 => ((dat_End.f bt162.1 1 3).bind fun bt167 => ((dat_End.f bt162.1 1 1).bind fun bt171 => (if bt162.2.2 = 0 then (if bt167.2 = 0 then (if bt171.2 = 0 then (if bt162.2.1 = 1 then (if (bt167.1.length : Int) = 2 then (nautiluslaw08_shown.j0 k bt162.1 bt167.1 bt171.1 ((bt171.1.length : Int) != 2)) else (nautiluslaw08_shown.j0 k bt162.1 bt167.1 bt171.1 true)) else (nautiluslaw08_shown.j0 k bt162.1 bt167.1 bt171.1 true)) else (nautiluslaw08_shown.j0 k bt162.1 bt167.1 bt171.1 true)) else (nautiluslaw08_shown.j0 k bt162.1 bt167.1 bt171.1 true)) else (nautiluslaw08_shown.j0 k bt162.1 bt167.1 bt171.1 true))))) = some r := h
  clear h
  obtain ⟨y159, hy159⟩ : ∃ y_ : List (S31), y_ = (([(⟨0, 0, 0⟩ : S31)] : List (S31))) := ⟨_, rfl⟩
  replace H : ((dat_Begin.f k y159 16 1).bind fun bt162 => ((dat_End.f bt162.1 1 3).bind fun bt167 => ((dat_End.f bt162.1 1 1).bind fun bt171 => (if bt162.2.2 = 0 then (if bt167.2 = 0 then (if bt171.2 = 0 then (if bt162.2.1 = 1 then (if (bt167.1.length : Int) = 2 then (nautiluslaw08_shown.j0 k bt162.1 bt167.1 bt171.1 ((bt171.1.length : Int) != 2)) else (nautiluslaw08_shown.j0 k bt162.1 bt167.1 bt171.1 true)) else (nautiluslaw08_shown.j0 k bt162.1 bt167.1 bt171.1 true)) else (nautiluslaw08_shown.j0 k bt162.1 bt167.1 bt171.1 true)) else (nautiluslaw08_shown.j0 k bt162.1 bt167.1 bt171.1 true)) else (nautiluslaw08_shown.j0 k bt162.1 bt167.1 bt171.1 true))))) = some r := by first | (rw [hy159]; with_reducible exact H) | (have H2_ := (Option.bind_some _ _).symm.trans H; rw [hy159]; with_reducible exact H2_) | (have H2_ := (Option.bind_some _ _).symm.trans H; with_reducible exact H2_) | with_reducible exact H | (rw [hy159]; exact H) | exact H
  have Ny159 := Aside0.mk hy159
  clear hy159
  replace H := Option.bind_eq_some_iff.mp H
  obtain ⟨⟨t162, t163, t164⟩, A10, H⟩ := H
  replace H : ((dat_End.f t162 1 3).bind fun bt167 => ((dat_End.f t162 1 1).bind fun bt171 => (if t164 = 0 then (if bt167.2 = 0 then (if bt171.2 = 0 then (if t163 = 1 then (if (bt167.1.length : Int) = 2 then (nautiluslaw08_shown.j0 k t162 bt167.1 bt171.1 ((bt171.1.length : Int) != 2)) else (nautiluslaw08_shown.j0 k t162 bt167.1 bt171.1 true)) else (nautiluslaw08_shown.j0 k t162 bt167.1 bt171.1 true)) else (nautiluslaw08_shown.j0 k t162 bt167.1 bt171.1 true)) else (nautiluslaw08_shown.j0 k t162 bt167.1 bt171.1 true)) else (nautiluslaw08_shown.j0 k t162 bt167.1 bt171.1 true)))) = some r := H
  have A1 := Aside0.mk A10
  clear A10
  replace H := Option.bind_eq_some_iff.mp H
  obtain ⟨⟨t167, t168⟩, A20, H⟩ := H
  replace H : ((dat_End.f t162 1 1).bind fun bt171 => (if t164 = 0 then (if t168 = 0 then (if bt171.2 = 0 then (if t163 = 1 then (if (t167.length : Int) = 2 then (nautiluslaw08_shown.j0 k t162 t167 bt171.1 ((bt171.1.length : Int) != 2)) else (nautiluslaw08_shown.j0 k t162 t167 bt171.1 true)) else (nautiluslaw08_shown.j0 k t162 t167 bt171.1 true)) else (nautiluslaw08_shown.j0 k t162 t167 bt171.1 true)) else (nautiluslaw08_shown.j0 k t162 t167 bt171.1 true)) else (nautiluslaw08_shown.j0 k t162 t167 bt171.1 true))) = some r := H
  have A2 := Aside0.mk A20
  clear A20
  replace H := Option.bind_eq_some_iff.mp H
  obtain ⟨⟨t171, t172⟩, A30, H⟩ := H
  replace H : (if t164 = 0 then (if t168 = 0 then (if t172 = 0 then (if t163 = 1 then (if (t167.length : Int) = 2 then (nautiluslaw08_shown.j0 k t162 t167 t171 ((t171.length : Int) != 2)) else (nautiluslaw08_shown.j0 k t162 t167 t171 true)) else (nautiluslaw08_shown.j0 k t162 t167 t171 true)) else (nautiluslaw08_shown.j0 k t162 t167 t171 true)) else (nautiluslaw08_shown.j0 k t162 t167 t171 true)) else (nautiluslaw08_shown.j0 k t162 t167 t171 true)) = some r := H
  have A3 := Aside0.mk A30
  clear A30
  have HC4 := Aside0.mk H
  clear H
  go_enter Try.func9, Try.ntmps9
  go_upto_region 4 with (first | ((with_reducible refine gate_dst (N := 10) rfl ?_); (try (refine gate_guard (by rfl) ?_; dsimp only)); refine Kd.R_lit k31 _ 31 ?hg (N := 10) ?hd (xs := ([(⟨0, 0, 0⟩ : S31)] : List (S31))) (inner := [.int .u32 0, .int .u64 0, .int .u64 0]) (ok := fun _ => True) (okp := fun _ => True) ?hr ?hp (fun _ hk => hk) trivial (Below.refl _ _) (Nat.le_refl _) (by simp) ?_; (case hd => rfl); (case hg => rfl); (case hr => first | (go_simp; done) | (go_simp; rfl)); (case hp => exact (Reps.c3 (show Kd.M k31 _ _ _ (⟨0, 0, 0⟩ : S31) [.int .u32 0, .int .u64 0, .int .u64 0] from (k31_mkM _ _ _ (⟨0, 0, 0⟩ : S31) )) (Reps.none _ _))); intro v160 w5 ho6 hb hg_ hnew_; clear hg_ hnew_; (first | rw [← Ny159.out] at ho6 | (simp only [Int.reduceToNat] at ho6; rw [← Ny159.out] at ho6)); have n0_ := Aside0.mk (Kd.R_lower ho6 (below_size (by repeat (first | (with_reducible first | exact HB.out | apply below_alloc | apply pw_below_drewN | apply below_drew1) | exact HB.out)))); have n1_ := Aside0.mk (below_step (by repeat (first | (with_reducible first | exact HB.out | apply below_alloc | apply pw_below_drewN | apply below_drew1) | exact HB.out)) hb); clear HB; have HO161 := n0_; have HB := n1_; clear n0_ n1_; clear hb ho6; obtain ⟨Ao7, co7, eo7⟩ := Kd.R_slice HO161.out; subst eo7) | ((with_reducible refine gate_callee (f := 11) rfl ?_); refine goesL_ (some 11) rfl rfl Try.func11 (by kernel_rfl) rfl #[.slice Ao7 y159.length co7, .int .u32 16, .int .u64 1] rfl (by (try simp only [List.map_toArray, List.map_cons, List.map_nil]); first | done | rfl | (simp only [List.length_drop, List.length_take]; rfl)) ?_; (with_reducible refine (dat_Begin.calls k _ _ y159 16 1 t162 t163 t164 _ ?side1 ?side2 A1.out).mono ?_); (case side1 => repeat (first | exact (Kd.R_reads' HO161.out).2.2 | (with_reducible refine Kd.C_alloc ?_ _) | (with_reducible refine Kd.C_drewN ?_ _) | (with_reducible refine Kd.C_drew ?_))); (case side2 => exact (Kd.R_reads' HO161.out).2.1); rintro e w8 ⟨v165, rfl, ho0, hb⟩; refine ⟨_, rfl, ?_⟩; have n0_ := Aside0.mk (Kd.R_elder' (by (with_reducible repeat (first | apply Kd.R_alloc | apply Kd.R_drewN | apply Kd.R_drew)); exact HO161.out) (Kd.R_base ho0) hb); have n1_ := Aside0.mk (Kd.R_lower (Kd.R_new' ho0 (Kd.R_lt (by (with_reducible repeat (first | apply Kd.R_alloc | apply Kd.R_drewN | apply Kd.R_drew)); exact HO161.out))) (below_size (by repeat (first | (with_reducible first | exact HB.out | apply below_alloc | apply pw_below_drewN | apply below_drew1) | exact HB.out)))); have n2_ := Aside0.mk (below_step (by repeat (first | (with_reducible first | exact HB.out | apply below_alloc | apply pw_below_drewN | apply below_drew1) | exact HB.out)) hb); clear HO161; clear HB; have HO161 := n0_; have HO166 := n1_; have HB := n2_; clear n0_ n1_ n2_; (try clear hb); (try clear hb2); (try clear hk); (try clear hi); (try clear ho0); obtain ⟨Ao9, co9, eo9⟩ := Kd.R_slice HO166.out; subst eo9) | ((with_reducible refine gate_callee (f := 13) rfl ?_); refine goesL_ (some 17) rfl rfl Try.func13 (by kernel_rfl) rfl #[.slice Ao9 t162.length co9, .int .u32 1, .int .u64 3] rfl (by (try simp only [List.map_toArray, List.map_cons, List.map_nil]); first | done | rfl | (simp only [List.length_drop, List.length_take]; rfl)) ?_; (with_reducible refine (dat_End.calls _ _ t162 1 3 t167 t168 _ ?side1 ?side2 A2.out).mono ?_); (case side1 => repeat (first | exact (Kd.R_reads' HO166.out).2.2 | (with_reducible refine Kd.C_alloc ?_ _) | (with_reducible refine Kd.C_drewN ?_ _) | (with_reducible refine Kd.C_drew ?_))); (case side2 => exact (Kd.R_reads' HO166.out).2.1); rintro e w10 ⟨v169, rfl, ho0, hb⟩; refine ⟨_, rfl, ?_⟩; have n0_ := Aside0.mk (Kd.R_elder' (by (with_reducible repeat (first | apply Kd.R_alloc | apply Kd.R_drewN | apply Kd.R_drew)); exact HO161.out) (Kd.R_base ho0) hb); have n1_ := Aside0.mk (Kd.R_elder' (by (with_reducible repeat (first | apply Kd.R_alloc | apply Kd.R_drewN | apply Kd.R_drew)); exact HO166.out) (Kd.R_base ho0) hb); have n2_ := Aside0.mk (Kd.R_lower (Kd.R_new' (Kd.R_new' ho0 (Kd.R_lt (by (with_reducible repeat (first | apply Kd.R_alloc | apply Kd.R_drewN | apply Kd.R_drew)); exact HO161.out))) (Kd.R_lt (by (with_reducible repeat (first | apply Kd.R_alloc | apply Kd.R_drewN | apply Kd.R_drew)); exact HO166.out))) (below_size (by repeat (first | (with_reducible first | exact HB.out | apply below_alloc | apply pw_below_drewN | apply below_drew1) | exact HB.out)))); have n3_ := Aside0.mk (below_step (by repeat (first | (with_reducible first | exact HB.out | apply below_alloc | apply pw_below_drewN | apply below_drew1) | exact HB.out)) hb); clear HO161; clear HO166; clear HB; have HO161 := n0_; have HO166 := n1_; have HO170 := n2_; have HB := n3_; clear n0_ n1_ n2_ n3_; (try clear hb); (try clear hb2); (try clear hk); (try clear hi); (try clear ho0)) | ((with_reducible refine gate_callee (f := 13) rfl ?_); refine goesL_ (some 22) rfl rfl Try.func13 (by kernel_rfl) rfl #[.slice Ao9 t162.length co9, .int .u32 1, .int .u64 1] rfl (by (try simp only [List.map_toArray, List.map_cons, List.map_nil]); first | done | rfl | (simp only [List.length_drop, List.length_take]; rfl)) ?_; (with_reducible refine (dat_End.calls _ _ t162 1 1 t171 t172 _ ?side1 ?side2 A3.out).mono ?_); (case side1 => repeat (first | exact (Kd.R_reads' HO166.out).2.2 | (with_reducible refine Kd.C_alloc ?_ _) | (with_reducible refine Kd.C_drewN ?_ _) | (with_reducible refine Kd.C_drew ?_))); (case side2 => exact (Kd.R_reads' HO166.out).2.1); rintro e w11 ⟨v173, rfl, ho0, hb⟩; refine ⟨_, rfl, ?_⟩; have n0_ := Aside0.mk (Kd.R_elder' (by (with_reducible repeat (first | apply Kd.R_alloc | apply Kd.R_drewN | apply Kd.R_drew)); exact HO161.out) (Kd.R_base ho0) hb); have n1_ := Aside0.mk (Kd.R_elder' (by (with_reducible repeat (first | apply Kd.R_alloc | apply Kd.R_drewN | apply Kd.R_drew)); exact HO166.out) (Kd.R_base ho0) hb); have n2_ := Aside0.mk (Kd.R_elder' (by (with_reducible repeat (first | apply Kd.R_alloc | apply Kd.R_drewN | apply Kd.R_drew)); exact HO170.out) (Kd.R_base ho0) hb); have n3_ := Aside0.mk (Kd.R_lower (Kd.R_new' (Kd.R_new' (Kd.R_new' ho0 (Kd.R_lt (by (with_reducible repeat (first | apply Kd.R_alloc | apply Kd.R_drewN | apply Kd.R_drew)); exact HO161.out))) (Kd.R_lt (by (with_reducible repeat (first | apply Kd.R_alloc | apply Kd.R_drewN | apply Kd.R_drew)); exact HO166.out))) (Kd.R_lt (by (with_reducible repeat (first | apply Kd.R_alloc | apply Kd.R_drewN | apply Kd.R_drew)); exact HO170.out))) (below_size (by repeat (first | (with_reducible first | exact HB.out | apply below_alloc | apply pw_below_drewN | apply below_drew1) | exact HB.out)))); have n4_ := Aside0.mk (below_step (by repeat (first | (with_reducible first | exact HB.out | apply below_alloc | apply pw_below_drewN | apply below_drew1) | exact HB.out)) hb); clear HO161; clear HO166; clear HO170; clear HB; have HO161 := n0_; have HO166 := n1_; have HO170 := n2_; have HO174 := n3_; have HB := n4_; clear n0_ n1_ n2_ n3_ n4_; (try clear hb); (try clear hb2); (try clear hk); (try clear hi); (try clear ho0)))
  (try simp only [Act.put, List.setIfInBounds_toArray, List.set_cons_zero, List.set_cons_succ])
  go_cut [48] (fun v48 wc => ∃ (kq : Nat) (x48_3 : Bool), v48 = .bool x48_3 ∧ Aside0 (nautiluslaw08_shown.j0 kq t162 t167 t171 x48_3 = some r) ∧ Aside0 (kq ≤ k) ∧ Aside0 (Kd.R k31 31 wc w.heap.size (fun k_ => some k_ ≠ (v169 : Value).ownBlock ∧ some k_ ≠ (v173 : Value).ownBlock) (.slice Ao9 t162.length co9) t162) ∧ Aside0 (Kd.R k31 31 wc w.heap.size (fun k_ => some k_ ≠ ((.slice Ao9 t162.length co9) : Value).ownBlock ∧ some k_ ≠ (v173 : Value).ownBlock) v169 t167) ∧ Aside0 (Kd.R k31 31 wc w.heap.size (fun k_ => some k_ ≠ ((.slice Ao9 t162.length co9) : Value).ownBlock ∧ some k_ ≠ (v169 : Value).ownBlock) v173 t171) ∧ Aside0 (Below w.heap.size w wc))
  case first =>
    have H := HC4.out
    clear HC4
    by_cases c12 : t164 = 0
    · rw [if_pos c12] at H
      have c12b0 : (t164 == 0) = true := beq_iff_eq.mpr c12
      have c12b1 : (t164 != 0) = false := bne_eq_false_iff_eq.mpr c12
      clear c12
      (first | rw [c12b0] | (simp only [i64_w, i32_w]; rw [c12b0]) | skip)
      by_cases c13 : t168 = 0
      · rw [if_pos c13] at H
        have c13b0 : (t168 == 0) = true := beq_iff_eq.mpr c13
        have c13b1 : (t168 != 0) = false := bne_eq_false_iff_eq.mpr c13
        clear c13
        by_cases c14 : t172 = 0
        · rw [if_pos c14] at H
          have c14b0 : (t172 == 0) = true := beq_iff_eq.mpr c14
          have c14b1 : (t172 != 0) = false := bne_eq_false_iff_eq.mpr c14
          clear c14
          by_cases c15 : t163 = 1
          · rw [if_pos c15] at H
            have c15b0 : (t163 == 1) = true := beq_iff_eq.mpr c15
            have c15b1 : (t163 != 1) = false := bne_eq_false_iff_eq.mpr c15
            clear c15
            by_cases c16 : (t167.length : Int) = 2
            · rw [if_pos c16] at H
              have c16b0 : ((t167.length : Int) == 2) = true := beq_iff_eq.mpr c16
              have c16b1 : ((t167.length : Int) != 2) = false := bne_eq_false_iff_eq.mpr c16
              clear c16
              have H' := Aside0.mk H
              clear H
              obtain ⟨Ao17, co17, eo17⟩ := Kd.R_slice HO170.out
              subst eo17
              obtain ⟨Ao18, co18, eo18⟩ := Kd.R_slice HO174.out
              subst eo18
              go_wp2
              go_meet
              case rel => exact ⟨_, (((t171.length : Int) != 2)), (by first | rfl | (simp; done) | (simp [*]; done)), H', ⟨by first | omega | exact Nat.le_refl _⟩, ⟨by (with_reducible repeat (first | apply Kd.R_alloc | apply Kd.R_drewN | apply Kd.R_drew)); exact Kd.R_mono HO166.out (fun _ hk => ⟨hk.1.2, hk.2⟩)⟩, ⟨by (with_reducible repeat (first | apply Kd.R_alloc | apply Kd.R_drewN | apply Kd.R_drew)); exact Kd.R_mono HO170.out (fun _ hk => ⟨hk.1.2, hk.2⟩)⟩, ⟨by (with_reducible repeat (first | apply Kd.R_alloc | apply Kd.R_drewN | apply Kd.R_drew)); exact Kd.R_mono HO174.out (fun _ hk => ⟨hk.1.2, hk.2⟩)⟩, ⟨by repeat (first | (with_reducible first | exact HB.out | apply below_alloc | apply pw_below_drewN | apply below_drew1) | exact HB.out)⟩⟩
            · rw [if_neg c16] at H
              have c16b0 : ((t167.length : Int) == 2) = false := beq_eq_false_iff_ne.mpr c16
              have c16b1 : ((t167.length : Int) != 2) = true := bne_iff_ne.mpr c16
              have H' := Aside0.mk H
              clear H
              obtain ⟨Ao19, co19, eo19⟩ := Kd.R_slice HO170.out
              subst eo19
              go_wp2
              go_meet
              case rel => exact ⟨_, (true), (by first | rfl | (simp; done) | (simp [*]; done)), H', ⟨by first | omega | exact Nat.le_refl _⟩, ⟨by (with_reducible repeat (first | apply Kd.R_alloc | apply Kd.R_drewN | apply Kd.R_drew)); exact Kd.R_mono HO166.out (fun _ hk => ⟨hk.1.2, hk.2⟩)⟩, ⟨by (with_reducible repeat (first | apply Kd.R_alloc | apply Kd.R_drewN | apply Kd.R_drew)); exact Kd.R_mono HO170.out (fun _ hk => ⟨hk.1.2, hk.2⟩)⟩, ⟨by (with_reducible repeat (first | apply Kd.R_alloc | apply Kd.R_drewN | apply Kd.R_drew)); exact Kd.R_mono HO174.out (fun _ hk => ⟨hk.1.2, hk.2⟩)⟩, ⟨by repeat (first | (with_reducible first | exact HB.out | apply below_alloc | apply pw_below_drewN | apply below_drew1) | exact HB.out)⟩⟩
          · rw [if_neg c15] at H
            have c15b0 : (t163 == 1) = false := beq_eq_false_iff_ne.mpr c15
            have c15b1 : (t163 != 1) = true := bne_iff_ne.mpr c15
            have H' := Aside0.mk H
            clear H
            go_wp2
            go_meet
            case rel => exact ⟨_, (true), (by first | rfl | (simp; done) | (simp [*]; done)), H', ⟨by first | omega | exact Nat.le_refl _⟩, ⟨by (with_reducible repeat (first | apply Kd.R_alloc | apply Kd.R_drewN | apply Kd.R_drew)); exact Kd.R_mono HO166.out (fun _ hk => ⟨hk.1.2, hk.2⟩)⟩, ⟨by (with_reducible repeat (first | apply Kd.R_alloc | apply Kd.R_drewN | apply Kd.R_drew)); exact Kd.R_mono HO170.out (fun _ hk => ⟨hk.1.2, hk.2⟩)⟩, ⟨by (with_reducible repeat (first | apply Kd.R_alloc | apply Kd.R_drewN | apply Kd.R_drew)); exact Kd.R_mono HO174.out (fun _ hk => ⟨hk.1.2, hk.2⟩)⟩, ⟨by repeat (first | (with_reducible first | exact HB.out | apply below_alloc | apply pw_below_drewN | apply below_drew1) | exact HB.out)⟩⟩
        · rw [if_neg c14] at H
          have c14b0 : (t172 == 0) = false := beq_eq_false_iff_ne.mpr c14
          have c14b1 : (t172 != 0) = true := bne_iff_ne.mpr c14
          have H' := Aside0.mk H
          clear H
          go_wp2
          go_meet
          case rel => exact ⟨_, (true), (by first | rfl | (simp; done) | (simp [*]; done)), H', ⟨by first | omega | exact Nat.le_refl _⟩, ⟨by (with_reducible repeat (first | apply Kd.R_alloc | apply Kd.R_drewN | apply Kd.R_drew)); exact Kd.R_mono HO166.out (fun _ hk => ⟨hk.1.2, hk.2⟩)⟩, ⟨by (with_reducible repeat (first | apply Kd.R_alloc | apply Kd.R_drewN | apply Kd.R_drew)); exact Kd.R_mono HO170.out (fun _ hk => ⟨hk.1.2, hk.2⟩)⟩, ⟨by (with_reducible repeat (first | apply Kd.R_alloc | apply Kd.R_drewN | apply Kd.R_drew)); exact Kd.R_mono HO174.out (fun _ hk => ⟨hk.1.2, hk.2⟩)⟩, ⟨by repeat (first | (with_reducible first | exact HB.out | apply below_alloc | apply pw_below_drewN | apply below_drew1) | exact HB.out)⟩⟩
      · rw [if_neg c13] at H
        have c13b0 : (t168 == 0) = false := beq_eq_false_iff_ne.mpr c13
        have c13b1 : (t168 != 0) = true := bne_iff_ne.mpr c13
        have H' := Aside0.mk H
        clear H
        go_wp2
        go_meet
        case rel => exact ⟨_, (true), (by first | rfl | (simp; done) | (simp [*]; done)), H', ⟨by first | omega | exact Nat.le_refl _⟩, ⟨by (with_reducible repeat (first | apply Kd.R_alloc | apply Kd.R_drewN | apply Kd.R_drew)); exact Kd.R_mono HO166.out (fun _ hk => ⟨hk.1.2, hk.2⟩)⟩, ⟨by (with_reducible repeat (first | apply Kd.R_alloc | apply Kd.R_drewN | apply Kd.R_drew)); exact Kd.R_mono HO170.out (fun _ hk => ⟨hk.1.2, hk.2⟩)⟩, ⟨by (with_reducible repeat (first | apply Kd.R_alloc | apply Kd.R_drewN | apply Kd.R_drew)); exact Kd.R_mono HO174.out (fun _ hk => ⟨hk.1.2, hk.2⟩)⟩, ⟨by repeat (first | (with_reducible first | exact HB.out | apply below_alloc | apply pw_below_drewN | apply below_drew1) | exact HB.out)⟩⟩
    · rw [if_neg c12] at H
      have c12b0 : (t164 == 0) = false := beq_eq_false_iff_ne.mpr c12
      have c12b1 : (t164 != 0) = true := bne_iff_ne.mpr c12
      (first | rw [c12b0] | (simp only [i64_w, i32_w]; rw [c12b0]) | skip)
      have H' := Aside0.mk H
      clear H
      go_wp2
      go_meet
      case rel => exact ⟨_, (true), (by first | rfl | (simp; done) | (simp [*]; done)), H', ⟨by first | omega | exact Nat.le_refl _⟩, ⟨by (with_reducible repeat (first | apply Kd.R_alloc | apply Kd.R_drewN | apply Kd.R_drew)); exact Kd.R_mono HO166.out (fun _ hk => ⟨hk.1.2, hk.2⟩)⟩, ⟨by (with_reducible repeat (first | apply Kd.R_alloc | apply Kd.R_drewN | apply Kd.R_drew)); exact Kd.R_mono HO170.out (fun _ hk => ⟨hk.1.2, hk.2⟩)⟩, ⟨by (with_reducible repeat (first | apply Kd.R_alloc | apply Kd.R_drewN | apply Kd.R_drew)); exact Kd.R_mono HO174.out (fun _ hk => ⟨hk.1.2, hk.2⟩)⟩, ⟨by repeat (first | (with_reducible first | exact HB.out | apply below_alloc | apply pw_below_drewN | apply below_drew1) | exact HB.out)⟩⟩
  case rest =>
    clear HC4
    try clear c1
    try clear p2
    try clear c3
    try clear c9
    try clear c11
    try clear c12
    try clear c12b0
    try clear c12b1
    try clear c13
    try clear c13b0
    try clear c13b1
    try clear c14
    try clear c14b0
    try clear c14b1
    try clear c15
    try clear c15b0
    try clear c15b1
    try clear c16
    try clear c16b0
    try clear c16b1
    obtain ⟨kq, x48_3, rfl, HA, HJ3, HO_1, HO_4, HO_6, HB⟩ := hcut
    cases kq with
    | zero => exact absurd HA.out (by simp [nautiluslaw08_shown.j0])
    | succ kj3 =>
      have H := HA.out
      clear HA
      simp only [nautiluslaw08_shown.j0] at H
      by_cases c20 : x48_3 = true
      · subst c20
        have H1 : (some false) = some r := by rw [if_pos rfl] at H; exact H
        clear H
        have H := H1
        clear H1
        obtain rfl := Option.some.inj H
        go_wp2
        go_ret
        exact ⟨by first | rfl | (simp [errW_none, errW_some] <;> rfl) | (simp [*, errW_none, errW_some] <;> rfl) | (simp [show IntKind.u64.wrap 0 = 0 from rfl, Int.zero_tdiv]; done), by repeat (first | (with_reducible first | exact HB.out | apply below_alloc | apply pw_below_drewN | apply below_drew1) | exact HB.out)⟩
      · replace c20 := Bool.eq_false_iff.mpr c20
        subst c20
        have H1 : (if 1 < (t162.length : Int) then ((dat_Lives.f ((rd_T31 t162 1).f0) ((rd_T31 t162 1).f1) ((rd_T31 t162 1).f2) ([] : List Int)).bind fun t176 => (if t176 = true then (if 1 < (t167.length : Int) then ((dat_Lives.f ((rd_T31 t167 1).f0) ((rd_T31 t167 1).f1) ((rd_T31 t167 1).f2) (([2] : List Int))).bind fun t181 => (if t181 = true then ((dat_Lives.f ((rd_T31 t167 1).f0) ((rd_T31 t167 1).f1) ((rd_T31 t167 1).f2) (([3] : List Int))).bind fun t186 => (if t186 = true then (some false) else (if 1 < (t171.length : Int) then (some (((rd_T31 t171 1).f0) == 0 && (((rd_T31 t171 1).f1) == 0 && (((rd_T31 t171 1).f2) == 0)))) else (none)))) else (some false))) else (none)) else (some false))) else (none)) = some r := by rw [if_neg (show ¬ (false = true) by decide)] at H; exact H
        clear H
        have H := H1
        clear H1
        by_cases c21 : 1 < (t162.length : Int)
        · rw [if_pos c21] at H
          have c21b0 : decide (1 < (t162.length : Int)) = true := decide_eq_true c21
          have c21b1 : decide (1 < t162.length) = true := decide_eq_true (by omega)
          clear c21
          replace H := Option.bind_eq_some_iff.mp H
          obtain ⟨t176, A220, H⟩ := H
          replace H : (if t176 = true then (if 1 < (t167.length : Int) then ((dat_Lives.f ((rd_T31 t167 1).f0) ((rd_T31 t167 1).f1) ((rd_T31 t167 1).f2) (([2] : List Int))).bind fun t181 => (if t181 = true then ((dat_Lives.f ((rd_T31 t167 1).f0) ((rd_T31 t167 1).f1) ((rd_T31 t167 1).f2) (([3] : List Int))).bind fun t186 => (if t186 = true then (some false) else (if 1 < (t171.length : Int) then (some (((rd_T31 t171 1).f0) == 0 && (((rd_T31 t171 1).f1) == 0 && (((rd_T31 t171 1).f2) == 0)))) else (none)))) else (some false))) else (none)) else (some false)) = some r := H
          have A22 := Aside0.mk A220
          clear A220
          by_cases c23 : t176 = true
          · subst c23
            have H1 : (if 1 < (t167.length : Int) then ((dat_Lives.f ((rd_T31 t167 1).f0) ((rd_T31 t167 1).f1) ((rd_T31 t167 1).f2) (([2] : List Int))).bind fun t181 => (if t181 = true then ((dat_Lives.f ((rd_T31 t167 1).f0) ((rd_T31 t167 1).f1) ((rd_T31 t167 1).f2) (([3] : List Int))).bind fun t186 => (if t186 = true then (some false) else (if 1 < (t171.length : Int) then (some (((rd_T31 t171 1).f0) == 0 && (((rd_T31 t171 1).f1) == 0 && (((rd_T31 t171 1).f2) == 0)))) else (none)))) else (some false))) else (none)) = some r := by rw [if_pos rfl] at H; exact H
            clear H
            have H := H1
            clear H1
            by_cases c24 : 1 < (t167.length : Int)
            · rw [if_pos c24] at H
              have c24b0 : decide (1 < (t167.length : Int)) = true := decide_eq_true c24
              have c24b1 : decide (1 < t167.length) = true := decide_eq_true (by omega)
              clear c24
              obtain ⟨y178, hy178⟩ : ∃ y_ : List Int, y_ = (([2] : List Int)) := ⟨_, rfl⟩
              replace H : ((dat_Lives.f ((rd_T31 t167 1).f0) ((rd_T31 t167 1).f1) ((rd_T31 t167 1).f2) y178).bind fun t181 => (if t181 = true then ((dat_Lives.f ((rd_T31 t167 1).f0) ((rd_T31 t167 1).f1) ((rd_T31 t167 1).f2) (([3] : List Int))).bind fun t186 => (if t186 = true then (some false) else (if 1 < (t171.length : Int) then (some (((rd_T31 t171 1).f0) == 0 && (((rd_T31 t171 1).f1) == 0 && (((rd_T31 t171 1).f2) == 0)))) else (none)))) else (some false))) = some r := by first | (rw [hy178]; with_reducible exact H) | (have H2_ := (Option.bind_some _ _).symm.trans H; rw [hy178]; with_reducible exact H2_) | (have H2_ := (Option.bind_some _ _).symm.trans H; with_reducible exact H2_) | with_reducible exact H | (rw [hy178]; exact H) | exact H
              have Ny178 := Aside0.mk hy178
              clear hy178
              replace H := Option.bind_eq_some_iff.mp H
              obtain ⟨t181, A250, H⟩ := H
              replace H : (if t181 = true then ((dat_Lives.f ((rd_T31 t167 1).f0) ((rd_T31 t167 1).f1) ((rd_T31 t167 1).f2) (([3] : List Int))).bind fun t186 => (if t186 = true then (some false) else (if 1 < (t171.length : Int) then (some (((rd_T31 t171 1).f0) == 0 && (((rd_T31 t171 1).f1) == 0 && (((rd_T31 t171 1).f2) == 0)))) else (none)))) else (some false)) = some r := H
              have A25 := Aside0.mk A250
              clear A250
              by_cases c26 : t181 = true
              · subst c26
                have H1 : ((dat_Lives.f ((rd_T31 t167 1).f0) ((rd_T31 t167 1).f1) ((rd_T31 t167 1).f2) (([3] : List Int))).bind fun t186 => (if t186 = true then (some false) else (if 1 < (t171.length : Int) then (some (((rd_T31 t171 1).f0) == 0 && (((rd_T31 t171 1).f1) == 0 && (((rd_T31 t171 1).f2) == 0)))) else (none)))) = some r := by rw [if_pos rfl] at H; exact H
                clear H
                have H := H1
                clear H1
                obtain ⟨y183, hy183⟩ : ∃ y_ : List Int, y_ = (([3] : List Int)) := ⟨_, rfl⟩
                replace H : ((dat_Lives.f ((rd_T31 t167 1).f0) ((rd_T31 t167 1).f1) ((rd_T31 t167 1).f2) y183).bind fun t186 => (if t186 = true then (some false) else (if 1 < (t171.length : Int) then (some (((rd_T31 t171 1).f0) == 0 && (((rd_T31 t171 1).f1) == 0 && (((rd_T31 t171 1).f2) == 0)))) else (none)))) = some r := by first | (rw [hy183]; with_reducible exact H) | (have H2_ := (Option.bind_some _ _).symm.trans H; rw [hy183]; with_reducible exact H2_) | (have H2_ := (Option.bind_some _ _).symm.trans H; with_reducible exact H2_) | with_reducible exact H | (rw [hy183]; exact H) | exact H
                have Ny183 := Aside0.mk hy183
                clear hy183
                replace H := Option.bind_eq_some_iff.mp H
                obtain ⟨t186, A270, H⟩ := H
                replace H : (if t186 = true then (some false) else (if 1 < (t171.length : Int) then (some (((rd_T31 t171 1).f0) == 0 && (((rd_T31 t171 1).f1) == 0 && (((rd_T31 t171 1).f2) == 0)))) else (none))) = some r := H
                have A27 := Aside0.mk A270
                clear A270
                by_cases c28 : t186 = true
                · subst c28
                  have H1 : (some false) = some r := by rw [if_pos rfl] at H; exact H
                  clear H
                  have H := H1
                  clear H1
                  obtain rfl := Option.some.inj H
                  have p175 : 0 ≤ (1 : Int) := (by omega)
                  have q175 : 1 < (t162.length : Int) := of_decide_eq_true (by first | (with_reducible assumption) | assumption)
                  obtain ⟨ad175, e175, hx175_0, hx175_1, hx175_2⟩ := at_T31 (Kd.R_reads' HO_1.out).2.2 1 p175 q175
                  cases e175
                  (try simp only [show (1 : Int).toNat = 1 from rfl, Nat.reduceMul, Nat.reduceEqDiff, Go.Addr.add, ↓reduceIte] at hx175_0)
                  (try simp only [show (1 : Int).toNat = 1 from rfl, Nat.reduceMul, Nat.reduceEqDiff, Go.Addr.add, ↓reduceIte] at hx175_1)
                  (try simp only [show (1 : Int).toNat = 1 from rfl, Nat.reduceMul, Nat.reduceEqDiff, Go.Addr.add, ↓reduceIte] at hx175_2)
                  have qi175 : (1 < t162.length) = True := eq_true (by omega)
                  (try rw [show ((1 : Int)).toNat = 1 from rfl] at hx175_0)
                  (try rw [show 1 * 3 = 3 from rfl] at hx175_0)
                  (try rw [show ((1 : Int)).toNat = 1 from rfl] at hx175_1)
                  (try rw [show 1 * 3 = 3 from rfl] at hx175_1)
                  (try rw [show ((1 : Int)).toNat = 1 from rfl] at hx175_2)
                  (try rw [show 1 * 3 = 3 from rfl] at hx175_2)
                  replace p175 := eq_true p175
                  replace q175 := eq_true q175
                  go_wp2_with (first | ((with_reducible refine gate_callee (f := 12) rfl ?_); refine goesL_ (some 52) rfl rfl Try.func12 (by kernel_rfl) rfl #[.agg #[.int .u32 ((rd_T31 t162 1).f0), .int .u64 ((rd_T31 t162 1).f1), .int .u64 ((rd_T31 t162 1).f2)], .slice none 0 0] rfl (by (try simp only [List.map_toArray, List.map_cons, List.map_nil]); first | done | rfl | (simp only [List.length_drop, List.length_take]; rfl)) ?_; (refine (dat_Lives.calls ((rd_T31 t162 1).f0) ((rd_T31 t162 1).f1) ((rd_T31 t162 1).f2) _ _ ([] : List Int) true _ ?side1 ?side2 A22.out).mono ?_); (case side1 => exact Kd.C_nil _ _); (case side2 => exact Nat.le_refl _); rintro e w29 ⟨rfl, hb⟩; refine ⟨_, rfl, ?_⟩; have n0_ := Aside0.mk (Kd.R_below (by (with_reducible repeat (first | apply Kd.R_alloc | apply Kd.R_drewN | apply Kd.R_drew)); exact HO_1.out) hb); have n1_ := Aside0.mk (Kd.R_below (by (with_reducible repeat (first | apply Kd.R_alloc | apply Kd.R_drewN | apply Kd.R_drew)); exact HO_4.out) hb); have n2_ := Aside0.mk (Kd.R_below (by (with_reducible repeat (first | apply Kd.R_alloc | apply Kd.R_drewN | apply Kd.R_drew)); exact HO_6.out) hb); have n3_ := Aside0.mk (below_step (by repeat (first | (with_reducible first | exact HB.out | apply below_alloc | apply pw_below_drewN | apply below_drew1) | exact HB.out)) hb); clear HO_1; clear HO_4; clear HO_6; clear HB; have HO_1 := n0_; have HO_4 := n1_; have HO_6 := n2_; have HB := n3_; clear n0_ n1_ n2_ n3_; (try clear hb); (try clear hb2); (try clear hk); (try clear hi); obtain ⟨Ao30, co30, eo30⟩ := Kd.R_slice HO_4.out; subst eo30; have p177 : 0 ≤ (1 : Int) := (by omega); have q177 : 1 < (t167.length : Int) := of_decide_eq_true (by first | (with_reducible assumption) | assumption); obtain ⟨ad177, e177, hx177_0, hx177_1, hx177_2⟩ := at_T31 (Kd.R_reads' HO_4.out).2.2 1 p177 q177; cases e177; (try simp only [show (1 : Int).toNat = 1 from rfl, Nat.reduceMul, Nat.reduceEqDiff, Go.Addr.add, ↓reduceIte] at hx177_0); (try simp only [show (1 : Int).toNat = 1 from rfl, Nat.reduceMul, Nat.reduceEqDiff, Go.Addr.add, ↓reduceIte] at hx177_1); (try simp only [show (1 : Int).toNat = 1 from rfl, Nat.reduceMul, Nat.reduceEqDiff, Go.Addr.add, ↓reduceIte] at hx177_2); have qi177 : (1 < t167.length) = True := eq_true (by omega); (try rw [show ((1 : Int)).toNat = 1 from rfl] at hx177_0); (try rw [show 1 * 3 = 3 from rfl] at hx177_0); (try rw [show ((1 : Int)).toNat = 1 from rfl] at hx177_1); (try rw [show 1 * 3 = 3 from rfl] at hx177_1); (try rw [show ((1 : Int)).toNat = 1 from rfl] at hx177_2); (try rw [show 1 * 3 = 3 from rfl] at hx177_2); replace p177 := eq_true p177; replace q177 := eq_true q177) | ((with_reducible refine gate_dst (N := 57) rfl ?_); (try (refine gate_guard (by rfl) ?_; dsimp only)); refine Kd.R_lit (Kd.int .u64) _ 24 ?hg (N := 57) ?hd (xs := ([2] : List Int)) (inner := [.int .u64 2]) (ok := fun _ => True) (okp := fun _ => True) ?hr ?hp (fun _ hk => hk) trivial (Below.refl _ _) (Nat.le_refl _) (by simp) ?_; (case hd => rfl); (case hg => rfl); (case hr => first | (go_simp; done) | (go_simp; rfl)); (case hp => exact (Reps.one (show Kd.M (Kd.int .u64) _ _ _ 2 [.int .u64 2] from rfl) (Reps.none _ _))); intro v179 w31 ho32 hb hg_ hnew_; clear hg_ hnew_; (first | rw [← Ny178.out] at ho32 | (simp only [Int.reduceToNat] at ho32; rw [← Ny178.out] at ho32)); have n0_ := Aside0.mk (Kd.R_below (by (with_reducible repeat (first | apply Kd.R_alloc | apply Kd.R_drewN | apply Kd.R_drew)); exact HO_1.out) hb); have n1_ := Aside0.mk (Kd.R_below (by (with_reducible repeat (first | apply Kd.R_alloc | apply Kd.R_drewN | apply Kd.R_drew)); exact HO_4.out) hb); have n2_ := Aside0.mk (Kd.R_below (by (with_reducible repeat (first | apply Kd.R_alloc | apply Kd.R_drewN | apply Kd.R_drew)); exact HO_6.out) hb); have n3_ := Aside0.mk (Kd.R_lower ho32 (below_size (by repeat (first | (with_reducible first | exact HB.out | apply below_alloc | apply pw_below_drewN | apply below_drew1) | exact HB.out)))); have n4_ := Aside0.mk (below_step (by repeat (first | (with_reducible first | exact HB.out | apply below_alloc | apply pw_below_drewN | apply below_drew1) | exact HB.out)) hb); clear HO_1; clear HO_4; clear HO_6; clear HB; have HO_1 := n0_; have HO_4 := n1_; have HO_6 := n2_; have HO180 := n3_; have HB := n4_; clear n0_ n1_ n2_ n3_ n4_; clear hb ho32; obtain ⟨Ao33, co33, eo33⟩ := Kd.R_slice HO180.out; subst eo33) | (go_at_call 12; (with_reducible refine (dat_Lives.calls ((rd_T31 t167 1).f0) ((rd_T31 t167 1).f1) ((rd_T31 t167 1).f2) _ _ y178 true _ ?side1 ?side2 A25.out).mono ?_); (case side1 => repeat (first | exact (Kd.R_reads' HO180.out).2.2 | (with_reducible refine Kd.C_alloc ?_ _) | (with_reducible refine Kd.C_drewN ?_ _) | (with_reducible refine Kd.C_drew ?_))); (case side2 => exact (Kd.R_reads' HO180.out).2.1); rintro e w34 ⟨rfl, hb⟩; have n0_ := Aside0.mk (Kd.R_below (by (with_reducible repeat (first | apply Kd.R_alloc | apply Kd.R_drewN | apply Kd.R_drew)); exact HO_1.out) hb); have n1_ := Aside0.mk (Kd.R_below (by (with_reducible repeat (first | apply Kd.R_alloc | apply Kd.R_drewN | apply Kd.R_drew)); exact HO_4.out) hb); have n2_ := Aside0.mk (Kd.R_below (by (with_reducible repeat (first | apply Kd.R_alloc | apply Kd.R_drewN | apply Kd.R_drew)); exact HO_6.out) hb); have n3_ := Aside0.mk (Kd.R_below (by (with_reducible repeat (first | apply Kd.R_alloc | apply Kd.R_drewN | apply Kd.R_drew)); exact HO180.out) hb); have n4_ := Aside0.mk (below_step (by repeat (first | (with_reducible first | exact HB.out | apply below_alloc | apply pw_below_drewN | apply below_drew1) | exact HB.out)) hb); clear HO_1; clear HO_4; clear HO_6; clear HO180; clear HB; have HO_1 := n0_; have HO_4 := n1_; have HO_6 := n2_; have HO180 := n3_; have HB := n4_; clear n0_ n1_ n2_ n3_ n4_; (try clear hb); (try clear hb2); (try clear hk); (try clear hi); have p182 : 0 ≤ (1 : Int) := (by omega); have q182 : 1 < (t167.length : Int) := of_decide_eq_true (by first | (with_reducible assumption) | assumption); obtain ⟨ad182, e182, hx182_0, hx182_1, hx182_2⟩ := at_T31 (Kd.R_reads' HO_4.out).2.2 1 p182 q182; obtain rfl : ad177 = ad182 := (by injection e182); (try simp only [show (1 : Int).toNat = 1 from rfl, Nat.reduceMul, Nat.reduceEqDiff, Go.Addr.add, ↓reduceIte] at hx182_0); (try simp only [show (1 : Int).toNat = 1 from rfl, Nat.reduceMul, Nat.reduceEqDiff, Go.Addr.add, ↓reduceIte] at hx182_1); (try simp only [show (1 : Int).toNat = 1 from rfl, Nat.reduceMul, Nat.reduceEqDiff, Go.Addr.add, ↓reduceIte] at hx182_2); have qi182 : (1 < t167.length) = True := eq_true (by omega); (try rw [show ((1 : Int)).toNat = 1 from rfl] at hx182_0); (try rw [show 1 * 3 = 3 from rfl] at hx182_0); (try rw [show ((1 : Int)).toNat = 1 from rfl] at hx182_1); (try rw [show 1 * 3 = 3 from rfl] at hx182_1); (try rw [show ((1 : Int)).toNat = 1 from rfl] at hx182_2); (try rw [show 1 * 3 = 3 from rfl] at hx182_2); replace p182 := eq_true p182; replace q182 := eq_true q182) | ((with_reducible refine gate_dst (N := 64) rfl ?_); (try (refine gate_guard (by rfl) ?_; dsimp only)); refine Kd.R_lit (Kd.int .u64) _ 24 ?hg (N := 64) ?hd (xs := ([3] : List Int)) (inner := [.int .u64 3]) (ok := fun _ => True) (okp := fun _ => True) ?hr ?hp (fun _ hk => hk) trivial (Below.refl _ _) (Nat.le_refl _) (by simp) ?_; (case hd => rfl); (case hg => rfl); (case hr => first | (go_simp; done) | (go_simp; rfl)); (case hp => exact (Reps.one (show Kd.M (Kd.int .u64) _ _ _ 3 [.int .u64 3] from rfl) (Reps.none _ _))); intro v184 w35 ho36 hb hg_ hnew_; clear hg_ hnew_; (first | rw [← Ny183.out] at ho36 | (simp only [Int.reduceToNat] at ho36; rw [← Ny183.out] at ho36)); have n0_ := Aside0.mk (Kd.R_below (by (with_reducible repeat (first | apply Kd.R_alloc | apply Kd.R_drewN | apply Kd.R_drew)); exact HO_1.out) hb); have n1_ := Aside0.mk (Kd.R_below (by (with_reducible repeat (first | apply Kd.R_alloc | apply Kd.R_drewN | apply Kd.R_drew)); exact HO_4.out) hb); have n2_ := Aside0.mk (Kd.R_below (by (with_reducible repeat (first | apply Kd.R_alloc | apply Kd.R_drewN | apply Kd.R_drew)); exact HO_6.out) hb); have n3_ := Aside0.mk (Kd.R_elder' (by (with_reducible repeat (first | apply Kd.R_alloc | apply Kd.R_drewN | apply Kd.R_drew)); exact HO180.out) (Kd.R_base ho36) hb); have n4_ := Aside0.mk (Kd.R_lower (Kd.R_new' ho36 (Kd.R_lt (by (with_reducible repeat (first | apply Kd.R_alloc | apply Kd.R_drewN | apply Kd.R_drew)); exact HO180.out))) (below_size (by repeat (first | (with_reducible first | exact HB.out | apply below_alloc | apply pw_below_drewN | apply below_drew1) | exact HB.out)))); have n5_ := Aside0.mk (below_step (by repeat (first | (with_reducible first | exact HB.out | apply below_alloc | apply pw_below_drewN | apply below_drew1) | exact HB.out)) hb); clear HO_1; clear HO_4; clear HO_6; clear HO180; clear HB; have HO_1 := n0_; have HO_4 := n1_; have HO_6 := n2_; have HO180 := n3_; have HO185 := n4_; have HB := n5_; clear n0_ n1_ n2_ n3_ n4_ n5_; clear hb ho36; obtain ⟨Ao37, co37, eo37⟩ := Kd.R_slice HO185.out; subst eo37) | (go_at_call 12; (with_reducible refine (dat_Lives.calls ((rd_T31 t167 1).f0) ((rd_T31 t167 1).f1) ((rd_T31 t167 1).f2) _ _ y183 true _ ?side1 ?side2 A27.out).mono ?_); (case side1 => repeat (first | exact (Kd.R_reads' HO185.out).2.2 | (with_reducible refine Kd.C_alloc ?_ _) | (with_reducible refine Kd.C_drewN ?_ _) | (with_reducible refine Kd.C_drew ?_))); (case side2 => exact (Kd.R_reads' HO185.out).2.1); rintro e w38 ⟨rfl, hb⟩; have n0_ := Aside0.mk (Kd.R_below (by (with_reducible repeat (first | apply Kd.R_alloc | apply Kd.R_drewN | apply Kd.R_drew)); exact HO_1.out) hb); have n1_ := Aside0.mk (Kd.R_below (by (with_reducible repeat (first | apply Kd.R_alloc | apply Kd.R_drewN | apply Kd.R_drew)); exact HO_4.out) hb); have n2_ := Aside0.mk (Kd.R_below (by (with_reducible repeat (first | apply Kd.R_alloc | apply Kd.R_drewN | apply Kd.R_drew)); exact HO_6.out) hb); have n3_ := Aside0.mk (Kd.R_below (by (with_reducible repeat (first | apply Kd.R_alloc | apply Kd.R_drewN | apply Kd.R_drew)); exact HO180.out) hb); have n4_ := Aside0.mk (Kd.R_below (by (with_reducible repeat (first | apply Kd.R_alloc | apply Kd.R_drewN | apply Kd.R_drew)); exact HO185.out) hb); have n5_ := Aside0.mk (below_step (by repeat (first | (with_reducible first | exact HB.out | apply below_alloc | apply pw_below_drewN | apply below_drew1) | exact HB.out)) hb); clear HO_1; clear HO_4; clear HO_6; clear HO180; clear HO185; clear HB; have HO_1 := n0_; have HO_4 := n1_; have HO_6 := n2_; have HO180 := n3_; have HO185 := n4_; have HB := n5_; clear n0_ n1_ n2_ n3_ n4_ n5_; (try clear hb); (try clear hb2); (try clear hk); (try clear hi)))
                  go_ret
                  exact ⟨by first | rfl | (simp [errW_none, errW_some] <;> rfl) | (simp [*, errW_none, errW_some] <;> rfl) | (simp [show IntKind.u64.wrap 0 = 0 from rfl, Int.zero_tdiv]; done), by repeat (first | (with_reducible first | exact HB.out | apply below_alloc | apply pw_below_drewN | apply below_drew1) | exact HB.out)⟩
                · replace c28 := Bool.eq_false_iff.mpr c28
                  subst c28
                  have H1 : (if 1 < (t171.length : Int) then (some (((rd_T31 t171 1).f0) == 0 && (((rd_T31 t171 1).f1) == 0 && (((rd_T31 t171 1).f2) == 0)))) else (none)) = some r := by rw [if_neg (show ¬ (false = true) by decide)] at H; exact H
                  clear H
                  have H := H1
                  clear H1
                  by_cases c39 : 1 < (t171.length : Int)
                  · rw [if_pos c39] at H
                    have c39b0 : decide (1 < (t171.length : Int)) = true := decide_eq_true c39
                    have c39b1 : decide (1 < t171.length) = true := decide_eq_true (by omega)
                    clear c39
                    obtain rfl := Option.some.inj H
                    have p175 : 0 ≤ (1 : Int) := (by omega)
                    have q175 : 1 < (t162.length : Int) := of_decide_eq_true (by first | (with_reducible assumption) | assumption)
                    obtain ⟨ad175, e175, hx175_0, hx175_1, hx175_2⟩ := at_T31 (Kd.R_reads' HO_1.out).2.2 1 p175 q175
                    cases e175
                    (try simp only [show (1 : Int).toNat = 1 from rfl, Nat.reduceMul, Nat.reduceEqDiff, Go.Addr.add, ↓reduceIte] at hx175_0)
                    (try simp only [show (1 : Int).toNat = 1 from rfl, Nat.reduceMul, Nat.reduceEqDiff, Go.Addr.add, ↓reduceIte] at hx175_1)
                    (try simp only [show (1 : Int).toNat = 1 from rfl, Nat.reduceMul, Nat.reduceEqDiff, Go.Addr.add, ↓reduceIte] at hx175_2)
                    have qi175 : (1 < t162.length) = True := eq_true (by omega)
                    (try rw [show ((1 : Int)).toNat = 1 from rfl] at hx175_0)
                    (try rw [show 1 * 3 = 3 from rfl] at hx175_0)
                    (try rw [show ((1 : Int)).toNat = 1 from rfl] at hx175_1)
                    (try rw [show 1 * 3 = 3 from rfl] at hx175_1)
                    (try rw [show ((1 : Int)).toNat = 1 from rfl] at hx175_2)
                    (try rw [show 1 * 3 = 3 from rfl] at hx175_2)
                    replace p175 := eq_true p175
                    replace q175 := eq_true q175
                    go_wp2_with (first | ((with_reducible refine gate_callee (f := 12) rfl ?_); refine goesL_ (some 52) rfl rfl Try.func12 (by kernel_rfl) rfl #[.agg #[.int .u32 ((rd_T31 t162 1).f0), .int .u64 ((rd_T31 t162 1).f1), .int .u64 ((rd_T31 t162 1).f2)], .slice none 0 0] rfl (by (try simp only [List.map_toArray, List.map_cons, List.map_nil]); first | done | rfl | (simp only [List.length_drop, List.length_take]; rfl)) ?_; (refine (dat_Lives.calls ((rd_T31 t162 1).f0) ((rd_T31 t162 1).f1) ((rd_T31 t162 1).f2) _ _ ([] : List Int) true _ ?side1 ?side2 A22.out).mono ?_); (case side1 => exact Kd.C_nil _ _); (case side2 => exact Nat.le_refl _); rintro e w40 ⟨rfl, hb⟩; refine ⟨_, rfl, ?_⟩; have n0_ := Aside0.mk (Kd.R_below (by (with_reducible repeat (first | apply Kd.R_alloc | apply Kd.R_drewN | apply Kd.R_drew)); exact HO_1.out) hb); have n1_ := Aside0.mk (Kd.R_below (by (with_reducible repeat (first | apply Kd.R_alloc | apply Kd.R_drewN | apply Kd.R_drew)); exact HO_4.out) hb); have n2_ := Aside0.mk (Kd.R_below (by (with_reducible repeat (first | apply Kd.R_alloc | apply Kd.R_drewN | apply Kd.R_drew)); exact HO_6.out) hb); have n3_ := Aside0.mk (below_step (by repeat (first | (with_reducible first | exact HB.out | apply below_alloc | apply pw_below_drewN | apply below_drew1) | exact HB.out)) hb); clear HO_1; clear HO_4; clear HO_6; clear HB; have HO_1 := n0_; have HO_4 := n1_; have HO_6 := n2_; have HB := n3_; clear n0_ n1_ n2_ n3_; (try clear hb); (try clear hb2); (try clear hk); (try clear hi); obtain ⟨Ao41, co41, eo41⟩ := Kd.R_slice HO_4.out; subst eo41; have p177 : 0 ≤ (1 : Int) := (by omega); have q177 : 1 < (t167.length : Int) := of_decide_eq_true (by first | (with_reducible assumption) | assumption); obtain ⟨ad177, e177, hx177_0, hx177_1, hx177_2⟩ := at_T31 (Kd.R_reads' HO_4.out).2.2 1 p177 q177; cases e177; (try simp only [show (1 : Int).toNat = 1 from rfl, Nat.reduceMul, Nat.reduceEqDiff, Go.Addr.add, ↓reduceIte] at hx177_0); (try simp only [show (1 : Int).toNat = 1 from rfl, Nat.reduceMul, Nat.reduceEqDiff, Go.Addr.add, ↓reduceIte] at hx177_1); (try simp only [show (1 : Int).toNat = 1 from rfl, Nat.reduceMul, Nat.reduceEqDiff, Go.Addr.add, ↓reduceIte] at hx177_2); have qi177 : (1 < t167.length) = True := eq_true (by omega); (try rw [show ((1 : Int)).toNat = 1 from rfl] at hx177_0); (try rw [show 1 * 3 = 3 from rfl] at hx177_0); (try rw [show ((1 : Int)).toNat = 1 from rfl] at hx177_1); (try rw [show 1 * 3 = 3 from rfl] at hx177_1); (try rw [show ((1 : Int)).toNat = 1 from rfl] at hx177_2); (try rw [show 1 * 3 = 3 from rfl] at hx177_2); replace p177 := eq_true p177; replace q177 := eq_true q177) | ((with_reducible refine gate_dst (N := 57) rfl ?_); (try (refine gate_guard (by rfl) ?_; dsimp only)); refine Kd.R_lit (Kd.int .u64) _ 24 ?hg (N := 57) ?hd (xs := ([2] : List Int)) (inner := [.int .u64 2]) (ok := fun _ => True) (okp := fun _ => True) ?hr ?hp (fun _ hk => hk) trivial (Below.refl _ _) (Nat.le_refl _) (by simp) ?_; (case hd => rfl); (case hg => rfl); (case hr => first | (go_simp; done) | (go_simp; rfl)); (case hp => exact (Reps.one (show Kd.M (Kd.int .u64) _ _ _ 2 [.int .u64 2] from rfl) (Reps.none _ _))); intro v179 w42 ho43 hb hg_ hnew_; clear hg_ hnew_; (first | rw [← Ny178.out] at ho43 | (simp only [Int.reduceToNat] at ho43; rw [← Ny178.out] at ho43)); have n0_ := Aside0.mk (Kd.R_below (by (with_reducible repeat (first | apply Kd.R_alloc | apply Kd.R_drewN | apply Kd.R_drew)); exact HO_1.out) hb); have n1_ := Aside0.mk (Kd.R_below (by (with_reducible repeat (first | apply Kd.R_alloc | apply Kd.R_drewN | apply Kd.R_drew)); exact HO_4.out) hb); have n2_ := Aside0.mk (Kd.R_below (by (with_reducible repeat (first | apply Kd.R_alloc | apply Kd.R_drewN | apply Kd.R_drew)); exact HO_6.out) hb); have n3_ := Aside0.mk (Kd.R_lower ho43 (below_size (by repeat (first | (with_reducible first | exact HB.out | apply below_alloc | apply pw_below_drewN | apply below_drew1) | exact HB.out)))); have n4_ := Aside0.mk (below_step (by repeat (first | (with_reducible first | exact HB.out | apply below_alloc | apply pw_below_drewN | apply below_drew1) | exact HB.out)) hb); clear HO_1; clear HO_4; clear HO_6; clear HB; have HO_1 := n0_; have HO_4 := n1_; have HO_6 := n2_; have HO180 := n3_; have HB := n4_; clear n0_ n1_ n2_ n3_ n4_; clear hb ho43; obtain ⟨Ao44, co44, eo44⟩ := Kd.R_slice HO180.out; subst eo44) | (go_at_call 12; (with_reducible refine (dat_Lives.calls ((rd_T31 t167 1).f0) ((rd_T31 t167 1).f1) ((rd_T31 t167 1).f2) _ _ y178 true _ ?side1 ?side2 A25.out).mono ?_); (case side1 => repeat (first | exact (Kd.R_reads' HO180.out).2.2 | (with_reducible refine Kd.C_alloc ?_ _) | (with_reducible refine Kd.C_drewN ?_ _) | (with_reducible refine Kd.C_drew ?_))); (case side2 => exact (Kd.R_reads' HO180.out).2.1); rintro e w45 ⟨rfl, hb⟩; have n0_ := Aside0.mk (Kd.R_below (by (with_reducible repeat (first | apply Kd.R_alloc | apply Kd.R_drewN | apply Kd.R_drew)); exact HO_1.out) hb); have n1_ := Aside0.mk (Kd.R_below (by (with_reducible repeat (first | apply Kd.R_alloc | apply Kd.R_drewN | apply Kd.R_drew)); exact HO_4.out) hb); have n2_ := Aside0.mk (Kd.R_below (by (with_reducible repeat (first | apply Kd.R_alloc | apply Kd.R_drewN | apply Kd.R_drew)); exact HO_6.out) hb); have n3_ := Aside0.mk (Kd.R_below (by (with_reducible repeat (first | apply Kd.R_alloc | apply Kd.R_drewN | apply Kd.R_drew)); exact HO180.out) hb); have n4_ := Aside0.mk (below_step (by repeat (first | (with_reducible first | exact HB.out | apply below_alloc | apply pw_below_drewN | apply below_drew1) | exact HB.out)) hb); clear HO_1; clear HO_4; clear HO_6; clear HO180; clear HB; have HO_1 := n0_; have HO_4 := n1_; have HO_6 := n2_; have HO180 := n3_; have HB := n4_; clear n0_ n1_ n2_ n3_ n4_; (try clear hb); (try clear hb2); (try clear hk); (try clear hi); have p182 : 0 ≤ (1 : Int) := (by omega); have q182 : 1 < (t167.length : Int) := of_decide_eq_true (by first | (with_reducible assumption) | assumption); obtain ⟨ad182, e182, hx182_0, hx182_1, hx182_2⟩ := at_T31 (Kd.R_reads' HO_4.out).2.2 1 p182 q182; obtain rfl : ad177 = ad182 := (by injection e182); (try simp only [show (1 : Int).toNat = 1 from rfl, Nat.reduceMul, Nat.reduceEqDiff, Go.Addr.add, ↓reduceIte] at hx182_0); (try simp only [show (1 : Int).toNat = 1 from rfl, Nat.reduceMul, Nat.reduceEqDiff, Go.Addr.add, ↓reduceIte] at hx182_1); (try simp only [show (1 : Int).toNat = 1 from rfl, Nat.reduceMul, Nat.reduceEqDiff, Go.Addr.add, ↓reduceIte] at hx182_2); have qi182 : (1 < t167.length) = True := eq_true (by omega); (try rw [show ((1 : Int)).toNat = 1 from rfl] at hx182_0); (try rw [show 1 * 3 = 3 from rfl] at hx182_0); (try rw [show ((1 : Int)).toNat = 1 from rfl] at hx182_1); (try rw [show 1 * 3 = 3 from rfl] at hx182_1); (try rw [show ((1 : Int)).toNat = 1 from rfl] at hx182_2); (try rw [show 1 * 3 = 3 from rfl] at hx182_2); replace p182 := eq_true p182; replace q182 := eq_true q182) | ((with_reducible refine gate_dst (N := 64) rfl ?_); (try (refine gate_guard (by rfl) ?_; dsimp only)); refine Kd.R_lit (Kd.int .u64) _ 24 ?hg (N := 64) ?hd (xs := ([3] : List Int)) (inner := [.int .u64 3]) (ok := fun _ => True) (okp := fun _ => True) ?hr ?hp (fun _ hk => hk) trivial (Below.refl _ _) (Nat.le_refl _) (by simp) ?_; (case hd => rfl); (case hg => rfl); (case hr => first | (go_simp; done) | (go_simp; rfl)); (case hp => exact (Reps.one (show Kd.M (Kd.int .u64) _ _ _ 3 [.int .u64 3] from rfl) (Reps.none _ _))); intro v184 w46 ho47 hb hg_ hnew_; clear hg_ hnew_; (first | rw [← Ny183.out] at ho47 | (simp only [Int.reduceToNat] at ho47; rw [← Ny183.out] at ho47)); have n0_ := Aside0.mk (Kd.R_below (by (with_reducible repeat (first | apply Kd.R_alloc | apply Kd.R_drewN | apply Kd.R_drew)); exact HO_1.out) hb); have n1_ := Aside0.mk (Kd.R_below (by (with_reducible repeat (first | apply Kd.R_alloc | apply Kd.R_drewN | apply Kd.R_drew)); exact HO_4.out) hb); have n2_ := Aside0.mk (Kd.R_below (by (with_reducible repeat (first | apply Kd.R_alloc | apply Kd.R_drewN | apply Kd.R_drew)); exact HO_6.out) hb); have n3_ := Aside0.mk (Kd.R_elder' (by (with_reducible repeat (first | apply Kd.R_alloc | apply Kd.R_drewN | apply Kd.R_drew)); exact HO180.out) (Kd.R_base ho47) hb); have n4_ := Aside0.mk (Kd.R_lower (Kd.R_new' ho47 (Kd.R_lt (by (with_reducible repeat (first | apply Kd.R_alloc | apply Kd.R_drewN | apply Kd.R_drew)); exact HO180.out))) (below_size (by repeat (first | (with_reducible first | exact HB.out | apply below_alloc | apply pw_below_drewN | apply below_drew1) | exact HB.out)))); have n5_ := Aside0.mk (below_step (by repeat (first | (with_reducible first | exact HB.out | apply below_alloc | apply pw_below_drewN | apply below_drew1) | exact HB.out)) hb); clear HO_1; clear HO_4; clear HO_6; clear HO180; clear HB; have HO_1 := n0_; have HO_4 := n1_; have HO_6 := n2_; have HO180 := n3_; have HO185 := n4_; have HB := n5_; clear n0_ n1_ n2_ n3_ n4_ n5_; clear hb ho47; obtain ⟨Ao48, co48, eo48⟩ := Kd.R_slice HO185.out; subst eo48) | (go_at_call 12; (with_reducible refine (dat_Lives.calls ((rd_T31 t167 1).f0) ((rd_T31 t167 1).f1) ((rd_T31 t167 1).f2) _ _ y183 false _ ?side1 ?side2 A27.out).mono ?_); (case side1 => repeat (first | exact (Kd.R_reads' HO185.out).2.2 | (with_reducible refine Kd.C_alloc ?_ _) | (with_reducible refine Kd.C_drewN ?_ _) | (with_reducible refine Kd.C_drew ?_))); (case side2 => exact (Kd.R_reads' HO185.out).2.1); rintro e w49 ⟨rfl, hb⟩; have n0_ := Aside0.mk (Kd.R_below (by (with_reducible repeat (first | apply Kd.R_alloc | apply Kd.R_drewN | apply Kd.R_drew)); exact HO_1.out) hb); have n1_ := Aside0.mk (Kd.R_below (by (with_reducible repeat (first | apply Kd.R_alloc | apply Kd.R_drewN | apply Kd.R_drew)); exact HO_4.out) hb); have n2_ := Aside0.mk (Kd.R_below (by (with_reducible repeat (first | apply Kd.R_alloc | apply Kd.R_drewN | apply Kd.R_drew)); exact HO_6.out) hb); have n3_ := Aside0.mk (Kd.R_below (by (with_reducible repeat (first | apply Kd.R_alloc | apply Kd.R_drewN | apply Kd.R_drew)); exact HO180.out) hb); have n4_ := Aside0.mk (Kd.R_below (by (with_reducible repeat (first | apply Kd.R_alloc | apply Kd.R_drewN | apply Kd.R_drew)); exact HO185.out) hb); have n5_ := Aside0.mk (below_step (by repeat (first | (with_reducible first | exact HB.out | apply below_alloc | apply pw_below_drewN | apply below_drew1) | exact HB.out)) hb); clear HO_1; clear HO_4; clear HO_6; clear HO180; clear HO185; clear HB; have HO_1 := n0_; have HO_4 := n1_; have HO_6 := n2_; have HO180 := n3_; have HO185 := n4_; have HB := n5_; clear n0_ n1_ n2_ n3_ n4_ n5_; (try clear hb); (try clear hb2); (try clear hk); (try clear hi); obtain ⟨Ao50, co50, eo50⟩ := Kd.R_slice HO_6.out; subst eo50; have p187 : 0 ≤ (1 : Int) := (by omega); have q187 : 1 < (t171.length : Int) := of_decide_eq_true (by first | (with_reducible assumption) | assumption); obtain ⟨ad187, e187, hx187_0, hx187_1, hx187_2⟩ := at_T31 (Kd.R_reads' HO_6.out).2.2 1 p187 q187; cases e187; (try simp only [show (1 : Int).toNat = 1 from rfl, Nat.reduceMul, Nat.reduceEqDiff, Go.Addr.add, ↓reduceIte] at hx187_0); (try simp only [show (1 : Int).toNat = 1 from rfl, Nat.reduceMul, Nat.reduceEqDiff, Go.Addr.add, ↓reduceIte] at hx187_1); (try simp only [show (1 : Int).toNat = 1 from rfl, Nat.reduceMul, Nat.reduceEqDiff, Go.Addr.add, ↓reduceIte] at hx187_2); have qi187 : (1 < t171.length) = True := eq_true (by omega); (try rw [show ((1 : Int)).toNat = 1 from rfl] at hx187_0); (try rw [show 1 * 3 = 3 from rfl] at hx187_0); (try rw [show ((1 : Int)).toNat = 1 from rfl] at hx187_1); (try rw [show 1 * 3 = 3 from rfl] at hx187_1); (try rw [show ((1 : Int)).toNat = 1 from rfl] at hx187_2); (try rw [show 1 * 3 = 3 from rfl] at hx187_2); replace p187 := eq_true p187; replace q187 := eq_true q187))
                    go_ret
                    exact ⟨by first | rfl | (simp [errW_none, errW_some] <;> rfl) | (simp [*, errW_none, errW_some] <;> rfl) | (simp [show IntKind.u64.wrap 0 = 0 from rfl, Int.zero_tdiv]; done), by repeat (first | (with_reducible first | exact HB.out | apply below_alloc | apply pw_below_drewN | apply below_drew1) | exact HB.out)⟩
                  · rw [if_neg c39] at H
                    exact absurd H (by simp)
              · replace c26 := Bool.eq_false_iff.mpr c26
                subst c26
                have H1 : (some false) = some r := by rw [if_neg (show ¬ (false = true) by decide)] at H; exact H
                clear H
                have H := H1
                clear H1
                obtain rfl := Option.some.inj H
                have p175 : 0 ≤ (1 : Int) := (by omega)
                have q175 : 1 < (t162.length : Int) := of_decide_eq_true (by first | (with_reducible assumption) | assumption)
                obtain ⟨ad175, e175, hx175_0, hx175_1, hx175_2⟩ := at_T31 (Kd.R_reads' HO_1.out).2.2 1 p175 q175
                cases e175
                (try simp only [show (1 : Int).toNat = 1 from rfl, Nat.reduceMul, Nat.reduceEqDiff, Go.Addr.add, ↓reduceIte] at hx175_0)
                (try simp only [show (1 : Int).toNat = 1 from rfl, Nat.reduceMul, Nat.reduceEqDiff, Go.Addr.add, ↓reduceIte] at hx175_1)
                (try simp only [show (1 : Int).toNat = 1 from rfl, Nat.reduceMul, Nat.reduceEqDiff, Go.Addr.add, ↓reduceIte] at hx175_2)
                have qi175 : (1 < t162.length) = True := eq_true (by omega)
                (try rw [show ((1 : Int)).toNat = 1 from rfl] at hx175_0)
                (try rw [show 1 * 3 = 3 from rfl] at hx175_0)
                (try rw [show ((1 : Int)).toNat = 1 from rfl] at hx175_1)
                (try rw [show 1 * 3 = 3 from rfl] at hx175_1)
                (try rw [show ((1 : Int)).toNat = 1 from rfl] at hx175_2)
                (try rw [show 1 * 3 = 3 from rfl] at hx175_2)
                replace p175 := eq_true p175
                replace q175 := eq_true q175
                go_wp2_with (first | ((with_reducible refine gate_callee (f := 12) rfl ?_); refine goesL_ (some 52) rfl rfl Try.func12 (by kernel_rfl) rfl #[.agg #[.int .u32 ((rd_T31 t162 1).f0), .int .u64 ((rd_T31 t162 1).f1), .int .u64 ((rd_T31 t162 1).f2)], .slice none 0 0] rfl (by (try simp only [List.map_toArray, List.map_cons, List.map_nil]); first | done | rfl | (simp only [List.length_drop, List.length_take]; rfl)) ?_; (refine (dat_Lives.calls ((rd_T31 t162 1).f0) ((rd_T31 t162 1).f1) ((rd_T31 t162 1).f2) _ _ ([] : List Int) true _ ?side1 ?side2 A22.out).mono ?_); (case side1 => exact Kd.C_nil _ _); (case side2 => exact Nat.le_refl _); rintro e w51 ⟨rfl, hb⟩; refine ⟨_, rfl, ?_⟩; have n0_ := Aside0.mk (Kd.R_below (by (with_reducible repeat (first | apply Kd.R_alloc | apply Kd.R_drewN | apply Kd.R_drew)); exact HO_1.out) hb); have n1_ := Aside0.mk (Kd.R_below (by (with_reducible repeat (first | apply Kd.R_alloc | apply Kd.R_drewN | apply Kd.R_drew)); exact HO_4.out) hb); have n2_ := Aside0.mk (Kd.R_below (by (with_reducible repeat (first | apply Kd.R_alloc | apply Kd.R_drewN | apply Kd.R_drew)); exact HO_6.out) hb); have n3_ := Aside0.mk (below_step (by repeat (first | (with_reducible first | exact HB.out | apply below_alloc | apply pw_below_drewN | apply below_drew1) | exact HB.out)) hb); clear HO_1; clear HO_4; clear HO_6; clear HB; have HO_1 := n0_; have HO_4 := n1_; have HO_6 := n2_; have HB := n3_; clear n0_ n1_ n2_ n3_; (try clear hb); (try clear hb2); (try clear hk); (try clear hi); obtain ⟨Ao52, co52, eo52⟩ := Kd.R_slice HO_4.out; subst eo52; have p177 : 0 ≤ (1 : Int) := (by omega); have q177 : 1 < (t167.length : Int) := of_decide_eq_true (by first | (with_reducible assumption) | assumption); obtain ⟨ad177, e177, hx177_0, hx177_1, hx177_2⟩ := at_T31 (Kd.R_reads' HO_4.out).2.2 1 p177 q177; cases e177; (try simp only [show (1 : Int).toNat = 1 from rfl, Nat.reduceMul, Nat.reduceEqDiff, Go.Addr.add, ↓reduceIte] at hx177_0); (try simp only [show (1 : Int).toNat = 1 from rfl, Nat.reduceMul, Nat.reduceEqDiff, Go.Addr.add, ↓reduceIte] at hx177_1); (try simp only [show (1 : Int).toNat = 1 from rfl, Nat.reduceMul, Nat.reduceEqDiff, Go.Addr.add, ↓reduceIte] at hx177_2); have qi177 : (1 < t167.length) = True := eq_true (by omega); (try rw [show ((1 : Int)).toNat = 1 from rfl] at hx177_0); (try rw [show 1 * 3 = 3 from rfl] at hx177_0); (try rw [show ((1 : Int)).toNat = 1 from rfl] at hx177_1); (try rw [show 1 * 3 = 3 from rfl] at hx177_1); (try rw [show ((1 : Int)).toNat = 1 from rfl] at hx177_2); (try rw [show 1 * 3 = 3 from rfl] at hx177_2); replace p177 := eq_true p177; replace q177 := eq_true q177) | ((with_reducible refine gate_dst (N := 57) rfl ?_); (try (refine gate_guard (by rfl) ?_; dsimp only)); refine Kd.R_lit (Kd.int .u64) _ 24 ?hg (N := 57) ?hd (xs := ([2] : List Int)) (inner := [.int .u64 2]) (ok := fun _ => True) (okp := fun _ => True) ?hr ?hp (fun _ hk => hk) trivial (Below.refl _ _) (Nat.le_refl _) (by simp) ?_; (case hd => rfl); (case hg => rfl); (case hr => first | (go_simp; done) | (go_simp; rfl)); (case hp => exact (Reps.one (show Kd.M (Kd.int .u64) _ _ _ 2 [.int .u64 2] from rfl) (Reps.none _ _))); intro v179 w53 ho54 hb hg_ hnew_; clear hg_ hnew_; (first | rw [← Ny178.out] at ho54 | (simp only [Int.reduceToNat] at ho54; rw [← Ny178.out] at ho54)); have n0_ := Aside0.mk (Kd.R_below (by (with_reducible repeat (first | apply Kd.R_alloc | apply Kd.R_drewN | apply Kd.R_drew)); exact HO_1.out) hb); have n1_ := Aside0.mk (Kd.R_below (by (with_reducible repeat (first | apply Kd.R_alloc | apply Kd.R_drewN | apply Kd.R_drew)); exact HO_4.out) hb); have n2_ := Aside0.mk (Kd.R_below (by (with_reducible repeat (first | apply Kd.R_alloc | apply Kd.R_drewN | apply Kd.R_drew)); exact HO_6.out) hb); have n3_ := Aside0.mk (Kd.R_lower ho54 (below_size (by repeat (first | (with_reducible first | exact HB.out | apply below_alloc | apply pw_below_drewN | apply below_drew1) | exact HB.out)))); have n4_ := Aside0.mk (below_step (by repeat (first | (with_reducible first | exact HB.out | apply below_alloc | apply pw_below_drewN | apply below_drew1) | exact HB.out)) hb); clear HO_1; clear HO_4; clear HO_6; clear HB; have HO_1 := n0_; have HO_4 := n1_; have HO_6 := n2_; have HO180 := n3_; have HB := n4_; clear n0_ n1_ n2_ n3_ n4_; clear hb ho54; obtain ⟨Ao55, co55, eo55⟩ := Kd.R_slice HO180.out; subst eo55) | (go_at_call 12; (with_reducible refine (dat_Lives.calls ((rd_T31 t167 1).f0) ((rd_T31 t167 1).f1) ((rd_T31 t167 1).f2) _ _ y178 false _ ?side1 ?side2 A25.out).mono ?_); (case side1 => repeat (first | exact (Kd.R_reads' HO180.out).2.2 | (with_reducible refine Kd.C_alloc ?_ _) | (with_reducible refine Kd.C_drewN ?_ _) | (with_reducible refine Kd.C_drew ?_))); (case side2 => exact (Kd.R_reads' HO180.out).2.1); rintro e w56 ⟨rfl, hb⟩; have n0_ := Aside0.mk (Kd.R_below (by (with_reducible repeat (first | apply Kd.R_alloc | apply Kd.R_drewN | apply Kd.R_drew)); exact HO_1.out) hb); have n1_ := Aside0.mk (Kd.R_below (by (with_reducible repeat (first | apply Kd.R_alloc | apply Kd.R_drewN | apply Kd.R_drew)); exact HO_4.out) hb); have n2_ := Aside0.mk (Kd.R_below (by (with_reducible repeat (first | apply Kd.R_alloc | apply Kd.R_drewN | apply Kd.R_drew)); exact HO_6.out) hb); have n3_ := Aside0.mk (Kd.R_below (by (with_reducible repeat (first | apply Kd.R_alloc | apply Kd.R_drewN | apply Kd.R_drew)); exact HO180.out) hb); have n4_ := Aside0.mk (below_step (by repeat (first | (with_reducible first | exact HB.out | apply below_alloc | apply pw_below_drewN | apply below_drew1) | exact HB.out)) hb); clear HO_1; clear HO_4; clear HO_6; clear HO180; clear HB; have HO_1 := n0_; have HO_4 := n1_; have HO_6 := n2_; have HO180 := n3_; have HB := n4_; clear n0_ n1_ n2_ n3_ n4_; (try clear hb); (try clear hb2); (try clear hk); (try clear hi)))
                go_ret
                exact ⟨by first | rfl | (simp [errW_none, errW_some] <;> rfl) | (simp [*, errW_none, errW_some] <;> rfl) | (simp [show IntKind.u64.wrap 0 = 0 from rfl, Int.zero_tdiv]; done), by repeat (first | (with_reducible first | exact HB.out | apply below_alloc | apply pw_below_drewN | apply below_drew1) | exact HB.out)⟩
            · rw [if_neg c24] at H
              exact absurd H (by simp)
          · replace c23 := Bool.eq_false_iff.mpr c23
            subst c23
            have H1 : (some false) = some r := by rw [if_neg (show ¬ (false = true) by decide)] at H; exact H
            clear H
            have H := H1
            clear H1
            obtain rfl := Option.some.inj H
            have p175 : 0 ≤ (1 : Int) := (by omega)
            have q175 : 1 < (t162.length : Int) := of_decide_eq_true (by first | (with_reducible assumption) | assumption)
            obtain ⟨ad175, e175, hx175_0, hx175_1, hx175_2⟩ := at_T31 (Kd.R_reads' HO_1.out).2.2 1 p175 q175
            cases e175
            (try simp only [show (1 : Int).toNat = 1 from rfl, Nat.reduceMul, Nat.reduceEqDiff, Go.Addr.add, ↓reduceIte] at hx175_0)
            (try simp only [show (1 : Int).toNat = 1 from rfl, Nat.reduceMul, Nat.reduceEqDiff, Go.Addr.add, ↓reduceIte] at hx175_1)
            (try simp only [show (1 : Int).toNat = 1 from rfl, Nat.reduceMul, Nat.reduceEqDiff, Go.Addr.add, ↓reduceIte] at hx175_2)
            have qi175 : (1 < t162.length) = True := eq_true (by omega)
            (try rw [show ((1 : Int)).toNat = 1 from rfl] at hx175_0)
            (try rw [show 1 * 3 = 3 from rfl] at hx175_0)
            (try rw [show ((1 : Int)).toNat = 1 from rfl] at hx175_1)
            (try rw [show 1 * 3 = 3 from rfl] at hx175_1)
            (try rw [show ((1 : Int)).toNat = 1 from rfl] at hx175_2)
            (try rw [show 1 * 3 = 3 from rfl] at hx175_2)
            replace p175 := eq_true p175
            replace q175 := eq_true q175
            go_wp2_with (first | ((with_reducible refine gate_callee (f := 12) rfl ?_); refine goesL_ (some 52) rfl rfl Try.func12 (by kernel_rfl) rfl #[.agg #[.int .u32 ((rd_T31 t162 1).f0), .int .u64 ((rd_T31 t162 1).f1), .int .u64 ((rd_T31 t162 1).f2)], .slice none 0 0] rfl (by (try simp only [List.map_toArray, List.map_cons, List.map_nil]); first | done | rfl | (simp only [List.length_drop, List.length_take]; rfl)) ?_; (refine (dat_Lives.calls ((rd_T31 t162 1).f0) ((rd_T31 t162 1).f1) ((rd_T31 t162 1).f2) _ _ ([] : List Int) false _ ?side1 ?side2 A22.out).mono ?_); (case side1 => exact Kd.C_nil _ _); (case side2 => exact Nat.le_refl _); rintro e w57 ⟨rfl, hb⟩; refine ⟨_, rfl, ?_⟩; have n0_ := Aside0.mk (Kd.R_below (by (with_reducible repeat (first | apply Kd.R_alloc | apply Kd.R_drewN | apply Kd.R_drew)); exact HO_1.out) hb); have n1_ := Aside0.mk (Kd.R_below (by (with_reducible repeat (first | apply Kd.R_alloc | apply Kd.R_drewN | apply Kd.R_drew)); exact HO_4.out) hb); have n2_ := Aside0.mk (Kd.R_below (by (with_reducible repeat (first | apply Kd.R_alloc | apply Kd.R_drewN | apply Kd.R_drew)); exact HO_6.out) hb); have n3_ := Aside0.mk (below_step (by repeat (first | (with_reducible first | exact HB.out | apply below_alloc | apply pw_below_drewN | apply below_drew1) | exact HB.out)) hb); clear HO_1; clear HO_4; clear HO_6; clear HB; have HO_1 := n0_; have HO_4 := n1_; have HO_6 := n2_; have HB := n3_; clear n0_ n1_ n2_ n3_; (try clear hb); (try clear hb2); (try clear hk); (try clear hi)))
            go_ret
            exact ⟨by first | rfl | (simp [errW_none, errW_some] <;> rfl) | (simp [*, errW_none, errW_some] <;> rfl) | (simp [show IntKind.u64.wrap 0 = 0 from rfl, Int.zero_tdiv]; done), by repeat (first | (with_reducible first | exact HB.out | apply below_alloc | apply pw_below_drewN | apply below_drew1) | exact HB.out)⟩
        · rw [if_neg c21] at H
          exact absurd H (by simp)

end Go.Proofs.Ytiajhfinkpddbaa.Q
