/- Functions of the translation as plain Lean functions, and that the translation computes them: printed by this session's driver of the print. -/
import Derived.Test.YtpcokafalmafgaaQ0
import Derived.Test.YtpcokafalmafgaaQ2
import Derived.Test.YtpcokafalmafgaaQ3
import Derived.Test.YtpcokafalmafgaaHVolK
namespace Go.Proofs.Ytpcokafalmafgaa.Q
open Go.Proofs.Ytpcokafalmafgaa.H
open Go.RowKit Go.Proofs.YtpcokafalmafgaaW.PrintWords Go.Proofs.YtpcokafalmafgaaW.PrintLast Go.Proofs.YtpcokafalmafgaaW.PrintMore
attribute [local go_sem] max2_int min2_int max_two min_two max_three min_three max_four min_four   -- for this text's walks alone
set_option linter.unusedVariables false
set_option linter.unusedSimpArgs false

/-! ### nautiluslaw17_VolBack: function 7 -/
mutual
def nautiluslaw17_VolBack.l0 : Nat → ByteArray → Bool → List ByteArray → ByteArray → Int → List ByteArray → List Int → Int → Int → Option (Bool)
  | 0, _, _, _, _, _, _, _, _, _ => none
  | k + 1, x1, x5, x6, x7, x8, x9, x10, x11, x12 => if x12 < (x6.length : Int) then (if x11 < (x10.length : Int) then (if 0 ≤ x11 then (nautiluslaw17_VolBack.j1 k x1 x5 x6 x7 x8 x9 x10 x11 x12 ((rd x10 x11) == x12)) else (none)) else (nautiluslaw17_VolBack.j1 k x1 x5 x6 x7 x8 x9 x10 x11 x12 false)) else (if x5 = true then (if x8 = 0 then (if x7.toList = x1.toList then (if x11 = (x10.length : Int) then ((vol_Changed.f x1 x1).bind fun t238 => (some ((t238.length : Int) == 0))) else (some false)) else (some false)) else (some false)) else (some false))
def nautiluslaw17_VolBack.j1 : Nat → ByteArray → Bool → List ByteArray → ByteArray → Int → List ByteArray → List Int → Int → Int → Bool → Option (Bool)
  | 0, _, _, _, _, _, _, _, _, _, _ => none
  | k + 1, x1, x5, x6, x7, x8, x9, x10, x11, x12, x52 => if x52 = true then (nautiluslaw17_VolBack.l0 k x1 x5 x6 x7 x8 x9 x10 (wrap64 (x11 + 1)) (wrap64 (x12 + 1))) else (if x12 ≥ (x9.length : Int) then (some false) else (if 0 ≤ x12 then (if x12 < (x9.length : Int) then (if 0 ≤ (508 - (mn 508 ((rdOf ByteArray.empty x9 x12).size : Int))) then (if (508 - (mn 508 ((rdOf ByteArray.empty x9 x12).size : Int)) : Int).toNat ≤ 281474976710656 then ((some (List.replicate (508 - (mn 508 ((rdOf ByteArray.empty x9 x12).size : Int)) : Int).toNat 0 : List Int)).bind fun y244 => (if (rdOf ByteArray.empty x9 x12).size + (strOfNums y244).size ≤ 9223372036854775807 then (if x12 < (x6.length : Int) then (if 0 ≤ (508 - (mn 508 ((rdOf ByteArray.empty x6 x12).size : Int))) then (if (508 - (mn 508 ((rdOf ByteArray.empty x6 x12).size : Int)) : Int).toNat ≤ 281474976710656 then ((some (List.replicate (508 - (mn 508 ((rdOf ByteArray.empty x6 x12).size : Int)) : Int).toNat 0 : List Int)).bind fun y249 => (if (rdOf ByteArray.empty x6 x12).size + (strOfNums y249).size ≤ 9223372036854775807 then (if ((rdOf ByteArray.empty x9 x12) ++ (strOfNums y244)).toList = ((rdOf ByteArray.empty x6 x12) ++ (strOfNums y249)).toList then (nautiluslaw17_VolBack.l0 k x1 x5 x6 x7 x8 x9 x10 x11 (wrap64 (x12 + 1))) else (some false)) else (none))) else (none)) else (none)) else (none)) else (none))) else (none)) else (none)) else (none)) else (none)))
end
def nautiluslaw17_VolBack.f (k : Nat) (a0 : ByteArray) (a1 : ByteArray) : Option (Bool) := (nautiluslaw17_shown.f k).bind fun t224 => ((nautiluslaw17_cut.f a0).bind fun t225 => ((nautiluslaw17_cut.f a1).bind fun t226 => ((vol_Cut.f t226).bind fun t227 => ((vol_Paste.f k t227 (((t226.size : Int)) % 4294967296)).bind fun bt230 => ((vol_Cut.f t225).bind fun t232 => ((vol_Changed.f t225 t226).bind fun t235 => (nautiluslaw17_VolBack.l0 k t226 t224 t227 bt230.1 bt230.2 t232 t235 0 0)))))))
theorem nautiluslaw17_VolBack.mono_l : ∀ k, (∀ y0 y1 y2 y3 y4 y5 y6 y7 y8, LeO (nautiluslaw17_VolBack.l0 k y0 y1 y2 y3 y4 y5 y6 y7 y8) (nautiluslaw17_VolBack.l0 (k + 1) y0 y1 y2 y3 y4 y5 y6 y7 y8)) ∧ (∀ y0 y1 y2 y3 y4 y5 y6 y7 y8 y9, LeO (nautiluslaw17_VolBack.j1 k y0 y1 y2 y3 y4 y5 y6 y7 y8 y9) (nautiluslaw17_VolBack.j1 (k + 1) y0 y1 y2 y3 y4 y5 y6 y7 y8 y9))
  | 0 => ⟨fun _ _ _ _ _ _ _ _ _ r h => by simp [nautiluslaw17_VolBack.l0] at h, fun _ _ _ _ _ _ _ _ _ _ r h => by simp [nautiluslaw17_VolBack.j1] at h⟩
  | k + 1 => by
    obtain ⟨ih0, ih1⟩ := nautiluslaw17_VolBack.mono_l k
    refine ⟨?_, ?_⟩
    · intro y0 y1 y2 y3 y4 y5 y6 y7 y8
      unfold nautiluslaw17_VolBack.l0
      repeat' first
      | (with_reducible exact ih0 _ _ _ _ _ _ _ _ _)
      | (with_reducible exact ih1 _ _ _ _ _ _ _ _ _ _)
      | (with_reducible exact nautiluslaw17_shown.mono _)
      | (with_reducible exact vol_Paste.mono _ _ _)
      | (with_reducible exact LeO.refl _)
      | (with_reducible exact LeO.none _)
      | (with_reducible refine LeO.ite ?_ ?_)
      | (with_reducible refine LeO.bind ?_ (fun _ => ?_))
      | exact ih0 _ _ _ _ _ _ _ _ _
      | exact ih1 _ _ _ _ _ _ _ _ _ _
      | exact nautiluslaw17_shown.mono _
      | exact vol_Paste.mono _ _ _
      | exact LeO.none _
      | refine LeO.ite ?_ ?_
      | refine LeO.bind ?_ (fun _ => ?_)
    · intro y0 y1 y2 y3 y4 y5 y6 y7 y8 y9
      unfold nautiluslaw17_VolBack.j1
      repeat' first
      | (with_reducible exact ih0 _ _ _ _ _ _ _ _ _)
      | (with_reducible exact ih1 _ _ _ _ _ _ _ _ _ _)
      | (with_reducible exact nautiluslaw17_shown.mono _)
      | (with_reducible exact vol_Paste.mono _ _ _)
      | (with_reducible exact LeO.refl _)
      | (with_reducible exact LeO.none _)
      | (with_reducible refine LeO.ite ?_ ?_)
      | (with_reducible refine LeO.bind ?_ (fun _ => ?_))
      | exact ih0 _ _ _ _ _ _ _ _ _
      | exact ih1 _ _ _ _ _ _ _ _ _ _
      | exact nautiluslaw17_shown.mono _
      | exact vol_Paste.mono _ _ _
      | exact LeO.none _
      | refine LeO.ite ?_ ?_
      | refine LeO.bind ?_ (fun _ => ?_)
theorem nautiluslaw17_VolBack.mono : ∀ a0 a1 k, LeO (nautiluslaw17_VolBack.f k a0 a1) (nautiluslaw17_VolBack.f (k + 1) a0 a1) := by
  intro a0 a1 k
  obtain ⟨ih0, ih1⟩ := nautiluslaw17_VolBack.mono_l k
  unfold nautiluslaw17_VolBack.f
  repeat' first
      | (with_reducible exact ih0 _ _ _ _ _ _ _ _ _)
      | (with_reducible exact ih1 _ _ _ _ _ _ _ _ _ _)
      | (with_reducible exact nautiluslaw17_shown.mono _)
      | (with_reducible exact vol_Paste.mono _ _ _)
      | (with_reducible exact LeO.refl _)
      | (with_reducible exact LeO.none _)
      | (with_reducible refine LeO.ite ?_ ?_)
      | (with_reducible refine LeO.bind ?_ (fun _ => ?_))
      | exact ih0 _ _ _ _ _ _ _ _ _
      | exact ih1 _ _ _ _ _ _ _ _ _ _
      | exact nautiluslaw17_shown.mono _
      | exact vol_Paste.mono _ _ _
      | exact LeO.none _
      | refine LeO.ite ?_ ?_
      | refine LeO.bind ?_ (fun _ => ?_)
def nautiluslaw17_VolBack.T16 : Bool × List (List Nat × List Nat) := (true, [([], []), ([], []), ([0, 1], [0, 1]), ([2], [2]), ([], []), ([], []), ([4, 5], [4, 5]), ([6], [6]), ([7], [7]), ([8], [8]), ([9], [9]), ([10, 10], [10]), ([11], [11]), ([3, 12], [3, 12]), ([13, 0, 1, 2, 3, 4, 5, 6, 7, 8, 9, 10, 11, 12, 13], [13])])
def nautiluslaw17_VolBack.B16 : List Nat := [0, 0, 3, 7, 0, 0, 48, 112, 240, 496, 1008, 2032, 4080, 8191, 16383]
theorem nautiluslaw17_VolBack.tab16 : rtab .any (opsOf Try.f7 16) = nautiluslaw17_VolBack.T16 := by kernel_rfl
theorem nautiluslaw17_VolBack.bits16 : waitsOk nautiluslaw17_VolBack.T16.2 nautiluslaw17_VolBack.B16 = true := by kernel_rfl
def nautiluslaw17_VolBack.T17 : Bool × List (List Nat × List Nat) := (true, [([], []), ([], []), ([0, 1], [0, 1]), ([2], [2]), ([], []), ([], []), ([4, 5], [4, 5]), ([6], [6]), ([7], [7]), ([8], [8]), ([9], [9]), ([10, 10], [10]), ([11], [11]), ([3, 12], [3, 12]), ([13, 0, 1, 2, 3, 4, 5, 6, 7, 8, 9, 10, 11, 12, 13], [13])])
def nautiluslaw17_VolBack.B17 : List Nat := [0, 0, 3, 7, 0, 0, 48, 112, 240, 496, 1008, 2032, 4080, 8191, 16383]
theorem nautiluslaw17_VolBack.tab17 : rtab .any (opsOf Try.f7 17) = nautiluslaw17_VolBack.T17 := by kernel_rfl
theorem nautiluslaw17_VolBack.bits17 : waitsOk nautiluslaw17_VolBack.T17.2 nautiluslaw17_VolBack.B17 = true := by kernel_rfl
set_option maxHeartbeats 8000000 in
set_option maxRecDepth 100000 in
theorem nautiluslaw17_VolBack.calls (k : Nat) (a0 : ByteArray) (a1 : ByteArray) (r : Bool) (w : World) (h : nautiluslaw17_VolBack.f k a0 a1 = some r) :
    Calls Try.prog 7 #[.string a0, .string a1] w fun e w' => e = .returned (.bool r) ∧ Below w.heap.size w w' := by
  have HB := Aside0.mk (Below.refl w.heap.size w)
  have H : ((nautiluslaw17_shown.f k).bind fun t224 => ((nautiluslaw17_cut.f a0).bind fun t225 => ((nautiluslaw17_cut.f a1).bind fun t226 => ((vol_Cut.f t226).bind fun t227 => ((vol_Paste.f k t227 (((t226.size : Int)) % 4294967296)).bind fun bt230 => ((vol_Cut.f t225).bind fun t232 => ((vol_Changed.f t225 t226).bind fun t235 => (nautiluslaw17_VolBack.l0 k t226 t224 t227 bt230.1 bt230.2 t232 t235 0 0)))))))) = some r := h
  clear h
  replace H := Option.bind_eq_some_iff.mp H
  obtain ⟨t224, A30, H⟩ := H
  replace H : ((nautiluslaw17_cut.f a0).bind fun t225 => ((nautiluslaw17_cut.f a1).bind fun t226 => ((vol_Cut.f t226).bind fun t227 => ((vol_Paste.f k t227 (((t226.size : Int)) % 4294967296)).bind fun bt230 => ((vol_Cut.f t225).bind fun t232 => ((vol_Changed.f t225 t226).bind fun t235 => (nautiluslaw17_VolBack.l0 k t226 t224 t227 bt230.1 bt230.2 t232 t235 0 0))))))) = some r := H
  have A3 := Aside0.mk A30
  clear A30
  replace H := Option.bind_eq_some_iff.mp H
  obtain ⟨t225, A40, H⟩ := H
  replace H : ((nautiluslaw17_cut.f a1).bind fun t226 => ((vol_Cut.f t226).bind fun t227 => ((vol_Paste.f k t227 (((t226.size : Int)) % 4294967296)).bind fun bt230 => ((vol_Cut.f t225).bind fun t232 => ((vol_Changed.f t225 t226).bind fun t235 => (nautiluslaw17_VolBack.l0 k t226 t224 t227 bt230.1 bt230.2 t232 t235 0 0)))))) = some r := H
  have A4 := Aside0.mk A40
  clear A40
  replace H := Option.bind_eq_some_iff.mp H
  obtain ⟨t226, A50, H⟩ := H
  replace H : ((vol_Cut.f t226).bind fun t227 => ((vol_Paste.f k t227 (((t226.size : Int)) % 4294967296)).bind fun bt230 => ((vol_Cut.f t225).bind fun t232 => ((vol_Changed.f t225 t226).bind fun t235 => (nautiluslaw17_VolBack.l0 k t226 t224 t227 bt230.1 bt230.2 t232 t235 0 0))))) = some r := H
  have A5 := Aside0.mk A50
  clear A50
  replace H := Option.bind_eq_some_iff.mp H
  obtain ⟨t227, A60, H⟩ := H
  replace H : ((vol_Paste.f k t227 (((t226.size : Int)) % 4294967296)).bind fun bt230 => ((vol_Cut.f t225).bind fun t232 => ((vol_Changed.f t225 t226).bind fun t235 => (nautiluslaw17_VolBack.l0 k t226 t224 t227 bt230.1 bt230.2 t232 t235 0 0)))) = some r := H
  have A6 := Aside0.mk A60
  clear A60
  replace H := Option.bind_eq_some_iff.mp H
  obtain ⟨⟨t230, t231⟩, A70, H⟩ := H
  replace H : ((vol_Cut.f t225).bind fun t232 => ((vol_Changed.f t225 t226).bind fun t235 => (nautiluslaw17_VolBack.l0 k t226 t224 t227 t230 t231 t232 t235 0 0))) = some r := H
  have A7 := Aside0.mk A70
  clear A70
  replace H := Option.bind_eq_some_iff.mp H
  obtain ⟨t232, A80, H⟩ := H
  replace H : ((vol_Changed.f t225 t226).bind fun t235 => (nautiluslaw17_VolBack.l0 k t226 t224 t227 t230 t231 t232 t235 0 0)) = some r := H
  have A8 := Aside0.mk A80
  clear A80
  replace H := Option.bind_eq_some_iff.mp H
  obtain ⟨t235, A90, H⟩ := H
  replace H : (nautiluslaw17_VolBack.l0 k t226 t224 t227 t230 t231 t232 t235 0 0) = some r := H
  have A9 := Aside0.mk A90
  clear A90
  have H' := Aside0.mk H
  clear H
  go_enter Try.func7, Try.ntmps7
  go_wp2_with (first | ((with_reducible refine gate_callee (f := 10) rfl ?_); refine goesL_ (some 15) rfl rfl Try.func10 (by kernel_rfl) rfl #[] rfl (by (try simp only [List.map_toArray, List.map_cons, List.map_nil]); first | done | rfl | (simp only [List.length_drop, List.length_take]; rfl)) ?_; (with_reducible refine (nautiluslaw17_shown.calls k  t224 _ A3.out).mono ?_); rintro e w10 ⟨rfl, hb⟩; refine ⟨_, rfl, ?_⟩; have n0_ := Aside0.mk (below_step (by repeat (first | (with_reducible first | exact HB.out | apply below_alloc | apply pw_below_drewN | apply below_drew1) | exact HB.out)) hb); clear HB; have HB := n0_; clear n0_; (try clear hb); (try clear hb2); (try clear hk); (try clear hi)) | ((with_reducible refine gate_callee (f := 11) rfl ?_); refine goesL_ (some 17) rfl rfl Try.func11 (by kernel_rfl) rfl #[.string a0] rfl (by (try simp only [List.map_toArray, List.map_cons, List.map_nil]); first | done | rfl | (simp only [List.length_drop, List.length_take]; rfl)) ?_; (with_reducible refine (nautiluslaw17_cut.calls a0 t225 _ A4.out).mono ?_); rintro e w11 ⟨rfl, hb⟩; refine ⟨_, rfl, ?_⟩; have n0_ := Aside0.mk (below_step (by repeat (first | (with_reducible first | exact HB.out | apply below_alloc | apply pw_below_drewN | apply below_drew1) | exact HB.out)) hb); clear HB; have HB := n0_; clear n0_; (try clear hb); (try clear hb2); (try clear hk); (try clear hi)) | ((with_reducible refine gate_callee (f := 11) rfl ?_); refine goesL_ (some 19) rfl rfl Try.func11 (by kernel_rfl) rfl #[.string a1] rfl (by (try simp only [List.map_toArray, List.map_cons, List.map_nil]); first | done | rfl | (simp only [List.length_drop, List.length_take]; rfl)) ?_; (with_reducible refine (nautiluslaw17_cut.calls a1 t226 _ A5.out).mono ?_); rintro e w12 ⟨rfl, hb⟩; refine ⟨_, rfl, ?_⟩; have n0_ := Aside0.mk (below_step (by repeat (first | (with_reducible first | exact HB.out | apply below_alloc | apply pw_below_drewN | apply below_drew1) | exact HB.out)) hb); clear HB; have HB := n0_; clear n0_; (try clear hb); (try clear hb2); (try clear hk); (try clear hi)) | ((with_reducible refine gate_callee (f := 13) rfl ?_); refine goesL_ (some 21) rfl rfl Try.func13 (by kernel_rfl) rfl #[.string t226] rfl (by (try simp only [List.map_toArray, List.map_cons, List.map_nil]); first | done | rfl | (simp only [List.length_drop, List.length_take]; rfl)) ?_; (with_reducible refine (vol_Cut.calls t226 t227 _ A6.out).mono ?_); rintro e w13 ⟨v228, rfl, ho0, hb⟩; refine ⟨_, rfl, ?_⟩; have n0_ := Aside0.mk (Kd.R_lower ho0 (below_size (by repeat (first | (with_reducible first | exact HB.out | apply below_alloc | apply pw_below_drewN | apply below_drew1) | exact HB.out)))); have n1_ := Aside0.mk (below_step (by repeat (first | (with_reducible first | exact HB.out | apply below_alloc | apply pw_below_drewN | apply below_drew1) | exact HB.out)) hb); clear HB; have HO229 := n0_; have HB := n1_; clear n0_ n1_; (try clear hb); (try clear hb2); (try clear hk); (try clear hi); (try clear ho0); obtain ⟨Ao14, co14, eo14⟩ := Kd.R_slice HO229.out; subst eo14) | ((with_reducible refine gate_callee (f := 22) rfl ?_); refine goesL_ (some 27) rfl rfl Try.func22 (by kernel_rfl) rfl #[.slice Ao14 t227.length co14, .int .u32 (((t226.size : Int)) % 4294967296)] rfl (by (try simp only [List.map_toArray, List.map_cons, List.map_nil]); first | done | rfl | (simp only [List.length_drop, List.length_take]; rfl) | (simp [Act.eval, go_sem]; simp only [decide_eq_false_iff_not, decide_eq_true_eq] at *; (repeat' apply And.intro) <;> first | done | (symm; first | (apply IntWalk.u64_in; omega) | (apply IntWalk.u32_in; omega) | (apply IntWalk.i64_in; omega) | (apply IntWalk.wrap64_in; omega) | (apply IntWalk.u16_in; omega) | (apply IntWalk.u8_in; omega)))) ?_; (with_reducible refine (vol_Paste.calls k _ _ t227 (((t226.size : Int)) % 4294967296) t230 t231 _ ?side1 ?side2 A7.out).mono ?_); (case side1 => repeat (first | exact (Kd.R_reads' HO229.out).2.2 | (with_reducible refine Kd.C_alloc ?_ _) | (with_reducible refine Kd.C_drewN ?_ _) | (with_reducible refine Kd.C_drew ?_))); (case side2 => exact (Kd.R_reads' HO229.out).2.1); rintro e w15 ⟨rfl, hb⟩; refine ⟨_, rfl, ?_⟩; have n0_ := Aside0.mk (Kd.R_below (by (with_reducible repeat (first | apply Kd.R_alloc | apply Kd.R_drewN | apply Kd.R_drew)); exact HO229.out) hb); have n1_ := Aside0.mk (below_step (by repeat (first | (with_reducible first | exact HB.out | apply below_alloc | apply pw_below_drewN | apply below_drew1) | exact HB.out)) hb); clear HO229; clear HB; have HO229 := n0_; have HB := n1_; clear n0_ n1_; (try clear hb); (try clear hb2); (try clear hk); (try clear hi)) | ((with_reducible refine gate_callee (f := 13) rfl ?_); refine goesL_ (some 31) rfl rfl Try.func13 (by kernel_rfl) rfl #[.string t225] rfl (by (try simp only [List.map_toArray, List.map_cons, List.map_nil]); first | done | rfl | (simp only [List.length_drop, List.length_take]; rfl)) ?_; (with_reducible refine (vol_Cut.calls t225 t232 _ A8.out).mono ?_); rintro e w16 ⟨v233, rfl, ho0, hb⟩; refine ⟨_, rfl, ?_⟩; have n0_ := Aside0.mk (Kd.R_elder' (by (with_reducible repeat (first | apply Kd.R_alloc | apply Kd.R_drewN | apply Kd.R_drew)); exact HO229.out) (Kd.R_base ho0) hb); have n1_ := Aside0.mk (Kd.R_lower (Kd.R_new' ho0 (Kd.R_lt (by (with_reducible repeat (first | apply Kd.R_alloc | apply Kd.R_drewN | apply Kd.R_drew)); exact HO229.out))) (below_size (by repeat (first | (with_reducible first | exact HB.out | apply below_alloc | apply pw_below_drewN | apply below_drew1) | exact HB.out)))); have n2_ := Aside0.mk (below_step (by repeat (first | (with_reducible first | exact HB.out | apply below_alloc | apply pw_below_drewN | apply below_drew1) | exact HB.out)) hb); clear HO229; clear HB; have HO229 := n0_; have HO234 := n1_; have HB := n2_; clear n0_ n1_ n2_; (try clear hb); (try clear hb2); (try clear hk); (try clear hi); (try clear ho0)) | ((with_reducible refine gate_callee (f := 12) rfl ?_); refine goesL_ (some 34) rfl rfl Try.func12 (by kernel_rfl) rfl #[.string t225, .string t226] rfl (by (try simp only [List.map_toArray, List.map_cons, List.map_nil]); first | done | rfl | (simp only [List.length_drop, List.length_take]; rfl)) ?_; (with_reducible refine (vol_Changed.calls t225 t226 t235 _ A9.out).mono ?_); rintro e w17 ⟨v236, rfl, ho0, hb⟩; refine ⟨_, rfl, ?_⟩; have n0_ := Aside0.mk (Kd.R_below (by (with_reducible repeat (first | apply Kd.R_alloc | apply Kd.R_drewN | apply Kd.R_drew)); exact HO229.out) hb); have n1_ := Aside0.mk (Kd.R_below (by (with_reducible repeat (first | apply Kd.R_alloc | apply Kd.R_drewN | apply Kd.R_drew)); exact HO234.out) hb); have n2_ := Aside0.mk (Kd.R_lower ho0 (below_size (by repeat (first | (with_reducible first | exact HB.out | apply below_alloc | apply pw_below_drewN | apply below_drew1) | exact HB.out)))); have n3_ := Aside0.mk (below_step (by repeat (first | (with_reducible first | exact HB.out | apply below_alloc | apply pw_below_drewN | apply below_drew1) | exact HB.out)) hb); clear HO229; clear HO234; clear HB; have HO229 := n0_; have HO234 := n1_; have HO237 := n2_; have HB := n3_; clear n0_ n1_ n2_ n3_; (try clear hb); (try clear hb2); (try clear hk); (try clear hi); (try clear ho0)))
  go_loopg [11, 12] k (fun kq v11 v12 w' => ∃ (x11_1 : Int) (x12_1 : Int), v11 = .int .i64 x11_1 ∧ v12 = .int .i64 x12_1 ∧ Aside0 (nautiluslaw17_VolBack.l0 kq t226 t224 t227 t230 t231 t232 t235 x11_1 x12_1 = some r) ∧ Aside0 (kq ≤ k) ∧ Aside0 (Kd.R Kd.string 9 w' w.heap.size (fun k_ => some k_ ≠ (v233 : Value).ownBlock) (.slice Ao14 t227.length co14) t227) ∧ Aside0 (Kd.R Kd.string 9 w' w.heap.size (fun k_ => some k_ ≠ ((.slice Ao14 t227.length co14) : Value).ownBlock) v233 t232) ∧ Aside0 (Kd.R (Kd.int .i64) 3 w' w.heap.size (fun _ => True) v236 t235) ∧ Aside0 (Below w.heap.size w w'))
  case atStart => exact ⟨(0), (0), (by first | rfl | (simp; done) | (simp [*]; done)), (by first | rfl | (simp; done) | (simp [*]; done)), H', ⟨Nat.le_refl _⟩, ⟨by (with_reducible repeat (first | apply Kd.R_alloc | apply Kd.R_drewN | apply Kd.R_drew)); exact Kd.R_mono HO229.out (fun _ hk => hk.2)⟩, ⟨by (with_reducible repeat (first | apply Kd.R_alloc | apply Kd.R_drewN | apply Kd.R_drew)); exact Kd.R_mono HO234.out (fun _ hk => hk.2)⟩, ⟨by (with_reducible repeat (first | apply Kd.R_alloc | apply Kd.R_drewN | apply Kd.R_drew)); exact HO237.out⟩, ⟨by repeat (first | (with_reducible first | exact HB.out | apply below_alloc | apply pw_below_drewN | apply below_drew1) | exact HB.out)⟩⟩
  case round =>
    clear H'
    try clear c1
    try clear c2
    try clear p2
    try clear c7
    try clear c10
    try clear c11
    try clear c12
    try clear c13
    obtain ⟨x11_1, x12_1, rfl, rfl, HA, HK1, HO_6, HO_9, HO_10, HB⟩ := hrel
    cases gk with
    | zero => exact absurd HA.out (by simp [nautiluslaw17_VolBack.l0])
    | succ k1 =>
      have H := HA.out
      clear HA
      simp only [nautiluslaw17_VolBack.l0] at H
      by_cases c18 : x12_1 < (t227.length : Int)
      · rw [if_pos c18] at H
        have c18b0 : decide (x12_1 < (t227.length : Int)) = true := decide_eq_true c18
        clear c18
        have HC19 := Aside0.mk H
        clear H
        go_upto_region 12 with (fail)
        go_cut [52] (fun v52 wc => ∃ (kq : Nat) (x52_18 : Bool), v52 = .bool x52_18 ∧ Aside0 (nautiluslaw17_VolBack.j1 kq t226 t224 t227 t230 t231 t232 t235 x11_1 x12_1 x52_18 = some r) ∧ Aside0 (kq ≤ k1) ∧ Aside0 (Kd.R Kd.string 9 wc w.heap.size (fun k_ => some k_ ≠ (v233 : Value).ownBlock) (.slice Ao14 t227.length co14) t227) ∧ Aside0 (Kd.R Kd.string 9 wc w.heap.size (fun k_ => some k_ ≠ ((.slice Ao14 t227.length co14) : Value).ownBlock) v233 t232) ∧ Aside0 (Kd.R (Kd.int .i64) 3 wc w.heap.size (fun _ => True) v236 t235) ∧ Aside0 (Below w.heap.size w wc))
        case first =>
          have H := HC19.out
          clear HC19
          by_cases c20 : x11_1 < (t235.length : Int)
          · rw [if_pos c20] at H
            have c20b0 : decide (x11_1 < (t235.length : Int)) = true := decide_eq_true c20
            clear c20
            (first | rw [c20b0] | (simp only [i64_w, i32_w]; rw [c20b0]) | skip)
            by_cases c21 : 0 ≤ x11_1
            · rw [if_pos c21] at H
              have c21b0 : decide (0 ≤ x11_1) = true := decide_eq_true c21
              clear c21
              have H' := Aside0.mk H
              clear H
              obtain ⟨Ao22, co22, eo22⟩ := Kd.R_slice HO_10.out
              subst eo22
              have p241 : 0 ≤ (x11_1 : Int) := of_decide_eq_true (by first | (with_reducible assumption) | assumption)
              have q241 : x11_1 < (t235.length : Int) := of_decide_eq_true (by first | (with_reducible assumption) | assumption)
              obtain ⟨ad241, e241, hx241_0⟩ := Kd.at_int (Kd.R_reads' HO_10.out).2.2 x11_1 p241 q241
              cases e241
              replace p241 := eq_true p241
              replace q241 := eq_true q241
              go_wp2
              go_meet
              case rel => exact ⟨_, (((rd t235 x11_1) == x12_1)), (by first | rfl | (simp; done) | (simp [*]; done)), H', ⟨by have := HK1.out; first | omega | exact Nat.le_refl _⟩, ⟨by (with_reducible repeat (first | apply Kd.R_alloc | apply Kd.R_drewN | apply Kd.R_drew)); exact HO_6.out⟩, ⟨by (with_reducible repeat (first | apply Kd.R_alloc | apply Kd.R_drewN | apply Kd.R_drew)); exact HO_9.out⟩, ⟨by (with_reducible repeat (first | apply Kd.R_alloc | apply Kd.R_drewN | apply Kd.R_drew)); exact HO_10.out⟩, ⟨by repeat (first | (with_reducible first | exact HB.out | apply below_alloc | apply pw_below_drewN | apply below_drew1) | exact HB.out)⟩⟩
            · rw [if_neg c21] at H
              exact absurd H (by simp)
          · rw [if_neg c20] at H
            have c20b0 : decide (x11_1 < (t235.length : Int)) = false := decide_eq_false c20
            clear c20
            (first | rw [c20b0] | (simp only [i64_w, i32_w]; rw [c20b0]) | skip)
            have H' := Aside0.mk H
            clear H
            obtain ⟨Ao23, co23, eo23⟩ := Kd.R_slice HO_10.out
            subst eo23
            go_wp2
            go_meet
            case rel => exact ⟨_, (false), (by first | rfl | (simp; done) | (simp [*]; done)), H', ⟨by have := HK1.out; first | omega | exact Nat.le_refl _⟩, ⟨by (with_reducible repeat (first | apply Kd.R_alloc | apply Kd.R_drewN | apply Kd.R_drew)); exact HO_6.out⟩, ⟨by (with_reducible repeat (first | apply Kd.R_alloc | apply Kd.R_drewN | apply Kd.R_drew)); exact HO_9.out⟩, ⟨by (with_reducible repeat (first | apply Kd.R_alloc | apply Kd.R_drewN | apply Kd.R_drew)); exact HO_10.out⟩, ⟨by repeat (first | (with_reducible first | exact HB.out | apply below_alloc | apply pw_below_drewN | apply below_drew1) | exact HB.out)⟩⟩
        case rest =>
          clear HC19
          try clear c1
          try clear c2
          try clear p2
          try clear q2
          try clear hx2
          try clear c7
          try clear c10
          try clear c11
          try clear c12
          try clear c13
          try clear c18
          try clear c18b0
          try clear c20
          try clear c20b0
          try clear c21
          try clear c21b0
          try clear c22
          try clear hx241_0
          try clear p2
          try clear p241
          try clear q241
          obtain ⟨kq, x52_18, rfl, HA, HJ18, HO_6, HO_9, HO_10, HB⟩ := hcut
          cases kq with
          | zero => exact absurd HA.out (by simp [nautiluslaw17_VolBack.j1])
          | succ kj18 =>
            have H := HA.out
            clear HA
            simp only [nautiluslaw17_VolBack.j1] at H
            by_cases c24 : x52_18 = true
            · subst c24
              have H1 : (nautiluslaw17_VolBack.l0 kj18 t226 t224 t227 t230 t231 t232 t235 (wrap64 (x11_1 + 1)) (wrap64 (x12_1 + 1))) = some r := by rw [if_pos rfl] at H; exact H
              clear H
              have H := H1
              clear H1
              have H' := Aside0.mk H
              clear H
              go_wp2
              go_roundg kj18
              case measure => have := HK1.out; have := HJ18.out; omega
              case rel => exact ⟨(wrap64 (x11_1 + 1)), (wrap64 (x12_1 + 1)), (by first | rfl | (simp; done) | (simp [*]; done)), (by first | rfl | (simp; done) | (simp [*]; done)), H', ⟨by have := HK1.out; have := HJ18.out; omega⟩, ⟨by (with_reducible repeat (first | apply Kd.R_alloc | apply Kd.R_drewN | apply Kd.R_drew)); exact HO_6.out⟩, ⟨by (with_reducible repeat (first | apply Kd.R_alloc | apply Kd.R_drewN | apply Kd.R_drew)); exact HO_9.out⟩, ⟨by (with_reducible repeat (first | apply Kd.R_alloc | apply Kd.R_drewN | apply Kd.R_drew)); exact HO_10.out⟩, ⟨by repeat (first | (with_reducible first | exact HB.out | apply below_alloc | apply pw_below_drewN | apply below_drew1) | exact HB.out)⟩⟩
            · replace c24 := Bool.eq_false_iff.mpr c24
              subst c24
              have H1 : (if x12_1 ≥ (t232.length : Int) then (some false) else (if 0 ≤ x12_1 then (if x12_1 < (t232.length : Int) then (if 0 ≤ (508 - (mn 508 ((rdOf ByteArray.empty t232 x12_1).size : Int))) then (if (508 - (mn 508 ((rdOf ByteArray.empty t232 x12_1).size : Int)) : Int).toNat ≤ 281474976710656 then ((some (List.replicate (508 - (mn 508 ((rdOf ByteArray.empty t232 x12_1).size : Int)) : Int).toNat 0 : List Int)).bind fun y244 => (if (rdOf ByteArray.empty t232 x12_1).size + (strOfNums y244).size ≤ 9223372036854775807 then (if x12_1 < (t227.length : Int) then (if 0 ≤ (508 - (mn 508 ((rdOf ByteArray.empty t227 x12_1).size : Int))) then (if (508 - (mn 508 ((rdOf ByteArray.empty t227 x12_1).size : Int)) : Int).toNat ≤ 281474976710656 then ((some (List.replicate (508 - (mn 508 ((rdOf ByteArray.empty t227 x12_1).size : Int)) : Int).toNat 0 : List Int)).bind fun y249 => (if (rdOf ByteArray.empty t227 x12_1).size + (strOfNums y249).size ≤ 9223372036854775807 then (if ((rdOf ByteArray.empty t232 x12_1) ++ (strOfNums y244)).toList = ((rdOf ByteArray.empty t227 x12_1) ++ (strOfNums y249)).toList then (nautiluslaw17_VolBack.l0 kj18 t226 t224 t227 t230 t231 t232 t235 x11_1 (wrap64 (x12_1 + 1))) else (some false)) else (none))) else (none)) else (none)) else (none)) else (none))) else (none)) else (none)) else (none)) else (none))) = some r := by rw [if_neg (show ¬ (false = true) by decide)] at H; exact H
              clear H
              have H := H1
              clear H1
              by_cases c25 : x12_1 ≥ (t232.length : Int)
              · rw [if_pos c25] at H
                have c25b0 : decide ((t232.length : Int) ≤ x12_1) = true := decide_eq_true c25
                clear c25
                obtain rfl := Option.some.inj H
                obtain ⟨Ao26, co26, eo26⟩ := Kd.R_slice HO_9.out
                subst eo26
                go_wp2
                go_ret
                exact ⟨by first | rfl | (simp [errW_none, errW_some] <;> rfl) | (simp [*, errW_none, errW_some] <;> rfl) | (simp [show IntKind.u64.wrap 0 = 0 from rfl, Int.zero_tdiv]; done), by repeat (first | (with_reducible first | exact HB.out | apply below_alloc | apply pw_below_drewN | apply below_drew1) | exact HB.out)⟩
              · rw [if_neg c25] at H
                have c25b0 : decide ((t232.length : Int) ≤ x12_1) = false := decide_eq_false c25
                clear c25
                by_cases c27 : 0 ≤ x12_1
                · rw [if_pos c27] at H
                  have c27b0 : decide (0 ≤ x12_1) = true := decide_eq_true c27
                  clear c27
                  by_cases c28 : x12_1 < (t232.length : Int)
                  · rw [if_pos c28] at H
                    have c28b0 : decide (x12_1 < (t232.length : Int)) = true := decide_eq_true c28
                    clear c28
                    obtain ⟨ji29, hji29⟩ : ∃ j_ : Int, (mn 508 ((rdOf ByteArray.empty t232 x12_1).size : Int)) = j_ := ⟨_, rfl⟩
                    replace H : (if 0 ≤ (508 - (ji29)) then (if (508 - (ji29) : Int).toNat ≤ 281474976710656 then ((some (List.replicate (508 - (ji29) : Int).toNat 0 : List Int)).bind fun y244 => (if (rdOf ByteArray.empty t232 x12_1).size + (strOfNums y244).size ≤ 9223372036854775807 then (if x12_1 < (t227.length : Int) then (if 0 ≤ (508 - (mn 508 ((rdOf ByteArray.empty t227 x12_1).size : Int))) then (if (508 - (mn 508 ((rdOf ByteArray.empty t227 x12_1).size : Int)) : Int).toNat ≤ 281474976710656 then ((some (List.replicate (508 - (mn 508 ((rdOf ByteArray.empty t227 x12_1).size : Int)) : Int).toNat 0 : List Int)).bind fun y249 => (if (rdOf ByteArray.empty t227 x12_1).size + (strOfNums y249).size ≤ 9223372036854775807 then (if ((rdOf ByteArray.empty t232 x12_1) ++ (strOfNums y244)).toList = ((rdOf ByteArray.empty t227 x12_1) ++ (strOfNums y249)).toList then (nautiluslaw17_VolBack.l0 kj18 t226 t224 t227 t230 t231 t232 t235 x11_1 (wrap64 (x12_1 + 1))) else (some false)) else (none))) else (none)) else (none)) else (none)) else (none))) else (none)) else (none)) = some r := by first | (rw [hji29] at H; exact H) | (simp only [hji29] at H ⊢; exact H)
                    have hji29_ : (if ((rdOf ByteArray.empty t232 x12_1).size : Int) < 508 then ((rdOf ByteArray.empty t232 x12_1).size : Int) else 508) = ji29 := hji29
                    obtain ⟨ji30, hji30⟩ : ∃ j_ : Int, (508 - (ji29)) = j_ := ⟨_, rfl⟩
                    replace H : (if 0 ≤ (ji30) then (if (ji30 : Int).toNat ≤ 281474976710656 then ((some (List.replicate (ji30 : Int).toNat 0 : List Int)).bind fun y244 => (if (rdOf ByteArray.empty t232 x12_1).size + (strOfNums y244).size ≤ 9223372036854775807 then (if x12_1 < (t227.length : Int) then (if 0 ≤ (508 - (mn 508 ((rdOf ByteArray.empty t227 x12_1).size : Int))) then (if (508 - (mn 508 ((rdOf ByteArray.empty t227 x12_1).size : Int)) : Int).toNat ≤ 281474976710656 then ((some (List.replicate (508 - (mn 508 ((rdOf ByteArray.empty t227 x12_1).size : Int)) : Int).toNat 0 : List Int)).bind fun y249 => (if (rdOf ByteArray.empty t227 x12_1).size + (strOfNums y249).size ≤ 9223372036854775807 then (if ((rdOf ByteArray.empty t232 x12_1) ++ (strOfNums y244)).toList = ((rdOf ByteArray.empty t227 x12_1) ++ (strOfNums y249)).toList then (nautiluslaw17_VolBack.l0 kj18 t226 t224 t227 t230 t231 t232 t235 x11_1 (wrap64 (x12_1 + 1))) else (some false)) else (none))) else (none)) else (none)) else (none)) else (none))) else (none)) else (none)) = some r := by first | (rw [hji30] at H; exact H) | (simp only [hji30] at H ⊢; exact H)
                    by_cases c31 : 0 ≤ (ji30)
                    · rw [if_pos c31] at H
                      have c31b0 := eq_true c31
                      have c31b1 : decide (0 ≤ (ji30)) = true := decide_eq_true c31
                      clear c31
                      by_cases c32 : (ji30 : Int).toNat ≤ 281474976710656
                      · rw [if_pos c32] at H
                        have c32b0 := eq_true c32
                        have c32b1 : decide ((ji30 : Int).toNat ≤ 281474976710656) = true := decide_eq_true c32
                        have hji30x : wrap64 ji30 = ji30 := IntWalk.wrap64_in _ (by have a_ := of_decide_eq_true c31b1; have b_ := of_decide_eq_true c32b1; omega)
                        have hji30y : IntKind.i64.wrap ji30 = ji30 := (i64_w _).trans hji30x
                        clear c32
                        obtain ⟨y244, hy244⟩ : ∃ y_ : List Int, y_ = (List.replicate (ji30 : Int).toNat 0) := ⟨_, rfl⟩
                        replace H : (if (rdOf ByteArray.empty t232 x12_1).size + (strOfNums y244).size ≤ 9223372036854775807 then (if x12_1 < (t227.length : Int) then (if 0 ≤ (508 - (mn 508 ((rdOf ByteArray.empty t227 x12_1).size : Int))) then (if (508 - (mn 508 ((rdOf ByteArray.empty t227 x12_1).size : Int)) : Int).toNat ≤ 281474976710656 then ((some (List.replicate (508 - (mn 508 ((rdOf ByteArray.empty t227 x12_1).size : Int)) : Int).toNat 0 : List Int)).bind fun y249 => (if (rdOf ByteArray.empty t227 x12_1).size + (strOfNums y249).size ≤ 9223372036854775807 then (if ((rdOf ByteArray.empty t232 x12_1) ++ (strOfNums y244)).toList = ((rdOf ByteArray.empty t227 x12_1) ++ (strOfNums y249)).toList then (nautiluslaw17_VolBack.l0 kj18 t226 t224 t227 t230 t231 t232 t235 x11_1 (wrap64 (x12_1 + 1))) else (some false)) else (none))) else (none)) else (none)) else (none)) else (none)) = some r := by first | (rw [hy244]; with_reducible exact H) | (have H2_ := (Option.bind_some _ _).symm.trans H; rw [hy244]; with_reducible exact H2_) | (have H2_ := (Option.bind_some _ _).symm.trans H; with_reducible exact H2_) | with_reducible exact H | (rw [hy244]; exact H) | exact H
                        have Ny244 := Aside0.mk hy244
                        clear hy244
                        by_cases c33 : (rdOf ByteArray.empty t232 x12_1).size + (strOfNums y244).size ≤ 9223372036854775807
                        · rw [if_pos c33] at H
                          have c33b0 := eq_true c33
                          have c33b1 : decide ((rdOf ByteArray.empty t232 x12_1).size + (strOfNums y244).size ≤ 9223372036854775807) = true := decide_eq_true c33
                          try have c33b2 : (9223372036854775807 < (rdOf ByteArray.empty t232 x12_1).size + (strOfNums y244).size) = False := eq_false (Nat.not_lt.2 c33)
                          by_cases c34 : x12_1 < (t227.length : Int)
                          · rw [if_pos c34] at H
                            have c34b0 : decide (x12_1 < (t227.length : Int)) = true := decide_eq_true c34
                            clear c34
                            obtain ⟨ji35, hji35⟩ : ∃ j_ : Int, (mn 508 ((rdOf ByteArray.empty t227 x12_1).size : Int)) = j_ := ⟨_, rfl⟩
                            replace H : (if 0 ≤ (508 - (ji35)) then (if (508 - (ji35) : Int).toNat ≤ 281474976710656 then ((some (List.replicate (508 - (ji35) : Int).toNat 0 : List Int)).bind fun y249 => (if (rdOf ByteArray.empty t227 x12_1).size + (strOfNums y249).size ≤ 9223372036854775807 then (if ((rdOf ByteArray.empty t232 x12_1) ++ (strOfNums y244)).toList = ((rdOf ByteArray.empty t227 x12_1) ++ (strOfNums y249)).toList then (nautiluslaw17_VolBack.l0 kj18 t226 t224 t227 t230 t231 t232 t235 x11_1 (wrap64 (x12_1 + 1))) else (some false)) else (none))) else (none)) else (none)) = some r := by first | (rw [hji35] at H; exact H) | (simp only [hji35] at H ⊢; exact H)
                            have hji35_ : (if ((rdOf ByteArray.empty t227 x12_1).size : Int) < 508 then ((rdOf ByteArray.empty t227 x12_1).size : Int) else 508) = ji35 := hji35
                            obtain ⟨ji36, hji36⟩ : ∃ j_ : Int, (508 - (ji35)) = j_ := ⟨_, rfl⟩
                            replace H : (if 0 ≤ (ji36) then (if (ji36 : Int).toNat ≤ 281474976710656 then ((some (List.replicate (ji36 : Int).toNat 0 : List Int)).bind fun y249 => (if (rdOf ByteArray.empty t227 x12_1).size + (strOfNums y249).size ≤ 9223372036854775807 then (if ((rdOf ByteArray.empty t232 x12_1) ++ (strOfNums y244)).toList = ((rdOf ByteArray.empty t227 x12_1) ++ (strOfNums y249)).toList then (nautiluslaw17_VolBack.l0 kj18 t226 t224 t227 t230 t231 t232 t235 x11_1 (wrap64 (x12_1 + 1))) else (some false)) else (none))) else (none)) else (none)) = some r := by first | (rw [hji36] at H; exact H) | (simp only [hji36] at H ⊢; exact H)
                            by_cases c37 : 0 ≤ (ji36)
                            · rw [if_pos c37] at H
                              have c37b0 := eq_true c37
                              have c37b1 : decide (0 ≤ (ji36)) = true := decide_eq_true c37
                              clear c37
                              by_cases c38 : (ji36 : Int).toNat ≤ 281474976710656
                              · rw [if_pos c38] at H
                                have c38b0 := eq_true c38
                                have c38b1 : decide ((ji36 : Int).toNat ≤ 281474976710656) = true := decide_eq_true c38
                                have hji36x : wrap64 ji36 = ji36 := IntWalk.wrap64_in _ (by have a_ := of_decide_eq_true c37b1; have b_ := of_decide_eq_true c38b1; omega)
                                have hji36y : IntKind.i64.wrap ji36 = ji36 := (i64_w _).trans hji36x
                                clear c38
                                obtain ⟨y249, hy249⟩ : ∃ y_ : List Int, y_ = (List.replicate (ji36 : Int).toNat 0) := ⟨_, rfl⟩
                                replace H : (if (rdOf ByteArray.empty t227 x12_1).size + (strOfNums y249).size ≤ 9223372036854775807 then (if ((rdOf ByteArray.empty t232 x12_1) ++ (strOfNums y244)).toList = ((rdOf ByteArray.empty t227 x12_1) ++ (strOfNums y249)).toList then (nautiluslaw17_VolBack.l0 kj18 t226 t224 t227 t230 t231 t232 t235 x11_1 (wrap64 (x12_1 + 1))) else (some false)) else (none)) = some r := by first | (rw [hy249]; with_reducible exact H) | (have H2_ := (Option.bind_some _ _).symm.trans H; rw [hy249]; with_reducible exact H2_) | (have H2_ := (Option.bind_some _ _).symm.trans H; with_reducible exact H2_) | with_reducible exact H | (rw [hy249]; exact H) | exact H
                                have Ny249 := Aside0.mk hy249
                                clear hy249
                                by_cases c39 : (rdOf ByteArray.empty t227 x12_1).size + (strOfNums y249).size ≤ 9223372036854775807
                                · rw [if_pos c39] at H
                                  have c39b0 := eq_true c39
                                  have c39b1 : decide ((rdOf ByteArray.empty t227 x12_1).size + (strOfNums y249).size ≤ 9223372036854775807) = true := decide_eq_true c39
                                  try have c39b2 : (9223372036854775807 < (rdOf ByteArray.empty t227 x12_1).size + (strOfNums y249).size) = False := eq_false (Nat.not_lt.2 c39)
                                  by_cases c40 : ((rdOf ByteArray.empty t232 x12_1) ++ (strOfNums y244)).toList = ((rdOf ByteArray.empty t227 x12_1) ++ (strOfNums y249)).toList
                                  · rw [if_pos c40] at H
                                    have c40b0 : (((rdOf ByteArray.empty t232 x12_1) ++ (strOfNums y244)).toList == ((rdOf ByteArray.empty t227 x12_1) ++ (strOfNums y249)).toList) = true := beq_iff_eq.mpr c40
                                    have c40b1 : (((rdOf ByteArray.empty t232 x12_1) ++ (strOfNums y244)).toList != ((rdOf ByteArray.empty t227 x12_1) ++ (strOfNums y249)).toList) = false := bne_eq_false_iff_eq.mpr c40
                                    clear c40
                                    have H' := Aside0.mk H
                                    clear H
                                    obtain ⟨Ao41, co41, eo41⟩ := Kd.R_slice HO_9.out
                                    subst eo41
                                    try go_wp2
                                    have n0_ := Aside0.mk (Kd.R_drew HO_6.out)
                                    have n1_ := Aside0.mk (Kd.R_drew HO_9.out)
                                    have n2_ := Aside0.mk (Kd.R_drew HO_10.out)
                                    have n3_ := Aside0.mk (below_drew1 HB.out)
                                    clear HO_6
                                    clear HO_9
                                    clear HO_10
                                    clear HB
                                    have HO_6 := n0_
                                    have HO_9 := n1_
                                    have HO_10 := n2_
                                    have HB := n3_
                                    clear n0_ n1_ n2_ n3_
                                    have p242 : 0 ≤ (x12_1 : Int) := of_decide_eq_true (by first | (with_reducible assumption) | assumption)
                                    have q242 : x12_1 < (t232.length : Int) := of_decide_eq_true (by first | (with_reducible assumption) | assumption)
                                    obtain ⟨ad242, e242, hx242_0⟩ := Kd.at_string (Kd.R_reads' HO_9.out).2.2 x12_1 p242 q242
                                    cases e242
                                    replace p242 := eq_true p242
                                    replace q242 := eq_true q242
                                    have p243 : 0 ≤ (x12_1 : Int) := of_decide_eq_true (by first | (with_reducible assumption) | assumption)
                                    have q243 : x12_1 < (t232.length : Int) := of_decide_eq_true (by first | (with_reducible assumption) | assumption)
                                    obtain ⟨ad243, e243, hx243_0⟩ := Kd.at_string (Kd.R_reads' HO_9.out).2.2 x12_1 p243 q243
                                    obtain rfl : ad242 = ad243 := (by injection e243)
                                    replace p243 := eq_true p243
                                    replace q243 := eq_true q243
                                    refine start_ (n := 15) (S := fun w' => w'.cell? (ad242.add (x12_1).toNat) = some (.string (rdOf ByteArray.empty t232 x12_1)) ∧ w'.cell? (ad242.add (x12_1).toNat) = some (.string (rdOf ByteArray.empty t232 x12_1))) (ds := []) #[false, false, false, false, false, false, false, false, false, false, false, false, false, false, false] (by kernel_rfl) rfl rfl ⟨hx242_0, hx243_0⟩ (fun hHeld => ?_); refine with_tabW nautiluslaw17_VolBack.tab16 nautiluslaw17_VolBack.bits16 (fun HT_ HW_ => ?_)
                                    generalize wc.drew = w42 at HO_6 HO_9 HO_10 HB hx242_0 hx243_0 hHeld ⊢
                                    refine pure_ (i := 0) (N := some 59) (v := ?_) (a' := ?_) #[true, false, false, false, false, false, false, false, false, false, false, false, false, false, false] rfl rfl (any_of HT_.out (by kernel_rfl)) (fun _ _ _ h => h) (Or.inl ⟨by rfl, ?_⟩) ?_ ?_
                                    rotate_left
                                    · intro w'
                                      go_simp
                                      with_reducible rfl
                                    rotate_left
                                    · simp only [Act.put, List.setIfInBounds_toArray, List.set_cons_zero, List.set_cons_succ, i64_w, i32_w]
                                      rfl
                                    refine pure_ (i := 1) (N := some 60) (v := ?_) (a' := ?_) #[true, true, false, false, false, false, false, false, false, false, false, false, false, false, false] rfl rfl (any_of HT_.out (by kernel_rfl)) (fun _ _ _ h => h) (Or.inl ⟨by rfl, ?_⟩) ?_ ?_
                                    rotate_left
                                    · intro w'
                                      go_simp
                                      with_reducible rfl
                                    rotate_left
                                    · simp only [Act.put, List.setIfInBounds_toArray, List.set_cons_zero, List.set_cons_succ, i64_w, i32_w]
                                      rfl
                                    refine pure_ (i := 2) (N := some 61) (v := ?_) (a' := ?_) #[true, true, true, false, false, false, false, false, false, false, false, false, false, false, false] rfl rfl (any_of HT_.out (by kernel_rfl)) (fun _ _ _ h => h) (Or.inl ⟨by rfl, ?_⟩) ?_ ?_
                                    rotate_left
                                    · intro w'
                                      go_simp
                                      with_reducible rfl
                                    rotate_left
                                    · simp only [Act.put, List.setIfInBounds_toArray, List.set_cons_zero, List.set_cons_succ, i64_w, i32_w]
                                      rfl
                                    refine pure_ (i := 4) (N := some 63) (v := ?_) (a' := ?_) #[true, true, true, false, true, false, false, false, false, false, false, false, false, false, false] rfl rfl (any_of HT_.out (by kernel_rfl)) (fun _ _ _ h => h) (Or.inl ⟨by rfl, ?_⟩) ?_ ?_
                                    rotate_left
                                    · intro w'
                                      go_simp
                                      with_reducible rfl
                                    rotate_left
                                    · simp only [Act.put, List.setIfInBounds_toArray, List.set_cons_zero, List.set_cons_succ, i64_w, i32_w]
                                      rfl
                                    refine pure_ (i := 5) (N := some 64) (v := ?_) (a' := ?_) #[true, true, true, false, true, true, false, false, false, false, false, false, false, false, false] rfl rfl (any_of HT_.out (by kernel_rfl)) (fun _ _ _ h => h) (Or.inl ⟨by rfl, ?_⟩) ?_ ?_
                                    rotate_left
                                    · intro w'
                                      go_simp
                                      with_reducible rfl
                                    rotate_left
                                    · simp only [Act.put, List.setIfInBounds_toArray, List.set_cons_zero, List.set_cons_succ, i64_w, i32_w]
                                      rfl
                                    refine pure_ (i := 6) (N := some 65) (v := ?_) (a' := ?_) #[true, true, true, false, true, true, true, false, false, false, false, false, false, false, false] rfl rfl (any_of HT_.out (by kernel_rfl)) (fun _ _ _ h => h) (Or.inl ⟨by rfl, ?_⟩) ?_ ?_
                                    rotate_left
                                    · intro w'
                                      go_simp
                                      with_reducible rfl
                                    rotate_left
                                    · simp only [Act.put, List.setIfInBounds_toArray, List.set_cons_zero, List.set_cons_succ, i64_w, i32_w]
                                      rfl
                                    refine take_ (i := 3) (N := some 62) (v := ?_) (a' := ?_) #[true, true, true, true, true, true, true, false, false, false, false, false, false, false, false] rfl rfl (take_ofW HT_.out HW_.out (by kernel_rfl)) (fun _ _ _ h => h) (Or.inl ⟨by rfl, ?_⟩) hHeld ?_ ?_
                                    rotate_left
                                    · rintro w' ⟨s0, s1⟩
                                      go_simp
                                      with_reducible rfl
                                    rotate_left
                                    · simp only [Act.put, List.setIfInBounds_toArray, List.set_cons_zero, List.set_cons_succ, i64_w, i32_w]
                                      rfl
                                    refine take_ (i := 7) (N := some 66) (v := ?_) (a' := ?_) #[true, true, true, true, true, true, true, true, false, false, false, false, false, false, false] rfl rfl (take_ofW HT_.out HW_.out (by kernel_rfl)) (fun _ _ _ h => h) (Or.inl ⟨by rfl, ?_⟩) hHeld ?_ ?_
                                    rotate_left
                                    · rintro w' ⟨s0, s1⟩
                                      go_simp
                                      with_reducible rfl
                                    rotate_left
                                    · simp only [Act.put, List.setIfInBounds_toArray, List.set_cons_zero, List.set_cons_succ, i64_w, i32_w]
                                      rfl
                                    refine pure_ (i := 8) (N := some 67) (v := ?_) (a' := ?_) #[true, true, true, true, true, true, true, true, true, false, false, false, false, false, false] rfl rfl (any_of HT_.out (by kernel_rfl)) (fun _ _ _ h => h) (Or.inl ⟨by rfl, ?_⟩) ?_ ?_
                                    rotate_left
                                    · intro w'
                                      go_simp
                                      with_reducible rfl
                                    rotate_left
                                    · simp only [Act.put, List.setIfInBounds_toArray, List.set_cons_zero, List.set_cons_succ, i64_w, i32_w]
                                      rfl
                                    refine pure_ (i := 9) (N := some 68) (v := ?_) (a' := ?_) #[true, true, true, true, true, true, true, true, true, true, false, false, false, false, false] rfl rfl (any_of HT_.out (by kernel_rfl)) (fun _ _ _ h => h) (Or.inl ⟨by rfl, ?_⟩) ?_ ?_
                                    rotate_left
                                    · intro w'
                                      go_simp
                                      with_reducible rfl
                                    rotate_left
                                    · simp only [Act.put, List.setIfInBounds_toArray, List.set_cons_zero, List.set_cons_succ, i64_w, i32_w]
                                      rfl
                                    refine pure_ (i := 10) (N := some 69) (v := ?_) (a' := ?_) #[true, true, true, true, true, true, true, true, true, true, true, false, false, false, false] rfl rfl (any_of HT_.out (by kernel_rfl)) (fun _ _ _ h => h) (Or.inl ⟨by rfl, ?_⟩) ?_ ?_
                                    rotate_left
                                    · intro w'
                                      go_simp
                                      with_reducible rfl
                                    rotate_left
                                    · simp only [Act.put, List.setIfInBounds_toArray, List.set_cons_zero, List.set_cons_succ, i64_w, i32_w]
                                      rfl
                                    refine one_ (i := 11) (N := some 70) #[true, true, true, true, true, true, true, true, true, true, true, true, false, false, false] rfl rfl (one_of HT_.out (by kernel_rfl)) (by decide) (fun K hK => ?_)
                                    refine Kd.R_make_step (Kd.int .u8) _ 5 (by rfl) (N := 70) rfl 24 _ _ rfl ji30 rfl rfl Try.underlying24 (.int .u8 0) 1 info5 rfl (by decide) (by omega) 0 (ok := fun _ => True) (okp := fun _ => True) rfl (fun _ hk => hk) trivial (of_decide_eq_true (by first | (with_reducible assumption) | assumption)) (Nat.le_trans (Nat.mul_le_mul_right _ (of_decide_eq_true (by first | (with_reducible assumption) | assumption) : ji30.toNat ≤ 281474976710656)) (by omega)) (Below.refl _ _) (Nat.le_refl _) ?_
                                    intro v245 w43 ho44 hb hg_ hnew_
                                    have HS0_ := (hb.cell (World.block_lt_of_cell? _ _ (hHeld.1))).trans (hHeld.1)
                                    have HS1_ := (hb.cell (World.block_lt_of_cell? _ _ (hHeld.2))).trans (hHeld.2)
                                    clear hg_ hnew_
                                    (first | rw [← Ny244.out] at ho44 | (simp only [Int.reduceToNat] at ho44; rw [← Ny244.out] at ho44))
                                    have n0_ := Aside0.mk (Kd.R_below (by (with_reducible repeat (first | apply Kd.R_alloc | apply Kd.R_drewN | apply Kd.R_drew)); exact HO_6.out) hb)
                                    have n1_ := Aside0.mk (Kd.R_below (by (with_reducible repeat (first | apply Kd.R_alloc | apply Kd.R_drewN | apply Kd.R_drew)); exact HO_9.out) hb)
                                    have n2_ := Aside0.mk (Kd.R_below (by (with_reducible repeat (first | apply Kd.R_alloc | apply Kd.R_drewN | apply Kd.R_drew)); exact HO_10.out) hb)
                                    have n3_ := Aside0.mk (Kd.R_lower ho44 (below_size (by repeat (first | (with_reducible first | exact HB.out | apply below_alloc | apply pw_below_drewN | apply below_drew1) | exact HB.out))))
                                    have n4_ := Aside0.mk (below_step (by repeat (first | (with_reducible first | exact HB.out | apply below_alloc | apply pw_below_drewN | apply below_drew1) | exact HB.out)) hb)
                                    clear HO_6
                                    clear HO_9
                                    clear HO_10
                                    clear HB
                                    have HO_6 := n0_
                                    have HO_9 := n1_
                                    have HO_10 := n2_
                                    have HO246 := n3_
                                    have HB := n4_
                                    clear n0_ n1_ n2_ n3_ n4_
                                    clear hb ho44
                                    refine hK.out _ _ ⟨HS0_, HS1_⟩ (fun hHeld => ?_)
                                    clear hK K
                                    refine norm_ (a' := ?_) ?_ ?_
                                    rotate_left
                                    · show Act.put _ (some 70) _ = _
                                      simp only [Act.put, List.setIfInBounds_toArray, List.set_cons_zero, List.set_cons_succ, i64_w, i32_w]
                                      rfl
                                    refine one_ (i := 12) (N := some 71) #[true, true, true, true, true, true, true, true, true, true, true, true, true, false, false] rfl rfl (one_of HT_.out (by kernel_rfl)) (by decide) (fun K hK => ?_)
                                    have hcv45 := own_string (P := Try.prog) Try.underlying24 Try.underlying5 Try.underlying9 (Kd.own_of_R HO246.out)
                                    refine value_ (w1 := ?_) (v := ?_) (by rfl) rfl ?_ ?_
                                    rotate_left 2
                                    · go_simp
                                      constructor
                                      · rfl
                                      · rfl
                                    clear hcv45
                                    refine hK.out _ _ ⟨hHeld.1, hHeld.2⟩ (fun hHeld => ?_)
                                    clear hK K
                                    refine norm_ (a' := ?_) ?_ ?_
                                    rotate_left
                                    · show Act.put _ (some 71) _ = _
                                      simp only [Act.put, List.setIfInBounds_toArray, List.set_cons_zero, List.set_cons_succ, i64_w, i32_w]
                                      rfl
                                    refine pure_ (i := 13) (N := some 72) (v := ?_) (a' := ?_) #[true, true, true, true, true, true, true, true, true, true, true, true, true, true, false] rfl rfl (any_of HT_.out (by kernel_rfl)) (fun _ _ _ h => h) (Or.inl ⟨by rfl, ?_⟩) ?_ ?_
                                    rotate_left
                                    · intro w'
                                      go_simp
                                      with_reducible rfl
                                    rotate_left
                                    · simp only [Act.put, List.setIfInBounds_toArray, List.set_cons_zero, List.set_cons_succ, i64_w, i32_w]
                                      rfl
                                    refine pure_ (i := 14) (N := some 13) (v := ?_) (a' := ?_) #[true, true, true, true, true, true, true, true, true, true, true, true, true, true, true] rfl rfl (any_of HT_.out (by kernel_rfl)) (fun _ _ _ h => h) (Or.inl ⟨by rfl, ?_⟩) ?_ ?_
                                    rotate_left
                                    · intro w'
                                      go_simp
                                      with_reducible rfl
                                    rotate_left
                                    · simp only [Act.put, List.setIfInBounds_toArray, List.set_cons_zero, List.set_cons_succ, i64_w, i32_w]
                                      rfl
                                    refine done_ (done_of HT_.out (by kernel_rfl)) ?_
                                    try go_wp2
                                    have n0_ := Aside0.mk (Kd.R_drew HO_6.out)
                                    have n1_ := Aside0.mk (Kd.R_drew HO_9.out)
                                    have n2_ := Aside0.mk (Kd.R_drew HO_10.out)
                                    have n3_ := Aside0.mk (Kd.R_drew HO246.out)
                                    have n4_ := Aside0.mk (below_drew1 HB.out)
                                    clear HO_6
                                    clear HO_9
                                    clear HO_10
                                    clear HO246
                                    clear HB
                                    have HO_6 := n0_
                                    have HO_9 := n1_
                                    have HO_10 := n2_
                                    have HO246 := n3_
                                    have HB := n4_
                                    clear n0_ n1_ n2_ n3_ n4_
                                    have p247 : 0 ≤ (x12_1 : Int) := of_decide_eq_true (by first | (with_reducible assumption) | assumption)
                                    have q247 : x12_1 < (t227.length : Int) := of_decide_eq_true (by first | (with_reducible assumption) | assumption)
                                    obtain ⟨ad247, e247, hx247_0⟩ := Kd.at_string (Kd.R_reads' HO_6.out).2.2 x12_1 p247 q247
                                    cases e247
                                    replace p247 := eq_true p247
                                    replace q247 := eq_true q247
                                    have p248 : 0 ≤ (x12_1 : Int) := of_decide_eq_true (by first | (with_reducible assumption) | assumption)
                                    have q248 : x12_1 < (t227.length : Int) := of_decide_eq_true (by first | (with_reducible assumption) | assumption)
                                    obtain ⟨ad248, e248, hx248_0⟩ := Kd.at_string (Kd.R_reads' HO_6.out).2.2 x12_1 p248 q248
                                    obtain rfl : ad247 = ad248 := (by injection e248)
                                    replace p248 := eq_true p248
                                    replace q248 := eq_true q248
                                    refine start_ (n := 15) (S := fun w' => w'.cell? (ad247.add (x12_1).toNat) = some (.string (rdOf ByteArray.empty t227 x12_1)) ∧ w'.cell? (ad247.add (x12_1).toNat) = some (.string (rdOf ByteArray.empty t227 x12_1))) (ds := []) #[false, false, false, false, false, false, false, false, false, false, false, false, false, false, false] (by kernel_rfl) rfl rfl ⟨hx247_0, hx248_0⟩ (fun hHeld => ?_); refine with_tabW nautiluslaw17_VolBack.tab17 nautiluslaw17_VolBack.bits17 (fun HT_ HW_ => ?_)
                                    generalize w43.drew = w46 at HO_6 HO_9 HO_10 HO246 HB hx247_0 hx248_0 hHeld ⊢
                                    refine pure_ (i := 0) (N := some 73) (v := ?_) (a' := ?_) #[true, false, false, false, false, false, false, false, false, false, false, false, false, false, false] rfl rfl (any_of HT_.out (by kernel_rfl)) (fun _ _ _ h => h) (Or.inl ⟨by rfl, ?_⟩) ?_ ?_
                                    rotate_left
                                    · intro w'
                                      go_simp
                                      with_reducible rfl
                                    rotate_left
                                    · simp only [Act.put, List.setIfInBounds_toArray, List.set_cons_zero, List.set_cons_succ, i64_w, i32_w]
                                      rfl
                                    refine pure_ (i := 1) (N := some 74) (v := ?_) (a' := ?_) #[true, true, false, false, false, false, false, false, false, false, false, false, false, false, false] rfl rfl (any_of HT_.out (by kernel_rfl)) (fun _ _ _ h => h) (Or.inl ⟨by rfl, ?_⟩) ?_ ?_
                                    rotate_left
                                    · intro w'
                                      go_simp
                                      with_reducible rfl
                                    rotate_left
                                    · simp only [Act.put, List.setIfInBounds_toArray, List.set_cons_zero, List.set_cons_succ, i64_w, i32_w]
                                      rfl
                                    refine pure_ (i := 2) (N := some 75) (v := ?_) (a' := ?_) #[true, true, true, false, false, false, false, false, false, false, false, false, false, false, false] rfl rfl (any_of HT_.out (by kernel_rfl)) (fun _ _ _ h => h) (Or.inl ⟨by rfl, ?_⟩) ?_ ?_
                                    rotate_left
                                    · intro w'
                                      go_simp
                                      with_reducible rfl
                                    rotate_left
                                    · simp only [Act.put, List.setIfInBounds_toArray, List.set_cons_zero, List.set_cons_succ, i64_w, i32_w]
                                      rfl
                                    refine pure_ (i := 4) (N := some 77) (v := ?_) (a' := ?_) #[true, true, true, false, true, false, false, false, false, false, false, false, false, false, false] rfl rfl (any_of HT_.out (by kernel_rfl)) (fun _ _ _ h => h) (Or.inl ⟨by rfl, ?_⟩) ?_ ?_
                                    rotate_left
                                    · intro w'
                                      go_simp
                                      with_reducible rfl
                                    rotate_left
                                    · simp only [Act.put, List.setIfInBounds_toArray, List.set_cons_zero, List.set_cons_succ, i64_w, i32_w]
                                      rfl
                                    refine pure_ (i := 5) (N := some 78) (v := ?_) (a' := ?_) #[true, true, true, false, true, true, false, false, false, false, false, false, false, false, false] rfl rfl (any_of HT_.out (by kernel_rfl)) (fun _ _ _ h => h) (Or.inl ⟨by rfl, ?_⟩) ?_ ?_
                                    rotate_left
                                    · intro w'
                                      go_simp
                                      with_reducible rfl
                                    rotate_left
                                    · simp only [Act.put, List.setIfInBounds_toArray, List.set_cons_zero, List.set_cons_succ, i64_w, i32_w]
                                      rfl
                                    refine pure_ (i := 6) (N := some 79) (v := ?_) (a' := ?_) #[true, true, true, false, true, true, true, false, false, false, false, false, false, false, false] rfl rfl (any_of HT_.out (by kernel_rfl)) (fun _ _ _ h => h) (Or.inl ⟨by rfl, ?_⟩) ?_ ?_
                                    rotate_left
                                    · intro w'
                                      go_simp
                                      with_reducible rfl
                                    rotate_left
                                    · simp only [Act.put, List.setIfInBounds_toArray, List.set_cons_zero, List.set_cons_succ, i64_w, i32_w]
                                      rfl
                                    refine take_ (i := 3) (N := some 76) (v := ?_) (a' := ?_) #[true, true, true, true, true, true, true, false, false, false, false, false, false, false, false] rfl rfl (take_ofW HT_.out HW_.out (by kernel_rfl)) (fun _ _ _ h => h) (Or.inl ⟨by rfl, ?_⟩) hHeld ?_ ?_
                                    rotate_left
                                    · rintro w' ⟨s0, s1⟩
                                      go_simp
                                      with_reducible rfl
                                    rotate_left
                                    · simp only [Act.put, List.setIfInBounds_toArray, List.set_cons_zero, List.set_cons_succ, i64_w, i32_w]
                                      rfl
                                    refine take_ (i := 7) (N := some 80) (v := ?_) (a' := ?_) #[true, true, true, true, true, true, true, true, false, false, false, false, false, false, false] rfl rfl (take_ofW HT_.out HW_.out (by kernel_rfl)) (fun _ _ _ h => h) (Or.inl ⟨by rfl, ?_⟩) hHeld ?_ ?_
                                    rotate_left
                                    · rintro w' ⟨s0, s1⟩
                                      go_simp
                                      with_reducible rfl
                                    rotate_left
                                    · simp only [Act.put, List.setIfInBounds_toArray, List.set_cons_zero, List.set_cons_succ, i64_w, i32_w]
                                      rfl
                                    refine pure_ (i := 8) (N := some 81) (v := ?_) (a' := ?_) #[true, true, true, true, true, true, true, true, true, false, false, false, false, false, false] rfl rfl (any_of HT_.out (by kernel_rfl)) (fun _ _ _ h => h) (Or.inl ⟨by rfl, ?_⟩) ?_ ?_
                                    rotate_left
                                    · intro w'
                                      go_simp
                                      with_reducible rfl
                                    rotate_left
                                    · simp only [Act.put, List.setIfInBounds_toArray, List.set_cons_zero, List.set_cons_succ, i64_w, i32_w]
                                      rfl
                                    refine pure_ (i := 9) (N := some 82) (v := ?_) (a' := ?_) #[true, true, true, true, true, true, true, true, true, true, false, false, false, false, false] rfl rfl (any_of HT_.out (by kernel_rfl)) (fun _ _ _ h => h) (Or.inl ⟨by rfl, ?_⟩) ?_ ?_
                                    rotate_left
                                    · intro w'
                                      go_simp
                                      with_reducible rfl
                                    rotate_left
                                    · simp only [Act.put, List.setIfInBounds_toArray, List.set_cons_zero, List.set_cons_succ, i64_w, i32_w]
                                      rfl
                                    refine pure_ (i := 10) (N := some 83) (v := ?_) (a' := ?_) #[true, true, true, true, true, true, true, true, true, true, true, false, false, false, false] rfl rfl (any_of HT_.out (by kernel_rfl)) (fun _ _ _ h => h) (Or.inl ⟨by rfl, ?_⟩) ?_ ?_
                                    rotate_left
                                    · intro w'
                                      go_simp
                                      with_reducible rfl
                                    rotate_left
                                    · simp only [Act.put, List.setIfInBounds_toArray, List.set_cons_zero, List.set_cons_succ, i64_w, i32_w]
                                      rfl
                                    refine one_ (i := 11) (N := some 84) #[true, true, true, true, true, true, true, true, true, true, true, true, false, false, false] rfl rfl (one_of HT_.out (by kernel_rfl)) (by decide) (fun K hK => ?_)
                                    refine Kd.R_make_step (Kd.int .u8) _ 5 (by rfl) (N := 84) rfl 24 _ _ rfl ji36 rfl rfl Try.underlying24 (.int .u8 0) 1 info5 rfl (by decide) (by omega) 0 (ok := fun _ => True) (okp := fun _ => True) rfl (fun _ hk => hk) trivial (of_decide_eq_true (by first | (with_reducible assumption) | assumption)) (Nat.le_trans (Nat.mul_le_mul_right _ (of_decide_eq_true (by first | (with_reducible assumption) | assumption) : ji36.toNat ≤ 281474976710656)) (by omega)) (Below.refl _ _) (Nat.le_refl _) ?_
                                    intro v250 w47 ho48 hb hg_ hnew_
                                    have HS0_ := (hb.cell (World.block_lt_of_cell? _ _ (hHeld.1))).trans (hHeld.1)
                                    have HS1_ := (hb.cell (World.block_lt_of_cell? _ _ (hHeld.2))).trans (hHeld.2)
                                    clear hg_ hnew_
                                    (first | rw [← Ny249.out] at ho48 | (simp only [Int.reduceToNat] at ho48; rw [← Ny249.out] at ho48))
                                    have n0_ := Aside0.mk (Kd.R_below (by (with_reducible repeat (first | apply Kd.R_alloc | apply Kd.R_drewN | apply Kd.R_drew)); exact HO_6.out) hb)
                                    have n1_ := Aside0.mk (Kd.R_below (by (with_reducible repeat (first | apply Kd.R_alloc | apply Kd.R_drewN | apply Kd.R_drew)); exact HO_9.out) hb)
                                    have n2_ := Aside0.mk (Kd.R_below (by (with_reducible repeat (first | apply Kd.R_alloc | apply Kd.R_drewN | apply Kd.R_drew)); exact HO_10.out) hb)
                                    have n3_ := Aside0.mk (Kd.R_elder' (by (with_reducible repeat (first | apply Kd.R_alloc | apply Kd.R_drewN | apply Kd.R_drew)); exact HO246.out) (Kd.R_base ho48) hb)
                                    have n4_ := Aside0.mk (Kd.R_lower (Kd.R_new' ho48 (Kd.R_lt (by (with_reducible repeat (first | apply Kd.R_alloc | apply Kd.R_drewN | apply Kd.R_drew)); exact HO246.out))) (below_size (by repeat (first | (with_reducible first | exact HB.out | apply below_alloc | apply pw_below_drewN | apply below_drew1) | exact HB.out))))
                                    have n5_ := Aside0.mk (below_step (by repeat (first | (with_reducible first | exact HB.out | apply below_alloc | apply pw_below_drewN | apply below_drew1) | exact HB.out)) hb)
                                    clear HO_6
                                    clear HO_9
                                    clear HO_10
                                    clear HO246
                                    clear HB
                                    have HO_6 := n0_
                                    have HO_9 := n1_
                                    have HO_10 := n2_
                                    have HO246 := n3_
                                    have HO251 := n4_
                                    have HB := n5_
                                    clear n0_ n1_ n2_ n3_ n4_ n5_
                                    clear hb ho48
                                    refine hK.out _ _ ⟨HS0_, HS1_⟩ (fun hHeld => ?_)
                                    clear hK K
                                    refine norm_ (a' := ?_) ?_ ?_
                                    rotate_left
                                    · show Act.put _ (some 84) _ = _
                                      simp only [Act.put, List.setIfInBounds_toArray, List.set_cons_zero, List.set_cons_succ, i64_w, i32_w]
                                      rfl
                                    refine one_ (i := 12) (N := some 85) #[true, true, true, true, true, true, true, true, true, true, true, true, true, false, false] rfl rfl (one_of HT_.out (by kernel_rfl)) (by decide) (fun K hK => ?_)
                                    have hcv49 := own_string (P := Try.prog) Try.underlying24 Try.underlying5 Try.underlying9 (Kd.own_of_R HO251.out)
                                    refine value_ (w1 := ?_) (v := ?_) (by rfl) rfl ?_ ?_
                                    rotate_left 2
                                    · go_simp
                                      constructor
                                      · rfl
                                      · rfl
                                    clear hcv49
                                    refine hK.out _ _ ⟨hHeld.1, hHeld.2⟩ (fun hHeld => ?_)
                                    clear hK K
                                    refine norm_ (a' := ?_) ?_ ?_
                                    rotate_left
                                    · show Act.put _ (some 85) _ = _
                                      simp only [Act.put, List.setIfInBounds_toArray, List.set_cons_zero, List.set_cons_succ, i64_w, i32_w]
                                      rfl
                                    refine pure_ (i := 13) (N := some 86) (v := ?_) (a' := ?_) #[true, true, true, true, true, true, true, true, true, true, true, true, true, true, false] rfl rfl (any_of HT_.out (by kernel_rfl)) (fun _ _ _ h => h) (Or.inl ⟨by rfl, ?_⟩) ?_ ?_
                                    rotate_left
                                    · intro w'
                                      go_simp
                                      with_reducible rfl
                                    rotate_left
                                    · simp only [Act.put, List.setIfInBounds_toArray, List.set_cons_zero, List.set_cons_succ, i64_w, i32_w]
                                      rfl
                                    refine pure_ (i := 14) (N := some 14) (v := ?_) (a' := ?_) #[true, true, true, true, true, true, true, true, true, true, true, true, true, true, true] rfl rfl (any_of HT_.out (by kernel_rfl)) (fun _ _ _ h => h) (Or.inl ⟨by rfl, ?_⟩) ?_ ?_
                                    rotate_left
                                    · intro w'
                                      go_simp
                                      with_reducible rfl
                                    rotate_left
                                    · simp only [Act.put, List.setIfInBounds_toArray, List.set_cons_zero, List.set_cons_succ, i64_w, i32_w]
                                      rfl
                                    refine done_ (done_of HT_.out (by kernel_rfl)) ?_
                                    try go_wp2
                                    go_roundg kj18
                                    case measure => have := HK1.out; have := HJ18.out; omega
                                    case rel => exact ⟨(x11_1), (wrap64 (x12_1 + 1)), (by first | rfl | (simp; done) | (simp [*]; done)), (by first | rfl | (simp; done) | (simp [*]; done)), H', ⟨by have := HK1.out; have := HJ18.out; omega⟩, ⟨by (with_reducible repeat (first | apply Kd.R_alloc | apply Kd.R_drewN | apply Kd.R_drew)); exact HO_6.out⟩, ⟨by (with_reducible repeat (first | apply Kd.R_alloc | apply Kd.R_drewN | apply Kd.R_drew)); exact HO_9.out⟩, ⟨by (with_reducible repeat (first | apply Kd.R_alloc | apply Kd.R_drewN | apply Kd.R_drew)); exact HO_10.out⟩, ⟨by repeat (first | (with_reducible first | exact HB.out | apply below_alloc | apply pw_below_drewN | apply below_drew1) | exact HB.out)⟩⟩
                                  · rw [if_neg c40] at H
                                    have c40b0 : (((rdOf ByteArray.empty t232 x12_1) ++ (strOfNums y244)).toList == ((rdOf ByteArray.empty t227 x12_1) ++ (strOfNums y249)).toList) = false := beq_eq_false_iff_ne.mpr c40
                                    have c40b1 : (((rdOf ByteArray.empty t232 x12_1) ++ (strOfNums y244)).toList != ((rdOf ByteArray.empty t227 x12_1) ++ (strOfNums y249)).toList) = true := bne_iff_ne.mpr c40
                                    obtain rfl := Option.some.inj H
                                    obtain ⟨Ao50, co50, eo50⟩ := Kd.R_slice HO_9.out
                                    subst eo50
                                    try go_wp2
                                    have n0_ := Aside0.mk (Kd.R_drew HO_6.out)
                                    have n1_ := Aside0.mk (Kd.R_drew HO_9.out)
                                    have n2_ := Aside0.mk (Kd.R_drew HO_10.out)
                                    have n3_ := Aside0.mk (below_drew1 HB.out)
                                    clear HO_6
                                    clear HO_9
                                    clear HO_10
                                    clear HB
                                    have HO_6 := n0_
                                    have HO_9 := n1_
                                    have HO_10 := n2_
                                    have HB := n3_
                                    clear n0_ n1_ n2_ n3_
                                    have p242 : 0 ≤ (x12_1 : Int) := of_decide_eq_true (by first | (with_reducible assumption) | assumption)
                                    have q242 : x12_1 < (t232.length : Int) := of_decide_eq_true (by first | (with_reducible assumption) | assumption)
                                    obtain ⟨ad242, e242, hx242_0⟩ := Kd.at_string (Kd.R_reads' HO_9.out).2.2 x12_1 p242 q242
                                    cases e242
                                    replace p242 := eq_true p242
                                    replace q242 := eq_true q242
                                    have p243 : 0 ≤ (x12_1 : Int) := of_decide_eq_true (by first | (with_reducible assumption) | assumption)
                                    have q243 : x12_1 < (t232.length : Int) := of_decide_eq_true (by first | (with_reducible assumption) | assumption)
                                    obtain ⟨ad243, e243, hx243_0⟩ := Kd.at_string (Kd.R_reads' HO_9.out).2.2 x12_1 p243 q243
                                    obtain rfl : ad242 = ad243 := (by injection e243)
                                    replace p243 := eq_true p243
                                    replace q243 := eq_true q243
                                    refine start_ (n := 15) (S := fun w' => w'.cell? (ad242.add (x12_1).toNat) = some (.string (rdOf ByteArray.empty t232 x12_1)) ∧ w'.cell? (ad242.add (x12_1).toNat) = some (.string (rdOf ByteArray.empty t232 x12_1))) (ds := []) #[false, false, false, false, false, false, false, false, false, false, false, false, false, false, false] (by kernel_rfl) rfl rfl ⟨hx242_0, hx243_0⟩ (fun hHeld => ?_); refine with_tabW nautiluslaw17_VolBack.tab16 nautiluslaw17_VolBack.bits16 (fun HT_ HW_ => ?_)
                                    generalize wc.drew = w51 at HO_6 HO_9 HO_10 HB hx242_0 hx243_0 hHeld ⊢
                                    refine pure_ (i := 0) (N := some 59) (v := ?_) (a' := ?_) #[true, false, false, false, false, false, false, false, false, false, false, false, false, false, false] rfl rfl (any_of HT_.out (by kernel_rfl)) (fun _ _ _ h => h) (Or.inl ⟨by rfl, ?_⟩) ?_ ?_
                                    rotate_left
                                    · intro w'
                                      go_simp
                                      with_reducible rfl
                                    rotate_left
                                    · simp only [Act.put, List.setIfInBounds_toArray, List.set_cons_zero, List.set_cons_succ, i64_w, i32_w]
                                      rfl
                                    refine pure_ (i := 1) (N := some 60) (v := ?_) (a' := ?_) #[true, true, false, false, false, false, false, false, false, false, false, false, false, false, false] rfl rfl (any_of HT_.out (by kernel_rfl)) (fun _ _ _ h => h) (Or.inl ⟨by rfl, ?_⟩) ?_ ?_
                                    rotate_left
                                    · intro w'
                                      go_simp
                                      with_reducible rfl
                                    rotate_left
                                    · simp only [Act.put, List.setIfInBounds_toArray, List.set_cons_zero, List.set_cons_succ, i64_w, i32_w]
                                      rfl
                                    refine pure_ (i := 2) (N := some 61) (v := ?_) (a' := ?_) #[true, true, true, false, false, false, false, false, false, false, false, false, false, false, false] rfl rfl (any_of HT_.out (by kernel_rfl)) (fun _ _ _ h => h) (Or.inl ⟨by rfl, ?_⟩) ?_ ?_
                                    rotate_left
                                    · intro w'
                                      go_simp
                                      with_reducible rfl
                                    rotate_left
                                    · simp only [Act.put, List.setIfInBounds_toArray, List.set_cons_zero, List.set_cons_succ, i64_w, i32_w]
                                      rfl
                                    refine pure_ (i := 4) (N := some 63) (v := ?_) (a' := ?_) #[true, true, true, false, true, false, false, false, false, false, false, false, false, false, false] rfl rfl (any_of HT_.out (by kernel_rfl)) (fun _ _ _ h => h) (Or.inl ⟨by rfl, ?_⟩) ?_ ?_
                                    rotate_left
                                    · intro w'
                                      go_simp
                                      with_reducible rfl
                                    rotate_left
                                    · simp only [Act.put, List.setIfInBounds_toArray, List.set_cons_zero, List.set_cons_succ, i64_w, i32_w]
                                      rfl
                                    refine pure_ (i := 5) (N := some 64) (v := ?_) (a' := ?_) #[true, true, true, false, true, true, false, false, false, false, false, false, false, false, false] rfl rfl (any_of HT_.out (by kernel_rfl)) (fun _ _ _ h => h) (Or.inl ⟨by rfl, ?_⟩) ?_ ?_
                                    rotate_left
                                    · intro w'
                                      go_simp
                                      with_reducible rfl
                                    rotate_left
                                    · simp only [Act.put, List.setIfInBounds_toArray, List.set_cons_zero, List.set_cons_succ, i64_w, i32_w]
                                      rfl
                                    refine pure_ (i := 6) (N := some 65) (v := ?_) (a' := ?_) #[true, true, true, false, true, true, true, false, false, false, false, false, false, false, false] rfl rfl (any_of HT_.out (by kernel_rfl)) (fun _ _ _ h => h) (Or.inl ⟨by rfl, ?_⟩) ?_ ?_
                                    rotate_left
                                    · intro w'
                                      go_simp
                                      with_reducible rfl
                                    rotate_left
                                    · simp only [Act.put, List.setIfInBounds_toArray, List.set_cons_zero, List.set_cons_succ, i64_w, i32_w]
                                      rfl
                                    refine take_ (i := 3) (N := some 62) (v := ?_) (a' := ?_) #[true, true, true, true, true, true, true, false, false, false, false, false, false, false, false] rfl rfl (take_ofW HT_.out HW_.out (by kernel_rfl)) (fun _ _ _ h => h) (Or.inl ⟨by rfl, ?_⟩) hHeld ?_ ?_
                                    rotate_left
                                    · rintro w' ⟨s0, s1⟩
                                      go_simp
                                      with_reducible rfl
                                    rotate_left
                                    · simp only [Act.put, List.setIfInBounds_toArray, List.set_cons_zero, List.set_cons_succ, i64_w, i32_w]
                                      rfl
                                    refine take_ (i := 7) (N := some 66) (v := ?_) (a' := ?_) #[true, true, true, true, true, true, true, true, false, false, false, false, false, false, false] rfl rfl (take_ofW HT_.out HW_.out (by kernel_rfl)) (fun _ _ _ h => h) (Or.inl ⟨by rfl, ?_⟩) hHeld ?_ ?_
                                    rotate_left
                                    · rintro w' ⟨s0, s1⟩
                                      go_simp
                                      with_reducible rfl
                                    rotate_left
                                    · simp only [Act.put, List.setIfInBounds_toArray, List.set_cons_zero, List.set_cons_succ, i64_w, i32_w]
                                      rfl
                                    refine pure_ (i := 8) (N := some 67) (v := ?_) (a' := ?_) #[true, true, true, true, true, true, true, true, true, false, false, false, false, false, false] rfl rfl (any_of HT_.out (by kernel_rfl)) (fun _ _ _ h => h) (Or.inl ⟨by rfl, ?_⟩) ?_ ?_
                                    rotate_left
                                    · intro w'
                                      go_simp
                                      with_reducible rfl
                                    rotate_left
                                    · simp only [Act.put, List.setIfInBounds_toArray, List.set_cons_zero, List.set_cons_succ, i64_w, i32_w]
                                      rfl
                                    refine pure_ (i := 9) (N := some 68) (v := ?_) (a' := ?_) #[true, true, true, true, true, true, true, true, true, true, false, false, false, false, false] rfl rfl (any_of HT_.out (by kernel_rfl)) (fun _ _ _ h => h) (Or.inl ⟨by rfl, ?_⟩) ?_ ?_
                                    rotate_left
                                    · intro w'
                                      go_simp
                                      with_reducible rfl
                                    rotate_left
                                    · simp only [Act.put, List.setIfInBounds_toArray, List.set_cons_zero, List.set_cons_succ, i64_w, i32_w]
                                      rfl
                                    refine pure_ (i := 10) (N := some 69) (v := ?_) (a' := ?_) #[true, true, true, true, true, true, true, true, true, true, true, false, false, false, false] rfl rfl (any_of HT_.out (by kernel_rfl)) (fun _ _ _ h => h) (Or.inl ⟨by rfl, ?_⟩) ?_ ?_
                                    rotate_left
                                    · intro w'
                                      go_simp
                                      with_reducible rfl
                                    rotate_left
                                    · simp only [Act.put, List.setIfInBounds_toArray, List.set_cons_zero, List.set_cons_succ, i64_w, i32_w]
                                      rfl
                                    refine one_ (i := 11) (N := some 70) #[true, true, true, true, true, true, true, true, true, true, true, true, false, false, false] rfl rfl (one_of HT_.out (by kernel_rfl)) (by decide) (fun K hK => ?_)
                                    refine Kd.R_make_step (Kd.int .u8) _ 5 (by rfl) (N := 70) rfl 24 _ _ rfl ji30 rfl rfl Try.underlying24 (.int .u8 0) 1 info5 rfl (by decide) (by omega) 0 (ok := fun _ => True) (okp := fun _ => True) rfl (fun _ hk => hk) trivial (of_decide_eq_true (by first | (with_reducible assumption) | assumption)) (Nat.le_trans (Nat.mul_le_mul_right _ (of_decide_eq_true (by first | (with_reducible assumption) | assumption) : ji30.toNat ≤ 281474976710656)) (by omega)) (Below.refl _ _) (Nat.le_refl _) ?_
                                    intro v245 w52 ho53 hb hg_ hnew_
                                    have HS0_ := (hb.cell (World.block_lt_of_cell? _ _ (hHeld.1))).trans (hHeld.1)
                                    have HS1_ := (hb.cell (World.block_lt_of_cell? _ _ (hHeld.2))).trans (hHeld.2)
                                    clear hg_ hnew_
                                    (first | rw [← Ny244.out] at ho53 | (simp only [Int.reduceToNat] at ho53; rw [← Ny244.out] at ho53))
                                    have n0_ := Aside0.mk (Kd.R_below (by (with_reducible repeat (first | apply Kd.R_alloc | apply Kd.R_drewN | apply Kd.R_drew)); exact HO_6.out) hb)
                                    have n1_ := Aside0.mk (Kd.R_below (by (with_reducible repeat (first | apply Kd.R_alloc | apply Kd.R_drewN | apply Kd.R_drew)); exact HO_9.out) hb)
                                    have n2_ := Aside0.mk (Kd.R_below (by (with_reducible repeat (first | apply Kd.R_alloc | apply Kd.R_drewN | apply Kd.R_drew)); exact HO_10.out) hb)
                                    have n3_ := Aside0.mk (Kd.R_lower ho53 (below_size (by repeat (first | (with_reducible first | exact HB.out | apply below_alloc | apply pw_below_drewN | apply below_drew1) | exact HB.out))))
                                    have n4_ := Aside0.mk (below_step (by repeat (first | (with_reducible first | exact HB.out | apply below_alloc | apply pw_below_drewN | apply below_drew1) | exact HB.out)) hb)
                                    clear HO_6
                                    clear HO_9
                                    clear HO_10
                                    clear HB
                                    have HO_6 := n0_
                                    have HO_9 := n1_
                                    have HO_10 := n2_
                                    have HO246 := n3_
                                    have HB := n4_
                                    clear n0_ n1_ n2_ n3_ n4_
                                    clear hb ho53
                                    refine hK.out _ _ ⟨HS0_, HS1_⟩ (fun hHeld => ?_)
                                    clear hK K
                                    refine norm_ (a' := ?_) ?_ ?_
                                    rotate_left
                                    · show Act.put _ (some 70) _ = _
                                      simp only [Act.put, List.setIfInBounds_toArray, List.set_cons_zero, List.set_cons_succ, i64_w, i32_w]
                                      rfl
                                    refine one_ (i := 12) (N := some 71) #[true, true, true, true, true, true, true, true, true, true, true, true, true, false, false] rfl rfl (one_of HT_.out (by kernel_rfl)) (by decide) (fun K hK => ?_)
                                    have hcv54 := own_string (P := Try.prog) Try.underlying24 Try.underlying5 Try.underlying9 (Kd.own_of_R HO246.out)
                                    refine value_ (w1 := ?_) (v := ?_) (by rfl) rfl ?_ ?_
                                    rotate_left 2
                                    · go_simp
                                      constructor
                                      · rfl
                                      · rfl
                                    clear hcv54
                                    refine hK.out _ _ ⟨hHeld.1, hHeld.2⟩ (fun hHeld => ?_)
                                    clear hK K
                                    refine norm_ (a' := ?_) ?_ ?_
                                    rotate_left
                                    · show Act.put _ (some 71) _ = _
                                      simp only [Act.put, List.setIfInBounds_toArray, List.set_cons_zero, List.set_cons_succ, i64_w, i32_w]
                                      rfl
                                    refine pure_ (i := 13) (N := some 72) (v := ?_) (a' := ?_) #[true, true, true, true, true, true, true, true, true, true, true, true, true, true, false] rfl rfl (any_of HT_.out (by kernel_rfl)) (fun _ _ _ h => h) (Or.inl ⟨by rfl, ?_⟩) ?_ ?_
                                    rotate_left
                                    · intro w'
                                      go_simp
                                      with_reducible rfl
                                    rotate_left
                                    · simp only [Act.put, List.setIfInBounds_toArray, List.set_cons_zero, List.set_cons_succ, i64_w, i32_w]
                                      rfl
                                    refine pure_ (i := 14) (N := some 13) (v := ?_) (a' := ?_) #[true, true, true, true, true, true, true, true, true, true, true, true, true, true, true] rfl rfl (any_of HT_.out (by kernel_rfl)) (fun _ _ _ h => h) (Or.inl ⟨by rfl, ?_⟩) ?_ ?_
                                    rotate_left
                                    · intro w'
                                      go_simp
                                      with_reducible rfl
                                    rotate_left
                                    · simp only [Act.put, List.setIfInBounds_toArray, List.set_cons_zero, List.set_cons_succ, i64_w, i32_w]
                                      rfl
                                    refine done_ (done_of HT_.out (by kernel_rfl)) ?_
                                    try go_wp2
                                    have n0_ := Aside0.mk (Kd.R_drew HO_6.out)
                                    have n1_ := Aside0.mk (Kd.R_drew HO_9.out)
                                    have n2_ := Aside0.mk (Kd.R_drew HO_10.out)
                                    have n3_ := Aside0.mk (Kd.R_drew HO246.out)
                                    have n4_ := Aside0.mk (below_drew1 HB.out)
                                    clear HO_6
                                    clear HO_9
                                    clear HO_10
                                    clear HO246
                                    clear HB
                                    have HO_6 := n0_
                                    have HO_9 := n1_
                                    have HO_10 := n2_
                                    have HO246 := n3_
                                    have HB := n4_
                                    clear n0_ n1_ n2_ n3_ n4_
                                    have p247 : 0 ≤ (x12_1 : Int) := of_decide_eq_true (by first | (with_reducible assumption) | assumption)
                                    have q247 : x12_1 < (t227.length : Int) := of_decide_eq_true (by first | (with_reducible assumption) | assumption)
                                    obtain ⟨ad247, e247, hx247_0⟩ := Kd.at_string (Kd.R_reads' HO_6.out).2.2 x12_1 p247 q247
                                    cases e247
                                    replace p247 := eq_true p247
                                    replace q247 := eq_true q247
                                    have p248 : 0 ≤ (x12_1 : Int) := of_decide_eq_true (by first | (with_reducible assumption) | assumption)
                                    have q248 : x12_1 < (t227.length : Int) := of_decide_eq_true (by first | (with_reducible assumption) | assumption)
                                    obtain ⟨ad248, e248, hx248_0⟩ := Kd.at_string (Kd.R_reads' HO_6.out).2.2 x12_1 p248 q248
                                    obtain rfl : ad247 = ad248 := (by injection e248)
                                    replace p248 := eq_true p248
                                    replace q248 := eq_true q248
                                    refine start_ (n := 15) (S := fun w' => w'.cell? (ad247.add (x12_1).toNat) = some (.string (rdOf ByteArray.empty t227 x12_1)) ∧ w'.cell? (ad247.add (x12_1).toNat) = some (.string (rdOf ByteArray.empty t227 x12_1))) (ds := []) #[false, false, false, false, false, false, false, false, false, false, false, false, false, false, false] (by kernel_rfl) rfl rfl ⟨hx247_0, hx248_0⟩ (fun hHeld => ?_); refine with_tabW nautiluslaw17_VolBack.tab17 nautiluslaw17_VolBack.bits17 (fun HT_ HW_ => ?_)
                                    generalize w52.drew = w55 at HO_6 HO_9 HO_10 HO246 HB hx247_0 hx248_0 hHeld ⊢
                                    refine pure_ (i := 0) (N := some 73) (v := ?_) (a' := ?_) #[true, false, false, false, false, false, false, false, false, false, false, false, false, false, false] rfl rfl (any_of HT_.out (by kernel_rfl)) (fun _ _ _ h => h) (Or.inl ⟨by rfl, ?_⟩) ?_ ?_
                                    rotate_left
                                    · intro w'
                                      go_simp
                                      with_reducible rfl
                                    rotate_left
                                    · simp only [Act.put, List.setIfInBounds_toArray, List.set_cons_zero, List.set_cons_succ, i64_w, i32_w]
                                      rfl
                                    refine pure_ (i := 1) (N := some 74) (v := ?_) (a' := ?_) #[true, true, false, false, false, false, false, false, false, false, false, false, false, false, false] rfl rfl (any_of HT_.out (by kernel_rfl)) (fun _ _ _ h => h) (Or.inl ⟨by rfl, ?_⟩) ?_ ?_
                                    rotate_left
                                    · intro w'
                                      go_simp
                                      with_reducible rfl
                                    rotate_left
                                    · simp only [Act.put, List.setIfInBounds_toArray, List.set_cons_zero, List.set_cons_succ, i64_w, i32_w]
                                      rfl
                                    refine pure_ (i := 2) (N := some 75) (v := ?_) (a' := ?_) #[true, true, true, false, false, false, false, false, false, false, false, false, false, false, false] rfl rfl (any_of HT_.out (by kernel_rfl)) (fun _ _ _ h => h) (Or.inl ⟨by rfl, ?_⟩) ?_ ?_
                                    rotate_left
                                    · intro w'
                                      go_simp
                                      with_reducible rfl
                                    rotate_left
                                    · simp only [Act.put, List.setIfInBounds_toArray, List.set_cons_zero, List.set_cons_succ, i64_w, i32_w]
                                      rfl
                                    refine pure_ (i := 4) (N := some 77) (v := ?_) (a' := ?_) #[true, true, true, false, true, false, false, false, false, false, false, false, false, false, false] rfl rfl (any_of HT_.out (by kernel_rfl)) (fun _ _ _ h => h) (Or.inl ⟨by rfl, ?_⟩) ?_ ?_
                                    rotate_left
                                    · intro w'
                                      go_simp
                                      with_reducible rfl
                                    rotate_left
                                    · simp only [Act.put, List.setIfInBounds_toArray, List.set_cons_zero, List.set_cons_succ, i64_w, i32_w]
                                      rfl
                                    refine pure_ (i := 5) (N := some 78) (v := ?_) (a' := ?_) #[true, true, true, false, true, true, false, false, false, false, false, false, false, false, false] rfl rfl (any_of HT_.out (by kernel_rfl)) (fun _ _ _ h => h) (Or.inl ⟨by rfl, ?_⟩) ?_ ?_
                                    rotate_left
                                    · intro w'
                                      go_simp
                                      with_reducible rfl
                                    rotate_left
                                    · simp only [Act.put, List.setIfInBounds_toArray, List.set_cons_zero, List.set_cons_succ, i64_w, i32_w]
                                      rfl
                                    refine pure_ (i := 6) (N := some 79) (v := ?_) (a' := ?_) #[true, true, true, false, true, true, true, false, false, false, false, false, false, false, false] rfl rfl (any_of HT_.out (by kernel_rfl)) (fun _ _ _ h => h) (Or.inl ⟨by rfl, ?_⟩) ?_ ?_
                                    rotate_left
                                    · intro w'
                                      go_simp
                                      with_reducible rfl
                                    rotate_left
                                    · simp only [Act.put, List.setIfInBounds_toArray, List.set_cons_zero, List.set_cons_succ, i64_w, i32_w]
                                      rfl
                                    refine take_ (i := 3) (N := some 76) (v := ?_) (a' := ?_) #[true, true, true, true, true, true, true, false, false, false, false, false, false, false, false] rfl rfl (take_ofW HT_.out HW_.out (by kernel_rfl)) (fun _ _ _ h => h) (Or.inl ⟨by rfl, ?_⟩) hHeld ?_ ?_
                                    rotate_left
                                    · rintro w' ⟨s0, s1⟩
                                      go_simp
                                      with_reducible rfl
                                    rotate_left
                                    · simp only [Act.put, List.setIfInBounds_toArray, List.set_cons_zero, List.set_cons_succ, i64_w, i32_w]
                                      rfl
                                    refine take_ (i := 7) (N := some 80) (v := ?_) (a' := ?_) #[true, true, true, true, true, true, true, true, false, false, false, false, false, false, false] rfl rfl (take_ofW HT_.out HW_.out (by kernel_rfl)) (fun _ _ _ h => h) (Or.inl ⟨by rfl, ?_⟩) hHeld ?_ ?_
                                    rotate_left
                                    · rintro w' ⟨s0, s1⟩
                                      go_simp
                                      with_reducible rfl
                                    rotate_left
                                    · simp only [Act.put, List.setIfInBounds_toArray, List.set_cons_zero, List.set_cons_succ, i64_w, i32_w]
                                      rfl
                                    refine pure_ (i := 8) (N := some 81) (v := ?_) (a' := ?_) #[true, true, true, true, true, true, true, true, true, false, false, false, false, false, false] rfl rfl (any_of HT_.out (by kernel_rfl)) (fun _ _ _ h => h) (Or.inl ⟨by rfl, ?_⟩) ?_ ?_
                                    rotate_left
                                    · intro w'
                                      go_simp
                                      with_reducible rfl
                                    rotate_left
                                    · simp only [Act.put, List.setIfInBounds_toArray, List.set_cons_zero, List.set_cons_succ, i64_w, i32_w]
                                      rfl
                                    refine pure_ (i := 9) (N := some 82) (v := ?_) (a' := ?_) #[true, true, true, true, true, true, true, true, true, true, false, false, false, false, false] rfl rfl (any_of HT_.out (by kernel_rfl)) (fun _ _ _ h => h) (Or.inl ⟨by rfl, ?_⟩) ?_ ?_
                                    rotate_left
                                    · intro w'
                                      go_simp
                                      with_reducible rfl
                                    rotate_left
                                    · simp only [Act.put, List.setIfInBounds_toArray, List.set_cons_zero, List.set_cons_succ, i64_w, i32_w]
                                      rfl
                                    refine pure_ (i := 10) (N := some 83) (v := ?_) (a' := ?_) #[true, true, true, true, true, true, true, true, true, true, true, false, false, false, false] rfl rfl (any_of HT_.out (by kernel_rfl)) (fun _ _ _ h => h) (Or.inl ⟨by rfl, ?_⟩) ?_ ?_
                                    rotate_left
                                    · intro w'
                                      go_simp
                                      with_reducible rfl
                                    rotate_left
                                    · simp only [Act.put, List.setIfInBounds_toArray, List.set_cons_zero, List.set_cons_succ, i64_w, i32_w]
                                      rfl
                                    refine one_ (i := 11) (N := some 84) #[true, true, true, true, true, true, true, true, true, true, true, true, false, false, false] rfl rfl (one_of HT_.out (by kernel_rfl)) (by decide) (fun K hK => ?_)
                                    refine Kd.R_make_step (Kd.int .u8) _ 5 (by rfl) (N := 84) rfl 24 _ _ rfl ji36 rfl rfl Try.underlying24 (.int .u8 0) 1 info5 rfl (by decide) (by omega) 0 (ok := fun _ => True) (okp := fun _ => True) rfl (fun _ hk => hk) trivial (of_decide_eq_true (by first | (with_reducible assumption) | assumption)) (Nat.le_trans (Nat.mul_le_mul_right _ (of_decide_eq_true (by first | (with_reducible assumption) | assumption) : ji36.toNat ≤ 281474976710656)) (by omega)) (Below.refl _ _) (Nat.le_refl _) ?_
                                    intro v250 w56 ho57 hb hg_ hnew_
                                    have HS0_ := (hb.cell (World.block_lt_of_cell? _ _ (hHeld.1))).trans (hHeld.1)
                                    have HS1_ := (hb.cell (World.block_lt_of_cell? _ _ (hHeld.2))).trans (hHeld.2)
                                    clear hg_ hnew_
                                    (first | rw [← Ny249.out] at ho57 | (simp only [Int.reduceToNat] at ho57; rw [← Ny249.out] at ho57))
                                    have n0_ := Aside0.mk (Kd.R_below (by (with_reducible repeat (first | apply Kd.R_alloc | apply Kd.R_drewN | apply Kd.R_drew)); exact HO_6.out) hb)
                                    have n1_ := Aside0.mk (Kd.R_below (by (with_reducible repeat (first | apply Kd.R_alloc | apply Kd.R_drewN | apply Kd.R_drew)); exact HO_9.out) hb)
                                    have n2_ := Aside0.mk (Kd.R_below (by (with_reducible repeat (first | apply Kd.R_alloc | apply Kd.R_drewN | apply Kd.R_drew)); exact HO_10.out) hb)
                                    have n3_ := Aside0.mk (Kd.R_elder' (by (with_reducible repeat (first | apply Kd.R_alloc | apply Kd.R_drewN | apply Kd.R_drew)); exact HO246.out) (Kd.R_base ho57) hb)
                                    have n4_ := Aside0.mk (Kd.R_lower (Kd.R_new' ho57 (Kd.R_lt (by (with_reducible repeat (first | apply Kd.R_alloc | apply Kd.R_drewN | apply Kd.R_drew)); exact HO246.out))) (below_size (by repeat (first | (with_reducible first | exact HB.out | apply below_alloc | apply pw_below_drewN | apply below_drew1) | exact HB.out))))
                                    have n5_ := Aside0.mk (below_step (by repeat (first | (with_reducible first | exact HB.out | apply below_alloc | apply pw_below_drewN | apply below_drew1) | exact HB.out)) hb)
                                    clear HO_6
                                    clear HO_9
                                    clear HO_10
                                    clear HO246
                                    clear HB
                                    have HO_6 := n0_
                                    have HO_9 := n1_
                                    have HO_10 := n2_
                                    have HO246 := n3_
                                    have HO251 := n4_
                                    have HB := n5_
                                    clear n0_ n1_ n2_ n3_ n4_ n5_
                                    clear hb ho57
                                    refine hK.out _ _ ⟨HS0_, HS1_⟩ (fun hHeld => ?_)
                                    clear hK K
                                    refine norm_ (a' := ?_) ?_ ?_
                                    rotate_left
                                    · show Act.put _ (some 84) _ = _
                                      simp only [Act.put, List.setIfInBounds_toArray, List.set_cons_zero, List.set_cons_succ, i64_w, i32_w]
                                      rfl
                                    refine one_ (i := 12) (N := some 85) #[true, true, true, true, true, true, true, true, true, true, true, true, true, false, false] rfl rfl (one_of HT_.out (by kernel_rfl)) (by decide) (fun K hK => ?_)
                                    have hcv58 := own_string (P := Try.prog) Try.underlying24 Try.underlying5 Try.underlying9 (Kd.own_of_R HO251.out)
                                    refine value_ (w1 := ?_) (v := ?_) (by rfl) rfl ?_ ?_
                                    rotate_left 2
                                    · go_simp
                                      constructor
                                      · rfl
                                      · rfl
                                    clear hcv58
                                    refine hK.out _ _ ⟨hHeld.1, hHeld.2⟩ (fun hHeld => ?_)
                                    clear hK K
                                    refine norm_ (a' := ?_) ?_ ?_
                                    rotate_left
                                    · show Act.put _ (some 85) _ = _
                                      simp only [Act.put, List.setIfInBounds_toArray, List.set_cons_zero, List.set_cons_succ, i64_w, i32_w]
                                      rfl
                                    refine pure_ (i := 13) (N := some 86) (v := ?_) (a' := ?_) #[true, true, true, true, true, true, true, true, true, true, true, true, true, true, false] rfl rfl (any_of HT_.out (by kernel_rfl)) (fun _ _ _ h => h) (Or.inl ⟨by rfl, ?_⟩) ?_ ?_
                                    rotate_left
                                    · intro w'
                                      go_simp
                                      with_reducible rfl
                                    rotate_left
                                    · simp only [Act.put, List.setIfInBounds_toArray, List.set_cons_zero, List.set_cons_succ, i64_w, i32_w]
                                      rfl
                                    refine pure_ (i := 14) (N := some 14) (v := ?_) (a' := ?_) #[true, true, true, true, true, true, true, true, true, true, true, true, true, true, true] rfl rfl (any_of HT_.out (by kernel_rfl)) (fun _ _ _ h => h) (Or.inl ⟨by rfl, ?_⟩) ?_ ?_
                                    rotate_left
                                    · intro w'
                                      go_simp
                                      with_reducible rfl
                                    rotate_left
                                    · simp only [Act.put, List.setIfInBounds_toArray, List.set_cons_zero, List.set_cons_succ, i64_w, i32_w]
                                      rfl
                                    refine done_ (done_of HT_.out (by kernel_rfl)) ?_
                                    try go_wp2
                                    go_ret
                                    exact ⟨by first | rfl | (simp [errW_none, errW_some] <;> rfl) | (simp only [← hji29, ← hji30, ← hji35, ← hji36]; first | rfl | (simp [errW_none, errW_some] <;> rfl)) | (simp [*, errW_none, errW_some] <;> rfl) | (simp [show IntKind.u64.wrap 0 = 0 from rfl, Int.zero_tdiv]; done), by repeat (first | (with_reducible first | exact HB.out | apply below_alloc | apply pw_below_drewN | apply below_drew1) | exact HB.out)⟩
                                · rw [if_neg c39] at H
                                  exact absurd H (by simp)
                              · rw [if_neg c38] at H
                                exact absurd H (by simp)
                            · rw [if_neg c37] at H
                              exact absurd H (by simp)
                          · rw [if_neg c34] at H
                            exact absurd H (by simp)
                        · rw [if_neg c33] at H
                          exact absurd H (by simp)
                      · rw [if_neg c32] at H
                        exact absurd H (by simp)
                    · rw [if_neg c31] at H
                      exact absurd H (by simp)
                  · rw [if_neg c28] at H
                    exact absurd H (by simp)
                · rw [if_neg c27] at H
                  exact absurd H (by simp)
      · rw [if_neg c18] at H
        have c18b0 : decide (x12_1 < (t227.length : Int)) = false := decide_eq_false c18
        clear c18
        by_cases c59 : t224 = true
        · subst c59
          have H1 : (if t231 = 0 then (if t230.toList = t226.toList then (if x11_1 = (t235.length : Int) then ((vol_Changed.f t226 t226).bind fun t238 => (some ((t238.length : Int) == 0))) else (some false)) else (some false)) else (some false)) = some r := by rw [if_pos rfl] at H; exact H
          clear H
          have H := H1
          clear H1
          by_cases c60 : t231 = 0
          · rw [if_pos c60] at H
            have c60b0 : (t231 == 0) = true := beq_iff_eq.mpr c60
            have c60b1 : (t231 != 0) = false := bne_eq_false_iff_eq.mpr c60
            clear c60
            by_cases c61 : t230.toList = t226.toList
            · rw [if_pos c61] at H
              have c61b0 : (t230.toList == t226.toList) = true := beq_iff_eq.mpr c61
              have c61b1 : (t230.toList != t226.toList) = false := bne_eq_false_iff_eq.mpr c61
              clear c61
              by_cases c62 : x11_1 = (t235.length : Int)
              · rw [if_pos c62] at H
                have c62b0 : (x11_1 == (t235.length : Int)) = true := beq_iff_eq.mpr c62
                have c62b1 : (x11_1 != (t235.length : Int)) = false := bne_eq_false_iff_eq.mpr c62
                clear c62
                replace H := Option.bind_eq_some_iff.mp H
                obtain ⟨t238, A630, H⟩ := H
                replace H : (some ((t238.length : Int) == 0)) = some r := H
                have A63 := Aside0.mk A630
                clear A630
                obtain rfl := Option.some.inj H
                obtain ⟨Ao64, co64, eo64⟩ := Kd.R_slice HO_10.out
                subst eo64
                go_wp2_with (first | (go_at_call 12; (with_reducible refine (vol_Changed.calls t226 t226 t238 _ A63.out).mono ?_); rintro e w65 ⟨v239, rfl, ho0, hb⟩; have n0_ := Aside0.mk (Kd.R_below (by (with_reducible repeat (first | apply Kd.R_alloc | apply Kd.R_drewN | apply Kd.R_drew)); exact HO_6.out) hb); have n1_ := Aside0.mk (Kd.R_below (by (with_reducible repeat (first | apply Kd.R_alloc | apply Kd.R_drewN | apply Kd.R_drew)); exact HO_9.out) hb); have n2_ := Aside0.mk (Kd.R_elder' (by (with_reducible repeat (first | apply Kd.R_alloc | apply Kd.R_drewN | apply Kd.R_drew)); exact HO_10.out) (Kd.R_base ho0) hb); have n3_ := Aside0.mk (Kd.R_lower (Kd.R_new' ho0 (Kd.R_lt (by (with_reducible repeat (first | apply Kd.R_alloc | apply Kd.R_drewN | apply Kd.R_drew)); exact HO_10.out))) (below_size (by repeat (first | (with_reducible first | exact HB.out | apply below_alloc | apply pw_below_drewN | apply below_drew1) | exact HB.out)))); have n4_ := Aside0.mk (below_step (by repeat (first | (with_reducible first | exact HB.out | apply below_alloc | apply pw_below_drewN | apply below_drew1) | exact HB.out)) hb); clear HO_6; clear HO_9; clear HO_10; clear HB; have HO_6 := n0_; have HO_9 := n1_; have HO_10 := n2_; have HO240 := n3_; have HB := n4_; clear n0_ n1_ n2_ n3_ n4_; (try clear hb); (try clear hb2); (try clear hk); (try clear hi); (try clear ho0); obtain ⟨Ao66, co66, eo66⟩ := Kd.R_slice HO240.out; subst eo66))
                go_ret
                exact ⟨by first | rfl | (simp [errW_none, errW_some] <;> rfl) | (simp [*, errW_none, errW_some] <;> rfl) | (simp [show IntKind.u64.wrap 0 = 0 from rfl, Int.zero_tdiv]; done), by repeat (first | (with_reducible first | exact HB.out | apply below_alloc | apply pw_below_drewN | apply below_drew1) | exact HB.out)⟩
              · rw [if_neg c62] at H
                have c62b0 : (x11_1 == (t235.length : Int)) = false := beq_eq_false_iff_ne.mpr c62
                have c62b1 : (x11_1 != (t235.length : Int)) = true := bne_iff_ne.mpr c62
                obtain rfl := Option.some.inj H
                obtain ⟨Ao67, co67, eo67⟩ := Kd.R_slice HO_10.out
                subst eo67
                go_wp2
                go_ret
                exact ⟨by first | rfl | (simp [errW_none, errW_some] <;> rfl) | (simp [*, errW_none, errW_some] <;> rfl) | (simp [show IntKind.u64.wrap 0 = 0 from rfl, Int.zero_tdiv]; done), by repeat (first | (with_reducible first | exact HB.out | apply below_alloc | apply pw_below_drewN | apply below_drew1) | exact HB.out)⟩
            · rw [if_neg c61] at H
              have c61b0 : (t230.toList == t226.toList) = false := beq_eq_false_iff_ne.mpr c61
              have c61b1 : (t230.toList != t226.toList) = true := bne_iff_ne.mpr c61
              obtain rfl := Option.some.inj H
              go_wp2
              go_ret
              exact ⟨by first | rfl | (simp [errW_none, errW_some] <;> rfl) | (simp [*, errW_none, errW_some] <;> rfl) | (simp [show IntKind.u64.wrap 0 = 0 from rfl, Int.zero_tdiv]; done), by repeat (first | (with_reducible first | exact HB.out | apply below_alloc | apply pw_below_drewN | apply below_drew1) | exact HB.out)⟩
          · rw [if_neg c60] at H
            have c60b0 : (t231 == 0) = false := beq_eq_false_iff_ne.mpr c60
            have c60b1 : (t231 != 0) = true := bne_iff_ne.mpr c60
            obtain rfl := Option.some.inj H
            go_wp2
            go_ret
            exact ⟨by first | rfl | (simp [errW_none, errW_some] <;> rfl) | (simp [*, errW_none, errW_some] <;> rfl) | (simp [show IntKind.u64.wrap 0 = 0 from rfl, Int.zero_tdiv]; done), by repeat (first | (with_reducible first | exact HB.out | apply below_alloc | apply pw_below_drewN | apply below_drew1) | exact HB.out)⟩
        · replace c59 := Bool.eq_false_iff.mpr c59
          subst c59
          have H1 : (some false) = some r := by rw [if_neg (show ¬ (false = true) by decide)] at H; exact H
          clear H
          have H := H1
          clear H1
          obtain rfl := Option.some.inj H
          go_wp2
          go_ret
          exact ⟨by first | rfl | (simp [errW_none, errW_some] <;> rfl) | (simp [*, errW_none, errW_some] <;> rfl) | (simp [show IntKind.u64.wrap 0 = 0 from rfl, Int.zero_tdiv]; done), by repeat (first | (with_reducible first | exact HB.out | apply below_alloc | apply pw_below_drewN | apply below_drew1) | exact HB.out)⟩

/-- THE ONE PURE STATEMENT of nautiluslaw17_VolBack: yours. -/
def nautiluslaw17_VolBack.Pure : Prop := ∀ (a0 : ByteArray) (a1 : ByteArray), a0.size ≤ 140737488351232 → a1.size ≤ 140737488351232 → ∃ k, nautiluslaw17_VolBack.f k a0 a1 = some true
theorem nautiluslaw17_VolBack.walk (P : nautiluslaw17_VolBack.Pure) (a0 : ByteArray) (a1 : ByteArray) (w : World) (w0 : a0.size ≤ 140737488351232) (w1 : a1.size ≤ 140737488351232) :
    Calls Try.prog 7 #[.string a0, .string a1] w fun e w' => e = .returned (.bool true) ∧ Below w.heap.size w w' := by
  obtain ⟨k, h⟩ := P a0 a1 w0 w1
  refine (nautiluslaw17_VolBack.calls k a0 a1 true w h).mono ?_
  rintro e w' ⟨rfl, hd⟩
  exact ⟨rfl, hd⟩

end Go.Proofs.Ytpcokafalmafgaa.Q
