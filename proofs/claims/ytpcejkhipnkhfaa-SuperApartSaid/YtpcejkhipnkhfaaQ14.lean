/- Functions of the translation as plain Lean functions, and that the translation computes them: printed by this session's driver of the print. -/
import Derived.Test.YtpcejkhipnkhfaaQ0
import Derived.Test.YtpcejkhipnkhfaaQ13
namespace Go.Proofs.Ytpcejkhipnkhfaa.Q
open Go.Proofs.Ytpcejkhipnkhfaa.H
open Go.RowKit Go.Proofs.YtpcejkhipnkhfaaW.PrintWords Go.Proofs.YtpcejkhipnkhfaaW.PrintLast Go.Proofs.YtpcejkhipnkhfaaW.PrintMore
attribute [local go_sem] max2_int min2_int max_two min_two max_three min_three max_four min_four   -- for this text's walks alone
set_option linter.unusedVariables false
set_option linter.unusedSimpArgs false

/-! ### nautilusref05_Newest: function 17 -/
mutual
def nautilusref05_Newest.j0 : Nat → Int → Int → Bool → Int → Int → Int → Int → Int → Int → Int → Int → Option (Int × Int × Int × Int × Int × Int)
  | 0, _, _, _, _, _, _, _, _, _, _, _ => none
  | k + 1, x2, x12, x13, x191000, x191001, x191002, x191003, x197000, x197001, x197002, x197003 => if x12 = 0 then (nautilusref05_Newest.j1 k x13 (x197000 == x2) x191000 x191001 x191002 x191003 x197000 x197001 x197002 x197003) else (nautilusref05_Newest.j1 k x13 false x191000 x191001 x191002 x191003 x197000 x197001 x197002 x197003)
def nautilusref05_Newest.j1 : Nat → Bool → Bool → Int → Int → Int → Int → Int → Int → Int → Int → Option (Int × Int × Int × Int × Int × Int)
  | 0, _, _, _, _, _, _, _, _, _, _ => none
  | k + 1, x13, x14, x191000, x191001, x191002, x191003, x197000, x197001, x197002, x197003 => if x13 = true then (if x14 = true then (nautilusref05_Newest.j2 k x14 (decide (x191001 ≥ x197001)) x191000 x191001 x191002 x191003 x197000 x197001 x197002 x197003) else (nautilusref05_Newest.j2 k x14 true x191000 x191001 x191002 x191003 x197000 x197001 x197002 x197003)) else (nautilusref05_Newest.j2 k x14 false x191000 x191001 x191002 x191003 x197000 x197001 x197002 x197003)
def nautilusref05_Newest.j2 : Nat → Bool → Bool → Int → Int → Int → Int → Int → Int → Int → Int → Option (Int × Int × Int × Int × Int × Int)
  | 0, _, _, _, _, _, _, _, _, _, _ => none
  | k + 1, x14, x52, x191000, x191001, x191002, x191003, x197000, x197001, x197002, x197003 => if x52 = true then (some (x191000, x191001, x191002, x191003, 0, 0)) else (if x14 = true then (some (x197000, x197001, x197002, x197003, 1, 0)) else (some (0, 0, 0, 0, 0, 50)))
end
def nautilusref05_Newest.f (k : Nat) (a0 : ByteArray) (a1 : ByteArray) (a2 : Int) : Option (Int × Int × Int × Int × Int × Int) := (nautilusref05_Decode.f k a0).bind fun bt185 => ((nautilusref05_Decode.f k a1).bind fun bt191 => (if bt185.2.2.2.2 = 0 then (nautilusref05_Newest.j0 k a2 bt191.2.2.2.2 (bt185.1 == a2) bt185.1 bt185.2.1 bt185.2.2.1 bt185.2.2.2.1 bt191.1 bt191.2.1 bt191.2.2.1 bt191.2.2.2.1) else (nautilusref05_Newest.j0 k a2 bt191.2.2.2.2 false bt185.1 bt185.2.1 bt185.2.2.1 bt185.2.2.2.1 bt191.1 bt191.2.1 bt191.2.2.1 bt191.2.2.2.1)))
theorem nautilusref05_Newest.mono_l : ∀ k, (∀ y0 y1 y2 y3 y4 y5 y6 y7 y8 y9 y10, LeO (nautilusref05_Newest.j0 k y0 y1 y2 y3 y4 y5 y6 y7 y8 y9 y10) (nautilusref05_Newest.j0 (k + 1) y0 y1 y2 y3 y4 y5 y6 y7 y8 y9 y10)) ∧ (∀ y0 y1 y2 y3 y4 y5 y6 y7 y8 y9, LeO (nautilusref05_Newest.j1 k y0 y1 y2 y3 y4 y5 y6 y7 y8 y9) (nautilusref05_Newest.j1 (k + 1) y0 y1 y2 y3 y4 y5 y6 y7 y8 y9)) ∧ (∀ y0 y1 y2 y3 y4 y5 y6 y7 y8 y9, LeO (nautilusref05_Newest.j2 k y0 y1 y2 y3 y4 y5 y6 y7 y8 y9) (nautilusref05_Newest.j2 (k + 1) y0 y1 y2 y3 y4 y5 y6 y7 y8 y9))
  | 0 => ⟨fun _ _ _ _ _ _ _ _ _ _ _ r h => by simp [nautilusref05_Newest.j0] at h, fun _ _ _ _ _ _ _ _ _ _ r h => by simp [nautilusref05_Newest.j1] at h, fun _ _ _ _ _ _ _ _ _ _ r h => by simp [nautilusref05_Newest.j2] at h⟩
  | k + 1 => by
    obtain ⟨ih0, ih1, ih2⟩ := nautilusref05_Newest.mono_l k
    refine ⟨?_, ?_, ?_⟩
    · intro y0 y1 y2 y3 y4 y5 y6 y7 y8 y9 y10
      unfold nautilusref05_Newest.j0
      repeat' first
      | (with_reducible exact ih0 _ _ _ _ _ _ _ _ _ _ _)
      | (with_reducible exact ih1 _ _ _ _ _ _ _ _ _ _)
      | (with_reducible exact ih2 _ _ _ _ _ _ _ _ _ _)
      | (with_reducible exact nautilusref05_Decode.mono _ _)
      | (with_reducible exact LeO.refl _)
      | (with_reducible exact LeO.none _)
      | (with_reducible refine LeO.ite ?_ ?_)
      | (with_reducible refine LeO.bind ?_ (fun _ => ?_))
      | exact ih0 _ _ _ _ _ _ _ _ _ _ _
      | exact ih1 _ _ _ _ _ _ _ _ _ _
      | exact ih2 _ _ _ _ _ _ _ _ _ _
      | exact nautilusref05_Decode.mono _ _
      | exact LeO.none _
      | refine LeO.ite ?_ ?_
      | refine LeO.bind ?_ (fun _ => ?_)
    · intro y0 y1 y2 y3 y4 y5 y6 y7 y8 y9
      unfold nautilusref05_Newest.j1
      repeat' first
      | (with_reducible exact ih0 _ _ _ _ _ _ _ _ _ _ _)
      | (with_reducible exact ih1 _ _ _ _ _ _ _ _ _ _)
      | (with_reducible exact ih2 _ _ _ _ _ _ _ _ _ _)
      | (with_reducible exact nautilusref05_Decode.mono _ _)
      | (with_reducible exact LeO.refl _)
      | (with_reducible exact LeO.none _)
      | (with_reducible refine LeO.ite ?_ ?_)
      | (with_reducible refine LeO.bind ?_ (fun _ => ?_))
      | exact ih0 _ _ _ _ _ _ _ _ _ _ _
      | exact ih1 _ _ _ _ _ _ _ _ _ _
      | exact ih2 _ _ _ _ _ _ _ _ _ _
      | exact nautilusref05_Decode.mono _ _
      | exact LeO.none _
      | refine LeO.ite ?_ ?_
      | refine LeO.bind ?_ (fun _ => ?_)
    · intro y0 y1 y2 y3 y4 y5 y6 y7 y8 y9
      unfold nautilusref05_Newest.j2
      repeat' first
      | (with_reducible exact ih0 _ _ _ _ _ _ _ _ _ _ _)
      | (with_reducible exact ih1 _ _ _ _ _ _ _ _ _ _)
      | (with_reducible exact ih2 _ _ _ _ _ _ _ _ _ _)
      | (with_reducible exact nautilusref05_Decode.mono _ _)
      | (with_reducible exact LeO.refl _)
      | (with_reducible exact LeO.none _)
      | (with_reducible refine LeO.ite ?_ ?_)
      | (with_reducible refine LeO.bind ?_ (fun _ => ?_))
      | exact ih0 _ _ _ _ _ _ _ _ _ _ _
      | exact ih1 _ _ _ _ _ _ _ _ _ _
      | exact ih2 _ _ _ _ _ _ _ _ _ _
      | exact nautilusref05_Decode.mono _ _
      | exact LeO.none _
      | refine LeO.ite ?_ ?_
      | refine LeO.bind ?_ (fun _ => ?_)
theorem nautilusref05_Newest.mono : ∀ a0 a1 a2 k, LeO (nautilusref05_Newest.f k a0 a1 a2) (nautilusref05_Newest.f (k + 1) a0 a1 a2) := by
  intro a0 a1 a2 k
  obtain ⟨ih0, ih1, ih2⟩ := nautilusref05_Newest.mono_l k
  unfold nautilusref05_Newest.f
  repeat' first
      | (with_reducible exact ih0 _ _ _ _ _ _ _ _ _ _ _)
      | (with_reducible exact ih1 _ _ _ _ _ _ _ _ _ _)
      | (with_reducible exact ih2 _ _ _ _ _ _ _ _ _ _)
      | (with_reducible exact nautilusref05_Decode.mono _ _)
      | (with_reducible exact LeO.refl _)
      | (with_reducible exact LeO.none _)
      | (with_reducible refine LeO.ite ?_ ?_)
      | (with_reducible refine LeO.bind ?_ (fun _ => ?_))
      | exact ih0 _ _ _ _ _ _ _ _ _ _ _
      | exact ih1 _ _ _ _ _ _ _ _ _ _
      | exact ih2 _ _ _ _ _ _ _ _ _ _
      | exact nautilusref05_Decode.mono _ _
      | exact LeO.none _
      | refine LeO.ite ?_ ?_
      | refine LeO.bind ?_ (fun _ => ?_)
set_option maxHeartbeats 8000000 in
set_option maxRecDepth 100000 in
theorem nautilusref05_Newest.calls (k : Nat) (a0 : ByteArray) (a1 : ByteArray) (a2 : Int) (r1 : Int) (r2 : Int) (r3 : Int) (r4 : Int) (r5 : Int) (r6 : Int) (w : World) (h : nautilusref05_Newest.f k a0 a1 a2 = some (r1, r2, r3, r4, r5, r6)) :
    Calls Try.prog 17 #[.string a0, .string a1, .int .i64 a2] w fun e w' => e = .returned (.tuple #[.agg #[.int .i64 r1, .int .u64 r2, .int .i64 r3, .int .u64 r4], .int .i64 r5, .int .i64 r6]) ∧ Below w.heap.size w w' := by
  have hu24 := Try.underlying24
  have HB := Aside0.mk (Below.refl w.heap.size w)
  have H : ((nautilusref05_Decode.f k a0).bind fun bt185 => ((nautilusref05_Decode.f k a1).bind fun bt191 => (if bt185.2.2.2.2 = 0 then (nautilusref05_Newest.j0 k a2 bt191.2.2.2.2 (bt185.1 == a2) bt185.1 bt185.2.1 bt185.2.2.1 bt185.2.2.2.1 bt191.1 bt191.2.1 bt191.2.2.1 bt191.2.2.2.1) else (nautilusref05_Newest.j0 k a2 bt191.2.2.2.2 false bt185.1 bt185.2.1 bt185.2.2.1 bt185.2.2.2.1 bt191.1 bt191.2.1 bt191.2.2.1 bt191.2.2.2.1)))) = some (r1, r2, r3, r4, r5, r6) := h
  clear h
  replace H := Option.bind_eq_some_iff.mp H
  obtain ⟨⟨t185, t186, t187, t188, t189⟩, A40, H⟩ := H
  replace H : ((nautilusref05_Decode.f k a1).bind fun bt191 => (if t189 = 0 then (nautilusref05_Newest.j0 k a2 bt191.2.2.2.2 (t185 == a2) t185 t186 t187 t188 bt191.1 bt191.2.1 bt191.2.2.1 bt191.2.2.2.1) else (nautilusref05_Newest.j0 k a2 bt191.2.2.2.2 false t185 t186 t187 t188 bt191.1 bt191.2.1 bt191.2.2.1 bt191.2.2.2.1))) = some (r1, r2, r3, r4, r5, r6) := H
  have A4 := Aside0.mk A40
  clear A40
  replace H := Option.bind_eq_some_iff.mp H
  obtain ⟨⟨t191, t192, t193, t194, t195⟩, A50, H⟩ := H
  replace H : (if t189 = 0 then (nautilusref05_Newest.j0 k a2 t195 (t185 == a2) t185 t186 t187 t188 t191 t192 t193 t194) else (nautilusref05_Newest.j0 k a2 t195 false t185 t186 t187 t188 t191 t192 t193 t194)) = some (r1, r2, r3, r4, r5, r6) := H
  have A5 := Aside0.mk A50
  clear A50
  have HC6 := Aside0.mk H
  clear H
  go_enter Try.func17, Try.ntmps17
  go_upto_region 3 with (first | ((with_reducible refine gate_dst (N := 6) rfl ?_); refine box_event ?hg (N := 6) ?hd (cs := #[.int .i64 0, .int .u64 0, .int .i64 0, .int .u64 0]) (t := 24) ?hr ?_; (case hd => rfl); (case hg => rfl); (case hr => first | (go_simp; done) | (go_simp; rfl)); intro gb184 hg w7 hbox hb; have n0_ := Aside0.mk (below_step (by repeat (first | (with_reducible first | exact HB.out | apply below_alloc | apply pw_below_drewN | apply below_drew1) | exact HB.out)) hb); have n1_ := Aside0.mk (hbox); have n2_ := Aside0.mk ((by rw [hg]; exact (below_size (by repeat (first | (with_reducible first | exact HB.out | apply below_alloc | apply pw_below_drewN | apply below_drew1) | exact HB.out))) : w.heap.size ≤ gb184)); have n3_ := Aside0.mk ((by rw [hg]; exact (below_size (by repeat (first | (with_reducible first | exact HB.out | apply below_alloc | apply pw_below_drewN | apply below_drew1) | exact HB.out))) : w.heap.size ≤ gb184)); clear HB; have HB := n0_; have BK184 := n1_; have GW184 := n2_; have GE184 := n3_; clear n0_ n1_ n2_ n3_; clear hb hbox hg) | ((with_reducible refine gate_callee (f := 12) rfl ?_); refine goesL_ (some 17) rfl rfl Try.func12 (by kernel_rfl) rfl #[.string a0] rfl (by (try simp only [List.map_toArray, List.map_cons, List.map_nil]); first | done | rfl | (simp only [List.length_drop, List.length_take]; rfl)) ?_; (with_reducible refine (nautilusref05_Decode.calls k a0 t185 t186 t187 t188 t189 _ A4.out).mono ?_); rintro e w8 ⟨rfl, hb⟩; refine ⟨_, rfl, ?_⟩; have n0_ := Aside0.mk (blk_below (g := gb184) (o := .cells #[.int .i64 0, .int .u64 0, .int .i64 0, .int .u64 0] 24 (0, 0)) (by (with_reducible repeat (first | refine blk_drewN ?_ _ | refine blk_drew ?_ | refine blk_alloc ?_ _)); exact BK184.out) hb); have n1_ := Aside0.mk (below_step (by repeat (first | (with_reducible first | exact HB.out | apply below_alloc | apply pw_below_drewN | apply below_drew1 | refine below_set ?_ GE184.out) | exact HB.out)) hb); clear BK184; clear HB; have BK184 := n0_; have HB := n1_; clear n0_ n1_; (try clear hb); (try clear hb2); (try clear hk); (try clear hi)) | ((with_reducible refine gate_dst (N := 9) rfl ?_); refine box_event ?hg (N := 9) ?hd (cs := #[.int .i64 0, .int .u64 0, .int .i64 0, .int .u64 0]) (t := 24) ?hr ?_; (case hd => rfl); (case hg => rfl); (case hr => first | (go_simp; done) | (go_simp; rfl)); intro gb190 hg w9 hbox hb; have n0_ := Aside0.mk (blk_below (g := gb184) (o := .cells #[.int .i64 0, .int .u64 0, .int .i64 0, .int .u64 0] 24 (0, 0)) (by (with_reducible repeat (first | refine blk_drewN ?_ _ | refine blk_drew ?_ | refine blk_alloc ?_ _)); exact BK184.out) hb); have n1_ := Aside0.mk (below_step (by repeat (first | (with_reducible first | exact HB.out | apply below_alloc | apply pw_below_drewN | apply below_drew1 | refine below_set ?_ GE184.out) | exact HB.out)) hb); have n2_ := Aside0.mk (hbox); have n3_ := Aside0.mk ((by rw [hg]; exact (below_size (by repeat (first | (with_reducible first | exact HB.out | apply below_alloc | apply pw_below_drewN | apply below_drew1 | refine below_set ?_ GE184.out) | exact HB.out))) : w.heap.size ≤ gb190)); have n4_ := Aside0.mk ((by rw [hg]; exact (below_size (by repeat (first | (with_reducible first | exact HB.out | apply below_alloc | apply pw_below_drewN | apply below_drew1 | refine below_set ?_ GE184.out) | exact HB.out))) : w.heap.size ≤ gb190)); have n5_ := Aside0.mk ((by rw [hg]; exact Nat.ne_of_lt (blk_lt (g := gb184) (o := .cells #[.int .i64 0, .int .u64 0, .int .i64 0, .int .u64 0] 24 (0, 0)) (by (with_reducible repeat (first | refine blk_drewN ?_ _ | refine blk_drew ?_ | refine blk_alloc ?_ _)); exact BK184.out)) : gb184 ≠ gb190)); have n6_ := Aside0.mk ((by rw [hg]; exact Nat.ne_of_gt (blk_lt (g := gb184) (o := .cells #[.int .i64 0, .int .u64 0, .int .i64 0, .int .u64 0] 24 (0, 0)) (by (with_reducible repeat (first | refine blk_drewN ?_ _ | refine blk_drew ?_ | refine blk_alloc ?_ _)); exact BK184.out)) : gb190 ≠ gb184)); clear BK184; clear HB; have BK184 := n0_; have HB := n1_; have BK190 := n2_; have GW190 := n3_; have GE190 := n4_; have NB184_190 := n5_; have NB190_184 := n6_; clear n0_ n1_ n2_ n3_ n4_ n5_ n6_; clear hb hbox hg; have hnb10 := NB190_184.out; have hnc10 := NB184_190.out; have hcz11_0 : w9.cell? ⟨gb190, 0, none⟩ = some (.int .i64 0) := (blk_cell BK190.out 0).trans rfl; have hcz11_1 : w9.cell? ⟨gb190, 1, none⟩ = some (.int .u64 0) := (blk_cell BK190.out 1).trans rfl; have hcz11_2 : w9.cell? ⟨gb190, 2, none⟩ = some (.int .i64 0) := (blk_cell BK190.out 2).trans rfl; have hcz11_3 : w9.cell? ⟨gb190, 3, none⟩ = some (.int .u64 0) := (blk_cell BK190.out 3).trans rfl; have hfz11_0 := blk_frozen BK190.out 0; have hfz11_1 := blk_frozen BK190.out 1; have hfz11_2 := blk_frozen BK190.out 2; have hfz11_3 := blk_frozen BK190.out 3) | ((with_reducible refine gate_callee (f := 12) rfl ?_); refine goesL_ (some 22) rfl rfl Try.func12 (by kernel_rfl) rfl #[.string a1] rfl (by (try simp only [List.map_toArray, List.map_cons, List.map_nil]); first | done | rfl | (simp only [List.length_drop, List.length_take]; rfl)) ?_; (with_reducible refine (nautilusref05_Decode.calls k a1 t191 t192 t193 t194 t195 _ A5.out).mono ?_); rintro e w12 ⟨rfl, hb⟩; refine ⟨_, rfl, ?_⟩; have n0_ := Aside0.mk (blk_below (g := gb184) (o := .cells #[.int .i64 0, .int .u64 0, .int .i64 0, .int .u64 0] 24 (0, 0)) (by (with_reducible repeat (first | refine blk_drewN ?_ _ | refine blk_drew ?_ | refine blk_alloc ?_ _)); refine blk_far ?_ NB184_190.out _; (with_reducible repeat (first | refine blk_drewN ?_ _ | refine blk_drew ?_ | refine blk_alloc ?_ _)); refine blk_far ?_ NB184_190.out _; (with_reducible repeat (first | refine blk_drewN ?_ _ | refine blk_drew ?_ | refine blk_alloc ?_ _)); refine blk_far ?_ NB184_190.out _; (with_reducible repeat (first | refine blk_drewN ?_ _ | refine blk_drew ?_ | refine blk_alloc ?_ _)); refine blk_far ?_ NB184_190.out _; (with_reducible repeat (first | refine blk_drewN ?_ _ | refine blk_drew ?_ | refine blk_alloc ?_ _)); exact BK184.out) hb); have n1_ := Aside0.mk (blk_below (g := gb190) (o := .cells #[.int .i64 t185, .int .u64 t186, .int .i64 t187, .int .u64 t188] 24 (0, 0)) (by (with_reducible repeat (first | refine blk_drewN ?_ _ | refine blk_drew ?_ | refine blk_alloc ?_ _)); refine blk_put (cs := #[.int .i64 t185, .int .u64 t186, .int .i64 t187, .int .u64 0]) ?_ 3 _ rfl; (with_reducible repeat (first | refine blk_drewN ?_ _ | refine blk_drew ?_ | refine blk_alloc ?_ _)); refine blk_put (cs := #[.int .i64 t185, .int .u64 t186, .int .i64 0, .int .u64 0]) ?_ 2 _ rfl; (with_reducible repeat (first | refine blk_drewN ?_ _ | refine blk_drew ?_ | refine blk_alloc ?_ _)); refine blk_put (cs := #[.int .i64 t185, .int .u64 0, .int .i64 0, .int .u64 0]) ?_ 1 _ rfl; (with_reducible repeat (first | refine blk_drewN ?_ _ | refine blk_drew ?_ | refine blk_alloc ?_ _)); refine blk_put (cs := #[.int .i64 0, .int .u64 0, .int .i64 0, .int .u64 0]) ?_ 0 _ rfl; (with_reducible repeat (first | refine blk_drewN ?_ _ | refine blk_drew ?_ | refine blk_alloc ?_ _)); exact BK190.out) hb); have n2_ := Aside0.mk (below_step (by repeat (first | (with_reducible first | exact HB.out | apply below_alloc | apply pw_below_drewN | apply below_drew1 | refine below_set ?_ GE184.out | refine below_set ?_ GE190.out) | exact HB.out)) hb); clear BK184; clear BK190; clear HB; have BK184 := n0_; have BK190 := n1_; have HB := n2_; clear n0_ n1_ n2_; (try clear hb); (try clear hb2); (try clear hk); (try clear hi)) | ((with_reducible refine gate_dst (N := 11) rfl ?_); refine box_event ?hg (N := 11) ?hd (cs := #[.int .i64 0, .int .u64 0, .int .i64 0, .int .u64 0]) (t := 24) ?hr ?_; (case hd => rfl); (case hg => rfl); (case hr => first | (go_simp; done) | (go_simp; rfl)); intro gb196 hg w13 hbox hb; have n0_ := Aside0.mk (blk_below (g := gb184) (o := .cells #[.int .i64 0, .int .u64 0, .int .i64 0, .int .u64 0] 24 (0, 0)) (by (with_reducible repeat (first | refine blk_drewN ?_ _ | refine blk_drew ?_ | refine blk_alloc ?_ _)); exact BK184.out) hb); have n1_ := Aside0.mk (blk_below (g := gb190) (o := .cells #[.int .i64 t185, .int .u64 t186, .int .i64 t187, .int .u64 t188] 24 (0, 0)) (by (with_reducible repeat (first | refine blk_drewN ?_ _ | refine blk_drew ?_ | refine blk_alloc ?_ _)); exact BK190.out) hb); have n2_ := Aside0.mk (below_step (by repeat (first | (with_reducible first | exact HB.out | apply below_alloc | apply pw_below_drewN | apply below_drew1 | refine below_set ?_ GE184.out | refine below_set ?_ GE190.out) | exact HB.out)) hb); have n3_ := Aside0.mk (hbox); have n4_ := Aside0.mk ((by rw [hg]; exact (below_size (by repeat (first | (with_reducible first | exact HB.out | apply below_alloc | apply pw_below_drewN | apply below_drew1 | refine below_set ?_ GE184.out | refine below_set ?_ GE190.out) | exact HB.out))) : w.heap.size ≤ gb196)); have n5_ := Aside0.mk ((by rw [hg]; exact (below_size (by repeat (first | (with_reducible first | exact HB.out | apply below_alloc | apply pw_below_drewN | apply below_drew1 | refine below_set ?_ GE184.out | refine below_set ?_ GE190.out) | exact HB.out))) : w.heap.size ≤ gb196)); have n6_ := Aside0.mk ((by rw [hg]; exact Nat.ne_of_lt (blk_lt (g := gb184) (o := .cells #[.int .i64 0, .int .u64 0, .int .i64 0, .int .u64 0] 24 (0, 0)) (by (with_reducible repeat (first | refine blk_drewN ?_ _ | refine blk_drew ?_ | refine blk_alloc ?_ _)); exact BK184.out)) : gb184 ≠ gb196)); have n7_ := Aside0.mk ((by rw [hg]; exact Nat.ne_of_gt (blk_lt (g := gb184) (o := .cells #[.int .i64 0, .int .u64 0, .int .i64 0, .int .u64 0] 24 (0, 0)) (by (with_reducible repeat (first | refine blk_drewN ?_ _ | refine blk_drew ?_ | refine blk_alloc ?_ _)); exact BK184.out)) : gb196 ≠ gb184)); have n8_ := Aside0.mk ((by rw [hg]; exact Nat.ne_of_lt (blk_lt (g := gb190) (o := .cells #[.int .i64 t185, .int .u64 t186, .int .i64 t187, .int .u64 t188] 24 (0, 0)) (by (with_reducible repeat (first | refine blk_drewN ?_ _ | refine blk_drew ?_ | refine blk_alloc ?_ _)); exact BK190.out)) : gb190 ≠ gb196)); have n9_ := Aside0.mk ((by rw [hg]; exact Nat.ne_of_gt (blk_lt (g := gb190) (o := .cells #[.int .i64 t185, .int .u64 t186, .int .i64 t187, .int .u64 t188] 24 (0, 0)) (by (with_reducible repeat (first | refine blk_drewN ?_ _ | refine blk_drew ?_ | refine blk_alloc ?_ _)); exact BK190.out)) : gb196 ≠ gb190)); clear BK184; clear BK190; clear HB; have BK184 := n0_; have BK190 := n1_; have HB := n2_; have BK196 := n3_; have GW196 := n4_; have GE196 := n5_; have NB184_196 := n6_; have NB196_184 := n7_; have NB190_196 := n8_; have NB196_190 := n9_; clear n0_ n1_ n2_ n3_ n4_ n5_ n6_ n7_ n8_ n9_; clear hb hbox hg; have hnb14 := NB196_184.out; have hnc14 := NB184_196.out; have hnb15 := NB196_190.out; have hnc15 := NB190_196.out; have hcz16_0 : w13.cell? ⟨gb196, 0, none⟩ = some (.int .i64 0) := (blk_cell BK196.out 0).trans rfl; have hcz16_1 : w13.cell? ⟨gb196, 1, none⟩ = some (.int .u64 0) := (blk_cell BK196.out 1).trans rfl; have hcz16_2 : w13.cell? ⟨gb196, 2, none⟩ = some (.int .i64 0) := (blk_cell BK196.out 2).trans rfl; have hcz16_3 : w13.cell? ⟨gb196, 3, none⟩ = some (.int .u64 0) := (blk_cell BK196.out 3).trans rfl; have hfz16_0 := blk_frozen BK196.out 0; have hfz16_1 := blk_frozen BK196.out 1; have hfz16_2 := blk_frozen BK196.out 2; have hfz16_3 := blk_frozen BK196.out 3))
  (try simp only [Act.put, List.setIfInBounds_toArray, List.set_cons_zero, List.set_cons_succ])
  go_cut [13] (fun v13 wc => ∃ (kq : Nat) (x13_5 : Bool), v13 = .bool x13_5 ∧ Aside0 (nautilusref05_Newest.j0 kq a2 t195 x13_5 t185 t186 t187 t188 t191 t192 t193 t194 = some (r1, r2, r3, r4, r5, r6)) ∧ Aside0 (kq ≤ k) ∧ Aside0 (wc.heap[gb184]? = some (.cells #[.int .i64 0, .int .u64 0, .int .i64 0, .int .u64 0] 24 (0, 0))) ∧ Aside0 (wc.heap[gb190]? = some (.cells #[.int .i64 t185, .int .u64 t186, .int .i64 t187, .int .u64 t188] 24 (0, 0))) ∧ Aside0 (wc.heap[gb196]? = some (.cells #[.int .i64 t191, .int .u64 t192, .int .i64 t193, .int .u64 t194] 24 (0, 0))) ∧ Aside0 (Below w.heap.size w wc))
  case first =>
    have H := HC6.out
    clear HC6
    by_cases c17 : t189 = 0
    · rw [if_pos c17] at H
      have c17b0 : (t189 == 0) = true := beq_iff_eq.mpr c17
      have c17b1 : (t189 != 0) = false := bne_eq_false_iff_eq.mpr c17
      clear c17
      (first | rw [c17b0] | (simp only [i64_w, i32_w]; rw [c17b0]) | skip)
      have H' := Aside0.mk H
      clear H
      have hnb18 := NB190_184.out
      have hnc18 := NB184_190.out
      have hnb19 := NB190_196.out
      have hnc19 := NB196_190.out
      have hcz20_0 : w13.cell? ⟨gb190, 0, none⟩ = some (.int .i64 t185) := (blk_cell BK190.out 0).trans rfl
      have hcz20_1 : w13.cell? ⟨gb190, 1, none⟩ = some (.int .u64 t186) := (blk_cell BK190.out 1).trans rfl
      have hcz20_2 : w13.cell? ⟨gb190, 2, none⟩ = some (.int .i64 t187) := (blk_cell BK190.out 2).trans rfl
      have hcz20_3 : w13.cell? ⟨gb190, 3, none⟩ = some (.int .u64 t188) := (blk_cell BK190.out 3).trans rfl
      have hfz20_0 := blk_frozen BK190.out 0
      have hfz20_1 := blk_frozen BK190.out 1
      have hfz20_2 := blk_frozen BK190.out 2
      have hfz20_3 := blk_frozen BK190.out 3
      go_wp2
      go_meet
      case rel => exact ⟨_, ((t185 == a2)), (by first | rfl | (simp; done) | (simp [*]; done)), H', ⟨by first | omega | exact Nat.le_refl _⟩, ⟨by (with_reducible repeat (first | refine blk_drewN ?_ _ | refine blk_drew ?_ | refine blk_alloc ?_ _)); refine blk_far ?_ NB184_196.out _; (with_reducible repeat (first | refine blk_drewN ?_ _ | refine blk_drew ?_ | refine blk_alloc ?_ _)); refine blk_far ?_ NB184_196.out _; (with_reducible repeat (first | refine blk_drewN ?_ _ | refine blk_drew ?_ | refine blk_alloc ?_ _)); refine blk_far ?_ NB184_196.out _; (with_reducible repeat (first | refine blk_drewN ?_ _ | refine blk_drew ?_ | refine blk_alloc ?_ _)); refine blk_far ?_ NB184_196.out _; (with_reducible repeat (first | refine blk_drewN ?_ _ | refine blk_drew ?_ | refine blk_alloc ?_ _)); exact BK184.out⟩, ⟨by (with_reducible repeat (first | refine blk_drewN ?_ _ | refine blk_drew ?_ | refine blk_alloc ?_ _)); refine blk_far ?_ NB190_196.out _; (with_reducible repeat (first | refine blk_drewN ?_ _ | refine blk_drew ?_ | refine blk_alloc ?_ _)); refine blk_far ?_ NB190_196.out _; (with_reducible repeat (first | refine blk_drewN ?_ _ | refine blk_drew ?_ | refine blk_alloc ?_ _)); refine blk_far ?_ NB190_196.out _; (with_reducible repeat (first | refine blk_drewN ?_ _ | refine blk_drew ?_ | refine blk_alloc ?_ _)); refine blk_far ?_ NB190_196.out _; (with_reducible repeat (first | refine blk_drewN ?_ _ | refine blk_drew ?_ | refine blk_alloc ?_ _)); exact BK190.out⟩, ⟨by (with_reducible repeat (first | refine blk_drewN ?_ _ | refine blk_drew ?_ | refine blk_alloc ?_ _)); refine blk_put (cs := #[.int .i64 t191, .int .u64 t192, .int .i64 t193, .int .u64 0]) ?_ 3 _ rfl; (with_reducible repeat (first | refine blk_drewN ?_ _ | refine blk_drew ?_ | refine blk_alloc ?_ _)); refine blk_put (cs := #[.int .i64 t191, .int .u64 t192, .int .i64 0, .int .u64 0]) ?_ 2 _ rfl; (with_reducible repeat (first | refine blk_drewN ?_ _ | refine blk_drew ?_ | refine blk_alloc ?_ _)); refine blk_put (cs := #[.int .i64 t191, .int .u64 0, .int .i64 0, .int .u64 0]) ?_ 1 _ rfl; (with_reducible repeat (first | refine blk_drewN ?_ _ | refine blk_drew ?_ | refine blk_alloc ?_ _)); refine blk_put (cs := #[.int .i64 0, .int .u64 0, .int .i64 0, .int .u64 0]) ?_ 0 _ rfl; (with_reducible repeat (first | refine blk_drewN ?_ _ | refine blk_drew ?_ | refine blk_alloc ?_ _)); exact BK196.out⟩, ⟨by repeat (first | (with_reducible first | exact HB.out | apply below_alloc | apply pw_below_drewN | apply below_drew1 | refine below_set ?_ GE184.out | refine below_set ?_ GE190.out | refine below_set ?_ GE196.out) | exact HB.out)⟩⟩
    · rw [if_neg c17] at H
      have c17b0 : (t189 == 0) = false := beq_eq_false_iff_ne.mpr c17
      have c17b1 : (t189 != 0) = true := bne_iff_ne.mpr c17
      (first | rw [c17b0] | (simp only [i64_w, i32_w]; rw [c17b0]) | skip)
      have H' := Aside0.mk H
      clear H
      go_wp2
      go_meet
      case rel => exact ⟨_, (false), (by first | rfl | (simp; done) | (simp [*]; done)), H', ⟨by first | omega | exact Nat.le_refl _⟩, ⟨by (with_reducible repeat (first | refine blk_drewN ?_ _ | refine blk_drew ?_ | refine blk_alloc ?_ _)); refine blk_far ?_ NB184_196.out _; (with_reducible repeat (first | refine blk_drewN ?_ _ | refine blk_drew ?_ | refine blk_alloc ?_ _)); refine blk_far ?_ NB184_196.out _; (with_reducible repeat (first | refine blk_drewN ?_ _ | refine blk_drew ?_ | refine blk_alloc ?_ _)); refine blk_far ?_ NB184_196.out _; (with_reducible repeat (first | refine blk_drewN ?_ _ | refine blk_drew ?_ | refine blk_alloc ?_ _)); refine blk_far ?_ NB184_196.out _; (with_reducible repeat (first | refine blk_drewN ?_ _ | refine blk_drew ?_ | refine blk_alloc ?_ _)); exact BK184.out⟩, ⟨by (with_reducible repeat (first | refine blk_drewN ?_ _ | refine blk_drew ?_ | refine blk_alloc ?_ _)); refine blk_far ?_ NB190_196.out _; (with_reducible repeat (first | refine blk_drewN ?_ _ | refine blk_drew ?_ | refine blk_alloc ?_ _)); refine blk_far ?_ NB190_196.out _; (with_reducible repeat (first | refine blk_drewN ?_ _ | refine blk_drew ?_ | refine blk_alloc ?_ _)); refine blk_far ?_ NB190_196.out _; (with_reducible repeat (first | refine blk_drewN ?_ _ | refine blk_drew ?_ | refine blk_alloc ?_ _)); refine blk_far ?_ NB190_196.out _; (with_reducible repeat (first | refine blk_drewN ?_ _ | refine blk_drew ?_ | refine blk_alloc ?_ _)); exact BK190.out⟩, ⟨by (with_reducible repeat (first | refine blk_drewN ?_ _ | refine blk_drew ?_ | refine blk_alloc ?_ _)); refine blk_put (cs := #[.int .i64 t191, .int .u64 t192, .int .i64 t193, .int .u64 0]) ?_ 3 _ rfl; (with_reducible repeat (first | refine blk_drewN ?_ _ | refine blk_drew ?_ | refine blk_alloc ?_ _)); refine blk_put (cs := #[.int .i64 t191, .int .u64 t192, .int .i64 0, .int .u64 0]) ?_ 2 _ rfl; (with_reducible repeat (first | refine blk_drewN ?_ _ | refine blk_drew ?_ | refine blk_alloc ?_ _)); refine blk_put (cs := #[.int .i64 t191, .int .u64 0, .int .i64 0, .int .u64 0]) ?_ 1 _ rfl; (with_reducible repeat (first | refine blk_drewN ?_ _ | refine blk_drew ?_ | refine blk_alloc ?_ _)); refine blk_put (cs := #[.int .i64 0, .int .u64 0, .int .i64 0, .int .u64 0]) ?_ 0 _ rfl; (with_reducible repeat (first | refine blk_drewN ?_ _ | refine blk_drew ?_ | refine blk_alloc ?_ _)); exact BK196.out⟩, ⟨by repeat (first | (with_reducible first | exact HB.out | apply below_alloc | apply pw_below_drewN | apply below_drew1 | refine below_set ?_ GE184.out | refine below_set ?_ GE190.out | refine below_set ?_ GE196.out) | exact HB.out)⟩⟩
  case rest =>
    clear HC6
    try clear c1
    try clear p2
    try clear c10
    try clear c12
    try clear c14
    try clear c15
    try clear c17
    try clear c17b0
    try clear c17b1
    try clear c18
    try clear c19
    try clear hcz11_0
    try clear hcz11_1
    try clear hcz11_2
    try clear hcz11_3
    try clear hcz16_0
    try clear hcz16_1
    try clear hcz16_2
    try clear hcz16_3
    try clear hcz20_0
    try clear hcz20_1
    try clear hcz20_2
    try clear hcz20_3
    try clear hfz11_0
    try clear hfz11_1
    try clear hfz11_2
    try clear hfz11_3
    try clear hfz16_0
    try clear hfz16_1
    try clear hfz16_2
    try clear hfz16_3
    try clear hfz20_0
    try clear hfz20_1
    try clear hfz20_2
    try clear hfz20_3
    obtain ⟨kq, x13_5, rfl, HA, HJ5, BK184, BK190, BK196, HB⟩ := hcut
    cases kq with
    | zero => exact absurd HA.out (by simp [nautilusref05_Newest.j0])
    | succ kj5 =>
      have H := HA.out
      clear HA
      simp only [nautilusref05_Newest.j0] at H
      have HC21 := Aside0.mk H
      clear H
      go_upto_region 4 with (fail)
      go_cut [14] (fun v14 wc => ∃ (kq : Nat) (x14_20 : Bool), v14 = .bool x14_20 ∧ Aside0 (nautilusref05_Newest.j1 kq x13_5 x14_20 t185 t186 t187 t188 t191 t192 t193 t194 = some (r1, r2, r3, r4, r5, r6)) ∧ Aside0 (kq ≤ kj5) ∧ Aside0 (wc.heap[gb184]? = some (.cells #[.int .i64 0, .int .u64 0, .int .i64 0, .int .u64 0] 24 (0, 0))) ∧ Aside0 (wc.heap[gb190]? = some (.cells #[.int .i64 t185, .int .u64 t186, .int .i64 t187, .int .u64 t188] 24 (0, 0))) ∧ Aside0 (wc.heap[gb196]? = some (.cells #[.int .i64 t191, .int .u64 t192, .int .i64 t193, .int .u64 t194] 24 (0, 0))) ∧ Aside0 (Below w.heap.size w wc))
      case first =>
        have H := HC21.out
        clear HC21
        by_cases c22 : t195 = 0
        · rw [if_pos c22] at H
          have c22b0 : (t195 == 0) = true := beq_iff_eq.mpr c22
          have c22b1 : (t195 != 0) = false := bne_eq_false_iff_eq.mpr c22
          clear c22
          (first | rw [c22b0] | (simp only [i64_w, i32_w]; rw [c22b0]) | skip)
          have H' := Aside0.mk H
          clear H
          have hnb23 := NB196_184.out
          have hnc23 := NB184_196.out
          have hnb24 := NB196_190.out
          have hnc24 := NB190_196.out
          have hcz25_0 : wc.cell? ⟨gb196, 0, none⟩ = some (.int .i64 t191) := (blk_cell BK196.out 0).trans rfl
          have hcz25_1 : wc.cell? ⟨gb196, 1, none⟩ = some (.int .u64 t192) := (blk_cell BK196.out 1).trans rfl
          have hcz25_2 : wc.cell? ⟨gb196, 2, none⟩ = some (.int .i64 t193) := (blk_cell BK196.out 2).trans rfl
          have hcz25_3 : wc.cell? ⟨gb196, 3, none⟩ = some (.int .u64 t194) := (blk_cell BK196.out 3).trans rfl
          have hfz25_0 := blk_frozen BK196.out 0
          have hfz25_1 := blk_frozen BK196.out 1
          have hfz25_2 := blk_frozen BK196.out 2
          have hfz25_3 := blk_frozen BK196.out 3
          go_wp2
          go_meet
          case rel => exact ⟨_, ((t191 == a2)), (by first | rfl | (simp; done) | (simp [*]; done)), H', ⟨by have := HJ5.out; first | omega | exact Nat.le_refl _⟩, ⟨by (with_reducible repeat (first | refine blk_drewN ?_ _ | refine blk_drew ?_ | refine blk_alloc ?_ _)); exact BK184.out⟩, ⟨by (with_reducible repeat (first | refine blk_drewN ?_ _ | refine blk_drew ?_ | refine blk_alloc ?_ _)); exact BK190.out⟩, ⟨by (with_reducible repeat (first | refine blk_drewN ?_ _ | refine blk_drew ?_ | refine blk_alloc ?_ _)); exact BK196.out⟩, ⟨by repeat (first | (with_reducible first | exact HB.out | apply below_alloc | apply pw_below_drewN | apply below_drew1 | refine below_set ?_ GE184.out | refine below_set ?_ GE190.out | refine below_set ?_ GE196.out) | exact HB.out)⟩⟩
        · rw [if_neg c22] at H
          have c22b0 : (t195 == 0) = false := beq_eq_false_iff_ne.mpr c22
          have c22b1 : (t195 != 0) = true := bne_iff_ne.mpr c22
          (first | rw [c22b0] | (simp only [i64_w, i32_w]; rw [c22b0]) | skip)
          have H' := Aside0.mk H
          clear H
          go_wp2
          go_meet
          case rel => exact ⟨_, (false), (by first | rfl | (simp; done) | (simp [*]; done)), H', ⟨by have := HJ5.out; first | omega | exact Nat.le_refl _⟩, ⟨by (with_reducible repeat (first | refine blk_drewN ?_ _ | refine blk_drew ?_ | refine blk_alloc ?_ _)); exact BK184.out⟩, ⟨by (with_reducible repeat (first | refine blk_drewN ?_ _ | refine blk_drew ?_ | refine blk_alloc ?_ _)); exact BK190.out⟩, ⟨by (with_reducible repeat (first | refine blk_drewN ?_ _ | refine blk_drew ?_ | refine blk_alloc ?_ _)); exact BK196.out⟩, ⟨by repeat (first | (with_reducible first | exact HB.out | apply below_alloc | apply pw_below_drewN | apply below_drew1 | refine below_set ?_ GE184.out | refine below_set ?_ GE190.out | refine below_set ?_ GE196.out) | exact HB.out)⟩⟩
      case rest =>
        clear HC21
        try clear c1
        try clear c2
        try clear p2
        try clear c10
        try clear c12
        try clear c14
        try clear c15
        try clear c17
        try clear c17b0
        try clear c17b1
        try clear c18
        try clear c19
        try clear c22
        try clear c22b0
        try clear c22b1
        try clear c23
        try clear c24
        try clear hcz11_0
        try clear hcz11_1
        try clear hcz11_2
        try clear hcz11_3
        try clear hcz16_0
        try clear hcz16_1
        try clear hcz16_2
        try clear hcz16_3
        try clear hcz20_0
        try clear hcz20_1
        try clear hcz20_2
        try clear hcz20_3
        try clear hcz25_0
        try clear hcz25_1
        try clear hcz25_2
        try clear hcz25_3
        try clear hfz11_0
        try clear hfz11_1
        try clear hfz11_2
        try clear hfz11_3
        try clear hfz16_0
        try clear hfz16_1
        try clear hfz16_2
        try clear hfz16_3
        try clear hfz20_0
        try clear hfz20_1
        try clear hfz20_2
        try clear hfz20_3
        try clear hfz25_0
        try clear hfz25_1
        try clear hfz25_2
        try clear hfz25_3
        try clear p2
        obtain ⟨kq, x14_20, rfl, HA, HJ20, BK184, BK190, BK196, HB⟩ := hcut
        cases kq with
        | zero => exact absurd HA.out (by simp [nautilusref05_Newest.j1])
        | succ kj20 =>
          have H := HA.out
          clear HA
          simp only [nautilusref05_Newest.j1] at H
          have HC26 := Aside0.mk H
          clear H
          go_upto_region 5 with (fail)
          go_cut [52] (fun v52 wc => ∃ (kq : Nat) (x52_25 : Bool), v52 = .bool x52_25 ∧ Aside0 (nautilusref05_Newest.j2 kq x14_20 x52_25 t185 t186 t187 t188 t191 t192 t193 t194 = some (r1, r2, r3, r4, r5, r6)) ∧ Aside0 (kq ≤ kj20) ∧ Aside0 (wc.heap[gb184]? = some (.cells #[.int .i64 0, .int .u64 0, .int .i64 0, .int .u64 0] 24 (0, 0))) ∧ Aside0 (wc.heap[gb190]? = some (.cells #[.int .i64 t185, .int .u64 t186, .int .i64 t187, .int .u64 t188] 24 (0, 0))) ∧ Aside0 (wc.heap[gb196]? = some (.cells #[.int .i64 t191, .int .u64 t192, .int .i64 t193, .int .u64 t194] 24 (0, 0))) ∧ Aside0 (Below w.heap.size w wc))
          case first =>
            have H := HC26.out
            clear HC26
            by_cases c27 : x13_5 = true
            · subst c27
              have H1 : (if x14_20 = true then (nautilusref05_Newest.j2 kj20 x14_20 (decide (t186 ≥ t192)) t185 t186 t187 t188 t191 t192 t193 t194) else (nautilusref05_Newest.j2 kj20 x14_20 true t185 t186 t187 t188 t191 t192 t193 t194)) = some (r1, r2, r3, r4, r5, r6) := by rw [if_pos rfl] at H; exact H
              clear H
              have H := H1
              clear H1
              by_cases c28 : x14_20 = true
              · subst c28
                have H1 : (nautilusref05_Newest.j2 kj20 true (decide (t186 ≥ t192)) t185 t186 t187 t188 t191 t192 t193 t194) = some (r1, r2, r3, r4, r5, r6) := by rw [if_pos rfl] at H; exact H
                clear H
                have H := H1
                clear H1
                have H' := Aside0.mk H
                clear H
                have hnb29 := NB190_184.out
                have hnc29 := NB184_190.out
                have hnb30 := NB190_196.out
                have hnc30 := NB196_190.out
                have hcz31_0 : wc.cell? ⟨gb190, 0, none⟩ = some (.int .i64 t185) := (blk_cell BK190.out 0).trans rfl
                have hcz31_1 : wc.cell? ⟨gb190, 1, none⟩ = some (.int .u64 t186) := (blk_cell BK190.out 1).trans rfl
                have hcz31_2 : wc.cell? ⟨gb190, 2, none⟩ = some (.int .i64 t187) := (blk_cell BK190.out 2).trans rfl
                have hcz31_3 : wc.cell? ⟨gb190, 3, none⟩ = some (.int .u64 t188) := (blk_cell BK190.out 3).trans rfl
                have hfz31_0 := blk_frozen BK190.out 0
                have hfz31_1 := blk_frozen BK190.out 1
                have hfz31_2 := blk_frozen BK190.out 2
                have hfz31_3 := blk_frozen BK190.out 3
                have hnb32 := NB196_184.out
                have hnc32 := NB184_196.out
                have hcz33_0 : wc.cell? ⟨gb196, 0, none⟩ = some (.int .i64 t191) := (blk_cell BK196.out 0).trans rfl
                have hcz33_1 : wc.cell? ⟨gb196, 1, none⟩ = some (.int .u64 t192) := (blk_cell BK196.out 1).trans rfl
                have hcz33_2 : wc.cell? ⟨gb196, 2, none⟩ = some (.int .i64 t193) := (blk_cell BK196.out 2).trans rfl
                have hcz33_3 : wc.cell? ⟨gb196, 3, none⟩ = some (.int .u64 t194) := (blk_cell BK196.out 3).trans rfl
                have hfz33_0 := blk_frozen BK196.out 0
                have hfz33_1 := blk_frozen BK196.out 1
                have hfz33_2 := blk_frozen BK196.out 2
                have hfz33_3 := blk_frozen BK196.out 3
                go_wp2
                go_meet
                case rel => exact ⟨_, (decide (t186 ≥ t192)), (by first | rfl | (simp; done) | (simp [*]; done)), H', ⟨by have := HJ5.out; have := HJ20.out; first | omega | exact Nat.le_refl _⟩, ⟨by (with_reducible repeat (first | refine blk_drewN ?_ _ | refine blk_drew ?_ | refine blk_alloc ?_ _)); exact BK184.out⟩, ⟨by (with_reducible repeat (first | refine blk_drewN ?_ _ | refine blk_drew ?_ | refine blk_alloc ?_ _)); exact BK190.out⟩, ⟨by (with_reducible repeat (first | refine blk_drewN ?_ _ | refine blk_drew ?_ | refine blk_alloc ?_ _)); exact BK196.out⟩, ⟨by repeat (first | (with_reducible first | exact HB.out | apply below_alloc | apply pw_below_drewN | apply below_drew1 | refine below_set ?_ GE184.out | refine below_set ?_ GE190.out | refine below_set ?_ GE196.out) | exact HB.out)⟩⟩
              · replace c28 := Bool.eq_false_iff.mpr c28
                subst c28
                have H1 : (nautilusref05_Newest.j2 kj20 false true t185 t186 t187 t188 t191 t192 t193 t194) = some (r1, r2, r3, r4, r5, r6) := by rw [if_neg (show ¬ (false = true) by decide)] at H; exact H
                clear H
                have H := H1
                clear H1
                have H' := Aside0.mk H
                clear H
                go_wp2
                go_meet
                case rel => exact ⟨_, (true), (by first | rfl | (simp; done) | (simp [*]; done)), H', ⟨by have := HJ5.out; have := HJ20.out; first | omega | exact Nat.le_refl _⟩, ⟨by (with_reducible repeat (first | refine blk_drewN ?_ _ | refine blk_drew ?_ | refine blk_alloc ?_ _)); exact BK184.out⟩, ⟨by (with_reducible repeat (first | refine blk_drewN ?_ _ | refine blk_drew ?_ | refine blk_alloc ?_ _)); exact BK190.out⟩, ⟨by (with_reducible repeat (first | refine blk_drewN ?_ _ | refine blk_drew ?_ | refine blk_alloc ?_ _)); exact BK196.out⟩, ⟨by repeat (first | (with_reducible first | exact HB.out | apply below_alloc | apply pw_below_drewN | apply below_drew1 | refine below_set ?_ GE184.out | refine below_set ?_ GE190.out | refine below_set ?_ GE196.out) | exact HB.out)⟩⟩
            · replace c27 := Bool.eq_false_iff.mpr c27
              subst c27
              have H1 : (nautilusref05_Newest.j2 kj20 x14_20 false t185 t186 t187 t188 t191 t192 t193 t194) = some (r1, r2, r3, r4, r5, r6) := by rw [if_neg (show ¬ (false = true) by decide)] at H; exact H
              clear H
              have H := H1
              clear H1
              have H' := Aside0.mk H
              clear H
              go_wp2
              go_meet
              case rel => exact ⟨_, (false), (by first | rfl | (simp; done) | (simp [*]; done)), H', ⟨by have := HJ5.out; have := HJ20.out; first | omega | exact Nat.le_refl _⟩, ⟨by (with_reducible repeat (first | refine blk_drewN ?_ _ | refine blk_drew ?_ | refine blk_alloc ?_ _)); exact BK184.out⟩, ⟨by (with_reducible repeat (first | refine blk_drewN ?_ _ | refine blk_drew ?_ | refine blk_alloc ?_ _)); exact BK190.out⟩, ⟨by (with_reducible repeat (first | refine blk_drewN ?_ _ | refine blk_drew ?_ | refine blk_alloc ?_ _)); exact BK196.out⟩, ⟨by repeat (first | (with_reducible first | exact HB.out | apply below_alloc | apply pw_below_drewN | apply below_drew1 | refine below_set ?_ GE184.out | refine below_set ?_ GE190.out | refine below_set ?_ GE196.out) | exact HB.out)⟩⟩
          case rest =>
            clear HC26
            try clear c1
            try clear c2
            try clear p2
            try clear c3
            try clear c10
            try clear c12
            try clear c14
            try clear c15
            try clear c17
            try clear c17b0
            try clear c17b1
            try clear c18
            try clear c19
            try clear c22
            try clear c22b0
            try clear c22b1
            try clear c23
            try clear c24
            try clear c27
            try clear c28
            try clear c29
            try clear c30
            try clear c32
            try clear hcz11_0
            try clear hcz11_1
            try clear hcz11_2
            try clear hcz11_3
            try clear hcz16_0
            try clear hcz16_1
            try clear hcz16_2
            try clear hcz16_3
            try clear hcz20_0
            try clear hcz20_1
            try clear hcz20_2
            try clear hcz20_3
            try clear hcz25_0
            try clear hcz25_1
            try clear hcz25_2
            try clear hcz25_3
            try clear hcz31_0
            try clear hcz31_1
            try clear hcz31_2
            try clear hcz31_3
            try clear hcz33_0
            try clear hcz33_1
            try clear hcz33_2
            try clear hcz33_3
            try clear hfz11_0
            try clear hfz11_1
            try clear hfz11_2
            try clear hfz11_3
            try clear hfz16_0
            try clear hfz16_1
            try clear hfz16_2
            try clear hfz16_3
            try clear hfz20_0
            try clear hfz20_1
            try clear hfz20_2
            try clear hfz20_3
            try clear hfz25_0
            try clear hfz25_1
            try clear hfz25_2
            try clear hfz25_3
            try clear hfz31_0
            try clear hfz31_1
            try clear hfz31_2
            try clear hfz31_3
            try clear hfz33_0
            try clear hfz33_1
            try clear hfz33_2
            try clear hfz33_3
            try clear p2
            obtain ⟨kq, x52_25, rfl, HA, HJ25, BK184, BK190, BK196, HB⟩ := hcut
            cases kq with
            | zero => exact absurd HA.out (by simp [nautilusref05_Newest.j2])
            | succ kj25 =>
              have H := HA.out
              clear HA
              simp only [nautilusref05_Newest.j2] at H
              by_cases c34 : x52_25 = true
              · subst c34
                have H1 : (some (t185, t186, t187, t188, 0, 0)) = some (r1, r2, r3, r4, r5, r6) := by rw [if_pos rfl] at H; exact H
                clear H
                have H := H1
                clear H1
                simp only [Option.some.injEq, Prod.mk.injEq] at H
                obtain ⟨rfl, rfl, rfl, rfl, rfl, rfl⟩ := H
                have hnb35 := NB190_184.out
                have hnc35 := NB184_190.out
                have hnb36 := NB190_196.out
                have hnc36 := NB196_190.out
                have hcz37_0 : wc.cell? ⟨gb190, 0, none⟩ = some (.int .i64 t185) := (blk_cell BK190.out 0).trans rfl
                have hcz37_1 : wc.cell? ⟨gb190, 1, none⟩ = some (.int .u64 t186) := (blk_cell BK190.out 1).trans rfl
                have hcz37_2 : wc.cell? ⟨gb190, 2, none⟩ = some (.int .i64 t187) := (blk_cell BK190.out 2).trans rfl
                have hcz37_3 : wc.cell? ⟨gb190, 3, none⟩ = some (.int .u64 t188) := (blk_cell BK190.out 3).trans rfl
                have hfz37_0 := blk_frozen BK190.out 0
                have hfz37_1 := blk_frozen BK190.out 1
                have hfz37_2 := blk_frozen BK190.out 2
                have hfz37_3 := blk_frozen BK190.out 3
                have hnb38 := NB184_196.out
                have hnc38 := NB196_184.out
                have hcz39_0 : wc.cell? ⟨gb184, 0, none⟩ = some (.int .i64 0) := (blk_cell BK184.out 0).trans rfl
                have hcz39_1 : wc.cell? ⟨gb184, 1, none⟩ = some (.int .u64 0) := (blk_cell BK184.out 1).trans rfl
                have hcz39_2 : wc.cell? ⟨gb184, 2, none⟩ = some (.int .i64 0) := (blk_cell BK184.out 2).trans rfl
                have hcz39_3 : wc.cell? ⟨gb184, 3, none⟩ = some (.int .u64 0) := (blk_cell BK184.out 3).trans rfl
                have hfz39_0 := blk_frozen BK184.out 0
                have hfz39_1 := blk_frozen BK184.out 1
                have hfz39_2 := blk_frozen BK184.out 2
                have hfz39_3 := blk_frozen BK184.out 3
                go_wp2
                refine bodyPost_ret (results_ctt rfl _ _ gb184 24 #[.int .i64 t185, .int .u64 t186, .int .i64 t187, .int .u64 t188] (0, 0) _ rfl (by (with_reducible repeat (first | refine blk_drewN ?_ _ | refine blk_drew ?_ | refine blk_alloc ?_ _)); refine blk_put (cs := #[.int .i64 t185, .int .u64 t186, .int .i64 t187, .int .u64 0]) ?_ 3 _ rfl; (with_reducible repeat (first | refine blk_drewN ?_ _ | refine blk_drew ?_ | refine blk_alloc ?_ _)); refine blk_put (cs := #[.int .i64 t185, .int .u64 t186, .int .i64 0, .int .u64 0]) ?_ 2 _ rfl; (with_reducible repeat (first | refine blk_drewN ?_ _ | refine blk_drew ?_ | refine blk_alloc ?_ _)); refine blk_put (cs := #[.int .i64 t185, .int .u64 0, .int .i64 0, .int .u64 0]) ?_ 1 _ rfl; (with_reducible repeat (first | refine blk_drewN ?_ _ | refine blk_drew ?_ | refine blk_alloc ?_ _)); refine blk_put (cs := #[.int .i64 0, .int .u64 0, .int .i64 0, .int .u64 0]) ?_ 0 _ rfl; (with_reducible repeat (first | refine blk_drewN ?_ _ | refine blk_drew ?_ | refine blk_alloc ?_ _)); exact BK184.out) Try.underlying24 rfl (by kernel_rfl)) rfl ?_
                exact ⟨by first | rfl | (simp [errW_none, errW_some] <;> rfl) | (simp [*, errW_none, errW_some] <;> rfl) | (simp [show IntKind.u64.wrap 0 = 0 from rfl, Int.zero_tdiv]; done), by repeat (first | (with_reducible first | exact HB.out | apply below_alloc | apply pw_below_drewN | apply below_drew1 | refine below_set ?_ GE184.out | refine below_set ?_ GE190.out | refine below_set ?_ GE196.out) | exact HB.out)⟩
              · replace c34 := Bool.eq_false_iff.mpr c34
                subst c34
                have H1 : (if x14_20 = true then (some (t191, t192, t193, t194, 1, 0)) else (some (0, 0, 0, 0, 0, 50))) = some (r1, r2, r3, r4, r5, r6) := by rw [if_neg (show ¬ (false = true) by decide)] at H; exact H
                clear H
                have H := H1
                clear H1
                by_cases c40 : x14_20 = true
                · subst c40
                  have H1 : (some (t191, t192, t193, t194, 1, 0)) = some (r1, r2, r3, r4, r5, r6) := by rw [if_pos rfl] at H; exact H
                  clear H
                  have H := H1
                  clear H1
                  simp only [Option.some.injEq, Prod.mk.injEq] at H
                  obtain ⟨rfl, rfl, rfl, rfl, rfl, rfl⟩ := H
                  have hnb41 := NB196_184.out
                  have hnc41 := NB184_196.out
                  have hnb42 := NB196_190.out
                  have hnc42 := NB190_196.out
                  have hcz43_0 : wc.cell? ⟨gb196, 0, none⟩ = some (.int .i64 t191) := (blk_cell BK196.out 0).trans rfl
                  have hcz43_1 : wc.cell? ⟨gb196, 1, none⟩ = some (.int .u64 t192) := (blk_cell BK196.out 1).trans rfl
                  have hcz43_2 : wc.cell? ⟨gb196, 2, none⟩ = some (.int .i64 t193) := (blk_cell BK196.out 2).trans rfl
                  have hcz43_3 : wc.cell? ⟨gb196, 3, none⟩ = some (.int .u64 t194) := (blk_cell BK196.out 3).trans rfl
                  have hfz43_0 := blk_frozen BK196.out 0
                  have hfz43_1 := blk_frozen BK196.out 1
                  have hfz43_2 := blk_frozen BK196.out 2
                  have hfz43_3 := blk_frozen BK196.out 3
                  have hnb44 := NB184_190.out
                  have hnc44 := NB190_184.out
                  have hcz45_0 : wc.cell? ⟨gb184, 0, none⟩ = some (.int .i64 0) := (blk_cell BK184.out 0).trans rfl
                  have hcz45_1 : wc.cell? ⟨gb184, 1, none⟩ = some (.int .u64 0) := (blk_cell BK184.out 1).trans rfl
                  have hcz45_2 : wc.cell? ⟨gb184, 2, none⟩ = some (.int .i64 0) := (blk_cell BK184.out 2).trans rfl
                  have hcz45_3 : wc.cell? ⟨gb184, 3, none⟩ = some (.int .u64 0) := (blk_cell BK184.out 3).trans rfl
                  have hfz45_0 := blk_frozen BK184.out 0
                  have hfz45_1 := blk_frozen BK184.out 1
                  have hfz45_2 := blk_frozen BK184.out 2
                  have hfz45_3 := blk_frozen BK184.out 3
                  go_wp2
                  refine bodyPost_ret (results_ctt rfl _ _ gb184 24 #[.int .i64 t191, .int .u64 t192, .int .i64 t193, .int .u64 t194] (0, 0) _ rfl (by (with_reducible repeat (first | refine blk_drewN ?_ _ | refine blk_drew ?_ | refine blk_alloc ?_ _)); refine blk_put (cs := #[.int .i64 t191, .int .u64 t192, .int .i64 t193, .int .u64 0]) ?_ 3 _ rfl; (with_reducible repeat (first | refine blk_drewN ?_ _ | refine blk_drew ?_ | refine blk_alloc ?_ _)); refine blk_put (cs := #[.int .i64 t191, .int .u64 t192, .int .i64 0, .int .u64 0]) ?_ 2 _ rfl; (with_reducible repeat (first | refine blk_drewN ?_ _ | refine blk_drew ?_ | refine blk_alloc ?_ _)); refine blk_put (cs := #[.int .i64 t191, .int .u64 0, .int .i64 0, .int .u64 0]) ?_ 1 _ rfl; (with_reducible repeat (first | refine blk_drewN ?_ _ | refine blk_drew ?_ | refine blk_alloc ?_ _)); refine blk_put (cs := #[.int .i64 0, .int .u64 0, .int .i64 0, .int .u64 0]) ?_ 0 _ rfl; (with_reducible repeat (first | refine blk_drewN ?_ _ | refine blk_drew ?_ | refine blk_alloc ?_ _)); exact BK184.out) Try.underlying24 rfl (by kernel_rfl)) rfl ?_
                  exact ⟨by first | rfl | (simp [errW_none, errW_some] <;> rfl) | (simp [*, errW_none, errW_some] <;> rfl) | (simp [show IntKind.u64.wrap 0 = 0 from rfl, Int.zero_tdiv]; done), by repeat (first | (with_reducible first | exact HB.out | apply below_alloc | apply pw_below_drewN | apply below_drew1 | refine below_set ?_ GE184.out | refine below_set ?_ GE190.out | refine below_set ?_ GE196.out) | exact HB.out)⟩
                · replace c40 := Bool.eq_false_iff.mpr c40
                  subst c40
                  have H1 : (some (0, 0, 0, 0, 0, 50)) = some (r1, r2, r3, r4, r5, r6) := by rw [if_neg (show ¬ (false = true) by decide)] at H; exact H
                  clear H
                  have H := H1
                  clear H1
                  simp only [Option.some.injEq, Prod.mk.injEq] at H
                  obtain ⟨rfl, rfl, rfl, rfl, rfl, rfl⟩ := H
                  have hnb46 := NB184_190.out
                  have hnc46 := NB190_184.out
                  have hnb47 := NB184_196.out
                  have hnc47 := NB196_184.out
                  have hcz48_0 : wc.cell? ⟨gb184, 0, none⟩ = some (.int .i64 0) := (blk_cell BK184.out 0).trans rfl
                  have hcz48_1 : wc.cell? ⟨gb184, 1, none⟩ = some (.int .u64 0) := (blk_cell BK184.out 1).trans rfl
                  have hcz48_2 : wc.cell? ⟨gb184, 2, none⟩ = some (.int .i64 0) := (blk_cell BK184.out 2).trans rfl
                  have hcz48_3 : wc.cell? ⟨gb184, 3, none⟩ = some (.int .u64 0) := (blk_cell BK184.out 3).trans rfl
                  have hfz48_0 := blk_frozen BK184.out 0
                  have hfz48_1 := blk_frozen BK184.out 1
                  have hfz48_2 := blk_frozen BK184.out 2
                  have hfz48_3 := blk_frozen BK184.out 3
                  go_wp2
                  refine bodyPost_ret (results_ctt rfl _ _ gb184 24 #[.int .i64 0, .int .u64 0, .int .i64 0, .int .u64 0] (0, 0) _ rfl (by (with_reducible repeat (first | refine blk_drewN ?_ _ | refine blk_drew ?_ | refine blk_alloc ?_ _)); refine blk_put (cs := #[.int .i64 0, .int .u64 0, .int .i64 0, .int .u64 0]) ?_ 3 _ rfl; (with_reducible repeat (first | refine blk_drewN ?_ _ | refine blk_drew ?_ | refine blk_alloc ?_ _)); refine blk_put (cs := #[.int .i64 0, .int .u64 0, .int .i64 0, .int .u64 0]) ?_ 2 _ rfl; (with_reducible repeat (first | refine blk_drewN ?_ _ | refine blk_drew ?_ | refine blk_alloc ?_ _)); refine blk_put (cs := #[.int .i64 0, .int .u64 0, .int .i64 0, .int .u64 0]) ?_ 1 _ rfl; (with_reducible repeat (first | refine blk_drewN ?_ _ | refine blk_drew ?_ | refine blk_alloc ?_ _)); refine blk_put (cs := #[.int .i64 0, .int .u64 0, .int .i64 0, .int .u64 0]) ?_ 0 _ rfl; (with_reducible repeat (first | refine blk_drewN ?_ _ | refine blk_drew ?_ | refine blk_alloc ?_ _)); exact BK184.out) Try.underlying24 rfl (by kernel_rfl)) rfl ?_
                  exact ⟨by first | rfl | (simp [errW_none, errW_some] <;> rfl) | (simp [*, errW_none, errW_some] <;> rfl) | (simp [show IntKind.u64.wrap 0 = 0 from rfl, Int.zero_tdiv]; done), by repeat (first | (with_reducible first | exact HB.out | apply below_alloc | apply pw_below_drewN | apply below_drew1 | refine below_set ?_ GE184.out | refine below_set ?_ GE190.out | refine below_set ?_ GE196.out) | exact HB.out)⟩

end Go.Proofs.Ytpcejkhipnkhfaa.Q
