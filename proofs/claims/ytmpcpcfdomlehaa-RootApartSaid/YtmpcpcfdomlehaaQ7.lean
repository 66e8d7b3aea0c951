/- Functions of the translation as plain Lean functions, and that the translation computes them: printed by this session's driver of the print. -/
import Derived.Test.YtmpcpcfdomlehaaQ0
import Derived.Test.YtmpcpcfdomlehaaQ5
import Derived.Test.YtmpcpcfdomlehaaQ6
namespace Go.Proofs.Ytmpcpcfdomlehaa.Q
open Go.Proofs.Ytmpcpcfdomlehaa.H
open Go.RowKit Go.Proofs.YtmpcpcfdomlehaaW.PrintWords Go.Proofs.YtmpcpcfdomlehaaW.PrintLast Go.Proofs.YtmpcpcfdomlehaaW.PrintMore
attribute [local go_sem] max2_int min2_int max_two min_two max_three min_three max_four min_four   -- for this text's walks alone
set_option linter.unusedVariables false
set_option linter.unusedSimpArgs false

/-! ### nautilusref16_Encode: function 9 -/
mutual
def nautilusref16_Encode.l0 : Nat → ByteArray → Int → Int → Int → List Int → List Int → Option (ByteArray × Int)
  | 0, _, _, _, _, _, _ => none
  | k + 1, x5, x6, x186000, x186001, x186002, x186003 => if x6 < (x186002.length : Int) then (if 0 ≤ x6 then ((nautilusref01_Bytes.f k (IntKind.u64.wrap (rd x186002 x6)) 4).bind fun t192 => (if x5.size + t192.size ≤ 9223372036854775807 then (nautilusref16_Encode.l0 k (x5 ++ t192) (wrap64 (x6 + 1)) x186000 x186001 x186002 x186003) else (none))) else (none)) else (nautilusref16_Encode.l1 k x5 0 x186000 x186001 x186002 x186003)
def nautilusref16_Encode.l1 : Nat → ByteArray → Int → Int → Int → List Int → List Int → Option (ByteArray × Int)
  | 0, _, _, _, _, _, _ => none
  | k + 1, x5, x7, x186000, x186001, x186002, x186003 => if x7 < (x186003.length : Int) then (if 0 ≤ x7 then ((nautilusref01_Bytes.f k (IntKind.u64.wrap (rd x186003 x7)) 4).bind fun t194 => (if x5.size + t194.size ≤ 9223372036854775807 then (nautilusref16_Encode.l1 k (x5 ++ t194) (wrap64 (x7 + 1)) x186000 x186001 x186002 x186003) else (none))) else (none)) else (if 0 ≤ (wrap64 (508 - (x5.size : Int))) then (if (wrap64 (508 - (x5.size : Int)) : Int).toNat ≤ 281474976710656 then ((some (List.replicate (wrap64 (508 - (x5.size : Int)) : Int).toNat 0 : List Int)).bind fun y195 => (if x5.size + (strOfNums y195).size ≤ 9223372036854775807 then (some (x5 ++ (strOfNums y195), 0)) else (none))) else (none)) else (none))
end
def nautilusref16_Encode.f (k : Nat) (a0_0 : Int) (a0_1 : Int) (l0_2 : List Int) (l0_3 : List Int) : Option (ByteArray × Int) := (nautilusref16_Right.f k a0_0 a0_1 l0_2 l0_3).bind fun t186 => (if t186 = true then ((nautilusref01_Bytes.f k a0_0 6).bind fun t187 => ((nautilusref01_Bytes.f k a0_1 6).bind fun t188 => (if t187.size + t188.size ≤ 9223372036854775807 then ((nautilusref01_Bytes.f k (IntKind.u64.wrap ((l0_2.length : Int))) 1).bind fun t189 => (if (t187 ++ t188).size + t189.size ≤ 9223372036854775807 then ((nautilusref01_Bytes.f k (IntKind.u64.wrap ((l0_3.length : Int))) 1).bind fun t190 => (if ((t187 ++ t188) ++ t189).size + t190.size ≤ 9223372036854775807 then (nautilusref16_Encode.l0 k (((t187 ++ t188) ++ t189) ++ t190) 0 a0_0 a0_1 l0_2 l0_3) else (none))) else (none))) else (none)))) else (some ((⟨#[]⟩ : ByteArray), 153)))
theorem nautilusref16_Encode.mono_l : ∀ k, (∀ y0 y1 y2 y3 y4 y5, LeO (nautilusref16_Encode.l0 k y0 y1 y2 y3 y4 y5) (nautilusref16_Encode.l0 (k + 1) y0 y1 y2 y3 y4 y5)) ∧ (∀ y0 y1 y2 y3 y4 y5, LeO (nautilusref16_Encode.l1 k y0 y1 y2 y3 y4 y5) (nautilusref16_Encode.l1 (k + 1) y0 y1 y2 y3 y4 y5))
  | 0 => ⟨fun _ _ _ _ _ _ r h => by simp [nautilusref16_Encode.l0] at h, fun _ _ _ _ _ _ r h => by simp [nautilusref16_Encode.l1] at h⟩
  | k + 1 => by
    obtain ⟨ih0, ih1⟩ := nautilusref16_Encode.mono_l k
    refine ⟨?_, ?_⟩
    · intro y0 y1 y2 y3 y4 y5
      unfold nautilusref16_Encode.l0
      repeat' first
      | (with_reducible exact ih0 _ _ _ _ _ _)
      | (with_reducible exact ih1 _ _ _ _ _ _)
      | (with_reducible exact nautilusref01_Bytes.mono _ _ _)
      | (with_reducible exact nautilusref16_Right.mono _ _ _ _ _)
      | (with_reducible exact LeO.refl _)
      | (with_reducible exact LeO.none _)
      | (with_reducible refine LeO.ite ?_ ?_)
      | (with_reducible refine LeO.bind ?_ (fun _ => ?_))
      | exact ih0 _ _ _ _ _ _
      | exact ih1 _ _ _ _ _ _
      | exact nautilusref01_Bytes.mono _ _ _
      | exact nautilusref16_Right.mono _ _ _ _ _
      | exact LeO.none _
      | refine LeO.ite ?_ ?_
      | refine LeO.bind ?_ (fun _ => ?_)
    · intro y0 y1 y2 y3 y4 y5
      unfold nautilusref16_Encode.l1
      repeat' first
      | (with_reducible exact ih0 _ _ _ _ _ _)
      | (with_reducible exact ih1 _ _ _ _ _ _)
      | (with_reducible exact nautilusref01_Bytes.mono _ _ _)
      | (with_reducible exact nautilusref16_Right.mono _ _ _ _ _)
      | (with_reducible exact LeO.refl _)
      | (with_reducible exact LeO.none _)
      | (with_reducible refine LeO.ite ?_ ?_)
      | (with_reducible refine LeO.bind ?_ (fun _ => ?_))
      | exact ih0 _ _ _ _ _ _
      | exact ih1 _ _ _ _ _ _
      | exact nautilusref01_Bytes.mono _ _ _
      | exact nautilusref16_Right.mono _ _ _ _ _
      | exact LeO.none _
      | refine LeO.ite ?_ ?_
      | refine LeO.bind ?_ (fun _ => ?_)
theorem nautilusref16_Encode.mono : ∀ a0 a1 a2 a3 k, LeO (nautilusref16_Encode.f k a0 a1 a2 a3) (nautilusref16_Encode.f (k + 1) a0 a1 a2 a3) := by
  intro a0 a1 a2 a3 k
  obtain ⟨ih0, ih1⟩ := nautilusref16_Encode.mono_l k
  unfold nautilusref16_Encode.f
  repeat' first
      | (with_reducible exact ih0 _ _ _ _ _ _)
      | (with_reducible exact ih1 _ _ _ _ _ _)
      | (with_reducible exact nautilusref01_Bytes.mono _ _ _)
      | (with_reducible exact nautilusref16_Right.mono _ _ _ _ _)
      | (with_reducible exact LeO.refl _)
      | (with_reducible exact LeO.none _)
      | (with_reducible refine LeO.ite ?_ ?_)
      | (with_reducible refine LeO.bind ?_ (fun _ => ?_))
      | exact ih0 _ _ _ _ _ _
      | exact ih1 _ _ _ _ _ _
      | exact nautilusref01_Bytes.mono _ _ _
      | exact nautilusref16_Right.mono _ _ _ _ _
      | exact LeO.none _
      | refine LeO.ite ?_ ?_
      | refine LeO.bind ?_ (fun _ => ?_)
def nautilusref16_Encode.T4 : Bool × List (List Nat × List Nat) := (true, [([], []), ([0], [0]), ([1], [1]), ([], []), ([3], [3]), ([4, 2], [4]), ([2, 5], [2, 5]), ([], []), ([7], [7]), ([8], [8]), ([9], [9]), ([10, 5], [10]), ([6, 11], [6, 11]), ([], []), ([13], [13]), ([14], [14]), ([15], [15]), ([16, 11], [16]), ([12, 17], [12, 17]), ([18, 17, 0, 1, 2, 3, 4, 5, 6, 7, 8, 9, 10, 11, 12, 13, 14, 15, 16, 17, 18], [18])])
def nautilusref16_Encode.B4 : List Nat := [0, 1, 3, 0, 8, 31, 63, 0, 128, 384, 896, 1983, 4095, 0, 8192, 24576, 57344, 126911, 262143, 524287]
theorem nautilusref16_Encode.tab4 : rtab .any (opsOf Try.f9 4) = nautilusref16_Encode.T4 := by kernel_rfl
theorem nautilusref16_Encode.bits4 : waitsOk nautilusref16_Encode.T4.2 nautilusref16_Encode.B4 = true := by kernel_rfl
set_option maxHeartbeats 8000000 in
set_option maxRecDepth 100000 in
theorem nautilusref16_Encode.calls (k : Nat) (a0_0 : Int) (a0_1 : Int) (A0_2 : Option Addr) (c0_2 : Nat) (l0_2 : List Int) (A0_3 : Option Addr) (c0_3 : Nat) (l0_3 : List Int) (r1 : ByteArray) (r2 : Int) (w : World) (hr0_2 : Kd.C (Kd.int .u32) w A0_2 l0_2.length l0_2) (hc0_2 : l0_2.length ≤ c0_2) (hr0_3 : Kd.C (Kd.int .u32) w A0_3 l0_3.length l0_3) (hc0_3 : l0_3.length ≤ c0_3) (h : nautilusref16_Encode.f k a0_0 a0_1 l0_2 l0_3 = some (r1, r2)) :
    Calls Try.prog 9 #[.agg #[.int .u64 a0_0, .int .u64 a0_1, .slice A0_2 l0_2.length c0_2, .slice A0_3 l0_3.length c0_3]] w fun e w' => e = .returned (.tuple #[.string r1, .int .i64 r2]) ∧ Below w.heap.size w w' := by
  have hu25 := Try.underlying25
  have HR0_2 := Aside0.mk hr0_2
  have HC0_2 := Aside0.mk hc0_2
  clear hr0_2 hc0_2
  have HR0_3 := Aside0.mk hr0_3
  have HC0_3 := Aside0.mk hc0_3
  clear hr0_3 hc0_3
  have HB := Aside0.mk (Below.refl w.heap.size w)
  have H : ((nautilusref16_Right.f k a0_0 a0_1 l0_2 l0_3).bind fun t186 => (if t186 = true then ((nautilusref01_Bytes.f k a0_0 6).bind fun t187 => ((nautilusref01_Bytes.f k a0_1 6).bind fun t188 => (if t187.size + t188.size ≤ 9223372036854775807 then ((nautilusref01_Bytes.f k (IntKind.u64.wrap ((l0_2.length : Int))) 1).bind fun t189 => (if (t187 ++ t188).size + t189.size ≤ 9223372036854775807 then ((nautilusref01_Bytes.f k (IntKind.u64.wrap ((l0_3.length : Int))) 1).bind fun t190 => (if ((t187 ++ t188) ++ t189).size + t190.size ≤ 9223372036854775807 then (nautilusref16_Encode.l0 k (((t187 ++ t188) ++ t189) ++ t190) 0 a0_0 a0_1 l0_2 l0_3) else (none))) else (none))) else (none)))) else (some ((⟨#[]⟩ : ByteArray), 153)))) = some (r1, r2) := h
  clear h
  replace H := Option.bind_eq_some_iff.mp H
  obtain ⟨t186, A20, H⟩ := H
  replace H : (if t186 = true then ((nautilusref01_Bytes.f k a0_0 6).bind fun t187 => ((nautilusref01_Bytes.f k a0_1 6).bind fun t188 => (if t187.size + t188.size ≤ 9223372036854775807 then ((nautilusref01_Bytes.f k (IntKind.u64.wrap ((l0_2.length : Int))) 1).bind fun t189 => (if (t187 ++ t188).size + t189.size ≤ 9223372036854775807 then ((nautilusref01_Bytes.f k (IntKind.u64.wrap ((l0_3.length : Int))) 1).bind fun t190 => (if ((t187 ++ t188) ++ t189).size + t190.size ≤ 9223372036854775807 then (nautilusref16_Encode.l0 k (((t187 ++ t188) ++ t189) ++ t190) 0 a0_0 a0_1 l0_2 l0_3) else (none))) else (none))) else (none)))) else (some ((⟨#[]⟩ : ByteArray), 153))) = some (r1, r2) := H
  have A2 := Aside0.mk A20
  clear A20
  by_cases c3 : t186 = true
  · subst c3
    have H1 : ((nautilusref01_Bytes.f k a0_0 6).bind fun t187 => ((nautilusref01_Bytes.f k a0_1 6).bind fun t188 => (if t187.size + t188.size ≤ 9223372036854775807 then ((nautilusref01_Bytes.f k (IntKind.u64.wrap ((l0_2.length : Int))) 1).bind fun t189 => (if (t187 ++ t188).size + t189.size ≤ 9223372036854775807 then ((nautilusref01_Bytes.f k (IntKind.u64.wrap ((l0_3.length : Int))) 1).bind fun t190 => (if ((t187 ++ t188) ++ t189).size + t190.size ≤ 9223372036854775807 then (nautilusref16_Encode.l0 k (((t187 ++ t188) ++ t189) ++ t190) 0 a0_0 a0_1 l0_2 l0_3) else (none))) else (none))) else (none)))) = some (r1, r2) := by rw [if_pos rfl] at H; exact H
    clear H
    have H := H1
    clear H1
    replace H := Option.bind_eq_some_iff.mp H
    obtain ⟨t187, A40, H⟩ := H
    replace H : ((nautilusref01_Bytes.f k a0_1 6).bind fun t188 => (if t187.size + t188.size ≤ 9223372036854775807 then ((nautilusref01_Bytes.f k (IntKind.u64.wrap ((l0_2.length : Int))) 1).bind fun t189 => (if (t187 ++ t188).size + t189.size ≤ 9223372036854775807 then ((nautilusref01_Bytes.f k (IntKind.u64.wrap ((l0_3.length : Int))) 1).bind fun t190 => (if ((t187 ++ t188) ++ t189).size + t190.size ≤ 9223372036854775807 then (nautilusref16_Encode.l0 k (((t187 ++ t188) ++ t189) ++ t190) 0 a0_0 a0_1 l0_2 l0_3) else (none))) else (none))) else (none))) = some (r1, r2) := H
    have A4 := Aside0.mk A40
    clear A40
    replace H := Option.bind_eq_some_iff.mp H
    obtain ⟨t188, A50, H⟩ := H
    replace H : (if t187.size + t188.size ≤ 9223372036854775807 then ((nautilusref01_Bytes.f k (IntKind.u64.wrap ((l0_2.length : Int))) 1).bind fun t189 => (if (t187 ++ t188).size + t189.size ≤ 9223372036854775807 then ((nautilusref01_Bytes.f k (IntKind.u64.wrap ((l0_3.length : Int))) 1).bind fun t190 => (if ((t187 ++ t188) ++ t189).size + t190.size ≤ 9223372036854775807 then (nautilusref16_Encode.l0 k (((t187 ++ t188) ++ t189) ++ t190) 0 a0_0 a0_1 l0_2 l0_3) else (none))) else (none))) else (none)) = some (r1, r2) := H
    have A5 := Aside0.mk A50
    clear A50
    by_cases c6 : t187.size + t188.size ≤ 9223372036854775807
    · rw [if_pos c6] at H
      have c6b0 := eq_true c6
      have c6b1 : decide (t187.size + t188.size ≤ 9223372036854775807) = true := decide_eq_true c6
      try have c6b2 : (9223372036854775807 < t187.size + t188.size) = False := eq_false (Nat.not_lt.2 c6)
      replace H := Option.bind_eq_some_iff.mp H
      obtain ⟨t189, A70, H⟩ := H
      replace H : (if (t187 ++ t188).size + t189.size ≤ 9223372036854775807 then ((nautilusref01_Bytes.f k (IntKind.u64.wrap ((l0_3.length : Int))) 1).bind fun t190 => (if ((t187 ++ t188) ++ t189).size + t190.size ≤ 9223372036854775807 then (nautilusref16_Encode.l0 k (((t187 ++ t188) ++ t189) ++ t190) 0 a0_0 a0_1 l0_2 l0_3) else (none))) else (none)) = some (r1, r2) := H
      have A7 := Aside0.mk A70
      clear A70
      by_cases c8 : (t187 ++ t188).size + t189.size ≤ 9223372036854775807
      · rw [if_pos c8] at H
        have c8b0 := eq_true c8
        have c8b1 : decide ((t187 ++ t188).size + t189.size ≤ 9223372036854775807) = true := decide_eq_true c8
        try have c8b2 : (9223372036854775807 < (t187 ++ t188).size + t189.size) = False := eq_false (Nat.not_lt.2 c8)
        try have c8b3 : (9223372036854775807 < t187.size + t188.size + t189.size) = False := by have e_ := c8b2; simp only [ByteArray.size_append] at e_; exact e_
        replace H := Option.bind_eq_some_iff.mp H
        obtain ⟨t190, A90, H⟩ := H
        replace H : (if ((t187 ++ t188) ++ t189).size + t190.size ≤ 9223372036854775807 then (nautilusref16_Encode.l0 k (((t187 ++ t188) ++ t189) ++ t190) 0 a0_0 a0_1 l0_2 l0_3) else (none)) = some (r1, r2) := H
        have A9 := Aside0.mk A90
        clear A90
        by_cases c10 : ((t187 ++ t188) ++ t189).size + t190.size ≤ 9223372036854775807
        · rw [if_pos c10] at H
          have c10b0 := eq_true c10
          have c10b1 : decide (((t187 ++ t188) ++ t189).size + t190.size ≤ 9223372036854775807) = true := decide_eq_true c10
          try have c10b2 : (9223372036854775807 < ((t187 ++ t188) ++ t189).size + t190.size) = False := eq_false (Nat.not_lt.2 c10)
          try have c10b3 : (9223372036854775807 < t187.size + t188.size + t189.size + t190.size) = False := by have e_ := c10b2; simp only [ByteArray.size_append] at e_; exact e_
          have H' := Aside0.mk H
          clear H
          go_enter Try.func9, Try.ntmps9
          try go_wp2_with (first | ((with_reducible refine gate_dst (N := 1) rfl ?_); refine box_event ?hg (N := 1) ?hd (cs := #[.int .u64 a0_0, .int .u64 a0_1, .slice A0_2 l0_2.length c0_2, .slice A0_3 l0_3.length c0_3]) (t := 25) ?hr ?_; (case hd => rfl); (case hg => rfl); (case hr => first | (go_simp; done) | (go_simp; rfl)); intro gb185 hg w11 hbox hb; have n0_ := Aside0.mk (below_step (by repeat (first | (with_reducible first | exact HB.out | apply below_alloc | apply pw_below_drewN | apply below_drew1) | exact HB.out)) hb); have n1_ := Aside0.mk (hbox); have n2_ := Aside0.mk ((by rw [hg]; exact (below_size (by repeat (first | (with_reducible first | exact HB.out | apply below_alloc | apply pw_below_drewN | apply below_drew1) | exact HB.out))) : w.heap.size ≤ gb185)); have n3_ := Aside0.mk ((by rw [hg]; exact (below_size (by repeat (first | (with_reducible first | exact HB.out | apply below_alloc | apply pw_below_drewN | apply below_drew1) | exact HB.out))) : w.heap.size ≤ gb185)); clear HB; have HB := n0_; have BK185 := n1_; have GW185 := n2_; have GE185 := n3_; clear n0_ n1_ n2_ n3_; clear hb hbox hg; have hcz12_0 : w11.cell? ⟨gb185, 0, none⟩ = some (.int .u64 a0_0) := (blk_cell BK185.out 0).trans rfl; have hcz12_1 : w11.cell? ⟨gb185, 1, none⟩ = some (.int .u64 a0_1) := (blk_cell BK185.out 1).trans rfl; have hcz12_2 : w11.cell? ⟨gb185, 2, none⟩ = some (.slice A0_2 l0_2.length c0_2) := (blk_cell BK185.out 2).trans rfl; have hcz12_3 : w11.cell? ⟨gb185, 3, none⟩ = some (.slice A0_3 l0_3.length c0_3) := (blk_cell BK185.out 3).trans rfl; have hfz12_0 := blk_frozen BK185.out 0; have hfz12_1 := blk_frozen BK185.out 1; have hfz12_2 := blk_frozen BK185.out 2; have hfz12_3 := blk_frozen BK185.out 3) | ((with_reducible refine gate_callee (f := 13) rfl ?_); refine goesL_ (some 9) rfl rfl Try.func13 (by kernel_rfl) rfl #[.agg #[.int .u64 a0_0, .int .u64 a0_1, .slice A0_2 l0_2.length c0_2, .slice A0_3 l0_3.length c0_3]] rfl (by (try simp only [List.map_toArray, List.map_cons, List.map_nil]); first | done | rfl | (simp only [List.length_drop, List.length_take]; rfl)) ?_; (with_reducible refine (nautilusref16_Right.calls k a0_0 a0_1 _ _ l0_2 _ _ l0_3 true _ ?side1 ?side2 ?side3 ?side4 A2.out).mono ?_); (case side1 => repeat (first | exact (Kd.C_below HR0_2.out HB.out) | (with_reducible refine Kd.C_alloc ?_ _) | (with_reducible refine Kd.C_drewN ?_ _) | (with_reducible refine Kd.C_drew ?_))); (case side2 => exact HC0_2.out); (case side3 => repeat (first | exact (Kd.C_below HR0_3.out HB.out) | (with_reducible refine Kd.C_alloc ?_ _) | (with_reducible refine Kd.C_drewN ?_ _) | (with_reducible refine Kd.C_drew ?_))); (case side4 => exact HC0_3.out); rintro e w13 ⟨rfl, hb⟩; refine ⟨_, rfl, ?_⟩; have n0_ := Aside0.mk (blk_below (g := gb185) (o := .cells #[.int .u64 a0_0, .int .u64 a0_1, .slice A0_2 l0_2.length c0_2, .slice A0_3 l0_3.length c0_3] 25 (0, 0)) (by (with_reducible repeat (first | refine blk_drewN ?_ _ | refine blk_drew ?_ | refine blk_alloc ?_ _)); exact BK185.out) hb); have n1_ := Aside0.mk (below_step (by repeat (first | (with_reducible first | exact HB.out | apply below_alloc | apply pw_below_drewN | apply below_drew1 | refine below_set ?_ GE185.out) | exact HB.out)) hb); clear BK185; clear HB; have BK185 := n0_; have HB := n1_; clear n0_ n1_; (try clear hb); (try clear hb2); (try clear hk); (try clear hi)))
          have n0_ := Aside0.mk (blk_drew BK185.out)
          have n1_ := Aside0.mk (below_drew1 HB.out)
          clear BK185
          clear HB
          have BK185 := n0_
          have HB := n1_
          clear n0_ n1_
          refine start_ (n := 20) (S := fun w' => w'.cell? ⟨gb185, 0, none⟩ = some (.int .u64 a0_0) ∧ w'.cell? ⟨gb185, 1, none⟩ = some (.int .u64 a0_1) ∧ w'.cell? ⟨gb185, 2, none⟩ = some (.slice A0_2 l0_2.length c0_2) ∧ w'.cell? ⟨gb185, 3, none⟩ = some (.slice A0_3 l0_3.length c0_3)) (ds := []) #[false, false, false, false, false, false, false, false, false, false, false, false, false, false, false, false, false, false, false, false] (by kernel_rfl) rfl rfl ⟨(blk_cell BK185.out 0).trans rfl, (blk_cell BK185.out 1).trans rfl, (blk_cell BK185.out 2).trans rfl, (blk_cell BK185.out 3).trans rfl⟩ (fun hHeld => ?_); refine with_tabW nautilusref16_Encode.tab4 nautilusref16_Encode.bits4 (fun HT_ HW_ => ?_)
          generalize w13.drew = w14 at BK185 HB hHeld ⊢
          refine pure_ (i := 0) (N := some 12) (v := ?_) (a' := ?_) #[true, false, false, false, false, false, false, false, false, false, false, false, false, false, false, false, false, false, false, false] rfl rfl (any_of HT_.out (by kernel_rfl)) (fun _ _ _ h => h) (Or.inl ⟨by rfl, ?_⟩) ?_ ?_
          rotate_left
          · intro w'
            go_simp
            with_reducible rfl
          rotate_left
          · simp only [Act.put, List.setIfInBounds_toArray, List.set_cons_zero, List.set_cons_succ, i64_w, i32_w]
            rfl
          refine pure_ (i := 3) (N := some 15) (v := ?_) (a' := ?_) #[true, false, false, true, false, false, false, false, false, false, false, false, false, false, false, false, false, false, false, false] rfl rfl (any_of HT_.out (by kernel_rfl)) (fun _ _ _ h => h) (Or.inl ⟨by rfl, ?_⟩) ?_ ?_
          rotate_left
          · intro w'
            go_simp
            with_reducible rfl
          rotate_left
          · simp only [Act.put, List.setIfInBounds_toArray, List.set_cons_zero, List.set_cons_succ, i64_w, i32_w]
            rfl
          refine pure_ (i := 7) (N := some 19) (v := ?_) (a' := ?_) #[true, false, false, true, false, false, false, true, false, false, false, false, false, false, false, false, false, false, false, false] rfl rfl (any_of HT_.out (by kernel_rfl)) (fun _ _ _ h => h) (Or.inl ⟨by rfl, ?_⟩) ?_ ?_
          rotate_left
          · intro w'
            go_simp
            with_reducible rfl
          rotate_left
          · simp only [Act.put, List.setIfInBounds_toArray, List.set_cons_zero, List.set_cons_succ, i64_w, i32_w]
            rfl
          refine pure_ (i := 13) (N := some 25) (v := ?_) (a' := ?_) #[true, false, false, true, false, false, false, true, false, false, false, false, false, true, false, false, false, false, false, false] rfl rfl (any_of HT_.out (by kernel_rfl)) (fun _ _ _ h => h) (Or.inl ⟨by rfl, ?_⟩) ?_ ?_
          rotate_left
          · intro w'
            go_simp
            with_reducible rfl
          rotate_left
          · simp only [Act.put, List.setIfInBounds_toArray, List.set_cons_zero, List.set_cons_succ, i64_w, i32_w]
            rfl
          refine take_ (i := 1) (N := some 13) (v := ?_) (a' := ?_) #[true, true, false, true, false, false, false, true, false, false, false, false, false, true, false, false, false, false, false, false] rfl rfl (take_ofW HT_.out HW_.out (by kernel_rfl)) (fun _ _ _ h => h) (Or.inl ⟨by rfl, ?_⟩) hHeld ?_ ?_
          rotate_left
          · rintro w' ⟨s0, s1, s2, s3⟩
            go_simp
            with_reducible rfl
          rotate_left
          · simp only [Act.put, List.setIfInBounds_toArray, List.set_cons_zero, List.set_cons_succ, i64_w, i32_w]
            rfl
          refine take_ (i := 4) (N := some 16) (v := ?_) (a' := ?_) #[true, true, false, true, true, false, false, true, false, false, false, false, false, true, false, false, false, false, false, false] rfl rfl (take_ofW HT_.out HW_.out (by kernel_rfl)) (fun _ _ _ h => h) (Or.inl ⟨by rfl, ?_⟩) hHeld ?_ ?_
          rotate_left
          · rintro w' ⟨s0, s1, s2, s3⟩
            go_simp
            with_reducible rfl
          rotate_left
          · simp only [Act.put, List.setIfInBounds_toArray, List.set_cons_zero, List.set_cons_succ, i64_w, i32_w]
            rfl
          refine take_ (i := 8) (N := some 20) (v := ?_) (a' := ?_) #[true, true, false, true, true, false, false, true, true, false, false, false, false, true, false, false, false, false, false, false] rfl rfl (take_ofW HT_.out HW_.out (by kernel_rfl)) (fun _ _ _ h => h) (Or.inl ⟨by rfl, ?_⟩) hHeld ?_ ?_
          rotate_left
          · rintro w' ⟨s0, s1, s2, s3⟩
            go_simp
            with_reducible rfl
          rotate_left
          · simp only [Act.put, List.setIfInBounds_toArray, List.set_cons_zero, List.set_cons_succ, i64_w, i32_w]
            rfl
          refine pure_ (i := 9) (N := some 21) (v := ?_) (a' := ?_) #[true, true, false, true, true, false, false, true, true, true, false, false, false, true, false, false, false, false, false, false] rfl rfl (any_of HT_.out (by kernel_rfl)) (fun _ _ _ h => h) (Or.inl ⟨by rfl, ?_⟩) ?_ ?_
          rotate_left
          · intro w'
            go_simp
            with_reducible rfl
          rotate_left
          · simp only [Act.put, List.setIfInBounds_toArray, List.set_cons_zero, List.set_cons_succ, i64_w, i32_w]
            rfl
          refine pure_ (i := 10) (N := some 22) (v := ?_) (a' := ?_) #[true, true, false, true, true, false, false, true, true, true, true, false, false, true, false, false, false, false, false, false] rfl rfl (any_of HT_.out (by kernel_rfl)) (fun _ _ _ h => h) (Or.inl ⟨by rfl, ?_⟩) ?_ ?_
          rotate_left
          · intro w'
            go_simp
            with_reducible rfl
          rotate_left
          · simp only [Act.put, List.setIfInBounds_toArray, List.set_cons_zero, List.set_cons_succ, i64_w, i32_w]
            rfl
          refine take_ (i := 14) (N := some 26) (v := ?_) (a' := ?_) #[true, true, false, true, true, false, false, true, true, true, true, false, false, true, true, false, false, false, false, false] rfl rfl (take_ofW HT_.out HW_.out (by kernel_rfl)) (fun _ _ _ h => h) (Or.inl ⟨by rfl, ?_⟩) hHeld ?_ ?_
          rotate_left
          · rintro w' ⟨s0, s1, s2, s3⟩
            go_simp
            with_reducible rfl
          rotate_left
          · simp only [Act.put, List.setIfInBounds_toArray, List.set_cons_zero, List.set_cons_succ, i64_w, i32_w]
            rfl
          refine pure_ (i := 15) (N := some 27) (v := ?_) (a' := ?_) #[true, true, false, true, true, false, false, true, true, true, true, false, false, true, true, true, false, false, false, false] rfl rfl (any_of HT_.out (by kernel_rfl)) (fun _ _ _ h => h) (Or.inl ⟨by rfl, ?_⟩) ?_ ?_
          rotate_left
          · intro w'
            go_simp
            with_reducible rfl
          rotate_left
          · simp only [Act.put, List.setIfInBounds_toArray, List.set_cons_zero, List.set_cons_succ, i64_w, i32_w]
            rfl
          refine pure_ (i := 16) (N := some 28) (v := ?_) (a' := ?_) #[true, true, false, true, true, false, false, true, true, true, true, false, false, true, true, true, true, false, false, false] rfl rfl (any_of HT_.out (by kernel_rfl)) (fun _ _ _ h => h) (Or.inl ⟨by rfl, ?_⟩) ?_ ?_
          rotate_left
          · intro w'
            go_simp
            with_reducible rfl
          rotate_left
          · simp only [Act.put, List.setIfInBounds_toArray, List.set_cons_zero, List.set_cons_succ, i64_w, i32_w]
            rfl
          refine one_ (i := 2) (N := some 14) #[true, true, true, true, true, false, false, true, true, true, true, false, false, true, true, true, true, false, false, false] rfl rfl (one_of HT_.out (by kernel_rfl)) (by decide) (fun K hK => ?_)
          refine goes_ Try.func22 (by kernel_rfl) rfl #[.int .u64 a0_0, .int .i64 6] (by rfl) rfl rfl (by (try simp only [List.map_toArray, List.map_cons, List.map_nil]); first | done | rfl | (simp only [List.length_drop, List.length_take]; rfl)) ?_
          with_reducible refine (nautilusref01_Bytes.calls k a0_0 6 t187 _ A4.out).mono ?_
          rintro e w15 ⟨rfl, hb⟩
          refine ⟨_, rfl, ?_⟩
          have n0_ := Aside0.mk (blk_below (g := gb185) (o := .cells #[.int .u64 a0_0, .int .u64 a0_1, .slice A0_2 l0_2.length c0_2, .slice A0_3 l0_3.length c0_3] 25 (0, 0)) (by (with_reducible repeat (first | refine blk_drewN ?_ _ | refine blk_drew ?_ | refine blk_alloc ?_ _)); exact BK185.out) hb)
          have n1_ := Aside0.mk (below_step (by repeat (first | (with_reducible first | exact HB.out | apply below_alloc | apply pw_below_drewN | apply below_drew1 | refine below_set ?_ GE185.out) | exact HB.out)) hb)
          clear BK185
          clear HB
          have BK185 := n0_
          have HB := n1_
          clear n0_ n1_
          (try clear hb)
          (try clear hb2)
          (try clear hk)
          (try clear hi)
          refine hK.out _ _ ⟨(blk_cell BK185.out 0).trans rfl, (blk_cell BK185.out 1).trans rfl, (blk_cell BK185.out 2).trans rfl, (blk_cell BK185.out 3).trans rfl⟩ (fun hHeld => ?_)
          clear hK K
          refine norm_ (a' := ?_) ?_ ?_
          rotate_left
          · show Act.put _ (some 14) _ = _
            simp only [Act.put, List.setIfInBounds_toArray, List.set_cons_zero, List.set_cons_succ, i64_w, i32_w]
            rfl
          refine one_ (i := 5) (N := some 17) #[true, true, true, true, true, true, false, true, true, true, true, false, false, true, true, true, true, false, false, false] rfl rfl (one_of HT_.out (by kernel_rfl)) (by decide) (fun K hK => ?_)
          refine goes_ Try.func22 (by kernel_rfl) rfl #[.int .u64 a0_1, .int .i64 6] (by rfl) rfl rfl (by (try simp only [List.map_toArray, List.map_cons, List.map_nil]); first | done | rfl | (simp only [List.length_drop, List.length_take]; rfl)) ?_
          with_reducible refine (nautilusref01_Bytes.calls k a0_1 6 t188 _ A5.out).mono ?_
          rintro e w16 ⟨rfl, hb⟩
          refine ⟨_, rfl, ?_⟩
          have n0_ := Aside0.mk (blk_below (g := gb185) (o := .cells #[.int .u64 a0_0, .int .u64 a0_1, .slice A0_2 l0_2.length c0_2, .slice A0_3 l0_3.length c0_3] 25 (0, 0)) (by (with_reducible repeat (first | refine blk_drewN ?_ _ | refine blk_drew ?_ | refine blk_alloc ?_ _)); exact BK185.out) hb)
          have n1_ := Aside0.mk (below_step (by repeat (first | (with_reducible first | exact HB.out | apply below_alloc | apply pw_below_drewN | apply below_drew1 | refine below_set ?_ GE185.out) | exact HB.out)) hb)
          clear BK185
          clear HB
          have BK185 := n0_
          have HB := n1_
          clear n0_ n1_
          (try clear hb)
          (try clear hb2)
          (try clear hk)
          (try clear hi)
          refine hK.out _ _ ⟨(blk_cell BK185.out 0).trans rfl, (blk_cell BK185.out 1).trans rfl, (blk_cell BK185.out 2).trans rfl, (blk_cell BK185.out 3).trans rfl⟩ (fun hHeld => ?_)
          clear hK K
          refine norm_ (a' := ?_) ?_ ?_
          rotate_left
          · show Act.put _ (some 17) _ = _
            simp only [Act.put, List.setIfInBounds_toArray, List.set_cons_zero, List.set_cons_succ, i64_w, i32_w]
            rfl
          refine pure_ (i := 6) (N := some 18) (v := ?_) (a' := ?_) #[true, true, true, true, true, true, true, true, true, true, true, false, false, true, true, true, true, false, false, false] rfl rfl (any_of HT_.out (by kernel_rfl)) (fun _ _ _ h => h) (Or.inl ⟨by rfl, ?_⟩) ?_ ?_
          rotate_left
          · intro w'
            go_simp
            with_reducible rfl
          rotate_left
          · simp only [Act.put, List.setIfInBounds_toArray, List.set_cons_zero, List.set_cons_succ, i64_w, i32_w]
            rfl
          refine one_ (i := 11) (N := some 23) #[true, true, true, true, true, true, true, true, true, true, true, true, false, true, true, true, true, false, false, false] rfl rfl (one_of HT_.out (by kernel_rfl)) (by decide) (fun K hK => ?_)
          refine goes_ Try.func22 (by kernel_rfl) rfl #[.int .u64 (IntKind.u64.wrap ((l0_2.length : Int))), .int .i64 1] (by rfl) rfl rfl (by (try simp only [List.map_toArray, List.map_cons, List.map_nil]); first | done | rfl | (simp only [List.length_drop, List.length_take]; rfl) | (simp [Act.eval, go_sem]; simp only [decide_eq_false_iff_not, decide_eq_true_eq] at *; (repeat' apply And.intro) <;> first | done | (symm; first | (apply IntWalk.u64_in; omega) | (apply IntWalk.u32_in; omega) | (apply IntWalk.i64_in; omega) | (apply IntWalk.wrap64_in; omega) | (apply IntWalk.u16_in; omega) | (apply IntWalk.u8_in; omega)))) ?_
          with_reducible refine (nautilusref01_Bytes.calls k (IntKind.u64.wrap ((l0_2.length : Int))) 1 t189 _ A7.out).mono ?_
          rintro e w17 ⟨rfl, hb⟩
          refine ⟨_, rfl, ?_⟩
          have n0_ := Aside0.mk (blk_below (g := gb185) (o := .cells #[.int .u64 a0_0, .int .u64 a0_1, .slice A0_2 l0_2.length c0_2, .slice A0_3 l0_3.length c0_3] 25 (0, 0)) (by (with_reducible repeat (first | refine blk_drewN ?_ _ | refine blk_drew ?_ | refine blk_alloc ?_ _)); exact BK185.out) hb)
          have n1_ := Aside0.mk (below_step (by repeat (first | (with_reducible first | exact HB.out | apply below_alloc | apply pw_below_drewN | apply below_drew1 | refine below_set ?_ GE185.out) | exact HB.out)) hb)
          clear BK185
          clear HB
          have BK185 := n0_
          have HB := n1_
          clear n0_ n1_
          (try clear hb)
          (try clear hb2)
          (try clear hk)
          (try clear hi)
          refine hK.out _ _ ⟨(blk_cell BK185.out 0).trans rfl, (blk_cell BK185.out 1).trans rfl, (blk_cell BK185.out 2).trans rfl, (blk_cell BK185.out 3).trans rfl⟩ (fun hHeld => ?_)
          clear hK K
          refine norm_ (a' := ?_) ?_ ?_
          rotate_left
          · show Act.put _ (some 23) _ = _
            simp only [Act.put, List.setIfInBounds_toArray, List.set_cons_zero, List.set_cons_succ, i64_w, i32_w]
            rfl
          refine pure_ (i := 12) (N := some 24) (v := ?_) (a' := ?_) #[true, true, true, true, true, true, true, true, true, true, true, true, true, true, true, true, true, false, false, false] rfl rfl (any_of HT_.out (by kernel_rfl)) (fun _ _ _ h => h) (Or.inl ⟨by rfl, ?_⟩) ?_ ?_
          rotate_left
          · intro w'
            go_simp
            with_reducible rfl
          rotate_left
          · simp only [Act.put, List.setIfInBounds_toArray, List.set_cons_zero, List.set_cons_succ, i64_w, i32_w]
            rfl
          refine one_ (i := 17) (N := some 29) #[true, true, true, true, true, true, true, true, true, true, true, true, true, true, true, true, true, true, false, false] rfl rfl (one_of HT_.out (by kernel_rfl)) (by decide) (fun K hK => ?_)
          refine goes_ Try.func22 (by kernel_rfl) rfl #[.int .u64 (IntKind.u64.wrap ((l0_3.length : Int))), .int .i64 1] (by rfl) rfl rfl (by (try simp only [List.map_toArray, List.map_cons, List.map_nil]); first | done | rfl | (simp only [List.length_drop, List.length_take]; rfl) | (simp [Act.eval, go_sem]; simp only [decide_eq_false_iff_not, decide_eq_true_eq] at *; (repeat' apply And.intro) <;> first | done | (symm; first | (apply IntWalk.u64_in; omega) | (apply IntWalk.u32_in; omega) | (apply IntWalk.i64_in; omega) | (apply IntWalk.wrap64_in; omega) | (apply IntWalk.u16_in; omega) | (apply IntWalk.u8_in; omega)))) ?_
          with_reducible refine (nautilusref01_Bytes.calls k (IntKind.u64.wrap ((l0_3.length : Int))) 1 t190 _ A9.out).mono ?_
          rintro e w18 ⟨rfl, hb⟩
          refine ⟨_, rfl, ?_⟩
          have n0_ := Aside0.mk (blk_below (g := gb185) (o := .cells #[.int .u64 a0_0, .int .u64 a0_1, .slice A0_2 l0_2.length c0_2, .slice A0_3 l0_3.length c0_3] 25 (0, 0)) (by (with_reducible repeat (first | refine blk_drewN ?_ _ | refine blk_drew ?_ | refine blk_alloc ?_ _)); exact BK185.out) hb)
          have n1_ := Aside0.mk (below_step (by repeat (first | (with_reducible first | exact HB.out | apply below_alloc | apply pw_below_drewN | apply below_drew1 | refine below_set ?_ GE185.out) | exact HB.out)) hb)
          clear BK185
          clear HB
          have BK185 := n0_
          have HB := n1_
          clear n0_ n1_
          (try clear hb)
          (try clear hb2)
          (try clear hk)
          (try clear hi)
          refine hK.out _ _ ⟨(blk_cell BK185.out 0).trans rfl, (blk_cell BK185.out 1).trans rfl, (blk_cell BK185.out 2).trans rfl, (blk_cell BK185.out 3).trans rfl⟩ (fun hHeld => ?_)
          clear hK K
          refine norm_ (a' := ?_) ?_ ?_
          rotate_left
          · show Act.put _ (some 29) _ = _
            simp only [Act.put, List.setIfInBounds_toArray, List.set_cons_zero, List.set_cons_succ, i64_w, i32_w]
            rfl
          refine pure_ (i := 18) (N := some 30) (v := ?_) (a' := ?_) #[true, true, true, true, true, true, true, true, true, true, true, true, true, true, true, true, true, true, true, false] rfl rfl (any_of HT_.out (by kernel_rfl)) (fun _ _ _ h => h) (Or.inl ⟨by rfl, ?_⟩) ?_ ?_
          rotate_left
          · intro w'
            go_simp
            with_reducible rfl
          rotate_left
          · simp only [Act.put, List.setIfInBounds_toArray, List.set_cons_zero, List.set_cons_succ, i64_w, i32_w]
            rfl
          refine pure_ (i := 19) (N := some 5) (v := ?_) (a' := ?_) #[true, true, true, true, true, true, true, true, true, true, true, true, true, true, true, true, true, true, true, true] rfl rfl (any_of HT_.out (by kernel_rfl)) (fun _ _ _ h => h) (Or.inl ⟨by rfl, ?_⟩) ?_ ?_
          rotate_left
          · intro w'
            go_simp
            with_reducible rfl
          rotate_left
          · simp only [Act.put, List.setIfInBounds_toArray, List.set_cons_zero, List.set_cons_succ, i64_w, i32_w]
            rfl
          refine done_ (done_of HT_.out (by kernel_rfl)) ?_
          try go_wp2
          go_loopg [5, 6] k (fun kq v5 v6 w' => ∃ (x5_1 : ByteArray) (x6_1 : Int), v5 = .string x5_1 ∧ v6 = .int .i64 x6_1 ∧ Aside0 (nautilusref16_Encode.l0 kq x5_1 x6_1 a0_0 a0_1 l0_2 l0_3 = some (r1, r2)) ∧ Aside0 (kq ≤ k) ∧ Aside0 (w'.heap[gb185]? = some (.cells #[.int .u64 a0_0, .int .u64 a0_1, (.slice A0_2 l0_2.length c0_2), (.slice A0_3 l0_3.length c0_3)] 25 (0, 0))) ∧ Aside0 (Below w.heap.size w w'))
          case atStart => exact ⟨(((t187 ++ t188) ++ t189) ++ t190), (0), (by first | rfl | (simp; done) | (simp [*]; done)), (by first | rfl | (simp; done) | (simp [*]; done)), H', ⟨Nat.le_refl _⟩, ⟨by (with_reducible repeat (first | refine blk_drewN ?_ _ | refine blk_drew ?_ | refine blk_alloc ?_ _)); exact BK185.out⟩, ⟨by repeat (first | (with_reducible first | exact HB.out | apply below_alloc | apply pw_below_drewN | apply below_drew1 | refine below_set ?_ GE185.out) | exact HB.out)⟩⟩
          case round =>
            clear H'
            try clear c1
            try clear c2
            try clear p2
            try clear c3
            try clear c6
            try clear c6b0
            try clear c6b1
            try clear c6b2
            try clear c8
            try clear c8b0
            try clear c8b1
            try clear c8b2
            try clear c9
            try clear c10
            try clear c10b0
            try clear c10b1
            try clear c10b2
            try clear c13
            try clear hcz12_0
            try clear hcz12_1
            try clear hcz12_2
            try clear hcz12_3
            try clear hfz12_0
            try clear hfz12_1
            try clear hfz12_2
            try clear hfz12_3
            obtain ⟨x5_1, x6_1, rfl, rfl, HA, HK1, BK185, HB⟩ := hrel
            cases gk with
            | zero => exact absurd HA.out (by simp [nautilusref16_Encode.l0])
            | succ k1 =>
              have H := HA.out
              clear HA
              simp only [nautilusref16_Encode.l0] at H
              by_cases c19 : x6_1 < (l0_2.length : Int)
              · rw [if_pos c19] at H
                have c19b0 : decide (x6_1 < (l0_2.length : Int)) = true := decide_eq_true c19
                clear c19
                by_cases c20 : 0 ≤ x6_1
                · rw [if_pos c20] at H
                  have c20b0 : decide (0 ≤ x6_1) = true := decide_eq_true c20
                  clear c20
                  replace H := Option.bind_eq_some_iff.mp H
                  obtain ⟨t192, A210, H⟩ := H
                  replace H : (if x5_1.size + t192.size ≤ 9223372036854775807 then (nautilusref16_Encode.l0 k1 (x5_1 ++ t192) (wrap64 (x6_1 + 1)) a0_0 a0_1 l0_2 l0_3) else (none)) = some (r1, r2) := H
                  have A21 := Aside0.mk A210
                  clear A210
                  by_cases c22 : x5_1.size + t192.size ≤ 9223372036854775807
                  · rw [if_pos c22] at H
                    have c22b0 := eq_true c22
                    have c22b1 : decide (x5_1.size + t192.size ≤ 9223372036854775807) = true := decide_eq_true c22
                    try have c22b2 : (9223372036854775807 < x5_1.size + t192.size) = False := eq_false (Nat.not_lt.2 c22)
                    have H' := Aside0.mk H
                    clear H
                    have hcz23_0 : wr.cell? ⟨gb185, 0, none⟩ = some (.int .u64 a0_0) := (blk_cell BK185.out 0).trans rfl
                    have hcz23_1 : wr.cell? ⟨gb185, 1, none⟩ = some (.int .u64 a0_1) := (blk_cell BK185.out 1).trans rfl
                    have hcz23_2 : wr.cell? ⟨gb185, 2, none⟩ = some (.slice A0_2 l0_2.length c0_2) := (blk_cell BK185.out 2).trans rfl
                    have hcz23_3 : wr.cell? ⟨gb185, 3, none⟩ = some (.slice A0_3 l0_3.length c0_3) := (blk_cell BK185.out 3).trans rfl
                    have hfz23_0 := blk_frozen BK185.out 0
                    have hfz23_1 := blk_frozen BK185.out 1
                    have hfz23_2 := blk_frozen BK185.out 2
                    have hfz23_3 := blk_frozen BK185.out 3
                    have p191 : 0 ≤ (x6_1 : Int) := of_decide_eq_true (by first | (with_reducible assumption) | assumption)
                    have q191 : x6_1 < (l0_2.length : Int) := of_decide_eq_true (by first | (with_reducible assumption) | assumption)
                    obtain ⟨ad191, e191, hx191_0⟩ := Kd.at_int HR0_2.out x6_1 p191 q191
                    cases e191
                    replace hx191_0 := (HB.out.cell (World.block_lt_of_cell? w _ hx191_0)).trans hx191_0
                    replace p191 := eq_true p191
                    replace q191 := eq_true q191
                    go_wp2_with (first | ((with_reducible refine gate_callee (f := 22) rfl ?_); refine goesL_ (some 45) rfl rfl Try.func22 (by kernel_rfl) rfl #[.int .u64 (IntKind.u64.wrap (rd l0_2 x6_1)), .int .i64 4] rfl (by (try simp only [List.map_toArray, List.map_cons, List.map_nil]); first | done | rfl | (simp only [List.length_drop, List.length_take]; rfl) | (simp [Act.eval, go_sem]; simp only [decide_eq_false_iff_not, decide_eq_true_eq] at *; (repeat' apply And.intro) <;> first | done | (symm; first | (apply IntWalk.u64_in; omega) | (apply IntWalk.u32_in; omega) | (apply IntWalk.i64_in; omega) | (apply IntWalk.wrap64_in; omega) | (apply IntWalk.u16_in; omega) | (apply IntWalk.u8_in; omega)))) ?_; (with_reducible refine (nautilusref01_Bytes.calls k1 (IntKind.u64.wrap (rd l0_2 x6_1)) 4 t192 _ A21.out).mono ?_); rintro e w24 ⟨rfl, hb⟩; refine ⟨_, rfl, ?_⟩; have n0_ := Aside0.mk (blk_below (g := gb185) (o := .cells #[.int .u64 a0_0, .int .u64 a0_1, .slice (some ad191) l0_2.length c0_2, .slice A0_3 l0_3.length c0_3] 25 (0, 0)) (by (with_reducible repeat (first | refine blk_drewN ?_ _ | refine blk_drew ?_ | refine blk_alloc ?_ _)); exact BK185.out) hb); have n1_ := Aside0.mk (below_step (by repeat (first | (with_reducible first | exact HB.out | apply below_alloc | apply pw_below_drewN | apply below_drew1 | refine below_set ?_ GE185.out) | exact HB.out)) hb); clear BK185; clear HB; have BK185 := n0_; have HB := n1_; clear n0_ n1_; (try clear hb); (try clear hb2); (try clear hk); (try clear hi)))
                    go_roundg k1
                    case measure => have := HK1.out; omega
                    case rel => exact ⟨(x5_1 ++ t192), (wrap64 (x6_1 + 1)), (by first | rfl | (simp; done) | (simp [*]; done)), (by first | rfl | (simp; done) | (simp [*]; done)), H', ⟨by have := HK1.out; omega⟩, ⟨by (with_reducible repeat (first | refine blk_drewN ?_ _ | refine blk_drew ?_ | refine blk_alloc ?_ _)); exact BK185.out⟩, ⟨by repeat (first | (with_reducible first | exact HB.out | apply below_alloc | apply pw_below_drewN | apply below_drew1 | refine below_set ?_ GE185.out) | exact HB.out)⟩⟩
                  · rw [if_neg c22] at H
                    exact absurd H (by simp)
                · rw [if_neg c20] at H
                  exact absurd H (by simp)
              · rw [if_neg c19] at H
                have c19b0 : decide (x6_1 < (l0_2.length : Int)) = false := decide_eq_false c19
                clear c19
                have H' := Aside0.mk H
                clear H
                have hcz25_0 : wr.cell? ⟨gb185, 0, none⟩ = some (.int .u64 a0_0) := (blk_cell BK185.out 0).trans rfl
                have hcz25_1 : wr.cell? ⟨gb185, 1, none⟩ = some (.int .u64 a0_1) := (blk_cell BK185.out 1).trans rfl
                have hcz25_2 : wr.cell? ⟨gb185, 2, none⟩ = some (.slice A0_2 l0_2.length c0_2) := (blk_cell BK185.out 2).trans rfl
                have hcz25_3 : wr.cell? ⟨gb185, 3, none⟩ = some (.slice A0_3 l0_3.length c0_3) := (blk_cell BK185.out 3).trans rfl
                have hfz25_0 := blk_frozen BK185.out 0
                have hfz25_1 := blk_frozen BK185.out 1
                have hfz25_2 := blk_frozen BK185.out 2
                have hfz25_3 := blk_frozen BK185.out 3
                go_wp2
                go_loopg [5, 7] k1 (fun kq v5 v7 w' => ∃ (x5_2 : ByteArray) (x7_2 : Int), v5 = .string x5_2 ∧ v7 = .int .i64 x7_2 ∧ Aside0 (nautilusref16_Encode.l1 kq x5_2 x7_2 a0_0 a0_1 l0_2 l0_3 = some (r1, r2)) ∧ Aside0 (kq ≤ k1) ∧ Aside0 (w'.heap[gb185]? = some (.cells #[.int .u64 a0_0, .int .u64 a0_1, (.slice A0_2 l0_2.length c0_2), (.slice A0_3 l0_3.length c0_3)] 25 (0, 0))) ∧ Aside0 (Below w.heap.size w w'))
                case atStart => exact ⟨(x5_1), (0), (by first | rfl | (simp; done) | (simp [*]; done)), (by first | rfl | (simp; done) | (simp [*]; done)), H', ⟨Nat.le_refl _⟩, ⟨by (with_reducible repeat (first | refine blk_drewN ?_ _ | refine blk_drew ?_ | refine blk_alloc ?_ _)); exact BK185.out⟩, ⟨by repeat (first | (with_reducible first | exact HB.out | apply below_alloc | apply pw_below_drewN | apply below_drew1 | refine below_set ?_ GE185.out) | exact HB.out)⟩⟩
                case round =>
                  clear H'
                  try clear c1
                  try clear p1
                  try clear q1
                  try clear hx1
                  try clear c2
                  try clear p2
                  try clear c3
                  try clear c6
                  try clear c6b0
                  try clear c6b1
                  try clear c6b2
                  try clear p6
                  try clear c8
                  try clear c8b0
                  try clear c8b1
                  try clear c8b2
                  try clear c9
                  try clear c10
                  try clear c10b0
                  try clear c10b1
                  try clear c10b2
                  try clear c13
                  try clear c19
                  try clear c19b0
                  try clear p19
                  try clear q19
                  try clear hx19
                  try clear c20
                  try clear c20b0
                  try clear c22
                  try clear c22b0
                  try clear c22b1
                  try clear c22b2
                  try clear hcz12_0
                  try clear hcz12_1
                  try clear hcz12_2
                  try clear hcz12_3
                  try clear hcz23_0
                  try clear hcz23_1
                  try clear hcz23_2
                  try clear hcz23_3
                  try clear hcz25_0
                  try clear hcz25_1
                  try clear hcz25_2
                  try clear hcz25_3
                  try clear hfz12_0
                  try clear hfz12_1
                  try clear hfz12_2
                  try clear hfz12_3
                  try clear hfz23_0
                  try clear hfz23_1
                  try clear hfz23_2
                  try clear hfz23_3
                  try clear hfz25_0
                  try clear hfz25_1
                  try clear hfz25_2
                  try clear hfz25_3
                  try clear hx191_0
                  try clear p191
                  try clear p2
                  try clear q191
                  obtain ⟨x5_2, x7_2, rfl, rfl, HA, HK2, BK185, HB⟩ := hrel
                  cases gk with
                  | zero => exact absurd HA.out (by simp [nautilusref16_Encode.l1])
                  | succ k2 =>
                    have H := HA.out
                    clear HA
                    simp only [nautilusref16_Encode.l1] at H
                    by_cases c26 : x7_2 < (l0_3.length : Int)
                    · rw [if_pos c26] at H
                      have c26b0 : decide (x7_2 < (l0_3.length : Int)) = true := decide_eq_true c26
                      clear c26
                      by_cases c27 : 0 ≤ x7_2
                      · rw [if_pos c27] at H
                        have c27b0 : decide (0 ≤ x7_2) = true := decide_eq_true c27
                        clear c27
                        replace H := Option.bind_eq_some_iff.mp H
                        obtain ⟨t194, A280, H⟩ := H
                        replace H : (if x5_2.size + t194.size ≤ 9223372036854775807 then (nautilusref16_Encode.l1 k2 (x5_2 ++ t194) (wrap64 (x7_2 + 1)) a0_0 a0_1 l0_2 l0_3) else (none)) = some (r1, r2) := H
                        have A28 := Aside0.mk A280
                        clear A280
                        by_cases c29 : x5_2.size + t194.size ≤ 9223372036854775807
                        · rw [if_pos c29] at H
                          have c29b0 := eq_true c29
                          have c29b1 : decide (x5_2.size + t194.size ≤ 9223372036854775807) = true := decide_eq_true c29
                          try have c29b2 : (9223372036854775807 < x5_2.size + t194.size) = False := eq_false (Nat.not_lt.2 c29)
                          have H' := Aside0.mk H
                          clear H
                          have hcz30_0 : wr.cell? ⟨gb185, 0, none⟩ = some (.int .u64 a0_0) := (blk_cell BK185.out 0).trans rfl
                          have hcz30_1 : wr.cell? ⟨gb185, 1, none⟩ = some (.int .u64 a0_1) := (blk_cell BK185.out 1).trans rfl
                          have hcz30_2 : wr.cell? ⟨gb185, 2, none⟩ = some (.slice A0_2 l0_2.length c0_2) := (blk_cell BK185.out 2).trans rfl
                          have hcz30_3 : wr.cell? ⟨gb185, 3, none⟩ = some (.slice A0_3 l0_3.length c0_3) := (blk_cell BK185.out 3).trans rfl
                          have hfz30_0 := blk_frozen BK185.out 0
                          have hfz30_1 := blk_frozen BK185.out 1
                          have hfz30_2 := blk_frozen BK185.out 2
                          have hfz30_3 := blk_frozen BK185.out 3
                          have p193 : 0 ≤ (x7_2 : Int) := of_decide_eq_true (by first | (with_reducible assumption) | assumption)
                          have q193 : x7_2 < (l0_3.length : Int) := of_decide_eq_true (by first | (with_reducible assumption) | assumption)
                          obtain ⟨ad193, e193, hx193_0⟩ := Kd.at_int HR0_3.out x7_2 p193 q193
                          cases e193
                          replace hx193_0 := (HB.out.cell (World.block_lt_of_cell? w _ hx193_0)).trans hx193_0
                          replace p193 := eq_true p193
                          replace q193 := eq_true q193
                          go_wp2_with (first | ((with_reducible refine gate_callee (f := 22) rfl ?_); refine goesL_ (some 61) rfl rfl Try.func22 (by kernel_rfl) rfl #[.int .u64 (IntKind.u64.wrap (rd l0_3 x7_2)), .int .i64 4] rfl (by (try simp only [List.map_toArray, List.map_cons, List.map_nil]); first | done | rfl | (simp only [List.length_drop, List.length_take]; rfl) | (simp [Act.eval, go_sem]; simp only [decide_eq_false_iff_not, decide_eq_true_eq] at *; (repeat' apply And.intro) <;> first | done | (symm; first | (apply IntWalk.u64_in; omega) | (apply IntWalk.u32_in; omega) | (apply IntWalk.i64_in; omega) | (apply IntWalk.wrap64_in; omega) | (apply IntWalk.u16_in; omega) | (apply IntWalk.u8_in; omega)))) ?_; (with_reducible refine (nautilusref01_Bytes.calls k2 (IntKind.u64.wrap (rd l0_3 x7_2)) 4 t194 _ A28.out).mono ?_); rintro e w31 ⟨rfl, hb⟩; refine ⟨_, rfl, ?_⟩; have n0_ := Aside0.mk (blk_below (g := gb185) (o := .cells #[.int .u64 a0_0, .int .u64 a0_1, .slice A0_2 l0_2.length c0_2, .slice (some ad193) l0_3.length c0_3] 25 (0, 0)) (by (with_reducible repeat (first | refine blk_drewN ?_ _ | refine blk_drew ?_ | refine blk_alloc ?_ _)); exact BK185.out) hb); have n1_ := Aside0.mk (below_step (by repeat (first | (with_reducible first | exact HB.out | apply below_alloc | apply pw_below_drewN | apply below_drew1 | refine below_set ?_ GE185.out) | exact HB.out)) hb); clear BK185; clear HB; have BK185 := n0_; have HB := n1_; clear n0_ n1_; (try clear hb); (try clear hb2); (try clear hk); (try clear hi)))
                          go_roundg k2
                          case measure => have := HK1.out; have := HK2.out; omega
                          case rel => exact ⟨(x5_2 ++ t194), (wrap64 (x7_2 + 1)), (by first | rfl | (simp; done) | (simp [*]; done)), (by first | rfl | (simp; done) | (simp [*]; done)), H', ⟨by have := HK1.out; have := HK2.out; omega⟩, ⟨by (with_reducible repeat (first | refine blk_drewN ?_ _ | refine blk_drew ?_ | refine blk_alloc ?_ _)); exact BK185.out⟩, ⟨by repeat (first | (with_reducible first | exact HB.out | apply below_alloc | apply pw_below_drewN | apply below_drew1 | refine below_set ?_ GE185.out) | exact HB.out)⟩⟩
                        · rw [if_neg c29] at H
                          exact absurd H (by simp)
                      · rw [if_neg c27] at H
                        exact absurd H (by simp)
                    · rw [if_neg c26] at H
                      have c26b0 : decide (x7_2 < (l0_3.length : Int)) = false := decide_eq_false c26
                      clear c26
                      obtain ⟨ji32, hji32⟩ : ∃ j_ : Int, (wrap64 (508 - (x5_2.size : Int))) = j_ := ⟨_, rfl⟩
                      replace H : (if 0 ≤ (ji32) then (if (ji32 : Int).toNat ≤ 281474976710656 then ((some (List.replicate (ji32 : Int).toNat 0 : List Int)).bind fun y195 => (if x5_2.size + (strOfNums y195).size ≤ 9223372036854775807 then (some (x5_2 ++ (strOfNums y195), 0)) else (none))) else (none)) else (none)) = some (r1, r2) := by first | (rw [hji32] at H; exact H) | (simp only [hji32] at H ⊢; exact H)
                      have hji32w : (IntKind.i64.wrap (508 - (x5_2.size : Int))) = ji32 := (i64_w _).trans hji32
                      by_cases c33 : 0 ≤ (ji32)
                      · rw [if_pos c33] at H
                        have c33b0 := eq_true c33
                        have c33b1 : decide (0 ≤ (ji32)) = true := decide_eq_true c33
                        clear c33
                        by_cases c34 : (ji32 : Int).toNat ≤ 281474976710656
                        · rw [if_pos c34] at H
                          have c34b0 := eq_true c34
                          have c34b1 : decide ((ji32 : Int).toNat ≤ 281474976710656) = true := decide_eq_true c34
                          clear c34
                          obtain ⟨y195, hy195⟩ : ∃ y_ : List Int, y_ = (List.replicate (ji32 : Int).toNat 0) := ⟨_, rfl⟩
                          replace H : (if x5_2.size + (strOfNums y195).size ≤ 9223372036854775807 then (some (x5_2 ++ (strOfNums y195), 0)) else (none)) = some (r1, r2) := by first | (rw [hy195]; with_reducible exact H) | (have H2_ := (Option.bind_some _ _).symm.trans H; rw [hy195]; with_reducible exact H2_) | (have H2_ := (Option.bind_some _ _).symm.trans H; with_reducible exact H2_) | with_reducible exact H | (rw [hy195]; exact H) | exact H
                          have Ny195 := Aside0.mk hy195
                          clear hy195
                          by_cases c35 : x5_2.size + (strOfNums y195).size ≤ 9223372036854775807
                          · rw [if_pos c35] at H
                            have c35b0 := eq_true c35
                            have c35b1 : decide (x5_2.size + (strOfNums y195).size ≤ 9223372036854775807) = true := decide_eq_true c35
                            try have c35b2 : (9223372036854775807 < x5_2.size + (strOfNums y195).size) = False := eq_false (Nat.not_lt.2 c35)
                            simp only [Option.some.injEq, Prod.mk.injEq] at H
                            obtain ⟨rfl, rfl⟩ := H
                            have hcz36_0 : wr.cell? ⟨gb185, 0, none⟩ = some (.int .u64 a0_0) := (blk_cell BK185.out 0).trans rfl
                            have hcz36_1 : wr.cell? ⟨gb185, 1, none⟩ = some (.int .u64 a0_1) := (blk_cell BK185.out 1).trans rfl
                            have hcz36_2 : wr.cell? ⟨gb185, 2, none⟩ = some (.slice A0_2 l0_2.length c0_2) := (blk_cell BK185.out 2).trans rfl
                            have hcz36_3 : wr.cell? ⟨gb185, 3, none⟩ = some (.slice A0_3 l0_3.length c0_3) := (blk_cell BK185.out 3).trans rfl
                            have hfz36_0 := blk_frozen BK185.out 0
                            have hfz36_1 := blk_frozen BK185.out 1
                            have hfz36_2 := blk_frozen BK185.out 2
                            have hfz36_3 := blk_frozen BK185.out 3
                            go_wp2_with (first | ((with_reducible refine gate_dst (N := 67) rfl ?_); refine Kd.R_make (Kd.int .u8) _ 5 rfl (N := 67) rfl 38 _ _ rfl ji32 rfl rfl Try.underlying38 (.int .u8 0) 1 info5 rfl (by decide) (by omega) 0 (ok := fun _ => True) (okp := fun _ => True) rfl (fun _ hk => hk) trivial (of_decide_eq_true (by first | (with_reducible assumption) | assumption)) (Nat.le_trans (Nat.mul_le_mul_right _ (of_decide_eq_true (by first | (with_reducible assumption) | assumption) : ji32.toNat ≤ 281474976710656)) (by omega)) (Below.refl _ _) (Nat.le_refl _) ?_; intro v196 w37 ho38 hb hg_ hnew_; clear hg_ hnew_; (first | rw [← Ny195.out] at ho38 | (simp only [Int.reduceToNat] at ho38; rw [← Ny195.out] at ho38)); have n0_ := Aside0.mk (Kd.R_lower ho38 (below_size (by repeat (first | (with_reducible first | exact HB.out | apply below_alloc | apply pw_below_drewN | apply below_drew1 | refine below_set ?_ GE185.out) | exact HB.out)))); have n1_ := Aside0.mk (blk_below (g := gb185) (o := .cells #[.int .u64 a0_0, .int .u64 a0_1, .slice A0_2 l0_2.length c0_2, .slice A0_3 l0_3.length c0_3] 25 (0, 0)) (by (with_reducible repeat (first | refine blk_drewN ?_ _ | refine blk_drew ?_ | refine blk_alloc ?_ _)); exact BK185.out) hb); have n2_ := Aside0.mk (below_step (by repeat (first | (with_reducible first | exact HB.out | apply below_alloc | apply pw_below_drewN | apply below_drew1 | refine below_set ?_ GE185.out) | exact HB.out)) hb); clear BK185; clear HB; have HO197 := n0_; have BK185 := n1_; have HB := n2_; clear n0_ n1_ n2_; clear hb ho38; have hcv39 := own_string (P := Try.prog) Try.underlying38 Try.underlying5 Try.underlying9 (Kd.own_of_R HO197.out)))
                            go_ret2
                            exact ⟨by first | rfl | (simp [errW_none, errW_some] <;> rfl) | (simp only [← hji32]; first | rfl | (simp [errW_none, errW_some] <;> rfl)) | (simp [*, errW_none, errW_some] <;> rfl) | (simp [show IntKind.u64.wrap 0 = 0 from rfl, Int.zero_tdiv]; done), by repeat (first | (with_reducible first | exact HB.out | apply below_alloc | apply pw_below_drewN | apply below_drew1 | refine below_set ?_ GE185.out) | exact HB.out)⟩
                          · rw [if_neg c35] at H
                            exact absurd H (by simp)
                        · rw [if_neg c34] at H
                          exact absurd H (by simp)
                      · rw [if_neg c33] at H
                        exact absurd H (by simp)
        · rw [if_neg c10] at H
          exact absurd H (by simp)
      · rw [if_neg c8] at H
        exact absurd H (by simp)
    · rw [if_neg c6] at H
      exact absurd H (by simp)
  · replace c3 := Bool.eq_false_iff.mpr c3
    subst c3
    have H1 : (some ((⟨#[]⟩ : ByteArray), 153)) = some (r1, r2) := by rw [if_neg (show ¬ (false = true) by decide)] at H; exact H
    clear H
    have H := H1
    clear H1
    simp only [Option.some.injEq, Prod.mk.injEq] at H
    obtain ⟨rfl, rfl⟩ := H
    go_enter Try.func9, Try.ntmps9
    go_wp2_with (first | ((with_reducible refine gate_dst (N := 1) rfl ?_); refine box_event ?hg (N := 1) ?hd (cs := #[.int .u64 a0_0, .int .u64 a0_1, .slice A0_2 l0_2.length c0_2, .slice A0_3 l0_3.length c0_3]) (t := 25) ?hr ?_; (case hd => rfl); (case hg => rfl); (case hr => first | (go_simp; done) | (go_simp; rfl)); intro gb185 hg w40 hbox hb; have n0_ := Aside0.mk (below_step (by repeat (first | (with_reducible first | exact HB.out | apply below_alloc | apply pw_below_drewN | apply below_drew1) | exact HB.out)) hb); have n1_ := Aside0.mk (hbox); have n2_ := Aside0.mk ((by rw [hg]; exact (below_size (by repeat (first | (with_reducible first | exact HB.out | apply below_alloc | apply pw_below_drewN | apply below_drew1) | exact HB.out))) : w.heap.size ≤ gb185)); have n3_ := Aside0.mk ((by rw [hg]; exact (below_size (by repeat (first | (with_reducible first | exact HB.out | apply below_alloc | apply pw_below_drewN | apply below_drew1) | exact HB.out))) : w.heap.size ≤ gb185)); clear HB; have HB := n0_; have BK185 := n1_; have GW185 := n2_; have GE185 := n3_; clear n0_ n1_ n2_ n3_; clear hb hbox hg; have hcz41_0 : w40.cell? ⟨gb185, 0, none⟩ = some (.int .u64 a0_0) := (blk_cell BK185.out 0).trans rfl; have hcz41_1 : w40.cell? ⟨gb185, 1, none⟩ = some (.int .u64 a0_1) := (blk_cell BK185.out 1).trans rfl; have hcz41_2 : w40.cell? ⟨gb185, 2, none⟩ = some (.slice A0_2 l0_2.length c0_2) := (blk_cell BK185.out 2).trans rfl; have hcz41_3 : w40.cell? ⟨gb185, 3, none⟩ = some (.slice A0_3 l0_3.length c0_3) := (blk_cell BK185.out 3).trans rfl; have hfz41_0 := blk_frozen BK185.out 0; have hfz41_1 := blk_frozen BK185.out 1; have hfz41_2 := blk_frozen BK185.out 2; have hfz41_3 := blk_frozen BK185.out 3) | ((with_reducible refine gate_callee (f := 13) rfl ?_); refine goesL_ (some 9) rfl rfl Try.func13 (by kernel_rfl) rfl #[.agg #[.int .u64 a0_0, .int .u64 a0_1, .slice A0_2 l0_2.length c0_2, .slice A0_3 l0_3.length c0_3]] rfl (by (try simp only [List.map_toArray, List.map_cons, List.map_nil]); first | done | rfl | (simp only [List.length_drop, List.length_take]; rfl)) ?_; (with_reducible refine (nautilusref16_Right.calls k a0_0 a0_1 _ _ l0_2 _ _ l0_3 false _ ?side1 ?side2 ?side3 ?side4 A2.out).mono ?_); (case side1 => repeat (first | exact (Kd.C_below HR0_2.out HB.out) | (with_reducible refine Kd.C_alloc ?_ _) | (with_reducible refine Kd.C_drewN ?_ _) | (with_reducible refine Kd.C_drew ?_))); (case side2 => exact HC0_2.out); (case side3 => repeat (first | exact (Kd.C_below HR0_3.out HB.out) | (with_reducible refine Kd.C_alloc ?_ _) | (with_reducible refine Kd.C_drewN ?_ _) | (with_reducible refine Kd.C_drew ?_))); (case side4 => exact HC0_3.out); rintro e w42 ⟨rfl, hb⟩; refine ⟨_, rfl, ?_⟩; have n0_ := Aside0.mk (blk_below (g := gb185) (o := .cells #[.int .u64 a0_0, .int .u64 a0_1, .slice A0_2 l0_2.length c0_2, .slice A0_3 l0_3.length c0_3] 25 (0, 0)) (by (with_reducible repeat (first | refine blk_drewN ?_ _ | refine blk_drew ?_ | refine blk_alloc ?_ _)); exact BK185.out) hb); have n1_ := Aside0.mk (below_step (by repeat (first | (with_reducible first | exact HB.out | apply below_alloc | apply pw_below_drewN | apply below_drew1 | refine below_set ?_ GE185.out) | exact HB.out)) hb); clear BK185; clear HB; have BK185 := n0_; have HB := n1_; clear n0_ n1_; (try clear hb); (try clear hb2); (try clear hk); (try clear hi)))
    go_ret2
    exact ⟨by first | rfl | (simp [errW_none, errW_some] <;> rfl) | (simp [*, errW_none, errW_some] <;> rfl) | (simp [show IntKind.u64.wrap 0 = 0 from rfl, Int.zero_tdiv]; done), by repeat (first | (with_reducible first | exact HB.out | apply below_alloc | apply pw_below_drewN | apply below_drew1 | refine below_set ?_ GE185.out) | exact HB.out)⟩

end Go.Proofs.Ytmpcpcfdomlehaa.Q
