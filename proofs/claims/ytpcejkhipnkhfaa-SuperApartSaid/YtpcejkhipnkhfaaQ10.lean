/- Functions of the translation as plain Lean functions, and that the translation computes them: printed by this session's driver of the print. -/
import Derived.Test.YtpcejkhipnkhfaaQ0
import Derived.Test.YtpcejkhipnkhfaaQ9
namespace Go.Proofs.Ytpcejkhipnkhfaa.Q
open Go.Proofs.Ytpcejkhipnkhfaa.H
open Go.RowKit Go.Proofs.YtpcejkhipnkhfaaW.PrintWords Go.Proofs.YtpcejkhipnkhfaaW.PrintLast Go.Proofs.YtpcejkhipnkhfaaW.PrintMore
attribute [local go_sem] max2_int min2_int max_two min_two max_three min_three max_four min_four   -- for this text's walks alone
set_option linter.unusedVariables false
set_option linter.unusedSimpArgs false

/-! ### nautilusref05_sector: function 23 -/
def nautilusref05_sector.f (k : Nat) (a0_0 : Int) (a0_1 : Int) (a0_2 : Int) (a0_3 : Int) : Option (ByteArray) := (nautilusref01_Bytes.f k (IntKind.u64.wrap (a0_0)) 4).bind fun t135 => (if 4 + t135.size ≤ 9223372036854775807 then ((nautilusref01_Bytes.f k a0_1 6).bind fun t136 => (if ((⟨#[78, 65, 85, 84]⟩ : ByteArray) ++ t135).size + t136.size ≤ 9223372036854775807 then ((nautilusref01_Bytes.f k (IntKind.u64.wrap (a0_2)) 4).bind fun t137 => (if (((⟨#[78, 65, 85, 84]⟩ : ByteArray) ++ t135) ++ t136).size + t137.size ≤ 9223372036854775807 then ((nautilusref01_Bytes.f k a0_3 6).bind fun t138 => (if ((((⟨#[78, 65, 85, 84]⟩ : ByteArray) ++ t135) ++ t136) ++ t137).size + t138.size ≤ 9223372036854775807 then (if 0 ≤ (wrap64 (256 - ((((((⟨#[78, 65, 85, 84]⟩ : ByteArray) ++ t135) ++ t136) ++ t137) ++ t138).size : Int))) then (if (wrap64 (256 - ((((((⟨#[78, 65, 85, 84]⟩ : ByteArray) ++ t135) ++ t136) ++ t137) ++ t138).size : Int)) : Int).toNat ≤ 281474976710656 then ((some (List.replicate (wrap64 (256 - ((((((⟨#[78, 65, 85, 84]⟩ : ByteArray) ++ t135) ++ t136) ++ t137) ++ t138).size : Int)) : Int).toNat 0 : List Int)).bind fun y139 => (if (((((⟨#[78, 65, 85, 84]⟩ : ByteArray) ++ t135) ++ t136) ++ t137) ++ t138).size + (strOfNums y139).size ≤ 9223372036854775807 then (some ((((((⟨#[78, 65, 85, 84]⟩ : ByteArray) ++ t135) ++ t136) ++ t137) ++ t138) ++ (strOfNums y139))) else (none))) else (none)) else (none)) else (none))) else (none))) else (none))) else (none))
theorem nautilusref05_sector.mono : ∀ a0 a1 a2 a3 k, LeO (nautilusref05_sector.f k a0 a1 a2 a3) (nautilusref05_sector.f (k + 1) a0 a1 a2 a3) := by
  intro a0 a1 a2 a3 k
  unfold nautilusref05_sector.f
  repeat' first
      | (with_reducible exact nautilusref01_Bytes.mono _ _ _)
      | (with_reducible exact LeO.refl _)
      | (with_reducible exact LeO.none _)
      | (with_reducible refine LeO.ite ?_ ?_)
      | (with_reducible refine LeO.bind ?_ (fun _ => ?_))
      | exact nautilusref01_Bytes.mono _ _ _
      | exact LeO.none _
      | refine LeO.ite ?_ ?_
      | refine LeO.bind ?_ (fun _ => ?_)
def nautilusref05_sector.T1 : Bool × List (List Nat × List Nat) := (true, [([], []), ([0], [0]), ([1], [1]), ([2], [2]), ([3], [3]), ([], []), ([5], [5]), ([6, 3], [6]), ([4, 7], [4, 7]), ([], []), ([9], [9]), ([10], [10]), ([11, 7], [11]), ([8, 12], [8, 12]), ([], []), ([14], [14]), ([15, 12], [15]), ([13, 16], [13, 16]), ([17, 16, 0, 1, 2, 3, 4, 5, 6, 7, 8, 9, 10, 11, 12, 13, 14, 15, 16, 17], [17])])
def nautilusref05_sector.B1 : List Nat := [0, 1, 3, 7, 15, 0, 32, 111, 255, 0, 512, 1536, 3823, 8191, 0, 16384, 57071, 131071, 262143]
theorem nautilusref05_sector.tab1 : rtab .any (opsOf Try.f23 1) = nautilusref05_sector.T1 := by kernel_rfl
theorem nautilusref05_sector.bits1 : waitsOk nautilusref05_sector.T1.2 nautilusref05_sector.B1 = true := by kernel_rfl
set_option maxHeartbeats 8000000 in
set_option maxRecDepth 100000 in
theorem nautilusref05_sector.calls (k : Nat) (a0_0 : Int) (a0_1 : Int) (a0_2 : Int) (a0_3 : Int) (r : ByteArray) (w : World) (h : nautilusref05_sector.f k a0_0 a0_1 a0_2 a0_3 = some r) :
    Calls Try.prog 23 #[.agg #[.int .i64 a0_0, .int .u64 a0_1, .int .i64 a0_2, .int .u64 a0_3]] w fun e w' => e = .returned (.string r) ∧ Below w.heap.size w w' := by
  have hu24 := Try.underlying24
  have HB := Aside0.mk (Below.refl w.heap.size w)
  have H : ((nautilusref01_Bytes.f k (IntKind.u64.wrap (a0_0)) 4).bind fun t135 => (if 4 + t135.size ≤ 9223372036854775807 then ((nautilusref01_Bytes.f k a0_1 6).bind fun t136 => (if ((⟨#[78, 65, 85, 84]⟩ : ByteArray) ++ t135).size + t136.size ≤ 9223372036854775807 then ((nautilusref01_Bytes.f k (IntKind.u64.wrap (a0_2)) 4).bind fun t137 => (if (((⟨#[78, 65, 85, 84]⟩ : ByteArray) ++ t135) ++ t136).size + t137.size ≤ 9223372036854775807 then ((nautilusref01_Bytes.f k a0_3 6).bind fun t138 => (if ((((⟨#[78, 65, 85, 84]⟩ : ByteArray) ++ t135) ++ t136) ++ t137).size + t138.size ≤ 9223372036854775807 then (if 0 ≤ (wrap64 (256 - ((((((⟨#[78, 65, 85, 84]⟩ : ByteArray) ++ t135) ++ t136) ++ t137) ++ t138).size : Int))) then (if (wrap64 (256 - ((((((⟨#[78, 65, 85, 84]⟩ : ByteArray) ++ t135) ++ t136) ++ t137) ++ t138).size : Int)) : Int).toNat ≤ 281474976710656 then ((some (List.replicate (wrap64 (256 - ((((((⟨#[78, 65, 85, 84]⟩ : ByteArray) ++ t135) ++ t136) ++ t137) ++ t138).size : Int)) : Int).toNat 0 : List Int)).bind fun y139 => (if (((((⟨#[78, 65, 85, 84]⟩ : ByteArray) ++ t135) ++ t136) ++ t137) ++ t138).size + (strOfNums y139).size ≤ 9223372036854775807 then (some ((((((⟨#[78, 65, 85, 84]⟩ : ByteArray) ++ t135) ++ t136) ++ t137) ++ t138) ++ (strOfNums y139))) else (none))) else (none)) else (none)) else (none))) else (none))) else (none))) else (none))) = some r := h
  clear h
  replace H := Option.bind_eq_some_iff.mp H
  obtain ⟨t135, A20, H⟩ := H
  replace H : (if 4 + t135.size ≤ 9223372036854775807 then ((nautilusref01_Bytes.f k a0_1 6).bind fun t136 => (if ((⟨#[78, 65, 85, 84]⟩ : ByteArray) ++ t135).size + t136.size ≤ 9223372036854775807 then ((nautilusref01_Bytes.f k (IntKind.u64.wrap (a0_2)) 4).bind fun t137 => (if (((⟨#[78, 65, 85, 84]⟩ : ByteArray) ++ t135) ++ t136).size + t137.size ≤ 9223372036854775807 then ((nautilusref01_Bytes.f k a0_3 6).bind fun t138 => (if ((((⟨#[78, 65, 85, 84]⟩ : ByteArray) ++ t135) ++ t136) ++ t137).size + t138.size ≤ 9223372036854775807 then (if 0 ≤ (wrap64 (256 - ((((((⟨#[78, 65, 85, 84]⟩ : ByteArray) ++ t135) ++ t136) ++ t137) ++ t138).size : Int))) then (if (wrap64 (256 - ((((((⟨#[78, 65, 85, 84]⟩ : ByteArray) ++ t135) ++ t136) ++ t137) ++ t138).size : Int)) : Int).toNat ≤ 281474976710656 then ((some (List.replicate (wrap64 (256 - ((((((⟨#[78, 65, 85, 84]⟩ : ByteArray) ++ t135) ++ t136) ++ t137) ++ t138).size : Int)) : Int).toNat 0 : List Int)).bind fun y139 => (if (((((⟨#[78, 65, 85, 84]⟩ : ByteArray) ++ t135) ++ t136) ++ t137) ++ t138).size + (strOfNums y139).size ≤ 9223372036854775807 then (some ((((((⟨#[78, 65, 85, 84]⟩ : ByteArray) ++ t135) ++ t136) ++ t137) ++ t138) ++ (strOfNums y139))) else (none))) else (none)) else (none)) else (none))) else (none))) else (none))) else (none)) = some r := H
  have A2 := Aside0.mk A20
  clear A20
  by_cases c3 : 4 + t135.size ≤ 9223372036854775807
  · rw [if_pos c3] at H
    have c3b0 := eq_true c3
    have c3b1 : decide (4 + t135.size ≤ 9223372036854775807) = true := decide_eq_true c3
    obtain ⟨sxa, hsxa⟩ : ∃ s_ : ByteArray, (⟨#[78, 65, 85, 84]⟩ : ByteArray) ++ t135 = s_ := ⟨_, rfl⟩
    rw [hsxa] at H
    try have c3b2 : (9223372036854775807 < 4 + t135.size) = False := eq_false (Nat.not_lt.2 c3)
    replace H := Option.bind_eq_some_iff.mp H
    obtain ⟨t136, A40, H⟩ := H
    replace H : (if sxa.size + t136.size ≤ 9223372036854775807 then ((nautilusref01_Bytes.f k (IntKind.u64.wrap (a0_2)) 4).bind fun t137 => (if (sxa ++ t136).size + t137.size ≤ 9223372036854775807 then ((nautilusref01_Bytes.f k a0_3 6).bind fun t138 => (if ((sxa ++ t136) ++ t137).size + t138.size ≤ 9223372036854775807 then (if 0 ≤ (wrap64 (256 - ((((sxa ++ t136) ++ t137) ++ t138).size : Int))) then (if (wrap64 (256 - ((((sxa ++ t136) ++ t137) ++ t138).size : Int)) : Int).toNat ≤ 281474976710656 then ((some (List.replicate (wrap64 (256 - ((((sxa ++ t136) ++ t137) ++ t138).size : Int)) : Int).toNat 0 : List Int)).bind fun y139 => (if (((sxa ++ t136) ++ t137) ++ t138).size + (strOfNums y139).size ≤ 9223372036854775807 then (some ((((sxa ++ t136) ++ t137) ++ t138) ++ (strOfNums y139))) else (none))) else (none)) else (none)) else (none))) else (none))) else (none)) = some r := H
    have A4 := Aside0.mk A40
    clear A40
    by_cases c5 : sxa.size + t136.size ≤ 9223372036854775807
    · rw [if_pos c5] at H
      have c5b0 := eq_true c5
      have c5b1 : decide (sxa.size + t136.size ≤ 9223372036854775807) = true := decide_eq_true c5
      obtain ⟨sxb, hsxb⟩ : ∃ s_ : ByteArray, sxa ++ t136 = s_ := ⟨_, rfl⟩
      rw [hsxb] at H
      try have c5b2 : (9223372036854775807 < sxa.size + t136.size) = False := eq_false (Nat.not_lt.2 c5)
      replace H := Option.bind_eq_some_iff.mp H
      obtain ⟨t137, A60, H⟩ := H
      replace H : (if sxb.size + t137.size ≤ 9223372036854775807 then ((nautilusref01_Bytes.f k a0_3 6).bind fun t138 => (if (sxb ++ t137).size + t138.size ≤ 9223372036854775807 then (if 0 ≤ (wrap64 (256 - (((sxb ++ t137) ++ t138).size : Int))) then (if (wrap64 (256 - (((sxb ++ t137) ++ t138).size : Int)) : Int).toNat ≤ 281474976710656 then ((some (List.replicate (wrap64 (256 - (((sxb ++ t137) ++ t138).size : Int)) : Int).toNat 0 : List Int)).bind fun y139 => (if ((sxb ++ t137) ++ t138).size + (strOfNums y139).size ≤ 9223372036854775807 then (some (((sxb ++ t137) ++ t138) ++ (strOfNums y139))) else (none))) else (none)) else (none)) else (none))) else (none)) = some r := H
      have A6 := Aside0.mk A60
      clear A60
      by_cases c7 : sxb.size + t137.size ≤ 9223372036854775807
      · rw [if_pos c7] at H
        have c7b0 := eq_true c7
        have c7b1 : decide (sxb.size + t137.size ≤ 9223372036854775807) = true := decide_eq_true c7
        obtain ⟨sxc, hsxc⟩ : ∃ s_ : ByteArray, sxb ++ t137 = s_ := ⟨_, rfl⟩
        rw [hsxc] at H
        try have c7b2 : (9223372036854775807 < sxb.size + t137.size) = False := eq_false (Nat.not_lt.2 c7)
        replace H := Option.bind_eq_some_iff.mp H
        obtain ⟨t138, A80, H⟩ := H
        replace H : (if sxc.size + t138.size ≤ 9223372036854775807 then (if 0 ≤ (wrap64 (256 - ((sxc ++ t138).size : Int))) then (if (wrap64 (256 - ((sxc ++ t138).size : Int)) : Int).toNat ≤ 281474976710656 then ((some (List.replicate (wrap64 (256 - ((sxc ++ t138).size : Int)) : Int).toNat 0 : List Int)).bind fun y139 => (if (sxc ++ t138).size + (strOfNums y139).size ≤ 9223372036854775807 then (some ((sxc ++ t138) ++ (strOfNums y139))) else (none))) else (none)) else (none)) else (none)) = some r := H
        have A8 := Aside0.mk A80
        clear A80
        by_cases c9 : sxc.size + t138.size ≤ 9223372036854775807
        · rw [if_pos c9] at H
          have c9b0 := eq_true c9
          have c9b1 : decide (sxc.size + t138.size ≤ 9223372036854775807) = true := decide_eq_true c9
          obtain ⟨sxd, hsxd⟩ : ∃ s_ : ByteArray, sxc ++ t138 = s_ := ⟨_, rfl⟩
          rw [hsxd] at H
          try have c9b2 : (9223372036854775807 < sxc.size + t138.size) = False := eq_false (Nat.not_lt.2 c9)
          obtain ⟨ji10, hji10⟩ : ∃ j_ : Int, (wrap64 (256 - (sxd.size : Int))) = j_ := ⟨_, rfl⟩
          replace H : (if 0 ≤ (ji10) then (if (ji10 : Int).toNat ≤ 281474976710656 then ((some (List.replicate (ji10 : Int).toNat 0 : List Int)).bind fun y139 => (if sxd.size + (strOfNums y139).size ≤ 9223372036854775807 then (some (sxd ++ (strOfNums y139))) else (none))) else (none)) else (none)) = some r := by first | (rw [hji10] at H; exact H) | (simp only [hji10] at H ⊢; exact H)
          (try rw [hji10] at A2)
          (try rw [hji10] at A4)
          (try rw [hji10] at A6)
          (try rw [hji10] at A8)
          have hji10w : (IntKind.i64.wrap (256 - (sxd.size : Int))) = ji10 := (i64_w _).trans hji10
          by_cases c11 : 0 ≤ (ji10)
          · rw [if_pos c11] at H
            have c11b0 := eq_true c11
            have c11b1 : decide (0 ≤ (ji10)) = true := decide_eq_true c11
            clear c11
            by_cases c12 : (ji10 : Int).toNat ≤ 281474976710656
            · rw [if_pos c12] at H
              have c12b0 := eq_true c12
              have c12b1 : decide ((ji10 : Int).toNat ≤ 281474976710656) = true := decide_eq_true c12
              clear c12
              obtain ⟨y139, hy139⟩ : ∃ y_ : List Int, y_ = (List.replicate (ji10 : Int).toNat 0) := ⟨_, rfl⟩
              replace H : (if sxd.size + (strOfNums y139).size ≤ 9223372036854775807 then (some (sxd ++ (strOfNums y139))) else (none)) = some r := by first | (rw [hy139]; with_reducible exact H) | (have H2_ := (Option.bind_some _ _).symm.trans H; rw [hy139]; with_reducible exact H2_) | (have H2_ := (Option.bind_some _ _).symm.trans H; with_reducible exact H2_) | with_reducible exact H | (rw [hy139]; exact H) | exact H
              have Ny139 := Aside0.mk hy139
              clear hy139
              by_cases c13 : sxd.size + (strOfNums y139).size ≤ 9223372036854775807
              · rw [if_pos c13] at H
                have c13b0 := eq_true c13
                have c13b1 : decide (sxd.size + (strOfNums y139).size ≤ 9223372036854775807) = true := decide_eq_true c13
                try have c13b2 : (9223372036854775807 < sxd.size + (strOfNums y139).size) = False := eq_false (Nat.not_lt.2 c13)
                obtain rfl := Option.some.inj H
                go_enter Try.func23, Try.ntmps23
                try go_wp2_with (first | ((with_reducible refine gate_dst (N := 1) rfl ?_); refine box_event ?hg (N := 1) ?hd (cs := #[.int .i64 a0_0, .int .u64 a0_1, .int .i64 a0_2, .int .u64 a0_3]) (t := 24) ?hr ?_; (case hd => rfl); (case hg => rfl); (case hr => first | (go_simp; done) | (go_simp; rfl)); intro gb134 hg w14 hbox hb; have n0_ := Aside0.mk (below_step (by repeat (first | (with_reducible first | exact HB.out | apply below_alloc | apply pw_below_drewN | apply below_drew1) | exact HB.out)) hb); have n1_ := Aside0.mk (hbox); have n2_ := Aside0.mk ((by rw [hg]; exact (below_size (by repeat (first | (with_reducible first | exact HB.out | apply below_alloc | apply pw_below_drewN | apply below_drew1) | exact HB.out))) : w.heap.size ≤ gb134)); have n3_ := Aside0.mk ((by rw [hg]; exact (below_size (by repeat (first | (with_reducible first | exact HB.out | apply below_alloc | apply pw_below_drewN | apply below_drew1) | exact HB.out))) : w.heap.size ≤ gb134)); clear HB; have HB := n0_; have BK134 := n1_; have GW134 := n2_; have GE134 := n3_; clear n0_ n1_ n2_ n3_; clear hb hbox hg))
                have n0_ := Aside0.mk (blk_drew BK134.out)
                have n1_ := Aside0.mk (below_drew1 HB.out)
                clear BK134
                clear HB
                have BK134 := n0_
                have HB := n1_
                clear n0_ n1_
                refine start_ (n := 19) (S := fun w' => w'.cell? ⟨gb134, 0, none⟩ = some (.int .i64 a0_0) ∧ w'.cell? ⟨gb134, 1, none⟩ = some (.int .u64 a0_1) ∧ w'.cell? ⟨gb134, 2, none⟩ = some (.int .i64 a0_2) ∧ w'.cell? ⟨gb134, 3, none⟩ = some (.int .u64 a0_3)) (ds := []) #[false, false, false, false, false, false, false, false, false, false, false, false, false, false, false, false, false, false, false] (by kernel_rfl) rfl rfl ⟨(blk_cell BK134.out 0).trans rfl, (blk_cell BK134.out 1).trans rfl, (blk_cell BK134.out 2).trans rfl, (blk_cell BK134.out 3).trans rfl⟩ (fun hHeld => ?_); refine with_tabW nautilusref05_sector.tab1 nautilusref05_sector.bits1 (fun HT_ HW_ => ?_)
                generalize w14.drew = w15 at BK134 HB hHeld ⊢
                refine pure_ (i := 0) (N := some 4) (v := ?_) (a' := ?_) #[true, false, false, false, false, false, false, false, false, false, false, false, false, false, false, false, false, false, false] rfl rfl (any_of HT_.out (by kernel_rfl)) (fun _ _ _ h => h) (Or.inl ⟨by rfl, ?_⟩) ?_ ?_
                rotate_left
                · intro w'
                  go_simp
                  with_reducible rfl
                rotate_left
                · simp only [Act.put, List.setIfInBounds_toArray, List.set_cons_zero, List.set_cons_succ, i64_w, i32_w]
                  rfl
                refine pure_ (i := 5) (N := some 9) (v := ?_) (a' := ?_) #[true, false, false, false, false, true, false, false, false, false, false, false, false, false, false, false, false, false, false] rfl rfl (any_of HT_.out (by kernel_rfl)) (fun _ _ _ h => h) (Or.inl ⟨by rfl, ?_⟩) ?_ ?_
                rotate_left
                · intro w'
                  go_simp
                  with_reducible rfl
                rotate_left
                · simp only [Act.put, List.setIfInBounds_toArray, List.set_cons_zero, List.set_cons_succ, i64_w, i32_w]
                  rfl
                refine pure_ (i := 9) (N := some 13) (v := ?_) (a' := ?_) #[true, false, false, false, false, true, false, false, false, true, false, false, false, false, false, false, false, false, false] rfl rfl (any_of HT_.out (by kernel_rfl)) (fun _ _ _ h => h) (Or.inl ⟨by rfl, ?_⟩) ?_ ?_
                rotate_left
                · intro w'
                  go_simp
                  with_reducible rfl
                rotate_left
                · simp only [Act.put, List.setIfInBounds_toArray, List.set_cons_zero, List.set_cons_succ, i64_w, i32_w]
                  rfl
                refine pure_ (i := 14) (N := some 18) (v := ?_) (a' := ?_) #[true, false, false, false, false, true, false, false, false, true, false, false, false, false, true, false, false, false, false] rfl rfl (any_of HT_.out (by kernel_rfl)) (fun _ _ _ h => h) (Or.inl ⟨by rfl, ?_⟩) ?_ ?_
                rotate_left
                · intro w'
                  go_simp
                  with_reducible rfl
                rotate_left
                · simp only [Act.put, List.setIfInBounds_toArray, List.set_cons_zero, List.set_cons_succ, i64_w, i32_w]
                  rfl
                refine take_ (i := 1) (N := some 5) (v := ?_) (a' := ?_) #[true, true, false, false, false, true, false, false, false, true, false, false, false, false, true, false, false, false, false] rfl rfl (take_ofW HT_.out HW_.out (by kernel_rfl)) (fun _ _ _ h => h) (Or.inl ⟨by rfl, ?_⟩) hHeld ?_ ?_
                rotate_left
                · rintro w' ⟨s0, s1, s2, s3⟩
                  go_simp
                  with_reducible rfl
                rotate_left
                · simp only [Act.put, List.setIfInBounds_toArray, List.set_cons_zero, List.set_cons_succ, i64_w, i32_w]
                  rfl
                refine pure_ (i := 2) (N := some 6) (v := ?_) (a' := ?_) #[true, true, true, false, false, true, false, false, false, true, false, false, false, false, true, false, false, false, false] rfl rfl (any_of HT_.out (by kernel_rfl)) (fun _ _ _ h => h) (Or.inl ⟨by rfl, ?_⟩) ?_ ?_
                rotate_left
                · intro w'
                  go_simp
                  with_reducible rfl
                rotate_left
                · simp only [Act.put, List.setIfInBounds_toArray, List.set_cons_zero, List.set_cons_succ, i64_w, i32_w]
                  rfl
                refine take_ (i := 6) (N := some 10) (v := ?_) (a' := ?_) #[true, true, true, false, false, true, true, false, false, true, false, false, false, false, true, false, false, false, false] rfl rfl (take_ofW HT_.out HW_.out (by kernel_rfl)) (fun _ _ _ h => h) (Or.inl ⟨by rfl, ?_⟩) hHeld ?_ ?_
                rotate_left
                · rintro w' ⟨s0, s1, s2, s3⟩
                  go_simp
                  with_reducible rfl
                rotate_left
                · simp only [Act.put, List.setIfInBounds_toArray, List.set_cons_zero, List.set_cons_succ, i64_w, i32_w]
                  rfl
                refine take_ (i := 10) (N := some 14) (v := ?_) (a' := ?_) #[true, true, true, false, false, true, true, false, false, true, true, false, false, false, true, false, false, false, false] rfl rfl (take_ofW HT_.out HW_.out (by kernel_rfl)) (fun _ _ _ h => h) (Or.inl ⟨by rfl, ?_⟩) hHeld ?_ ?_
                rotate_left
                · rintro w' ⟨s0, s1, s2, s3⟩
                  go_simp
                  with_reducible rfl
                rotate_left
                · simp only [Act.put, List.setIfInBounds_toArray, List.set_cons_zero, List.set_cons_succ, i64_w, i32_w]
                  rfl
                refine pure_ (i := 11) (N := some 15) (v := ?_) (a' := ?_) #[true, true, true, false, false, true, true, false, false, true, true, true, false, false, true, false, false, false, false] rfl rfl (any_of HT_.out (by kernel_rfl)) (fun _ _ _ h => h) (Or.inl ⟨by rfl, ?_⟩) ?_ ?_
                rotate_left
                · intro w'
                  go_simp
                  with_reducible rfl
                rotate_left
                · simp only [Act.put, List.setIfInBounds_toArray, List.set_cons_zero, List.set_cons_succ, i64_w, i32_w]
                  rfl
                refine take_ (i := 15) (N := some 19) (v := ?_) (a' := ?_) #[true, true, true, false, false, true, true, false, false, true, true, true, false, false, true, true, false, false, false] rfl rfl (take_ofW HT_.out HW_.out (by kernel_rfl)) (fun _ _ _ h => h) (Or.inl ⟨by rfl, ?_⟩) hHeld ?_ ?_
                rotate_left
                · rintro w' ⟨s0, s1, s2, s3⟩
                  go_simp
                  with_reducible rfl
                rotate_left
                · simp only [Act.put, List.setIfInBounds_toArray, List.set_cons_zero, List.set_cons_succ, i64_w, i32_w]
                  rfl
                refine one_ (i := 3) (N := some 7) #[true, true, true, true, false, true, true, false, false, true, true, true, false, false, true, true, false, false, false] rfl rfl (one_of HT_.out (by kernel_rfl)) (by decide) (fun K hK => ?_)
                refine goes_ Try.func37 (by kernel_rfl) rfl #[.int .u64 (IntKind.u64.wrap (a0_0)), .int .i64 4] (by rfl) rfl rfl (by (try simp only [List.map_toArray, List.map_cons, List.map_nil]); first | done | rfl | (simp only [List.length_drop, List.length_take]; rfl) | (simp [Act.eval, go_sem]; simp only [decide_eq_false_iff_not, decide_eq_true_eq] at *; (repeat' apply And.intro) <;> first | done | (symm; first | (apply IntWalk.u64_in; omega) | (apply IntWalk.u32_in; omega) | (apply IntWalk.i64_in; omega) | (apply IntWalk.wrap64_in; omega) | (apply IntWalk.u16_in; omega) | (apply IntWalk.u8_in; omega)))) ?_
                with_reducible refine (nautilusref01_Bytes.calls k (IntKind.u64.wrap (a0_0)) 4 t135 _ A2.out).mono ?_
                rintro e w16 ⟨rfl, hb⟩
                refine ⟨_, rfl, ?_⟩
                have n0_ := Aside0.mk (blk_below (g := gb134) (o := .cells #[.int .i64 a0_0, .int .u64 a0_1, .int .i64 a0_2, .int .u64 a0_3] 24 (0, 0)) (by (with_reducible repeat (first | refine blk_drewN ?_ _ | refine blk_drew ?_ | refine blk_alloc ?_ _)); exact BK134.out) hb)
                have n1_ := Aside0.mk (below_step (by repeat (first | (with_reducible first | exact HB.out | apply below_alloc | apply pw_below_drewN | apply below_drew1 | refine below_set ?_ GE134.out) | exact HB.out)) hb)
                clear BK134
                clear HB
                have BK134 := n0_
                have HB := n1_
                clear n0_ n1_
                (try clear hb)
                (try clear hb2)
                (try clear hk)
                (try clear hi)
                refine hK.out _ _ ⟨(blk_cell BK134.out 0).trans rfl, (blk_cell BK134.out 1).trans rfl, (blk_cell BK134.out 2).trans rfl, (blk_cell BK134.out 3).trans rfl⟩ (fun hHeld => ?_)
                clear hK K
                refine norm_ (a' := ?_) ?_ ?_
                rotate_left
                · show Act.put _ (some 7) _ = _
                  simp only [Act.put, List.setIfInBounds_toArray, List.set_cons_zero, List.set_cons_succ, i64_w, i32_w]
                  rfl
                refine pure_ (i := 4) (N := some 8) (v := ?_) (a' := ?_) #[true, true, true, true, true, true, true, false, false, true, true, true, false, false, true, true, false, false, false] rfl rfl (any_of HT_.out (by kernel_rfl)) (fun _ _ _ h => h) (Or.inl ⟨by rfl, ?_⟩) ?_ ?_
                rotate_left
                · intro w'
                  go_simp
                  with_reducible rfl
                rotate_left
                · simp only [Act.put, List.setIfInBounds_toArray, List.set_cons_zero, List.set_cons_succ, i64_w, i32_w]
                  rfl
                refine one_ (i := 7) (N := some 11) #[true, true, true, true, true, true, true, true, false, true, true, true, false, false, true, true, false, false, false] rfl rfl (one_of HT_.out (by kernel_rfl)) (by decide) (fun K hK => ?_)
                refine goes_ Try.func37 (by kernel_rfl) rfl #[.int .u64 a0_1, .int .i64 6] (by rfl) rfl rfl (by (try simp only [List.map_toArray, List.map_cons, List.map_nil]); first | done | rfl | (simp only [List.length_drop, List.length_take]; rfl)) ?_
                with_reducible refine (nautilusref01_Bytes.calls k a0_1 6 t136 _ A4.out).mono ?_
                rintro e w17 ⟨rfl, hb⟩
                refine ⟨_, rfl, ?_⟩
                have n0_ := Aside0.mk (blk_below (g := gb134) (o := .cells #[.int .i64 a0_0, .int .u64 a0_1, .int .i64 a0_2, .int .u64 a0_3] 24 (0, 0)) (by (with_reducible repeat (first | refine blk_drewN ?_ _ | refine blk_drew ?_ | refine blk_alloc ?_ _)); exact BK134.out) hb)
                have n1_ := Aside0.mk (below_step (by repeat (first | (with_reducible first | exact HB.out | apply below_alloc | apply pw_below_drewN | apply below_drew1 | refine below_set ?_ GE134.out) | exact HB.out)) hb)
                clear BK134
                clear HB
                have BK134 := n0_
                have HB := n1_
                clear n0_ n1_
                (try clear hb)
                (try clear hb2)
                (try clear hk)
                (try clear hi)
                refine hK.out _ _ ⟨(blk_cell BK134.out 0).trans rfl, (blk_cell BK134.out 1).trans rfl, (blk_cell BK134.out 2).trans rfl, (blk_cell BK134.out 3).trans rfl⟩ (fun hHeld => ?_)
                clear hK K
                refine norm_ (a' := ?_) ?_ ?_
                rotate_left
                · show Act.put _ (some 11) _ = _
                  simp only [Act.put, List.setIfInBounds_toArray, List.set_cons_zero, List.set_cons_succ, i64_w, i32_w]
                  rfl
                refine pure_ (i := 8) (N := some 12) (v := ?_) (a' := ?_) #[true, true, true, true, true, true, true, true, true, true, true, true, false, false, true, true, false, false, false] rfl rfl (any_of HT_.out (by kernel_rfl)) (fun _ _ _ h => h) (Or.inl ⟨by rfl, ?_⟩) ?_ ?_
                rotate_left
                · intro w'
                  go_simp
                  with_reducible rfl
                rotate_left
                · simp only [Act.put, List.setIfInBounds_toArray, List.set_cons_zero, List.set_cons_succ, i64_w, i32_w]
                  rfl
                refine one_ (i := 12) (N := some 16) #[true, true, true, true, true, true, true, true, true, true, true, true, true, false, true, true, false, false, false] rfl rfl (one_of HT_.out (by kernel_rfl)) (by decide) (fun K hK => ?_)
                refine goes_ Try.func37 (by kernel_rfl) rfl #[.int .u64 (IntKind.u64.wrap (a0_2)), .int .i64 4] (by rfl) rfl rfl (by (try simp only [List.map_toArray, List.map_cons, List.map_nil]); first | done | rfl | (simp only [List.length_drop, List.length_take]; rfl) | (simp [Act.eval, go_sem]; simp only [decide_eq_false_iff_not, decide_eq_true_eq] at *; (repeat' apply And.intro) <;> first | done | (symm; first | (apply IntWalk.u64_in; omega) | (apply IntWalk.u32_in; omega) | (apply IntWalk.i64_in; omega) | (apply IntWalk.wrap64_in; omega) | (apply IntWalk.u16_in; omega) | (apply IntWalk.u8_in; omega)))) ?_
                with_reducible refine (nautilusref01_Bytes.calls k (IntKind.u64.wrap (a0_2)) 4 t137 _ A6.out).mono ?_
                rintro e w18 ⟨rfl, hb⟩
                refine ⟨_, rfl, ?_⟩
                have n0_ := Aside0.mk (blk_below (g := gb134) (o := .cells #[.int .i64 a0_0, .int .u64 a0_1, .int .i64 a0_2, .int .u64 a0_3] 24 (0, 0)) (by (with_reducible repeat (first | refine blk_drewN ?_ _ | refine blk_drew ?_ | refine blk_alloc ?_ _)); exact BK134.out) hb)
                have n1_ := Aside0.mk (below_step (by repeat (first | (with_reducible first | exact HB.out | apply below_alloc | apply pw_below_drewN | apply below_drew1 | refine below_set ?_ GE134.out) | exact HB.out)) hb)
                clear BK134
                clear HB
                have BK134 := n0_
                have HB := n1_
                clear n0_ n1_
                (try clear hb)
                (try clear hb2)
                (try clear hk)
                (try clear hi)
                refine hK.out _ _ ⟨(blk_cell BK134.out 0).trans rfl, (blk_cell BK134.out 1).trans rfl, (blk_cell BK134.out 2).trans rfl, (blk_cell BK134.out 3).trans rfl⟩ (fun hHeld => ?_)
                clear hK K
                refine norm_ (a' := ?_) ?_ ?_
                rotate_left
                · show Act.put _ (some 16) _ = _
                  simp only [Act.put, List.setIfInBounds_toArray, List.set_cons_zero, List.set_cons_succ, i64_w, i32_w]
                  rfl
                refine pure_ (i := 13) (N := some 17) (v := ?_) (a' := ?_) #[true, true, true, true, true, true, true, true, true, true, true, true, true, true, true, true, false, false, false] rfl rfl (any_of HT_.out (by kernel_rfl)) (fun _ _ _ h => h) (Or.inl ⟨by rfl, ?_⟩) ?_ ?_
                rotate_left
                · intro w'
                  go_simp
                  with_reducible rfl
                rotate_left
                · simp only [Act.put, List.setIfInBounds_toArray, List.set_cons_zero, List.set_cons_succ, i64_w, i32_w]
                  rfl
                refine one_ (i := 16) (N := some 20) #[true, true, true, true, true, true, true, true, true, true, true, true, true, true, true, true, true, false, false] rfl rfl (one_of HT_.out (by kernel_rfl)) (by decide) (fun K hK => ?_)
                refine goes_ Try.func37 (by kernel_rfl) rfl #[.int .u64 a0_3, .int .i64 6] (by rfl) rfl rfl (by (try simp only [List.map_toArray, List.map_cons, List.map_nil]); first | done | rfl | (simp only [List.length_drop, List.length_take]; rfl)) ?_
                with_reducible refine (nautilusref01_Bytes.calls k a0_3 6 t138 _ A8.out).mono ?_
                rintro e w19 ⟨rfl, hb⟩
                refine ⟨_, rfl, ?_⟩
                have n0_ := Aside0.mk (blk_below (g := gb134) (o := .cells #[.int .i64 a0_0, .int .u64 a0_1, .int .i64 a0_2, .int .u64 a0_3] 24 (0, 0)) (by (with_reducible repeat (first | refine blk_drewN ?_ _ | refine blk_drew ?_ | refine blk_alloc ?_ _)); exact BK134.out) hb)
                have n1_ := Aside0.mk (below_step (by repeat (first | (with_reducible first | exact HB.out | apply below_alloc | apply pw_below_drewN | apply below_drew1 | refine below_set ?_ GE134.out) | exact HB.out)) hb)
                clear BK134
                clear HB
                have BK134 := n0_
                have HB := n1_
                clear n0_ n1_
                (try clear hb)
                (try clear hb2)
                (try clear hk)
                (try clear hi)
                refine hK.out _ _ ⟨(blk_cell BK134.out 0).trans rfl, (blk_cell BK134.out 1).trans rfl, (blk_cell BK134.out 2).trans rfl, (blk_cell BK134.out 3).trans rfl⟩ (fun hHeld => ?_)
                clear hK K
                refine norm_ (a' := ?_) ?_ ?_
                rotate_left
                · show Act.put _ (some 20) _ = _
                  simp only [Act.put, List.setIfInBounds_toArray, List.set_cons_zero, List.set_cons_succ, i64_w, i32_w]
                  rfl
                refine pure_ (i := 17) (N := some 21) (v := ?_) (a' := ?_) #[true, true, true, true, true, true, true, true, true, true, true, true, true, true, true, true, true, true, false] rfl rfl (any_of HT_.out (by kernel_rfl)) (fun _ _ _ h => h) (Or.inl ⟨by rfl, ?_⟩) ?_ ?_
                rotate_left
                · intro w'
                  go_simp
                  with_reducible rfl
                rotate_left
                · simp only [Act.put, List.setIfInBounds_toArray, List.set_cons_zero, List.set_cons_succ, i64_w, i32_w]
                  rfl
                refine pure_ (i := 18) (N := some 3) (v := ?_) (a' := ?_) #[true, true, true, true, true, true, true, true, true, true, true, true, true, true, true, true, true, true, true] rfl rfl (any_of HT_.out (by kernel_rfl)) (fun _ _ _ h => h) (Or.inl ⟨by rfl, ?_⟩) ?_ ?_
                rotate_left
                · intro w'
                  go_simp
                  with_reducible rfl
                rotate_left
                · simp only [Act.put, List.setIfInBounds_toArray, List.set_cons_zero, List.set_cons_succ, i64_w, i32_w]
                  rfl
                refine done_ (done_of HT_.out (by kernel_rfl)) ?_
                try go_wp2_with (first | ((with_reducible refine gate_dst (N := 26) rfl ?_); refine Kd.R_make (Kd.int .u8) _ 5 rfl (N := 26) rfl 41 _ _ rfl ji10 rfl rfl Try.underlying41 (.int .u8 0) 1 info5 rfl (by decide) (by omega) 0 (ok := fun _ => True) (okp := fun _ => True) rfl (fun _ hk => hk) trivial (of_decide_eq_true (by first | (with_reducible assumption) | assumption)) (Nat.le_trans (Nat.mul_le_mul_right _ (of_decide_eq_true (by first | (with_reducible assumption) | assumption) : ji10.toNat ≤ 281474976710656)) (by omega)) (Below.refl _ _) (Nat.le_refl _) ?_; intro v140 w20 ho21 hb hg_ hnew_; clear hg_ hnew_; (first | rw [← Ny139.out] at ho21 | (simp only [Int.reduceToNat] at ho21; rw [← Ny139.out] at ho21)); have n0_ := Aside0.mk (Kd.R_lower ho21 (below_size (by repeat (first | (with_reducible first | exact HB.out | apply below_alloc | apply pw_below_drewN | apply below_drew1 | refine below_set ?_ GE134.out) | exact HB.out)))); have n1_ := Aside0.mk (blk_below (g := gb134) (o := .cells #[.int .i64 a0_0, .int .u64 a0_1, .int .i64 a0_2, .int .u64 a0_3] 24 (0, 0)) (by (with_reducible repeat (first | refine blk_drewN ?_ _ | refine blk_drew ?_ | refine blk_alloc ?_ _)); exact BK134.out) hb); have n2_ := Aside0.mk (below_step (by repeat (first | (with_reducible first | exact HB.out | apply below_alloc | apply pw_below_drewN | apply below_drew1 | refine below_set ?_ GE134.out) | exact HB.out)) hb); clear BK134; clear HB; have HO141 := n0_; have BK134 := n1_; have HB := n2_; clear n0_ n1_ n2_; clear hb ho21; have hcv22 := own_string (P := Try.prog) Try.underlying41 Try.underlying5 Try.underlying9 (Kd.own_of_R HO141.out)))
                go_ret
                exact ⟨by first | rfl | (simp [errW_none, errW_some] <;> rfl) | (simp only [← hji10]; first | rfl | (simp [errW_none, errW_some] <;> rfl)) | (simp [*, errW_none, errW_some] <;> rfl) | (simp [show IntKind.u64.wrap 0 = 0 from rfl, Int.zero_tdiv]; done), by repeat (first | (with_reducible first | exact HB.out | apply below_alloc | apply pw_below_drewN | apply below_drew1 | refine below_set ?_ GE134.out) | exact HB.out)⟩
              · rw [if_neg c13] at H
                exact absurd H (by simp)
            · rw [if_neg c12] at H
              exact absurd H (by simp)
          · rw [if_neg c11] at H
            exact absurd H (by simp)
        · rw [if_neg c9] at H
          exact absurd H (by simp)
      · rw [if_neg c7] at H
        exact absurd H (by simp)
    · rw [if_neg c5] at H
      exact absurd H (by simp)
  · rw [if_neg c3] at H
    exact absurd H (by simp)

end Go.Proofs.Ytpcejkhipnkhfaa.Q
