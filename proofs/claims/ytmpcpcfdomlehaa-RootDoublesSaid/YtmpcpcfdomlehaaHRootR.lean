/- root.Right: may a root be? -/
import Derived.Test.YtmpcpcfdomlehaaHRootA
import Derived.Maps.OwnIn
import Derived.Carry
import Derived.Shelf.Abstract
import Derived.Lib.Hide
import Derived.Maps.Views
set_option linter.unusedVariables false
set_option linter.unusedSimpArgs false
namespace Go.Proofs.Ytmpcpcfdomlehaa.Q
open Go.RowKit Go.Maps Go.Shelf Go.Proofs.Ytmpcpcfdomlehaa.H Go.Proofs.YtmpcpcfdomlehaaW.PrintWords Go.Proofs.YtmpcpcfdomlehaaW.PrintLast Go.Proofs.YtmpcpcfdomlehaaW.PrintMore
attribute [local go_sem] Oper.semAt_some
set_option maxRecDepth 100000

/-- Are all that come within the bounds, and none of them met ahead? -/
def okL : List Int → List Int → Bool
  | _, [] => true
  | pre, x :: xs => !(decide (x < 16)) && (!(decide (x ≥ 4096)) && (!(decide (x ∈ pre)) && okL (pre ++ [x]) xs))
def headR (a b : Int) (n m : Nat) : Bool := a == 0 || (decide (a ≥ 281474976710656) || (decide (b ≥ 281474976710656) || (decide ((n : Int) = 0) || (decide ((n : Int) > 60) || (decide ((m : Int) = 0) || decide ((m : Int) > 12))))))
def rightV (a b : Int) (d c : List Int) : Bool := !(headR a b d.length c.length) && okL [] (d ++ c)
def root_Right.f (a b : Int) (d c : List Int) : Option Bool := some (rightV a b d c)

theorem okL_step (l : List Int) (k : Nat) (h : k < l.length) : okL (l.take k) (l.drop k) = (!(decide (l.getD k 0 < 16)) && (!(decide (l.getD k 0 ≥ 4096)) && (!(decide (l.getD k 0 ∈ l.take k)) && okL (l.take (k + 1)) (l.drop (k + 1))))) := by
  have e : l.getD k 0 = l[k] := by simp [h]
  rw [List.drop_eq_getElem_cons h, e, List.take_succ_eq_append_getElem h]
  rfl
theorem u32_small (u : Int) (h0 : 0 ≤ u) (h : u < 4096) : (Lit.int .u32 u).wf = true := by
  have : u ∈ (List.range 4096).map (fun n : Nat => (n : Int)) := by
    rw [List.mem_map]; exact ⟨u.toNat, by rw [List.mem_range]; omega, by omega⟩
  simp [Lit.wf, IntKind.min, IntKind.max, IntKind.bits, IntKind.signed]; omega
theorem lookB {W : World} {b n : Nat} {D : DataW Unit} {u : Int} {bb : Bool} (hm : W.ownsMap Try.prog 35 (plainElem (H := Unit) Try.prog 4) b n D) (hw : (Lit.int .u32 u).wf = true)
    (hat : D.atKey (.int .u32 u) (.lit (.bool false)) = .lit (.bool bb)) : (Instr.lookup 56 (.map (some b)) (.int .u32 u) false).run Try.prog W = .ok (.bool bb) W := by
  obtain ⟨v, ps, hrun, hv⟩ := hm.lookup (int_keyed Try.underlying35) Try.underlying56 (z := .bool false) (by rfl) (plainElem_bool Try.underlying4 false) (keyOf_int_mk Try.underlying35 hw)
  rw [hat] at hv
  unfold plainElem at hv
  rw [show Try.prog.underlying 4 = some .bool from Try.underlying4] at hv
  cases v <;> simp at hv
  obtain ⟨rfl, _⟩ := hv
  exact hrun

set_option maxHeartbeats 8000000 in
theorem right_yes (a b : Int) (A2 : Option Addr) (c2 : Nat) (d : List Int) (A3 : Option Addr) (c3 : Nat) (c : List Int) (w : World) (hC2 : Kd.C (Kd.int .u32) w A2 d.length d) (hC3 : Kd.C (Kd.int .u32) w A3 c.length c)
    (h1 : (a == 0) = false) (h2 : decide (281474976710656 ≤ a) = false) (h3 : decide (281474976710656 ≤ b) = false) (h4 : ((d.length : Int) == 0) = false) (h5 : decide (60 < (d.length : Int)) = false) (h6 : ((c.length : Int) == 0) = false) (h7 : decide (12 < (c.length : Int)) = false) :
    Calls Try.prog 12 #[.agg #[.int .u64 a, .int .u64 b, .slice A2 d.length c2, .slice A3 c.length c3]] w fun e w' => e = .returned (.bool (okL [] (d ++ c))) ∧ Below w.heap.size w w' := by
  have HC2 := Aside0.mk hC2
  have HC3 := Aside0.mk hC3
  clear hC2 hC3
  refine (callsIn_wide (n := 10)).1 ?_
  refine callsIn_of_wp_marks Try.func12 rfl trivial ?_ rfl
  simp only [Try.ntmps12, List.size_toArray, List.length_cons, List.length_nil, Nat.reduceAdd, Nat.reduceSub, Array.replicate_succ, Array.replicate_zero, List.push_toArray, List.append_toArray, List.nil_append, List.cons_append]
  gi_wp2_with fail
  refine wpIn_scope ?_
  gi_wp2_with fail
  rw [run_makeMap]
  gi_wp2
  obtain ⟨H, hH⟩ : ∃ H, w.heap.size = H := ⟨_, rfl⟩
  simp only [hH, Nat.add_assoc, Nat.reduceAdd]
  obtain ⟨W0, hW0⟩ : ∃ W0, (((w.alloc (.cells #[.int .u64 a, .int .u64 b, .slice A2 d.length c2, .slice A3 c.length c3] 25)).alloc (.cells #[.bool true] 4)).alloc (.map #[] 0)).alloc (.cells #[.map (some (H + 2))] 56) = W0 := ⟨_, rfl⟩
  have hs0 : W0.heap.size = H + 4 := by rw [← hW0]; simp [hH]
  have hB0 : Below H w W0 := by rw [← hW0]; exact ((((Below.refl H w).alloc (by omega) _).alloc (by simp; omega) _).alloc (by simp; omega) _).alloc (by simp; omega) _
  have x0 : W0.heap[H]? = some (.cells #[.int .u64 a, .int .u64 b, .slice A2 d.length c2, .slice A3 c.length c3] 25 (0, 0)) := by
    rw [← hW0, Below.heap_alloc _ _ _ (by simp; omega), Below.heap_alloc _ _ _ (by simp; omega), Below.heap_alloc _ _ _ (by simp; omega), ← hH]
    exact World.alloc_heap_new _ _
  have o0 : Boxed W0 (H + 1) 4 (.bool true) := by
    rw [← hW0]
    have := (Boxed.new (w.alloc (.cells #[.int .u64 a, .int .u64 b, .slice A2 d.length c2, .slice A3 c.length c3] 25)) 4 (.bool true)).alloc (.map #[] 0) |>.alloc (.cells #[.map (some (H + 2))] 56)
    rwa [World.size_alloc, hH] at this
  have m0 : W0.ownsMap Try.prog 35 (plainElem (H := Unit) Try.prog 4) (H + 2) 0 (.map []) := by
    rw [← hW0]
    have := (World.ownsMap_made (H := Unit) ((w.alloc (.cells #[.int .u64 a, .int .u64 b, .slice A2 d.length c2, .slice A3 c.length c3] 25)).alloc (.cells #[.bool true] 4)) Try.prog 35 (plainElem Try.prog 4)).alloc (.cells #[.map (some (H + 2))] 56)
    rwa [World.size_alloc, World.size_alloc, hH] at this
  have b0 : Boxed W0 (H + 3) 56 (.map (some (H + 2))) := by
    rw [← hW0]
    have := Boxed.new (((w.alloc (.cells #[.int .u64 a, .int .u64 b, .slice A2 d.length c2, .slice A3 c.length c3] 25)).alloc (.cells #[.bool true] 4)).alloc (.map #[] 0)) 56 (.map (some (H + 2)))
    rwa [World.size_alloc, World.size_alloc, World.size_alloc, hH] at this
  simp only [hW0]
  clear hW0
  have q0 : W0.cell? ⟨H, 0, none⟩ = some (.int .u64 a) := by rw [Lib.cell_of_heap x0]; rfl
  have q1 : W0.cell? ⟨H, 1, none⟩ = some (.int .u64 b) := by rw [Lib.cell_of_heap x0]; rfl
  have q2 : W0.cell? ⟨H, 2, none⟩ = some (.slice A2 d.length c2) := by rw [Lib.cell_of_heap x0]; rfl
  have q3 : W0.cell? ⟨H, 3, none⟩ = some (.slice A3 c.length c3) := by rw [Lib.cell_of_heap x0]; rfl
  have HX := Aside0.mk x0
  clear x0
  refine wpIn_label ?_
  gi_wp2_with fail
  refine ⟨trivial, (callsIn_wide.2 (all_calls a b A2 d.length c2 A3 c.length c3 W0)).mono ?_⟩
  rintro e W1 ⟨rfl, hW1⟩
  have hs1 : W1.heap.size = H + 5 := by rw [hW1]; simp [hs0]
  have x1 : W1.heap[H + 4]? = some (.cells #[.int .u64 a, .int .u64 b, .slice A2 d.length c2, .slice A3 c.length c3] 25 (0, 0)) := by
    rw [hW1, ← hs0]; exact World.alloc_heap_new _ _
  have hB1 : Below H w W1 := by rw [hW1]; exact hB0.alloc (by omega) _
  have o1 : Boxed W1 (H + 1) 4 (.bool true) := by rw [hW1]; exact o0.alloc _
  have b1 : Boxed W1 (H + 3) 56 (.map (some (H + 2))) := by rw [hW1]; exact b0.alloc _
  have m1 : W1.ownsMap Try.prog 35 (plainElem (H := Unit) Try.prog 4) (H + 2) 0 (.map []) := by rw [hW1]; exact m0.alloc _
  rw [hs0]
  clear hW1 hs0 hB0 q0 q1 q2 q3 HX o0 b0 m0
  have hdl : d.length ≤ 60 := by have := of_decide_eq_false h5; omega
  have hcl : c.length ≤ 12 := by have := of_decide_eq_false h7; omega
  gi_wp2_with fail
  have hBz : Below w.heap.size w W1 := by rw [hH]; exact hB1
  refine wpIn_rangeT rfl (by omega) (gf := 30) (lb := #[.pointer (some ⟨H + 4, 0, none⟩)]) rfl trivial (enters_of Try.func30 (by kernel_rfl) rfl)
    (all_seq 9 (by omega) a b A2 c2 d A3 c3 c (H + 4) w W1 hBz x1 HC2.out HC3.out (by omega) (by omega)) (Below.refl _ _) (fun _ => rfl) (fun h => h.elim) (fun h => h.elim) (fun L h => h.elim (fun h => by omega) (fun ⟨_, _, h⟩ => by cases h))
    (fun k W => Boxed W (H + 1) 4 (.bool true) ∧ Boxed W (H + 3) 56 (.map (some (H + 2))) ∧ Below H w W ∧ (∃ D, W.ownsMap Try.prog 35 (plainElem (H := Unit) Try.prog 4) (H + 2) k D ∧ Aside0 (IsMap D ∧ (∀ x, D.atKey (.int .u32 x) (.lit (.bool false)) = .lit (.bool (decide (x ∈ (d ++ c).take k)))) ∧ okL [] (d ++ c) = okL ((d ++ c).take k) ((d ++ c).drop k))))
    (fun q k W => q = .exit 0 ∧ Boxed W (H + 1) 4 (.bool false) ∧ Below H w W ∧ okL [] (d ++ c) = false)
    (fun k => (stands_box _ _ _ (by rintro (h | h | h) <;> first | exact h.elim | omega)).and ((stands_box _ _ _ (by rintro (h | h | h) <;> first | exact h.elim | omega)).and ((stands_below (by omega) (by rintro j (h | h | h) <;> first | exact h.elim | omega)).and (stands_ex fun D => (stands_map (by rintro (h | h | h) <;> first | exact h.elim | omega)).and (stands_pure _)))))
    (fun q k => (stands_pure _).and ((stands_box _ _ _ (by rintro (h | h | h) <;> first | exact h.elim | omega)).and ((stands_below (by omega) (by rintro j (h | h | h) <;> first | exact h.elim | omega)).and (stands_pure _))))
    ⟨o1, b1, hB1, _, m1, ⟨⟨_, rfl⟩, fun x => by rfl, rfl⟩⟩
    (fun k => { tmps := #[.agg #[.int .u64 a, .int .u64 b, .slice A2 d.length c2, .slice A3 c.length c3], .pointer (some ⟨H, 0, none⟩), .bool false, .pointer (some ⟨H + 1, 0, none⟩), .pointer (some ⟨H + 3, 0, none⟩), .int .u32 ((d ++ c).getD k 0), .pointer (some ⟨H, 0, none⟩), .int .u64 a, .bool false, .bool false, .pointer (some ⟨H, 0, none⟩), .int .u64 a, .bool false, .bool false, .bool false, .pointer (some ⟨H, 1, none⟩), .int .u64 b, .bool false, .bool false, .bool false, .pointer (some ⟨H, 2, none⟩), .slice A2 d.length c2, .int .i64 d.length, .bool false, .bool false, .bool false, .pointer (some ⟨H, 2, none⟩), .slice A2 d.length c2, .int .i64 d.length, .bool false, .bool false, .bool false, .pointer (some ⟨H, 3, none⟩), .slice A3 c.length c3, .int .i64 c.length, .bool false, .bool false, .bool false, .pointer (some ⟨H, 3, none⟩), .slice A3 c.length c3, .int .i64 c.length, .bool false, .bool false, .map (some (H + 2)), .agg #[.int .u64 a, .int .u64 b, .slice A2 d.length c2, .slice A3 c.length c3], .func (.func 30) #[] #[.pointer (some ⟨H + 4, 0, none⟩)], .int .u32 ((d ++ c).getD k 0), undef, undef, undef, undef, undef, undef, undef, undef, undef, undef, undef, undef, undef, undef], defers := [] }) ?assign ?body ?done ?stop
  case assign =>
    intro lp k W K hK
    gi_wp2
    exact hK
  case body =>
    rintro lp k W hk hWs ⟨o, bm, hB, D, hm, hD⟩
    dsimp only
    obtain ⟨u, hu⟩ : ∃ u, (d ++ c).getD k 0 = u := ⟨_, rfl⟩
    have hlen : k < (d ++ c).length := by rw [List.length_append]; exact hk
    have hstep := hD.out.2.2.trans (okL_step (d ++ c) k hlen)
    rw [hu] at hstep
    have hat := hD.out.2.1 u
    have htk : (d ++ c).take (k + 1) = (d ++ c).take k ++ [u] := by
      rw [List.take_succ_eq_append_getElem hlen, ← hu]; congr 1; simp [List.getD_eq_getElem?_getD, List.getElem?_eq_getElem hlen]
    have HT := Aside0.mk htk
    have HU := Aside0.mk hu
    simp only [hu]
    clear hu htk
    have oc := o.cell
    have of := o.frozen
    have bc := bm.cell
    have hk72 : k < maxLen := by unfold maxLen; omega
    have HK72 := Aside0.mk hk72
    have HHS := Aside0.mk hWs
    clear hk72 hk hlen hWs
    by_cases hu1 : u < 16
    · have e1 : decide (u < 16) = true := decide_eq_true hu1
      rw [e1] at hstep
      have hno : okL [] (d ++ c) = false := by rw [hstep]; rfl
      have HNO := Aside0.mk hno
      clear hno hstep hat hu1
      gi_wp2
      exact ⟨.of_others (KeepsOthers.setCell _ _ _), rfl, o.set _, hB.setCell (p := ⟨H + 1, 0, none⟩) (Nat.le_succ H) _, HNO.out⟩
    · have e1 : decide (u < 16) = false := decide_eq_false hu1
      by_cases hu2 : u ≥ 4096
      · have e2 : decide (4096 ≤ u) = true := decide_eq_true hu2
        have hno : okL [] (d ++ c) = false := by rw [hstep, e1, show decide (u ≥ 4096) = true from e2]; rfl
        have HNO := Aside0.mk hno
        clear hno hstep hat hu1 hu2
        gi_wp2
        exact ⟨.of_others (KeepsOthers.setCell _ _ _), rfl, o.set _, hB.setCell (p := ⟨H + 1, 0, none⟩) (Nat.le_succ H) _, HNO.out⟩
      · have e2 : decide (4096 ≤ u) = false := decide_eq_false hu2
        have hw := u32_small u (by omega) (by omega)
        have hrun := lookB hm hw hat
        by_cases hu3 : u ∈ (d ++ c).take k
        · have e3 : decide (u ∈ (d ++ c).take k) = true := decide_eq_true hu3
          rw [e3] at hrun
          have hno : okL [] (d ++ c) = false := by rw [hstep, e1, show decide (u ≥ 4096) = false from e2, e3]; rfl
          have HNO := Aside0.mk hno
          clear hno hstep hat hu1 hu2 hu3 e3
          gi_wp2
          exact ⟨.of_others (KeepsOthers.setCell _ _ _), rfl, o.set _, hB.setCell (p := ⟨H + 1, 0, none⟩) (Nat.le_succ H) _, HNO.out⟩
        · have e3 : decide (u ∈ (d ++ c).take k) = false := decide_eq_false hu3
          rw [e3] at hrun
          have hgo : okL [] (d ++ c) = okL ((d ++ c).take (k + 1)) ((d ++ c).drop (k + 1)) := by rw [hstep, e1, show decide (u ≥ 4096) = false from e2, e3]; rfl
          have HGO := Aside0.mk hgo
          have HW := Aside0.mk hw
          clear hgo hstep hat hu1 hu2 hu3 e3 hw
          gi_wp2_with (first | (gi_at_mapUpdate; refine wpListIn_mapUpdate_own _ rfl _ _ _ 56 rfl 35 4 (int_keyed Try.underlying35) Try.underlying56 _ (H + 2) k D rfl hm HK72.out _ _ (.int .u32 u) rfl rfl (keyOf_int_mk Try.underlying35 HW.out) (.lit (.bool true)) [] (plainElem_bool Try.underlying4 true) ?_; intro w1 hown1 hgrow1) | gi_in)
          have hsz := hgrow1.size
          refine ⟨.of_grownBy hgrow1 ?_, .of_same hsz (fun j q hj hq => hgrow1.block j (Array.getElem?_eq_some_iff.1 hq).1 ?_), o.kept hgrow1 (by simp), bm.kept hgrow1 (by simp), hB.grown hgrow1 (by have := HHS.out; omega) (fun j ej => by cases ej; omega), _, hown1, ⟨?_, ?_, HGO.out⟩⟩
          · intro j q ej hq
            cases ej
            obtain ⟨es, clock, hb, _⟩ := hm
            rw [hb] at hq; cases hq; rfl
          · intro ej
            cases ej
            rcases hj with hj | ⟨_, _, rfl⟩
            · omega
            · obtain ⟨es, clock, hb, _⟩ := hm
              rw [hb] at hq; cases hq
          · exact hD.out.1.put _ _
          · intro x
            by_cases hx : x = u
            · subst hx
              rw [atKey_put_same hD.out.1 (by trivial), HT.out]; simp
            · rw [atKey_put_other (by intro h; cases h; exact hx rfl), hD.out.2.1 x, HT.out]; simp [hx]
  case done =>
    rintro W ⟨o, bm, hB, D, hm, hD⟩ hWs hDf
    have oc := o.cell
    have hr : okL [] (d ++ c) = true := by
      rw [hD.out.2.2, List.drop_of_length_le (by rw [List.length_append]; omega)]; rfl
    have HR := Aside0.mk hr
    clear hr
    gi_wp2
    refine ⟨by simp, .inl ⟨_, _, rfl, run_takeDeferred hDf, ?_⟩⟩
    refine ⟨_, results_tmp rfl _ _ _, ?_⟩
    refine ⟨by rw [HR.out]; rfl, ?_⟩
    rw [hH]
    exact hB.trans (belowK_b (w := W1) (by omega) W _ _ _ (by omega) hDf rfl rfl)
  case stop =>
    rintro q k W hk ⟨rfl, o, hB, hr⟩ hWs hDf
    have oc := o.cell
    have HR := Aside0.mk hr
    clear hr
    gi_wp2
    simp only [Exit.noGoto]
    refine ⟨by simp, .inl ⟨_, _, rfl, run_takeDeferred hDf, ?_⟩⟩
    refine ⟨_, results_tmp rfl _ _ _, ?_⟩
    refine ⟨by rw [HR.out]; rfl, ?_⟩
    rw [hH]
    exact hB.trans (belowK_b (w := W1) (by omega) W _ _ _ (by omega) hDf rfl rfl)
set_option maxHeartbeats 4000000 in
theorem right_no0 (a b : Int) (A2 : Option Addr) (n2 c2 : Nat) (A3 : Option Addr) (n3 c3 : Nat) (w : World) (h1 : (a == 0) = true) :
    Calls Try.prog 12 #[.agg #[.int .u64 a, .int .u64 b, .slice A2 n2 c2, .slice A3 n3 c3]] w fun e w' => e = .returned (.bool false) ∧ Below w.heap.size w w' := by
  go_enter Try.func12, Try.ntmps12
  go_wp2_with fail
  refine wp_scope_straight ?_
  go_wp2_with fail
  (try simp only [Exit.noGoto])
  go_ret
  exact ⟨rfl, (Below.refl _ w).alloc (Nat.le_refl _) _⟩
set_option maxHeartbeats 4000000 in
theorem right_no1 (a b : Int) (A2 : Option Addr) (n2 c2 : Nat) (A3 : Option Addr) (n3 c3 : Nat) (w : World) (h1 : (a == 0) = false) (h2 : decide (281474976710656 ≤ a) = true) :
    Calls Try.prog 12 #[.agg #[.int .u64 a, .int .u64 b, .slice A2 n2 c2, .slice A3 n3 c3]] w fun e w' => e = .returned (.bool false) ∧ Below w.heap.size w w' := by
  go_enter Try.func12, Try.ntmps12
  go_wp2_with fail
  refine wp_scope_straight ?_
  go_wp2_with fail
  (try simp only [Exit.noGoto])
  go_ret
  exact ⟨rfl, (Below.refl _ w).alloc (Nat.le_refl _) _⟩
set_option maxHeartbeats 4000000 in
theorem right_no2 (a b : Int) (A2 : Option Addr) (n2 c2 : Nat) (A3 : Option Addr) (n3 c3 : Nat) (w : World) (h1 : (a == 0) = false) (h2 : decide (281474976710656 ≤ a) = false) (h3 : decide (281474976710656 ≤ b) = true) :
    Calls Try.prog 12 #[.agg #[.int .u64 a, .int .u64 b, .slice A2 n2 c2, .slice A3 n3 c3]] w fun e w' => e = .returned (.bool false) ∧ Below w.heap.size w w' := by
  go_enter Try.func12, Try.ntmps12
  go_wp2_with fail
  refine wp_scope_straight ?_
  go_wp2_with fail
  (try simp only [Exit.noGoto])
  go_ret
  exact ⟨rfl, (Below.refl _ w).alloc (Nat.le_refl _) _⟩
set_option maxHeartbeats 4000000 in
theorem right_no3 (a b : Int) (A2 : Option Addr) (n2 c2 : Nat) (A3 : Option Addr) (n3 c3 : Nat) (w : World) (h1 : (a == 0) = false) (h2 : decide (281474976710656 ≤ a) = false) (h3 : decide (281474976710656 ≤ b) = false) (h4 : ((n2 : Int) == 0) = true) :
    Calls Try.prog 12 #[.agg #[.int .u64 a, .int .u64 b, .slice A2 n2 c2, .slice A3 n3 c3]] w fun e w' => e = .returned (.bool false) ∧ Below w.heap.size w w' := by
  go_enter Try.func12, Try.ntmps12
  go_wp2_with fail
  refine wp_scope_straight ?_
  go_wp2_with fail
  (try simp only [Exit.noGoto])
  go_ret
  exact ⟨rfl, (Below.refl _ w).alloc (Nat.le_refl _) _⟩
set_option maxHeartbeats 4000000 in
theorem right_no4 (a b : Int) (A2 : Option Addr) (n2 c2 : Nat) (A3 : Option Addr) (n3 c3 : Nat) (w : World) (h1 : (a == 0) = false) (h2 : decide (281474976710656 ≤ a) = false) (h3 : decide (281474976710656 ≤ b) = false) (h4 : ((n2 : Int) == 0) = false) (h5 : decide (60 < (n2 : Int)) = true) :
    Calls Try.prog 12 #[.agg #[.int .u64 a, .int .u64 b, .slice A2 n2 c2, .slice A3 n3 c3]] w fun e w' => e = .returned (.bool false) ∧ Below w.heap.size w w' := by
  go_enter Try.func12, Try.ntmps12
  go_wp2_with fail
  refine wp_scope_straight ?_
  go_wp2_with fail
  (try simp only [Exit.noGoto])
  go_ret
  exact ⟨rfl, (Below.refl _ w).alloc (Nat.le_refl _) _⟩
set_option maxHeartbeats 4000000 in
theorem right_no5 (a b : Int) (A2 : Option Addr) (n2 c2 : Nat) (A3 : Option Addr) (n3 c3 : Nat) (w : World) (h1 : (a == 0) = false) (h2 : decide (281474976710656 ≤ a) = false) (h3 : decide (281474976710656 ≤ b) = false) (h4 : ((n2 : Int) == 0) = false) (h5 : decide (60 < (n2 : Int)) = false) (h6 : ((n3 : Int) == 0) = true) :
    Calls Try.prog 12 #[.agg #[.int .u64 a, .int .u64 b, .slice A2 n2 c2, .slice A3 n3 c3]] w fun e w' => e = .returned (.bool false) ∧ Below w.heap.size w w' := by
  go_enter Try.func12, Try.ntmps12
  go_wp2_with fail
  refine wp_scope_straight ?_
  go_wp2_with fail
  (try simp only [Exit.noGoto])
  go_ret
  exact ⟨rfl, (Below.refl _ w).alloc (Nat.le_refl _) _⟩
set_option maxHeartbeats 4000000 in
theorem right_no6 (a b : Int) (A2 : Option Addr) (n2 c2 : Nat) (A3 : Option Addr) (n3 c3 : Nat) (w : World) (h1 : (a == 0) = false) (h2 : decide (281474976710656 ≤ a) = false) (h3 : decide (281474976710656 ≤ b) = false) (h4 : ((n2 : Int) == 0) = false) (h5 : decide (60 < (n2 : Int)) = false) (h6 : ((n3 : Int) == 0) = false) (h7 : decide (12 < (n3 : Int)) = true) :
    Calls Try.prog 12 #[.agg #[.int .u64 a, .int .u64 b, .slice A2 n2 c2, .slice A3 n3 c3]] w fun e w' => e = .returned (.bool false) ∧ Below w.heap.size w w' := by
  go_enter Try.func12, Try.ntmps12
  go_wp2_with fail
  refine wp_scope_straight ?_
  go_wp2_with fail
  (try simp only [Exit.noGoto])
  go_ret
  exact ⟨rfl, (Below.refl _ w).alloc (Nat.le_refl _) _⟩
theorem root_Right.calls (a b : Int) (A2 : Option Addr) (c2 : Nat) (d : List Int) (A3 : Option Addr) (c3 : Nat) (c : List Int) (r : Bool) (w : World) (hC2 : Kd.C (Kd.int .u32) w A2 d.length d) (hc2 : d.length ≤ c2) (hC3 : Kd.C (Kd.int .u32) w A3 c.length c) (hc3 : c.length ≤ c3) (h : root_Right.f a b d c = some r) :
    Calls Try.prog 12 #[.agg #[.int .u64 a, .int .u64 b, .slice A2 d.length c2, .slice A3 c.length c3]] w fun e w' => e = .returned (.bool r) ∧ Below w.heap.size w w' := by
  obtain rfl := Option.some.inj h
  unfold rightV headR
  cases h1 : (a == 0) with
  | true => exact right_no0 a b A2 _ c2 A3 _ c3 w h1
  | false =>
  cases h2 : decide (a ≥ 281474976710656) with
  | true => exact right_no1 a b A2 _ c2 A3 _ c3 w h1 h2
  | false =>
  cases h3 : decide (b ≥ 281474976710656) with
  | true => exact right_no2 a b A2 _ c2 A3 _ c3 w h1 h2 h3
  | false =>
  cases h4 : decide ((d.length : Int) = 0) with
  | true => exact right_no3 a b A2 _ c2 A3 _ c3 w h1 h2 h3 h4
  | false =>
  cases h5 : decide ((d.length : Int) > 60) with
  | true => exact right_no4 a b A2 _ c2 A3 _ c3 w h1 h2 h3 h4 h5
  | false =>
  cases h6 : decide ((c.length : Int) = 0) with
  | true => exact right_no5 a b A2 _ c2 A3 _ c3 w h1 h2 h3 h4 h5 h6
  | false =>
  cases h7 : decide ((c.length : Int) > 12) with
  | true => exact right_no6 a b A2 _ c2 A3 _ c3 w h1 h2 h3 h4 h5 h6 h7
  | false => exact right_yes a b A2 c2 d A3 c3 c w hC2 hC3 h1 h2 h3 h4 h5 h6 h7
end Go.Proofs.Ytmpcpcfdomlehaa.Q
