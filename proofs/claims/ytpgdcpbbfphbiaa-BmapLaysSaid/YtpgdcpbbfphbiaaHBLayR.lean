/- nautilusref13.Lay: the reference's map of numbers. -/
import Derived.Test.YtpgdcpbbfphbiaaQ11
import Derived.Test.YtpgdcpbbfphbiaaQ13
import Derived.Test.YtpgdcpbbfphbiaaQ15
import Derived.Test.YtpgdcpbbfphbiaaHBLayC
import Derived.Test.YtpgdcpbbfphbiaaHIRgt
set_option linter.unusedVariables false
set_option linter.unusedSimpArgs false
namespace Go.Proofs.Ytpgdcpbbfphbiaa.Q
open Go.RowKit Go.Shelf Go.Proofs.Ytpgdcpbbfphbiaa.H Go.Proofs.YtpgdcpbbfphbiaaW.PrintWords Go.Proofs.YtpgdcpbbfphbiaaW.PrintLast Go.Proofs.YtpgdcpbbfphbiaaW.PrintMore
attribute [local go_sem] max2_int min2_int max_two min_two Oper.semAt_some
set_option maxRecDepth 100000

def partsR (k : Nat) (l : List Int) : Nat → Nat → Option (List ByteArray)
  | 0, _ => some []
  | n + 1, j => (nautilusref13_block.f k (partL 127 l j)).bind fun b => (partsR k l n (j + 1)).bind fun bs => some (b :: bs)
def layTail (k : Nat) (d : Int) (l1 l2 : List Int) : Option LayR :=
  if d = 0 then (if l1.length ≤ 6 then some (l1.getD 0 0, l1.getD 1 0, l1.getD 2 0, l1.getD 3 0, l1.getD 4 0, l1.getD 5 0, [], 0) else none)
  else if l2.length = 0 then none
  else if d = 1 then (nautilusref13_block.f k l1).bind fun b => some (l2.getD 0 0, 0, 0, 0, 0, 0, [b], 0)
  else (nautilusref13_block.f k (l2.drop 1)).bind fun b => (partsR k l1 (partN 127 l1) 0).bind fun bs => some (l2.getD 0 0, 0, 0, 0, 0, 0, b :: bs, 0)
def nautilusref13_Lay.f (size : Int) (l1 l2 : List Int) : Option LayR :=
  if size > 8193532 then some layErr else
    (nautilusref10_Blocks.f size).bind fun b => if (l1.length : Int) = b then
      ((nautilusref13_Count.f size).bind fun c => if (l2.length : Int) = c then
        (if l1.length ≤ 1000000 ∧ l2.length ≤ 1000000 then (if (l2.any fun x => x == 0) = true then some layErr else (nautilusref10_Depth.f size).bind fun d => layTail 1000 d l1 l2) else none)
      else some layErr) else some layErr
set_option maxHeartbeats 4000000 in
theorem layR_e1 (size : Int) (A1 : Option Addr) (c1 : Nat) (A2 : Option Addr) (c2 : Nat) (n1 : Nat) (n2 : Nat) (w : World) (hz : decide (8193532 < size) = true) :
    Calls Try.prog 16 #[.int .u32 size, .slice A1 n1 c1, .slice A2 n2 c2] w fun e w' => e = .returned (.tuple #[.agg z6, .slice none 0 0, .int .i64 130]) ∧ Below w.heap.size w w' := by
  go_enter Try.func16, Try.ntmps16
  go_upto_region 2 with (fail)
  obtain ⟨r0, r1, hB, hsz⟩ := lay_boxes w
  generalize (w.alloc (.cells z6 32)).alloc (.cells z6 32) = w1 at r0 r1 hB hsz ⊢
  obtain ⟨⟨q0, q1, q2, q3, q4, q5⟩, f0, f1, f2, f3, f4, f5⟩ := arr_facts r0
  obtain ⟨⟨u0, u1, u2, u3, u4, u5⟩, _⟩ := arr_facts r1
  have R0 := Aside0.mk r0
  have B4 := Aside0.mk hB
  clear r0 r1 hB hsz
  go_wp2_with fail
  refine bodyPost_ret (results_ctt rfl _ _ w.heap.size 32 _ (0, 0) _ rfl (six_cells R0.out _ _ _ _ _ _) Try.underlying32 rfl (by kernel_rfl)) rfl ?_
  exact ⟨rfl, six_below B4.out (Nat.le_refl _) _ _ _ _ _ _⟩
set_option maxHeartbeats 4000000 in
theorem layR_e2 (size : Int) (A1 : Option Addr) (c1 : Nat) (A2 : Option Addr) (c2 : Nat) (n1 : Nat) (n2 : Nat) (w : World) (hz : decide (8193532 < size) = false) (b : Int) (hbl : nautilusref10_Blocks.f size = some b) (hne : ((n1 : Int) != b) = true) :
    Calls Try.prog 16 #[.int .u32 size, .slice A1 n1 c1, .slice A2 n2 c2] w fun e w' => e = .returned (.tuple #[.agg z6, .slice none 0 0, .int .i64 130]) ∧ Below w.heap.size w w' := by
  have HBL := Aside0.mk hbl
  clear hbl
  go_enter Try.func16, Try.ntmps16
  go_upto_region 2 with (fail)
  obtain ⟨r0, r1, hB, hsz⟩ := lay_boxes w
  generalize (w.alloc (.cells z6 32)).alloc (.cells z6 32) = w1 at r0 r1 hB hsz ⊢
  go_wp2_with fail
  refine (nautilusref10_Blocks.calls size _ _ HBL.out).mono ?_
  rintro e w2 ⟨rfl, hd⟩
  have hh := hd.out
  replace r0 : w2.heap[w.heap.size]? = some (.cells z6 32 (0, 0)) := by obtain ⟨n, rfl⟩ := hh; exact r0
  replace r1 : w2.heap[w.heap.size + 1]? = some (.cells z6 32 (0, 0)) := by obtain ⟨n, rfl⟩ := hh; exact r1
  replace hsz : w2.heap.size = w.heap.size + 2 := by obtain ⟨n, rfl⟩ := hh; exact hsz
  replace hB : Below w.heap.size w w2 := by obtain ⟨n, rfl⟩ := hh; first | exact pw_below_drewN hB n | exact pw_below_drewN (pw_below_drewN hB _) n
  clear hh hd
  obtain ⟨⟨q0, q1, q2, q3, q4, q5⟩, f0, f1, f2, f3, f4, f5⟩ := arr_facts r0
  obtain ⟨⟨u0, u1, u2, u3, u4, u5⟩, _⟩ := arr_facts r1
  have R0 := Aside0.mk r0
  have B4 := Aside0.mk hB
  clear r0 r1 hB hsz
  go_wp2_with fail
  refine bodyPost_ret (results_ctt rfl _ _ w.heap.size 32 _ (0, 0) _ rfl (six_cells R0.out _ _ _ _ _ _) Try.underlying32 rfl (by kernel_rfl)) rfl ?_
  exact ⟨rfl, six_below B4.out (Nat.le_refl _) _ _ _ _ _ _⟩
set_option maxHeartbeats 4000000 in
theorem layR_e3 (size : Int) (A1 : Option Addr) (c1 : Nat) (A2 : Option Addr) (c2 : Nat) (n1 : Nat) (n2 : Nat) (w : World) (hz : decide (8193532 < size) = false) (hbl : nautilusref10_Blocks.f size = some (n1 : Int)) (b : Int) (hct : nautilusref13_Count.f size = some b) (hne : ((n2 : Int) != b) = true) :
    Calls Try.prog 16 #[.int .u32 size, .slice A1 n1 c1, .slice A2 n2 c2] w fun e w' => e = .returned (.tuple #[.agg z6, .slice none 0 0, .int .i64 130]) ∧ Below w.heap.size w w' := by
  have HBL := Aside0.mk hbl
  have HCT := Aside0.mk hct
  clear hbl hct
  go_enter Try.func16, Try.ntmps16
  go_upto_region 2 with (fail)
  obtain ⟨r0, r1, hB, hsz⟩ := lay_boxes w
  generalize (w.alloc (.cells z6 32)).alloc (.cells z6 32) = w1 at r0 r1 hB hsz ⊢
  go_wp2_with fail
  refine (nautilusref10_Blocks.calls size _ _ HBL.out).mono ?_
  rintro e w2 ⟨rfl, hd⟩
  have hh := hd.out
  replace r0 : w2.heap[w.heap.size]? = some (.cells z6 32 (0, 0)) := by obtain ⟨n, rfl⟩ := hh; exact r0
  replace r1 : w2.heap[w.heap.size + 1]? = some (.cells z6 32 (0, 0)) := by obtain ⟨n, rfl⟩ := hh; exact r1
  replace hsz : w2.heap.size = w.heap.size + 2 := by obtain ⟨n, rfl⟩ := hh; exact hsz
  replace hB : Below w.heap.size w w2 := by obtain ⟨n, rfl⟩ := hh; first | exact pw_below_drewN hB n | exact pw_below_drewN (pw_below_drewN hB _) n
  clear hh hd
  go_wp2_with fail
  refine (nautilusref13_Count.calls size _ _ HCT.out).mono ?_
  rintro e w3 ⟨rfl, hd⟩
  have hh := hd.out
  replace r0 : w3.heap[w.heap.size]? = some (.cells z6 32 (0, 0)) := by obtain ⟨n, rfl⟩ := hh; exact r0
  replace r1 : w3.heap[w.heap.size + 1]? = some (.cells z6 32 (0, 0)) := by obtain ⟨n, rfl⟩ := hh; exact r1
  replace hsz : w3.heap.size = w.heap.size + 2 := by obtain ⟨n, rfl⟩ := hh; exact hsz
  replace hB : Below w.heap.size w w3 := by obtain ⟨n, rfl⟩ := hh; first | exact pw_below_drewN hB n | exact pw_below_drewN (pw_below_drewN hB _) n
  clear hh hd
  obtain ⟨⟨q0, q1, q2, q3, q4, q5⟩, f0, f1, f2, f3, f4, f5⟩ := arr_facts r0
  obtain ⟨⟨u0, u1, u2, u3, u4, u5⟩, _⟩ := arr_facts r1
  have R0 := Aside0.mk r0
  have B4 := Aside0.mk hB
  clear r0 r1 hB hsz
  go_wp2_with fail
  refine bodyPost_ret (results_ctt rfl _ _ w.heap.size 32 _ (0, 0) _ rfl (six_cells R0.out _ _ _ _ _ _) Try.underlying32 rfl (by kernel_rfl)) rfl ?_
  exact ⟨rfl, six_below B4.out (Nat.le_refl _) _ _ _ _ _ _⟩
set_option maxHeartbeats 4000000 in
theorem layR_e4 (size : Int) (A1 : Option Addr) (c1 : Nat) (A2 : Option Addr) (c2 : Nat) (l1 l2 : List Int) (w : World) (hC1 : Kd.C (Kd.int .u32) w A1 l1.length l1) (hC2 : Kd.C (Kd.int .u32) w A2 l2.length l2) (hz : decide (8193532 < size) = false) (hbl : nautilusref10_Blocks.f size = some (l1.length : Int)) (hct : nautilusref13_Count.f size = some (l2.length : Int)) (hn2 : l2.length ≤ 1000000) (hany : l2.any (fun x => x == 0) = true) :
    Calls Try.prog 16 #[.int .u32 size, .slice A1 l1.length c1, .slice A2 l2.length c2] w fun e w' => e = .returned (.tuple #[.agg z6, .slice none 0 0, .int .i64 130]) ∧ Below w.heap.size w w' := by
  have HBL := Aside0.mk hbl
  have HCT := Aside0.mk hct
  have HC1 := Aside0.mk hC1
  have HC2 := Aside0.mk hC2
  clear hbl hct hC1 hC2
  have HANY := Aside0.mk hany
  clear hany
  go_enter Try.func16, Try.ntmps16
  go_upto_region 2 with (fail)
  obtain ⟨r0, r1, hB, hsz⟩ := lay_boxes w
  generalize (w.alloc (.cells z6 32)).alloc (.cells z6 32) = w1 at r0 r1 hB hsz ⊢
  go_wp2_with fail
  refine (nautilusref10_Blocks.calls size _ _ HBL.out).mono ?_
  rintro e w2 ⟨rfl, hd⟩
  have hh := hd.out
  replace r0 : w2.heap[w.heap.size]? = some (.cells z6 32 (0, 0)) := by obtain ⟨n, rfl⟩ := hh; exact r0
  replace r1 : w2.heap[w.heap.size + 1]? = some (.cells z6 32 (0, 0)) := by obtain ⟨n, rfl⟩ := hh; exact r1
  replace hsz : w2.heap.size = w.heap.size + 2 := by obtain ⟨n, rfl⟩ := hh; exact hsz
  replace hB : Below w.heap.size w w2 := by obtain ⟨n, rfl⟩ := hh; first | exact pw_below_drewN hB n | exact pw_below_drewN (pw_below_drewN hB _) n
  clear hh hd
  go_wp2_with fail
  refine (nautilusref13_Count.calls size _ _ HCT.out).mono ?_
  rintro e w3 ⟨rfl, hd⟩
  have hh := hd.out
  replace r0 : w3.heap[w.heap.size]? = some (.cells z6 32 (0, 0)) := by obtain ⟨n, rfl⟩ := hh; exact r0
  replace r1 : w3.heap[w.heap.size + 1]? = some (.cells z6 32 (0, 0)) := by obtain ⟨n, rfl⟩ := hh; exact r1
  replace hsz : w3.heap.size = w.heap.size + 2 := by obtain ⟨n, rfl⟩ := hh; exact hsz
  replace hB : Below w.heap.size w w3 := by obtain ⟨n, rfl⟩ := hh; first | exact pw_below_drewN hB n | exact pw_below_drewN (pw_below_drewN hB _) n
  clear hh hd
  obtain ⟨H, hH⟩ : ∃ H, w.heap.size = H := ⟨_, rfl⟩
  simp only [hH] at r0 r1 hB hsz ⊢
  have HW := Aside0.mk (And.intro r0 (And.intro r1 (And.intro hB hsz)))
  clear r0 r1 hB hsz
  go_wp2_with fail
  go_loopg [10] (l2.length + 1) (fun gg v10 wr => ∃ j : Nat, v10 = .int .i64 j ∧ j ≤ l2.length ∧ l2.length - j < gg ∧ Aside0 ((l2.take j).any (fun x => x == 0) = false) ∧ Aside0 (wr.heap[H]? = some (.cells z6 32 (0, 0)) ∧ wr.heap[H + 1]? = some (.cells z6 32 (0, 0)) ∧ Below H w wr ∧ wr.heap.size = H + 2))
  case atStart => exact ⟨0, rfl, Nat.zero_le _, by omega, ⟨rfl⟩, HW⟩
  case round =>
    clear HW
    obtain ⟨j, rfl, hj, hg, HA, HW⟩ := hrel
    by_cases hlt : j < l2.length
    · obtain ⟨ad, e0, g0⟩ := Kd.at_int (Kd.C_below HC2.out (by rw [hH]; exact HW.out.2.2.1)) (j : Int) (by omega) (by omega)
      simp only [Int.toNat_natCast] at g0
      have hgd : rd l2 (j : Int) = l2.getD j 0 := by simp [rd]
      rw [hgd] at g0
      have hjl : decide ((j : Int) < (l2.length : Int)) = true := decide_eq_true (by omega)
      have hjb : (j : Int) < (l2.length : Int) := by omega
      have hj0 : (0 : Int) ≤ (j : Int) := by omega
      have hst : (l2.take (j + 1)).any (fun x => x == 0) = ((l2.take j).any (fun x => x == 0) || (l2.getD j 0 == 0)) := by
        rw [List.take_succ_eq_append_getElem hlt, List.any_append]; simp [hlt]
      rw [HA.out, Bool.false_or] at hst
      obtain ⟨u, hu⟩ : ∃ u, l2.getD j 0 = u := ⟨_, rfl⟩
      rw [hu] at g0 hst
      have HLT := Aside0.mk hlt
      have HG := Aside0.mk hg
      by_cases hu0 : u = 0
      · have hne : (u == 0) = true := by simp [hu0]
        clear hst hu hu0 hgd hj hg hlt HA
        obtain ⟨r0, r1, hB, hsz⟩ := HW.out
        rw [← hH] at r0 r1
        obtain ⟨⟨q0, q1, q2, q3, q4, q5⟩, f0, f1, f2, f3, f4, f5⟩ := arr_facts r0
        obtain ⟨⟨u0, u1, u2, u3, u4, u5⟩, _⟩ := arr_facts r1
        rw [hH] at q0 q1 q2 q3 q4 q5 f0 f1 f2 f3 f4 f5 u0 u1 u2 u3 u4 u5 r0 r1
        have R0 := Aside0.mk r0
        have B4 := Aside0.mk hB
        clear r0 r1 hB hsz HW
        subst e0
        go_wp2_with fail
        refine bodyPost_ret (results_ctt rfl _ _ H 32 _ (0, 0) _ rfl (six_cells R0.out _ _ _ _ _ _) Try.underlying32 rfl (by kernel_rfl)) rfl ?_
        exact ⟨rfl, by rw [hH]; exact six_below B4.out (Nat.le_refl _) _ _ _ _ _ _⟩
      · have hne : (u == 0) = false := by simp [hu0]
        rw [hne] at hst
        have HS := Aside0.mk hst
        clear hst hu hu0 hgd hj hg hlt HA
        subst e0
        go_wp2_with fail
        go_roundg (l2.length - j)
        case measure => have := HG.out; have := HLT.out; omega
        case rel => exact ⟨j + 1, by go_num, HLT.out, by have := HLT.out; omega, HS, HW⟩
    · have hjl : decide ((j : Int) < (l2.length : Int)) = false := decide_eq_false (by omega)
      have hjb : ¬ (j : Int) < (l2.length : Int) := by omega
      obtain rfl : j = l2.length := by omega
      have := HA.out
      rw [List.take_length, HANY.out] at this
      exact absurd this (by decide)
def arr6 (l : List Int) (j : Nat) : Array Value := ((l.take j ++ List.replicate (6 - j) 0).map (Value.int .u32)).toArray
theorem arr6_cell {W : World} {G : Nat} {t : TypeId} {l : List Int} {i : Nat} (h : W.heap[G]? = some (.cells (arr6 l i) t (0, 0))) (j : Nat) (hj : j < (arr6 l i).size) : ∃ v, W.cell? ⟨G, j, none⟩ = some v := by
  rw [Lib.cell_of_heap h]
  exact ⟨_, Array.getElem?_eq_getElem hj⟩
theorem arr6_set {W : World} {G : Nat} {t : TypeId} {l : List Int} {j : Nat} (h : W.heap[G]? = some (.cells (arr6 l j) t (0, 0))) (_ : True) (hj : j < l.length) (hl : l.length ≤ 6) :
    (W.setCell ⟨G, j, none⟩ (.int .u32 (l.getD j 0))).heap[G]? = some (.cells (arr6 l (j + 1)) t (0, 0)) := by
  have e : (arr6 l j).setIfInBounds j (.int .u32 (l.getD j 0)) = arr6 l (j + 1) := by
    unfold arr6
    rw [List.setIfInBounds_toArray, ← List.map_set]
    congr 2
    rw [List.set_append_right _ _ (by rw [List.length_take]; omega), List.take_succ_eq_append_getElem hj, List.append_assoc]
    congr 1
    rw [show j - (l.take j).length = 0 by rw [List.length_take]; omega, show 6 - j = (6 - (j + 1)) + 1 by omega, List.replicate_succ]
    simp [hj]
  rw [← e]
  simp [World.setCell, Array.getElem?_modify, h]
theorem arr6_all : ∀ (l : List Int), l.length ≤ 6 → arr6 l l.length = #[.int .u32 (l.getD 0 0), .int .u32 (l.getD 1 0), .int .u32 (l.getD 2 0), .int .u32 (l.getD 3 0), .int .u32 (l.getD 4 0), .int .u32 (l.getD 5 0)]
  | [], _ => rfl
  | [_], _ => rfl
  | [_, _], _ => rfl
  | [_, _, _], _ => rfl
  | [_, _, _, _], _ => rfl
  | [_, _, _, _, _], _ => rfl
  | [_, _, _, _, _, _], _ => rfl
  | _ :: _ :: _ :: _ :: _ :: _ :: _ :: _, h => by simp at h
set_option maxHeartbeats 4000000 in
theorem layR_go (size : Int) (A1 : Option Addr) (c1 : Nat) (A2 : Option Addr) (c2 : Nat) (l1 l2 : List Int) (k : Nat) (r0 r1 r2 r3 r4 r5 : Int) (r6 : List ByteArray) (r7 : Int) (w : World) (hC1 : Kd.C (Kd.int .u32) w A1 l1.length l1) (hc1 : l1.length ≤ c1) (hC2 : Kd.C (Kd.int .u32) w A2 l2.length l2) (hc2 : l2.length ≤ c2) (hz : decide (8193532 < size) = false) (hbl : nautilusref10_Blocks.f size = some (l1.length : Int)) (hct : nautilusref13_Count.f size = some (l2.length : Int)) (hn1 : l1.length ≤ 1000000) (hn2 : l2.length ≤ 1000000) (hany : l2.any (fun x => x == 0) = false) (d : Int) (hdp : nautilusref10_Depth.f size = some d) (h : layTail k d l1 l2 = some (r0, r1, r2, r3, r4, r5, r6, r7)) :
    Calls Try.prog 16 #[.int .u32 size, .slice A1 l1.length c1, .slice A2 l2.length c2] w fun e w' => ∃ v0_ : Value, e = .returned (.tuple #[.agg #[.int .u32 r0, .int .u32 r1, .int .u32 r2, .int .u32 r3, .int .u32 r4, .int .u32 r5], v0_, .int .i64 r7]) ∧ Kd.R Kd.string 9 w' w.heap.size (fun _ => True) v0_ r6 ∧ Below w.heap.size w w' := by
  have HBL := Aside0.mk hbl
  have HCT := Aside0.mk hct
  have HC1 := Aside0.mk hC1
  have HC2 := Aside0.mk hC2
  clear hbl hct hC1 hC2
  have HANY := Aside0.mk hany
  have HDP := Aside0.mk hdp
  have HH := Aside0.mk h
  clear hany hdp h
  go_enter Try.func16, Try.ntmps16
  go_upto_region 2 with (fail)
  obtain ⟨x0, x1, hB, hsz⟩ := lay_boxes w
  generalize (w.alloc (.cells z6 32)).alloc (.cells z6 32) = w1 at x0 x1 hB hsz ⊢
  go_wp2_with fail
  refine (nautilusref10_Blocks.calls size _ _ HBL.out).mono ?_
  rintro e w2 ⟨rfl, hd⟩
  have hh := hd.out
  replace x0 : w2.heap[w.heap.size]? = some (.cells z6 32 (0, 0)) := by obtain ⟨n, rfl⟩ := hh; exact x0
  replace x1 : w2.heap[w.heap.size + 1]? = some (.cells z6 32 (0, 0)) := by obtain ⟨n, rfl⟩ := hh; exact x1
  replace hsz : w2.heap.size = w.heap.size + 2 := by obtain ⟨n, rfl⟩ := hh; exact hsz
  replace hB : Below w.heap.size w w2 := by obtain ⟨n, rfl⟩ := hh; first | exact pw_below_drewN hB n | exact pw_below_drewN (pw_below_drewN hB _) n
  clear hh hd
  go_wp2_with fail
  refine (nautilusref13_Count.calls size _ _ HCT.out).mono ?_
  rintro e w3 ⟨rfl, hd⟩
  have hh := hd.out
  replace x0 : w3.heap[w.heap.size]? = some (.cells z6 32 (0, 0)) := by obtain ⟨n, rfl⟩ := hh; exact x0
  replace x1 : w3.heap[w.heap.size + 1]? = some (.cells z6 32 (0, 0)) := by obtain ⟨n, rfl⟩ := hh; exact x1
  replace hsz : w3.heap.size = w.heap.size + 2 := by obtain ⟨n, rfl⟩ := hh; exact hsz
  replace hB : Below w.heap.size w w3 := by obtain ⟨n, rfl⟩ := hh; first | exact pw_below_drewN hB n | exact pw_below_drewN (pw_below_drewN hB _) n
  clear hh hd
  obtain ⟨H, hH⟩ : ∃ H, w.heap.size = H := ⟨_, rfl⟩
  simp only [hH] at x0 x1 hB hsz ⊢
  have HW := Aside0.mk (And.intro x0 (And.intro x1 (And.intro hB hsz)))
  clear x0 x1 hB hsz
  go_wp2_with fail
  go_loopg [10] (l2.length + 1) (fun gg v10 wr => ∃ j : Nat, v10 = .int .i64 j ∧ j ≤ l2.length ∧ l2.length - j < gg ∧ Aside0 ((l2.take j).any (fun x => x == 0) = false) ∧ Aside0 (wr.heap[H]? = some (.cells z6 32 (0, 0)) ∧ wr.heap[H + 1]? = some (.cells z6 32 (0, 0)) ∧ Below H w wr ∧ wr.heap.size = H + 2))
  case atStart => exact ⟨0, rfl, Nat.zero_le _, by omega, ⟨rfl⟩, HW⟩
  case round =>
    clear HW
    obtain ⟨j, rfl, hj, hg, HA, HW⟩ := hrel
    by_cases hlt : j < l2.length
    · obtain ⟨ad, e0, g0⟩ := Kd.at_int (Kd.C_below HC2.out (by rw [hH]; exact HW.out.2.2.1)) (j : Int) (by omega) (by omega)
      simp only [Int.toNat_natCast] at g0
      have hgd : rd l2 (j : Int) = l2.getD j 0 := by simp [rd]
      rw [hgd] at g0
      have hjl : decide ((j : Int) < (l2.length : Int)) = true := decide_eq_true (by omega)
      have hjb : (j : Int) < (l2.length : Int) := by omega
      have hj0 : (0 : Int) ≤ (j : Int) := by omega
      have hst : (l2.take (j + 1)).any (fun x => x == 0) = ((l2.take j).any (fun x => x == 0) || (l2.getD j 0 == 0)) := by
        rw [List.take_succ_eq_append_getElem hlt, List.any_append]; simp [hlt]
      rw [HA.out, Bool.false_or] at hst
      obtain ⟨u, hu⟩ : ∃ u, l2.getD j 0 = u := ⟨_, rfl⟩
      rw [hu] at g0 hst
      have HLT := Aside0.mk hlt
      have HG := Aside0.mk hg
      by_cases hu0 : u = 0
      · have hne : (u == 0) = true := by simp [hu0]
        rw [hne] at hst
        have : l2.any (fun x => x == 0) = true := by
          rw [← List.take_append_drop (j + 1) l2, List.any_append, hst]; rfl
        rw [HANY.out] at this
        exact absurd this (by decide)
      · have hne : (u == 0) = false := by simp [hu0]
        rw [hne] at hst
        have HS := Aside0.mk hst
        clear hst hu hu0 hgd hj hg hlt HA
        subst e0
        go_wp2_with fail
        go_roundg (l2.length - j)
        case measure => have := HG.out; have := HLT.out; omega
        case rel => exact ⟨j + 1, by go_num, HLT.out, by have := HLT.out; omega, HS, HW⟩
    · have hjl : decide ((j : Int) < (l2.length : Int)) = false := decide_eq_false (by omega)
      have hjb : ¬ (j : Int) < (l2.length : Int) := by omega
      obtain rfl : j = l2.length := by omega
      clear hj hg hlt HA
      obtain ⟨x0, x1, hB, hsz⟩ := HW.out
      obtain ⟨⟨u0, u1, u2, u3, u4, u5⟩, _⟩ := arr_facts x1
      clear HW
      go_upto_region 10 with (fail)
      have x2 : (wr.alloc (.cells z6 32)).heap[H + 2]? = some (.cells z6 32 (0, 0)) := by rw [← hsz]; exact World.alloc_heap_new _ _
      have x3 : (wr.alloc (.cells z6 32)).heap[H]? = some (.cells z6 32 (0, 0)) := (Below.heap_alloc _ _ _ (by omega)).trans x0
      have hB5 : Below H w (wr.alloc (.cells z6 32)) := hB.alloc (by omega) _
      have hs5 : (wr.alloc (.cells z6 32)).heap.size = H + 3 := by rw [World.size_alloc, hsz]
      try simp only [hsz]
      clear x0 x1 hB hsz u0 u1 u2 u3 u4 u5
      generalize wr.alloc (.cells z6 32) = w5 at x2 x3 hB5 hs5 ⊢
      go_wp2_with fail
      refine (nautilusref10_Depth.calls size _ _ HDP.out).mono ?_
      rintro e w6 ⟨rfl, hd⟩
      have hh := hd.out
      replace x2 : w6.heap[H + 2]? = some (.cells z6 32 (0, 0)) := by obtain ⟨n, rfl⟩ := hh; exact x2
      replace x3 : w6.heap[H]? = some (.cells z6 32 (0, 0)) := by obtain ⟨n, rfl⟩ := hh; exact x3
      replace hs5 : w6.heap.size = H + 3 := by obtain ⟨n, rfl⟩ := hh; exact hs5
      replace hB5 : Below H w w6 := by obtain ⟨n, rfl⟩ := hh; exact pw_below_drewN hB5 n
      clear hh hd
      have hh := HH.out
      unfold layTail at hh
      clear HH HANY HBL HCT HDP
      by_cases hd0 : d = 0
      · rw [if_pos hd0] at hh
        by_cases hl6 : l1.length ≤ 6
        case neg => rw [if_neg hl6] at hh; simp at hh
        rw [if_pos hl6] at hh
        have hdz : (d == 0) = true := by simp [hd0]
        have HHH := Aside0.mk hh
        have HWW := Aside0.mk (And.intro x2 (And.intro x3 hB5))
        clear hh x2 x3 hs5 hB5 hd0
        go_wp2_with fail
        go_loopg [13] (l1.length + 1) (fun gg v13 wr => ∃ j : Nat, v13 = .int .i64 j ∧ j ≤ l1.length ∧ l1.length - j < gg ∧ Aside0 (wr.heap[H + 2]? = some (.cells (arr6 l1 j) 32 (0, 0)) ∧ wr.heap[H]? = some (.cells z6 32 (0, 0)) ∧ Below H w wr))
        case atStart => exact ⟨0, rfl, Nat.zero_le _, by omega, HWW⟩
        case round =>
          clear HWW
          obtain ⟨j, rfl, hj, hg, HW⟩ := hrel
          by_cases hlt : j < l1.length
          · obtain ⟨ad, e0, g0⟩ := Kd.at_int (Kd.C_below HC1.out (by rw [hH]; exact HW.out.2.2)) (j : Int) (by omega) (by omega)
            simp only [Int.toNat_natCast] at g0
            have hgd : rd l1 (j : Int) = l1.getD j 0 := by simp [rd]
            rw [hgd] at g0
            have hjl : decide ((j : Int) < (l1.length : Int)) = true := decide_eq_true (by omega)
            have hjb : (j : Int) < (l1.length : Int) := by omega
            have hj0 : (0 : Int) ≤ (j : Int) := by omega
            have hj6 : (j : Int) < 6 := by omega
            obtain ⟨cv, hcv⟩ := arr6_cell HW.out.1 j (by unfold arr6; simp; omega)
            have hfz : wr.frozen? ⟨H + 2, j, none⟩ = false := Lib.frozen_of_heap HW.out.1 j
            have hst := arr6_set HW.out.1 trivial hlt hl6
            obtain ⟨u, hu⟩ : ∃ u, l1.getD j 0 = u := ⟨_, rfl⟩
            rw [hu] at g0 hst
            have HLT := Aside0.mk hlt
            have HG := Aside0.mk hg
            have HS := Aside0.mk hst
            have HL6 := Aside0.mk hl6
            clear hst hu hgd hj hg hlt hl6
            subst e0
            go_wp2_with fail
            go_roundg (l1.length - j)
            case measure => have := HG.out; have := HLT.out; omega
            case rel => exact ⟨j + 1, by go_num, HLT.out, by have := HLT.out; omega, ⟨HS.out, (Below.heap_setCell _ _ _ _ (show H ≠ H + 2 by omega)).trans HW.out.2.1, HW.out.2.2.setCell (p := ⟨H + 2, j, none⟩) (Nat.le_add_right H 2) _⟩⟩
          · have hjl : decide ((j : Int) < (l1.length : Int)) = false := decide_eq_false (by omega)
            have hjb : ¬ (j : Int) < (l1.length : Int) := by omega
            obtain rfl : j = l1.length := by omega
            obtain ⟨xm, x3, hB⟩ := HW.out
            rw [arr6_all l1 hl6] at xm
            obtain ⟨⟨u0, u1, u2, u3, u4, u5⟩, _⟩ := arr_facts xm
            obtain ⟨⟨q0, q1, q2, q3, q4, q5⟩, f0, f1, f2, f3, f4, f5⟩ := arr_facts x3
            have R0 := Aside0.mk x3
            have B4 := Aside0.mk hB
            have HL6 := Aside0.mk hl6
            clear x3 xm hB HW hj hg hlt hl6
            go_wp2_with fail
            have hh := HHH.out
            simp only [Option.some.injEq, Prod.mk.injEq] at hh
            obtain ⟨rfl, rfl, rfl, rfl, rfl, rfl, rfl, rfl⟩ := hh
            refine bodyPost_ret (results_ctt rfl _ _ H 32 _ (0, 0) _ rfl (six_cells R0.out _ _ _ _ _ _) Try.underlying32 rfl (by kernel_rfl)) rfl ?_
            exact ⟨_, rfl, Kd.R_nil _ _ _ _ _, by first | exact six_below B4.out (Nat.le_refl _) _ _ _ _ _ _ | (rw [hH]; exact six_below B4.out (Nat.le_refl _) _ _ _ _ _ _)⟩
      rw [if_neg hd0] at hh
      by_cases hn0 : l2.length = 0
      · rw [if_pos hn0] at hh; simp at hh
      rw [if_neg hn0] at hh
      have hdz : (d == 0) = false := by simp [hd0]
      obtain ⟨ad, ea, ga⟩ := Kd.at_int (Kd.C_below HC2.out (by rw [hH]; exact hB5)) 0 (by omega) (by omega)
      have hgd : rd l2 0 = l2.getD 0 0 := by simp [rd]
      rw [hgd] at ga
      obtain ⟨x, hx⟩ : ∃ x, l2.getD 0 0 = x := ⟨_, rfl⟩
      rw [hx] at ga hh
      simp only [Int.toNat_zero] at ga
      replace ga : w6.cell? ad = some (.int .u32 x) := by rwa [show ad.add 0 = ad by obtain ⟨b, o, s⟩ := ad; cases s <;> simp [Addr.add]] at ga
      have hb0 : (0 : Int) < (l2.length : Int) := by omega
      obtain ⟨⟨u0, u1, u2, u3, u4, u5⟩, fu0, fu1, fu2, fu3, fu4, fu5⟩ := arr_facts x2
      have hN0 := Aside0.mk hn0
      have HHH := Aside0.mk hh
      clear hgd hx hn0 hh hd0
      subst ea
      go_upto_region 18 with (fail)
      have y2 : (w6.setCell ⟨H + 2, 0, none⟩ (.int .u32 x)).heap[H + 2]? = some (.cells #[.int .u32 x, .int .u32 0, .int .u32 0, .int .u32 0, .int .u32 0, .int .u32 0] 32 (0, 0)) := by simp [World.setCell, Array.getElem?_modify, x2]
      have y3 : (w6.setCell ⟨H + 2, 0, none⟩ (.int .u32 x)).heap[H]? = some (.cells z6 32 (0, 0)) := (Below.heap_setCell _ _ _ _ (show H ≠ H + 2 by omega)).trans x3
      have hB6 : Below H w (w6.setCell ⟨H + 2, 0, none⟩ (.int .u32 x)) := hB5.setCell (p := ⟨H + 2, 0, none⟩) (Nat.le_add_right H 2) _
      have hs6 : (w6.setCell ⟨H + 2, 0, none⟩ (.int .u32 x)).heap.size = H + 3 := by simp [World.setCell, hs5]
      clear x2 x3 hB5 hs5 u0 u1 u2 u3 u4 u5 fu0 fu1 fu2 fu3 fu4 fu5 ga
      generalize w6.setCell ⟨H + 2, 0, none⟩ (.int .u32 x) = w7 at y2 y3 hB6 hs6 ⊢
      have hh := HHH.out
      clear HHH
      by_cases hd1 : d = 1
      · rw [if_pos hd1] at hh
        have hdo : (d == 1) = true := by simp [hd1]
        obtain ⟨b, hb, hh⟩ := Option.bind_eq_some_iff.1 hh
        have HBB := Aside0.mk hb
        have HHH := Aside0.mk hh
        have Y2 := Aside0.mk y2
        have Y3 := Aside0.mk y3
        have B6 := Aside0.mk hB6
        have S6 := Aside0.mk hs6
        clear hh hb y2 y3 hB6 hs6 hd1
        go_upto_region 19 with (fail)
        refine Code.wp_mono (Q := fun e a' W' => e = .normal ∧ ∃ g, a' = { tmps := #[.int .u32 size, .slice A1 l1.length c1, .slice (some ad) l2.length c2, undef, undef, undef, .pointer (some ⟨H, 0, none⟩), .slice (some ⟨g, 0, none⟩) 1 1, .int .i64 0, .pointer (some ⟨H + 1, 0, none⟩), .int .i64 l2.length, .pointer (some ⟨H + 2, 0, none⟩), .int .i64 d, undef, undef, undef, .agg z6, .int .u32 size, .bool false, .bool false, .slice A1 l1.length c1, .int .i64 l1.length, .int .u32 size, .int .i64 l1.length, .bool false, .bool false, .bool false, .slice (some ad) l2.length c2, .int .i64 l2.length, .int .u32 size, .int .i64 l2.length, .bool false, .bool false, undef, .int .i64 l2.length, .slice (some ad) l2.length c2, .int .i64 l2.length, .bool false, u38, u39, u40, u41, u42, u43, u44, u45, .agg z6, .int .u32 size, .int .i64 d, .int .i64 d, .bool false, undef, undef, undef, undef, undef, undef, undef, undef, undef, undef, undef, undef, undef, .slice (some ad) l2.length c2, .pointer (some ad), .int .u32 x, .pointer (some ⟨H + 2, 0, none⟩), .int .i64 d, .bool true, .agg #[.int .u32 x, .int .u32 0, .int .u32 0, .int .u32 0, .int .u32 0, .int .u32 0], .slice A1 l1.length c1, .string b, .slice (some ⟨g, 0, none⟩) 1 1, undef, undef, undef, undef, undef, undef, undef, undef, undef, undef, undef, undef, undef, undef, undef, undef, undef, undef, undef, undef, undef, undef, undef, undef], defers := [] } ∧ W'.heap[H]? = some (.cells #[.int .u32 x, .int .u32 0, .int .u32 0, .int .u32 0, .int .u32 0, .int .u32 0] 32 (0, 0)) ∧ W'.ownsRow (H + 1) 9 1 (.slice (some ⟨g, 0, none⟩) 1 1) 1 [.string b] ∧ Below H w W') ?post ?_
        case post =>
          rintro e a' W8 ⟨rfl, g, rfl, hm, hrow, hb8⟩
          clear Y2 Y3 B6 S6 HBB
          go_wp2_with fail
          have hh := HHH.out
          simp only [Option.some.injEq, Prod.mk.injEq] at hh
          obtain ⟨rfl, rfl, rfl, rfl, rfl, rfl, rfl, rfl⟩ := hh
          refine bodyPost_ret (results_ctt rfl _ _ H 32 _ (0, 0) _ rfl hm Try.underlying32 rfl (by kernel_rfl)) rfl ?_
          refine ⟨_, rfl, ?_, by first | exact hb8 | (rw [hH]; exact hb8)⟩
          have := Kd.R_of_own (h1 := fun _ => rfl) (enc := Value.string) (ok := fun _ => True) (xs := [b]) (row_lower hrow (Nat.le_succ H)) (fun _ _ => trivial)
          first | exact this | (rw [hH]; exact this)
        refine wp_region_held (S := fun W => W.heap[(H + 2)]? = some (.cells #[.int .u32 x, .int .u32 0, .int .u32 0, .int .u32 0, .int .u32 0, .int .u32 0] 32 (0, 0))) (by kernel_rfl) ?_
        have hPN : (w7.drew.heap[(H + 2)]? = some (.cells #[.int .u32 x, .int .u32 0, .int .u32 0, .int .u32 0, .int .u32 0, .int .u32 0] 32 (0, 0))) ∧ (w7.drew.heap[H]? = some (.cells z6 32 (0, 0))) ∧ w7.drew.heap.size = H + 3 ∧ Below H w w7.drew := ⟨Y2.out, Y3.out, S6.out, pw_below_drewN B6.out 1⟩
        change wpAnyH _ _ _ _ _ 7 #[false, false, false, false, false, false, false] _ w7.drew
        clear Y2 Y3 B6 S6
        generalize w7.drew = W1 at hPN ⊢
        obtain ⟨hS, h3, hs, hb⟩ := hPN
        refine takeH 0 (l' := #[true, false, false, false, false, false, false]) (v := .agg #[.int .u32 x, .int .u32 0, .int .u32 0, .int .u32 0, .int .u32 0, .int .u32 0]) rfl (by kernel_rfl) (by kernel_rfl) (by kernel_rfl) (fun _ _ _ h => by cases h.1) (by kernel_rfl) (fun W hS => by obtain ⟨⟨c0, c1_, c2_, c3, c4, c5⟩, _⟩ := arr_facts hS; go_simp) hS (by show Act.put _ (some 70) _ = _; simp only [Act.put, List.setIfInBounds_toArray, List.set_cons_zero, List.set_cons_succ]; try rfl) (by kernel_rfl) ?_
        refine takeH 1 (l' := #[true, true, false, false, false, false, false]) (v := .slice A1 l1.length c1) rfl (by kernel_rfl) (by kernel_rfl) (by kernel_rfl) (fun _ _ _ h => by cases h.1) (by kernel_rfl) (fun _ _ => by go_simp; try rfl) hS (by show Act.put _ (some 71) _ = _; simp only [Act.put, List.setIfInBounds_toArray, List.set_cons_zero, List.set_cons_succ]; try rfl) (by kernel_rfl) ?_
        obtain ⟨⟨q0, q1, q2, q3, q4, q5⟩, f0, f1, f2, f3, f4, f5⟩ := arr_facts h3
        refine allH (rs := [2]) (by kernel_rfl) (by decide) (enterH 2 72 (l' := #[true, true, true, false, false, false, false]) (f := 31) (args := #[.slice A1 l1.length c1]) rfl rfl (by kernel_rfl) (by go_simp) (nautilusref13_block.calls k A1 c1 l1 b W1 (Kd.C_below HC1.out (by rw [hH]; exact hb)) hc1 HBB.out) (by kernel_rfl) ?_ AllH.nil)
        rintro e W2 ⟨rfl, hD⟩
        have hSW2 : W2.heap[(H + 2)]? = some (.cells #[.int .u32 x, .int .u32 0, .int .u32 0, .int .u32 0, .int .u32 0, .int .u32 0] 32 (0, 0)) := (hD.block _ (Array.getElem?_eq_some_iff.1 hS).1).trans hS
        have h3W2 := (hD.block H (Array.getElem?_eq_some_iff.1 h3).1).trans h3
        have hzW2 : H + 3 ≤ W2.heap.size := by have := hD.size; omega
        have hbW2 : Below H w W2 := hb.trans (hD.mono (by omega))
        clear hD
        refine ⟨_, rfl, hSW2, _, (by show Act.put _ (some 72) _ = _; simp only [Act.put, List.setIfInBounds_toArray, List.set_cons_zero, List.set_cons_succ]; try rfl), ?_⟩
        clear q0 q1 q2 q3 q4 q5 f0 f1 f2 f3 f4 f5
        obtain ⟨⟨q0, q1, q2, q3, q4, q5⟩, f0, f1, f2, f3, f4, f5⟩ := arr_facts h3W2
        refine allH (rs := [3, 4]) (by kernel_rfl) (by decide) (readyH 3 (l' := #[true, true, true, true, false, false, false]) (v := .slice (some ⟨W2.heap.size, 0, none⟩) 1 1) (w1 := W2.alloc (.cells #[.string b] 9)) rfl (by kernel_rfl) (by go_simp; try rfl) (by show Act.put _ (some 73) _ = _; simp only [Act.put, List.setIfInBounds_toArray, List.set_cons_zero, List.set_cons_succ]; try rfl) (by kernel_rfl) ((Below.heap_alloc _ _ _ (by omega)).trans hSW2) ?_ (skipH 4 (l' := #[true, true, true, false, true, false, false]) (w1 := ((((((W2.setCell ⟨H, 0, none⟩ (.int .u32 x)).setCell ⟨H, 1, none⟩ (.int .u32 0)).setCell ⟨H, 2, none⟩ (.int .u32 0)).setCell ⟨H, 3, none⟩ (.int .u32 0)).setCell ⟨H, 4, none⟩ (.int .u32 0)).setCell ⟨H, 5, none⟩ (.int .u32 0))) rfl (by kernel_rfl) (by go_simp; first | done | rfl) (by rfl) (by kernel_rfl) ((six_other (by omega) _ _ _ _ _ _).trans hSW2) ?_ AllH.nil))
        · have x3 : (W2.alloc (.cells #[.string b] 9)).heap[H]? = some (.cells z6 32 (0, 0)) := (Below.heap_alloc _ _ _ (by omega)).trans h3W2
          have xS : (W2.alloc (.cells #[.string b] 9)).heap[(H + 2)]? = some (.cells #[.int .u32 x, .int .u32 0, .int .u32 0, .int .u32 0, .int .u32 0, .int .u32 0] 32 (0, 0)) := (Below.heap_alloc _ _ _ (by omega)).trans hSW2
          have xr := World.ownsRow_lit (base := H + 1) (e := 9) (size := 1) W2 #[.string b] 1 (by omega) (by decide) rfl
          have xb := hbW2.alloc (by omega) (.cells #[.string b] 9)
          obtain ⟨G, hG⟩ : ∃ G, W2.heap.size = G := ⟨_, rfl⟩
          rw [hG] at xr ⊢
          clear q0 q1 q2 q3 q4 q5 f0 f1 f2 f3 f4 f5
          generalize W2.alloc (.cells #[.string b] 9) = W3 at x3 xS xr xb ⊢
          obtain ⟨⟨q0, q1, q2, q3, q4, q5⟩, f0, f1, f2, f3, f4, f5⟩ := arr_facts x3
          refine allH (rs := [4]) (by kernel_rfl) (by decide) (skipH 4 (l' := #[true, true, true, true, true, false, false]) (w1 := ((((((W3.setCell ⟨H, 0, none⟩ (.int .u32 x)).setCell ⟨H, 1, none⟩ (.int .u32 0)).setCell ⟨H, 2, none⟩ (.int .u32 0)).setCell ⟨H, 3, none⟩ (.int .u32 0)).setCell ⟨H, 4, none⟩ (.int .u32 0)).setCell ⟨H, 5, none⟩ (.int .u32 0))) rfl (by kernel_rfl) (by go_simp; first | done | rfl) (by rfl) (by kernel_rfl) ((six_other (by omega) _ _ _ _ _ _).trans xS) ?_ AllH.nil)
          have xS := (six_other (W := W3) (G := H) (j := H + 2) (by omega) (.int .u32 x) (.int .u32 0) (.int .u32 0) (.int .u32 0) (.int .u32 0) (.int .u32 0)).trans xS
          refine takeH 5 (l' := #[true, true, true, true, true, true, false]) (v := .slice (some ⟨G, 0, none⟩) 1 1) rfl (by kernel_rfl) (by kernel_rfl) (by kernel_rfl) (fun _ _ _ h => by cases h.1) (by kernel_rfl) (fun _ _ => by go_simp; try rfl) xS (by show Act.put _ (some 7) _ = _; simp only [Act.put, List.setIfInBounds_toArray, List.set_cons_zero, List.set_cons_succ]; try rfl) (by kernel_rfl) ?_
          refine takeH 6 (l' := #[true, true, true, true, true, true, true]) (v := .int .i64 0) rfl (by kernel_rfl) (by kernel_rfl) (by kernel_rfl) (fun _ _ _ h => by cases h.1) (by kernel_rfl) (fun _ _ => by go_simp; try rfl) xS (by show Act.put _ (some 8) _ = _; simp only [Act.put, List.setIfInBounds_toArray, List.set_cons_zero, List.set_cons_succ]; try rfl) (by kernel_rfl) ?_
          exact wpAnyH_done (by kernel_rfl) ⟨rfl, _, rfl, six_cells x3 _ _ _ _ _ _, row_same xr (fun j hj => six_other (by omega) _ _ _ _ _ _), six_below xb (Nat.le_refl _) _ _ _ _ _ _⟩ _
        · have x3 := six_cells h3W2 (.int .u32 x) (.int .u32 0) (.int .u32 0) (.int .u32 0) (.int .u32 0) (.int .u32 0)
          have xS := (six_other (W := W2) (G := H) (j := H + 2) (by omega) (.int .u32 x) (.int .u32 0) (.int .u32 0) (.int .u32 0) (.int .u32 0) (.int .u32 0)).trans hSW2
          have xb := six_below hbW2 (Nat.le_refl _) (.int .u32 x) (.int .u32 0) (.int .u32 0) (.int .u32 0) (.int .u32 0) (.int .u32 0)
          have xz : H + 3 ≤ ((((((W2.setCell ⟨H, 0, none⟩ (.int .u32 x)).setCell ⟨H, 1, none⟩ (.int .u32 0)).setCell ⟨H, 2, none⟩ (.int .u32 0)).setCell ⟨H, 3, none⟩ (.int .u32 0)).setCell ⟨H, 4, none⟩ (.int .u32 0)).setCell ⟨H, 5, none⟩ (.int .u32 0)).heap.size := by simp [World.setCell]; exact hzW2
          clear q0 q1 q2 q3 q4 q5 f0 f1 f2 f3 f4 f5
          generalize ((((((W2.setCell ⟨H, 0, none⟩ (.int .u32 x)).setCell ⟨H, 1, none⟩ (.int .u32 0)).setCell ⟨H, 2, none⟩ (.int .u32 0)).setCell ⟨H, 3, none⟩ (.int .u32 0)).setCell ⟨H, 4, none⟩ (.int .u32 0)).setCell ⟨H, 5, none⟩ (.int .u32 0)) = W3 at x3 xS xb xz ⊢
          refine allH (rs := [3]) (by kernel_rfl) (by decide) (readyH 3 (l' := #[true, true, true, true, true, false, false]) (v := .slice (some ⟨W3.heap.size, 0, none⟩) 1 1) (w1 := W3.alloc (.cells #[.string b] 9)) rfl (by kernel_rfl) (by go_simp; try rfl) (by show Act.put _ (some 73) _ = _; simp only [Act.put, List.setIfInBounds_toArray, List.set_cons_zero, List.set_cons_succ]; try rfl) (by kernel_rfl) ((Below.heap_alloc _ _ _ (by omega)).trans xS) ?_ AllH.nil)
          have xr := World.ownsRow_lit (base := H + 1) (e := 9) (size := 1) W3 #[.string b] 1 (by omega) (by decide) rfl
          refine takeH 5 (l' := #[true, true, true, true, true, true, false]) (v := .slice (some ⟨W3.heap.size, 0, none⟩) 1 1) rfl (by kernel_rfl) (by kernel_rfl) (by kernel_rfl) (fun _ _ _ h => by cases h.1) (by kernel_rfl) (fun _ _ => by go_simp; try rfl) ((Below.heap_alloc _ _ _ (by omega)).trans xS) (by show Act.put _ (some 7) _ = _; simp only [Act.put, List.setIfInBounds_toArray, List.set_cons_zero, List.set_cons_succ]; try rfl) (by kernel_rfl) ?_
          refine takeH 6 (l' := #[true, true, true, true, true, true, true]) (v := .int .i64 0) rfl (by kernel_rfl) (by kernel_rfl) (by kernel_rfl) (fun _ _ _ h => by cases h.1) (by kernel_rfl) (fun _ _ => by go_simp; try rfl) ((Below.heap_alloc _ _ _ (by omega)).trans xS) (by show Act.put _ (some 8) _ = _; simp only [Act.put, List.setIfInBounds_toArray, List.set_cons_zero, List.set_cons_succ]; try rfl) (by kernel_rfl) ?_
          exact wpAnyH_done (by kernel_rfl) ⟨rfl, _, rfl, (Below.heap_alloc _ _ _ (by omega)).trans x3, xr, xb.alloc (by omega) _⟩ _
      rw [if_neg hd1] at hh
      have hdo : (d == 1) = false := by simp [hd1]
      obtain ⟨b, hb, hh⟩ := Option.bind_eq_some_iff.1 hh
      obtain ⟨bs, hbs, hh⟩ := Option.bind_eq_some_iff.1 hh
      have HBB := Aside0.mk hb
      have HBS := Aside0.mk hbs
      have HHH := Aside0.mk hh
      have Y2 := Aside0.mk y2
      have Y3 := Aside0.mk y3
      have B6 := Aside0.mk hB6
      have S6 := Aside0.mk hs6
      clear hh hb hbs y2 y3 hB6 hs6 hd1
      go_upto_region 20 with (fail)
      obtain ⟨t, ht⟩ : ∃ t, l2.drop 1 = t := ⟨_, rfl⟩
      have htl : t.length = l2.length - 1 := by rw [← ht, List.length_drop]
      obtain ⟨tA, htA⟩ : ∃ tA : Option Addr, (if c2 = 1 then some ad else (some ad).map (·.add (1 * 1))) = tA := ⟨_, rfl⟩
      obtain ⟨iu, hiu, _, hsu, _⟩ := info_parts info_u32
      have hcut : ∀ W : World, (Instr.slice 31 (.slice (some ad) l2.length c2) (some (.int .i64 1)) none none).run Try.prog W = .ok (.slice tA t.length (c2 - 1)) W := by
        have := cut_from (P := Try.prog) 31 22 .i64 Try.underlying31 hiu _ hsu (some ad) l2.length c2 1 (by omega) (by omega)
        rw [htl, ← htA]; exact this
      have hCt : Kd.C (Kd.int .u32) w7 tA t.length t := by
        have := Kd.C_drop (m := 1) HC2.out (by have := hN0.out; omega) hc2
        rw [ht] at this; rw [← htA]; exact Kd.C_below this (by rw [hH]; exact B6.out)
      have htc : t.length ≤ c2 - 1 := by omega
      have hBB := HBB.out
      rw [ht] at hBB
      have HB2 := Aside0.mk hBB
      have HCT := Aside0.mk hCt
      clear ht htA htl hBB hCt HBB
      go_wp2_with fail
      refine (nautilusref13_block.calls k tA (c2 - 1) t b w7 HCT.out htc HB2.out).mono ?_
      rintro e w8 ⟨rfl, hD⟩
      have hz8 : H + 3 ≤ w8.heap.size := by have := hD.size; have := S6.out; omega
      have hD8 : Below (H + 3) w7 w8 := by rw [← S6.out]; exact hD
      have xr := World.ownsRow_lit (base := H + 3) (e := 9) (size := 1) w8 #[.string b] 1 hz8 (by decide) rfl
      have hR0 := Kd.R_of_own (h1 := fun _ => rfl) (enc := Value.string) (ok := fun _ => True) (xs := [b]) xr (fun _ _ => trivial)
      have hD9 := hD8.alloc hz8 (.cells #[.string b] 9)
      have HRR := Aside0.mk hR0
      have HDD := Aside0.mk hD9
      clear hD hz8 hD8 xr hR0 hD9 hcut htc HB2 HCT
      go_wp2_with fail
      generalize w8.alloc (.cells #[.string b] 9) = w9 at HRR HDD ⊢
      go_loopg [14, 15] (partN 127 l1 + 1) (fun gg v14 v15 wr => ∃ (j : Nat) (out rest : List ByteArray) (vo : Value), vo = v14 ∧ v15 = .int .i64 (127 * (j : Int)) ∧ j ≤ partN 127 l1 ∧ partN 127 l1 - j < gg ∧ Aside0 (Kd.R Kd.string 9 wr (H + 3) (fun _ => True) vo out) ∧ Aside0 (partsR k l1 (partN 127 l1 - j) j = some rest ∧ out ++ rest = b :: bs ∧ out.length = j + 1) ∧ Aside0 (Below (H + 3) w7 wr))
      case atStart => exact ⟨0, [b], bs, _, rfl, rfl, Nat.zero_le _, by omega, HRR, ⟨HBS.out, rfl, rfl⟩, HDD⟩
      case round =>
        clear HRR HDD
        obtain ⟨j, out, rest, vo, rfl, rfl, hj, hg, HRR, HX, HDD⟩ := hrel
        by_cases hlt : j < partN 127 l1
        · have hkl : 127 * j < l1.length := (partN_lt (by omega) l1 j).1 hlt
          have hBw : Below w.heap.size w wr := by rw [hH]; exact B6.out.trans (HDD.out.mono (by omega))
          obtain ⟨pb, hp⟩ : ∃ p, partL 127 l1 j = p := ⟨_, rfl⟩
          obtain ⟨pA, hpA⟩ : ∃ pA : Option Addr, (if c1 = 127 * j then A1 else A1.map (·.add (127 * j * 1))) = pA := ⟨_, rfl⟩
          have hpC : Kd.C (Kd.int .u32) wr pA pb.length pb := by
            have := Kd.C_mid (lo := 127 * j) (hi := min (127 * j + 127) l1.length) (Kd.C_below HC1.out hBw) (by omega) (by omega) hc1
            rw [← hp, ← hpA]; exact this
          have hpl : pb.length = min (127 * j + 127) l1.length - 127 * j := by rw [← hp, partL_len]
          obtain ⟨iu, hiu, _, hsu, _⟩ := info_parts info_u32
          obtain ⟨hi, hhi⟩ : ∃ hi : Int, (if (127 * (j : Int) + 127) < (l1.length : Int) then (127 * (j : Int) + 127) else (l1.length : Int)) = hi := ⟨_, rfl⟩
          have hhi2 : hi = ((min (127 * j + 127) l1.length : Nat) : Int) := by rw [← hhi]; split <;> omega
          have hcut : ∀ W : World, (Instr.slice 31 (.slice A1 l1.length c1) (some (.int .i64 (127 * (j : Int)))) (some (.int .i64 hi)) none).run Try.prog W = .ok (.slice pA pb.length (c1 - 127 * j)) W := by
            have := cut_mid (P := Try.prog) 31 22 .i64 .i64 Try.underlying31 hiu _ hsu A1 l1.length c1 (127 * (j : Int)) hi (by omega) (by omega) (by omega) hc1
            rw [hpl, ← hpA]
            rw [show (127 * (j : Int)).toNat = 127 * j by omega, hhi2, Int.toNat_natCast] at this
            rw [hhi2]; exact this
          have hpc : pb.length ≤ c1 - 127 * j := by omega
          have hn : wrap64 ((127 * (j : Int)) + 127) = (127 * (j : Int) + 127) := by rw [IntWalk.wrap64_in _ (by omega)]
          have h1 := HX.out.1
          rw [show partN 127 l1 - j = (partN 127 l1 - (j + 1)) + 1 by omega, partsR, hp] at h1
          obtain ⟨c, hc, h2⟩ := Option.bind_eq_some_iff.1 h1
          obtain ⟨rs, hrs, h3⟩ := Option.bind_eq_some_iff.1 h2
          obtain rfl := Option.some.inj h3
          have hjl : decide ((127 * (j : Int)) < (l1.length : Int)) = true := decide_eq_true (by omega)
          have hjb : (127 * (j : Int)) < (l1.length : Int) := by omega
          have HCC := Aside0.mk hc
          have HRS := Aside0.mk hrs
          have HPC := Aside0.mk hpC
          have HLT := Aside0.mk hlt
          have HG := Aside0.mk hg
          have HKL := Aside0.mk hkl
          clear h1 h2 h3 hc hrs hpC hp hpA hpl hiu hsu hhi2 hBw hlt hj hg hkl
          go_wp2_with fail
          refine (nautilusref13_block.calls k pA (c1 - 127 * j) pb c wr HPC.out hpc HCC.out).mono ?_
          rintro e wq ⟨rfl, hD⟩
          have hzr : H + 3 ≤ wr.heap.size := by have := HDD.out.size; have := S6.out; omega
          have HDQ := Aside0.mk (HDD.out.trans (hD.mono hzr))
          have HRQ := Aside0.mk (Kd.R_below HRR.out hD)
          have HZQ := Aside0.mk (show H + 3 ≤ wq.heap.size by have := hD.size; omega)
          clear hD hzr HRR HDD HPC HCC hcut hpc
          go_wp2_with ((with_reducible refine gate_builtin (b := .append) (xs := #[.tmp 84, .tmp 94]) rfl ?_); at_builtin; refine Kd.R_append Kd.string (w0 := w7) (H + 3) rfl (.tmp 84) (.tmp 94) 33 9 (.string ⟨#[]⟩) 16 rfl Try.underlying33 info_str rfl (by decide) (by omega) vo out c [.string c] (fun _ => True) (fun _ => False) rfl rfl ?aP (fun _ hk => hk.elim) (fun _ _ => trivial) ?aO ?aB ?aS ?aL ?_; (case aP => exact rfl); (case aO => exact HRQ.out); (case aB => exact HDQ.out); (case aS => exact HZQ.out); (case aL => have := HX.out.2.2; have := HKL.out; omega); intro v2 w2 ho2 hb2 hg2 hn2; have HO2 := Aside0.mk ho2; have HB2 := Aside0.mk hb2; clear ho2 hb2 hg2 hn2)
          go_roundg (partN 127 l1 - j)
          case measure => have := HG.out; have := HLT.out; omega
          case rel => exact ⟨j + 1, out ++ [c], rs, _, rfl, by first | rfl | (simp only [Value.int.injEq, true_and]; omega) | (congr 1; omega), HLT.out, by have := HLT.out; omega, HO2, ⟨HRS.out, by have := HX.out.2.1; rw [List.append_assoc]; exact this, by have := HX.out.2.2; rw [List.length_append, List.length_singleton]; omega⟩, HB2⟩
        · have hkl : ¬ 127 * j < l1.length := fun h => hlt ((partN_lt (by omega) l1 j).2 h)
          have hjl : decide ((127 * (j : Int)) < (l1.length : Int)) = false := decide_eq_false (by omega)
          have hjb : ¬ (127 * (j : Int)) < (l1.length : Int) := by omega
          have h1 := HX.out.1
          rw [show partN 127 l1 - j = 0 by omega, partsR] at h1
          obtain rfl := Option.some.inj h1
          have ho : out = b :: bs := by have := HX.out.2.1; rwa [List.append_nil] at this
          have y2 := (HDD.out.block _ (show H + 2 < H + 3 by omega)).trans Y2.out
          have y3 := (HDD.out.block _ (show H < H + 3 by omega)).trans Y3.out
          obtain ⟨⟨u0, u1, u2, u3, u4, u5⟩, _⟩ := arr_facts y2
          obtain ⟨⟨q0, q1, q2, q3, q4, q5⟩, f0, f1, f2, f3, f4, f5⟩ := arr_facts y3
          have R0 := Aside0.mk y3
          have B4 := Aside0.mk (B6.out.trans (HDD.out.mono (show H ≤ H + 3 by omega)))
          have HO := Aside0.mk ho
          clear y2 y3 h1 ho hkl hlt hj hg
          go_wp2_with fail
          have hh := HHH.out
          simp only [Option.some.injEq, Prod.mk.injEq] at hh
          obtain ⟨rfl, rfl, rfl, rfl, rfl, rfl, rfl, rfl⟩ := hh
          refine bodyPost_ret (results_ctt rfl _ _ H 32 _ (0, 0) _ rfl (six_cells R0.out _ _ _ _ _ _) Try.underlying32 rfl (by kernel_rfl)) rfl ?_
          refine ⟨_, rfl, ?_, by first | exact six_below B4.out (Nat.le_refl _) _ _ _ _ _ _ | (rw [hH]; exact six_below B4.out (Nat.le_refl _) _ _ _ _ _ _)⟩
          have hr := Kd.R_mono (ok' := fun _ => True) (Kd.R_step (w1 := ((((((wr.setCell ⟨H, 0, none⟩ (.int .u32 x)).setCell ⟨H, 1, none⟩ (.int .u32 0)).setCell ⟨H, 2, none⟩ (.int .u32 0)).setCell ⟨H, 3, none⟩ (.int .u32 0)).setCell ⟨H, 4, none⟩ (.int .u32 0)).setCell ⟨H, 5, none⟩ (.int .u32 0))) (Kd.R_bound HRR.out) (fun k hk _ => six_other (by have := hk.2.1; omega) _ _ _ _ _ _)) (fun _ _ => trivial)
          rw [HO.out] at hr
          first | exact Kd.R_lower hr (Nat.le_add_right H 3) | (rw [hH]; exact Kd.R_lower hr (Nat.le_add_right H 3))
theorem nautilusref13_Lay.calls (size : Int) (A1 : Option Addr) (c1 : Nat) (l1 : List Int) (A2 : Option Addr) (c2 : Nat) (l2 : List Int) (r0 r1 r2 r3 r4 r5 : Int) (r6 : List ByteArray) (r7 : Int) (w : World) (hC1 : Kd.C (Kd.int .u32) w A1 l1.length l1) (hc1 : l1.length ≤ c1) (hC2 : Kd.C (Kd.int .u32) w A2 l2.length l2) (hc2 : l2.length ≤ c2)
    (h : nautilusref13_Lay.f size l1 l2 = some (r0, r1, r2, r3, r4, r5, r6, r7)) :
    Calls Try.prog 16 #[.int .u32 size, .slice A1 l1.length c1, .slice A2 l2.length c2] w fun e w' => ∃ v0_ : Value, e = .returned (.tuple #[.agg #[.int .u32 r0, .int .u32 r1, .int .u32 r2, .int .u32 r3, .int .u32 r4, .int .u32 r5], v0_, .int .i64 r7]) ∧ Kd.R Kd.string 9 w' w.heap.size (fun _ => True) v0_ r6 ∧ Below w.heap.size w w' := by
  unfold nautilusref13_Lay.f at h
  have err : ∀ {e : Ending} {w' : World}, some layErr = some (r0, r1, r2, r3, r4, r5, r6, r7) → (e = .returned (.tuple #[.agg z6, .slice none 0 0, .int .i64 130]) ∧ Below w.heap.size w w') → ∃ v0_ : Value, e = .returned (.tuple #[.agg #[.int .u32 r0, .int .u32 r1, .int .u32 r2, .int .u32 r3, .int .u32 r4, .int .u32 r5], v0_, .int .i64 r7]) ∧ Kd.R Kd.string 9 w' w.heap.size (fun _ => True) v0_ r6 ∧ Below w.heap.size w w' := by
    rintro e w' h ⟨rfl, hb⟩
    cases h
    exact ⟨_, rfl, Kd.R_nil _ _ _ _ _, hb⟩
  by_cases h0 : size > 8193532
  · rw [if_pos h0] at h
    exact (layR_e1 size A1 c1 A2 c2 _ _ w (decide_eq_true h0)).mono fun e w' q => err h q
  rw [if_neg h0] at h
  have hz : decide (8193532 < size) = false := decide_eq_false h0
  obtain ⟨b, hbl, h⟩ := Option.bind_eq_some_iff.mp h
  by_cases h1 : (l1.length : Int) = b
  case neg =>
    rw [if_neg h1] at h
    exact (layR_e2 size A1 c1 A2 c2 _ _ w hz b hbl (bne_iff_ne.2 h1)).mono fun e w' q => err h q
  rw [if_pos h1] at h
  subst h1
  obtain ⟨c, hct, h⟩ := Option.bind_eq_some_iff.mp h
  by_cases h2 : (l2.length : Int) = c
  case neg =>
    rw [if_neg h2] at h
    exact (layR_e3 size A1 c1 A2 c2 _ _ w hz hbl c hct (bne_iff_ne.2 h2)).mono fun e w' q => err h q
  rw [if_pos h2] at h
  subst h2
  by_cases h3 : l1.length ≤ 1000000 ∧ l2.length ≤ 1000000
  case neg => rw [if_neg h3] at h; simp at h
  rw [if_pos h3] at h
  cases h4 : l2.any (fun x => x == 0) with
  | true =>
    rw [h4, if_pos rfl] at h
    exact (layR_e4 size A1 c1 A2 c2 l1 l2 w hC1 hC2 hz hbl hct h3.2 h4).mono fun e w' q => err h q
  | false =>
    rw [h4, if_neg (by decide)] at h
    obtain ⟨d, hdp, h⟩ := Option.bind_eq_some_iff.mp h
    exact layR_go size A1 c1 A2 c2 l1 l2 1000 r0 r1 r2 r3 r4 r5 r6 r7 w hC1 hc1 hC2 hc2 hz hbl hct h3.1 h3.2 h4 d hdp h
end Go.Proofs.Ytpgdcpbbfphbiaa.Q
