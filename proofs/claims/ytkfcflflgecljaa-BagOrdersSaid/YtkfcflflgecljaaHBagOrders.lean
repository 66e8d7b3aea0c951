/- nautiluslaw02.BagOrders: its walk. -/
import Derived.Test.YtkfcflflgecljaaHBagFilled
import Derived.Test.YtkfcflflgecljaaHBagShown
import Derived.Test.YtkfcflflgecljaaHBagKeysI
import Derived.Test.YtkfcflflgecljaaHBagShapeI
import Derived.Test.YtkfcflflgecljaaHBagOrdP
import Derived.Test.YtkfcflflgecljaaHBagShaped
set_option linter.unusedVariables false
set_option linter.unusedSimpArgs false
namespace Go.Proofs.Ytkfcflflgecljaa.H
open Go.RowKit Go.Proofs.YtkfcflflgecljaaW.PrintWords Go.Proofs.YtkfcflflgecljaaW.PrintLast
attribute [local go_sem] min2_i min_2
set_option maxRecDepth 100000
theorem same_self (l : List Int) (hl : l.length ≤ 100000) : ∃ K, nautilusref02_Same.f K l l = some true := by
  have h : ∀ d j : Nat, j + d = l.length → ∃ K, nautilusref02_Same.l0 K l l (j : Int) = some true := fun d => by
    induction d with
    | zero =>
      intro j hj
      exact ⟨1, by rw [nautilusref02_Same.l0, if_neg (by omega)]⟩
    | succ d ih =>
      intro j hj
      obtain ⟨K, hK⟩ := ih (j + 1) (by omega)
      refine ⟨K + 1, ?_⟩
      rw [nautilusref02_Same.l0, if_pos (by omega), if_pos (by omega), if_pos (by omega), if_pos rfl, IntWalk.wrap64_in _ (by omega)]
      exact hK
  obtain ⟨K, hK⟩ := h l.length 0 (by omega)
  exact ⟨K, by unfold nautilusref02_Same.f; rw [if_pos rfl]; exact hK⟩
theorem keysL_le2 (a lim : Int) (es : List (Int × Int)) : (keysL a lim es).length ≤ es.length := by
  unfold keysL fr
  refine Nat.le_trans (List.length_filter_le _ _) ?_
  rw [List.length_map]; exact List.length_filter_le _ _
theorem orders_w (n : Nat) (h : n ≤ 200) : IntKind.i64.wrap ((n : Int) - 1) = (n : Int) - 1 := by rw [IntKind.wrap_i64]; omega
theorem orders_w2 (j : Nat) (h : j < 200) : IntKind.i64.wrap (((j + 1 : Nat) : Int) - 1 - 1) = (j : Int) - 1 := by rw [IntKind.wrap_i64]; omega
set_option maxHeartbeats 16000000 in
theorem orders.calls (A : Option Addr) (c : Nat) (l : List Int) (Am : Option Addr) (cm : Nat) (m : List Int) (w : World) (hC : Kd.C (Kd.int .i64) w A l.length l) (hc : l.length ≤ c) (hCm : Kd.C (Kd.int .i64) w Am m.length m) (hcm : m.length ≤ cm) :
    Calls Try.prog 5 #[.slice A l.length c, .slice Am m.length cm] w (fun e w' => e = .returned (.bool true) ∧ Below w.heap.size w w') := by
  obtain ⟨base, hbase⟩ : ∃ base, w.heap.size = base := ⟨_, rfl⟩
  rw [hbase]
  have H1 := Aside0.mk (shown.calls base w w (Below.refl _ _) (by omega))
  obtain ⟨Q, hQ⟩ : ∃ Q : Ending → World → Prop, (fun (e : Ending) (w' : World) => e = .returned (.bool true) ∧ Below base w w') = Q := ⟨_, rfl⟩
  rw [hQ]
  have HQ := Aside0.mk hQ
  obtain ⟨q1, hq1⟩ : ∃ q : Int, (if (200 : Int) < (l.length : Int) then (200 : Int) else (l.length : Int)) = q := ⟨_, rfl⟩
  have hcut1 := cut200_run A l c hc q1 hq1
  obtain ⟨q2, hq2⟩ : ∃ q : Int, (if (200 : Int) < (m.length : Int) then (200 : Int) else (m.length : Int)) = q := ⟨_, rfl⟩
  have hcut2 := cut200_run Am m cm hcm q2 hq2
  have HCL := Aside0.mk (show Kd.C (Kd.int .i64) w A (cut200 l).length (cut200 l) from Kd.C_take hC (by omega))
  have HCM := Aside0.mk (show Kd.C (Kd.int .i64) w Am (cut200 m).length (cut200 m) from Kd.C_take hCm (by omega))
  have HB := Aside0.mk hbase
  have HLL := Aside0.mk (cut200_len l)
  have HLM := Aside0.mk (cut200_len m)
  generalize cut200 l = l2 at hcut1 HCL HLL
  generalize cut200 m = m2 at hcut2 HCM HLM
  clear hQ hbase hC hc hCm hcm
  go_enter Try.func5, Try.ntmps5
  go_wp2_with fail
  refine H1.out.mono ?_
  rintro e w1 ⟨rfl, hb1, hs1⟩
  have hf := filled.calls A c l2 w1 (Kd.C_below HCL.out (by rw [HB.out]; exact hb1)) HLL.out
  have HF := Aside0.mk hf
  have B1 := Aside0.mk (And.intro hb1 hs1)
  clear H1 hb1 hs1 hf
  go_wp2_with fail
  refine HF.out.mono ?_
  rintro e w2 ⟨ownA, ba, rfl, FA⟩
  have hlenA := fill_len l2 [] List.Pairwise.nil
  obtain ⟨ea, hea⟩ : ∃ ea, fill l2 [] = ea := ⟨_, rfl⟩
  rw [hea] at FA hlenA
  have HEA := Aside0.mk (show ea.length ≤ 200 by have := HLL.out; simp at hlenA; omega)
  have HEAF := Aside0.mk hea
  have HFA := Aside0.mk FA
  have B2 := Aside0.mk (show Below base w w2 ∧ base ≤ w2.heap.size from ⟨B1.out.1.trans (FA.below.mono B1.out.2), Nat.le_trans B1.out.2 FA.size⟩)
  have HNW := Aside0.mk (znewI w2.heap.size w2 w2 (Below.refl _ _) (Nat.le_refl _))
  clear FA hlenA hea HF B1
  go_wp2_with fail
  refine HNW.out.mono ?_
  rintro e w3 ⟨ownB, bb, rfl, FB⟩
  have HF3 := Aside0.mk FB
  clear FB HNW
  obtain ⟨n, hn⟩ : ∃ n, l2.length = n := ⟨_, rfl⟩
  obtain ⟨nm, hnm⟩ : ∃ nm, m2.length = nm := ⟨_, rfl⟩
  have HN := Aside0.mk hn
  have HNM := Aside0.mk hnm
  have ewn := orders_w n (by rw [← hn]; exact HLL.out)
  rw [hn, hnm]
  clear hn hnm
  go_wp2_with fail
  -- the first loop: others are put
  go_loopg [8] nm (fun gg s8 wr => ∃ (j : Nat) (own : Own), s8 = .int .i64 (j : Int) ∧ j + gg = nm ∧ Aside0 (FreshI w2.heap.size w2 wr own bb (fillz (m2.take j) [])))
  case atStart => exact ⟨0, ownB, rfl, by omega, HF3⟩
  case round =>
    clear HF3
    obtain ⟨j, own, rfl, hj, HF⟩ := hrel
    have HBW := Aside0.mk (show Below base w wr from B2.out.1.trans (HF.out.below.mono B2.out.2))
    by_cases hlt : j < nm
    · have hd : decide (j < nm) = true := decide_eq_true hlt
      have hd' : decide ((j : Int) < (nm : Int)) = true := decide_eq_true (by omega)
      have hjl : j < m2.length := by rw [HNM.out]; exact hlt
      obtain ⟨ad, e0, g0⟩ := Kd.at_int (Kd.C_below HCM.out (by rw [HB.out]; exact HBW.out)) (j : Int) (by omega) (by omega)
      subst e0
      rw [show rd m2 (j : Int) = m2.getD j 0 by simp [rd], Int.toNat_natCast] at g0
      have hj0 : (0 : Int) ≤ (j : Int) := by omega
      have hj1 : (j : Int) < (nm : Int) := by omega
      have ew := one_w j (by have := HLM.out; have := HNM.out; omega)
      have es := fillz_take m2 j hjl
      have el : (fillz (m2.take j) []).length ≤ 200 := by have := fillz_len (m2.take j) [] List.Pairwise.nil; rw [List.length_take] at this; have := HLM.out; simp at *; omega
      obtain ⟨x, hx⟩ : ∃ x, m2.getD j 0 = x := ⟨_, rfl⟩
      rw [hx] at g0 es
      have HES := Aside0.mk es
      have HPU := Aside0.mk (zputI HF.out (by omega) x 0)
      clear hjl es el hx HBW
      go_wp2_with fail
      refine HPU.out.mono ?_
      rintro e w4 ⟨own4, rfl, F4⟩
      rw [← HES.out] at F4
      have HF4 := Aside0.mk F4
      clear F4 HPU HES HF g0
      go_wp2_with fail
      go_roundg (nm - (j + 1))
      case rel => exact ⟨j + 1, own4, by first | rfl | (rw [ew]; rfl), by omega, HF4⟩
      case measure => omega
    · have hd : decide (j < nm) = false := decide_eq_false hlt
      have hd' : decide ((j : Int) < (nm : Int)) = false := decide_eq_false (by omega)
      have hjn : j = m2.length := by have := HNM.out; omega
      have hF := HF.out
      rw [hjn, List.take_length] at hF
      have el : (fillz m2 []).length ≤ 200 := by have := fillz_len m2 [] List.Pairwise.nil; have := HLM.out; simp at *; omega
      have eri := fillz_rise m2 [] List.Pairwise.nil
      obtain ⟨e1, he1⟩ : ∃ e1, fillz m2 [] = e1 := ⟨_, rfl⟩
      rw [he1] at hF el eri
      have HE1 := Aside0.mk he1
      have HE1L := Aside0.mk (And.intro el eri)
      have HF5 := Aside0.mk hF
      clear hF HF hjn hlt hj HBW he1 el eri
      go_wp2_with fail
      -- the second loop: the numbers, from the last one on
      go_loopg [9] n (fun gg s9 wr => ∃ (own : Own), gg ≤ n ∧ s9 = .int .i64 ((gg : Int) - 1) ∧ Aside0 (FreshI w2.heap.size w2 wr own bb (fill (l2.drop gg).reverse e1)))
      case atStart =>
        refine ⟨own, Nat.le_refl _, by first | rfl | (rw [ewn]), ⟨?_⟩⟩
        rw [show l2.drop n = [] from List.drop_eq_nil_of_le (by rw [HN.out]; exact Nat.le_refl _)]
        exact HF5.out
      case round =>
        clear HF5
        obtain ⟨own2, hgn, rfl, HF⟩ := hrel
        have HBW := Aside0.mk (show Below base w wr from B2.out.1.trans (HF.out.below.mono B2.out.2))
        cases gk with
        | succ j =>
          have ej : (((j + 1 : Nat) : Int) - 1) = (j : Int) := by omega
          rw [ej]
          have hd : decide ((0 : Int) ≤ (j : Int)) = true := decide_eq_true (by omega)
          have hjl : j < l2.length := by rw [HN.out]; omega
          obtain ⟨ad, e0, g0⟩ := Kd.at_int (Kd.C_below HCL.out (by rw [HB.out]; exact HBW.out)) (j : Int) (by omega) (by omega)
          subst e0
          rw [show rd l2 (j : Int) = l2.getD j 0 by simp [rd], Int.toNat_natCast] at g0
          have hj0 : (0 : Int) ≤ (j : Int) := by omega
          have hj1 : (j : Int) < (n : Int) := by omega
          have ew := orders_w j (by have := HLL.out; have := HN.out; omega)
          have es := fill_rev l2 j hjl e1
          have el : (fill (l2.drop (j + 1)).reverse e1).length ≤ 400 := by have := fill_len (l2.drop (j + 1)).reverse e1 HE1L.out.2; rw [List.length_reverse, List.length_drop] at this; have := HLL.out; have := HE1L.out.1; omega
          obtain ⟨x, hx⟩ : ∃ x, l2.getD j 0 = x := ⟨_, rfl⟩
          rw [hx] at g0 es
          have HAD := Aside0.mk (show ∀ W, Below w2.heap.size w2 W → W.cell? (ad.add j) = some (.int .i64 x) from fun W hb => by
            obtain ⟨ad', e', g'⟩ := Kd.at_int (Kd.C_below HCL.out (by rw [HB.out]; exact B2.out.1.trans (hb.mono B2.out.2))) (j : Int) hj0 (by rw [HN.out]; exact hj1)
            injection e' with e'
            subst e'
            rw [show rd l2 (j : Int) = l2.getD j 0 by simp [rd], Int.toNat_natCast, hx] at g'
            exact g')
          have HES := Aside0.mk es
          have HEL := Aside0.mk el
          clear hjl es el hx HBW
          go_wp2_with fail
          refine startL (fun W => W.cell? (ad.add j) = some (.int .i64 x)) [] (by kernel_rfl) ?_
          change WalkL _ _ _ _ _ _ 10 #[false, false, false, false, false, false, false, false, false, false] _ _
          have hS : wr.drew.cell? (ad.add j) = some (.int .i64 x) := g0
          refine pu 0 (.pointer (some ⟨bb, 0, none⟩)) hS rfl ?_
          refine pu 1 (.slice (some ad) n c) hS rfl ?_
          refine pu 2 (.int .i64 (j : Int)) hS rfl ?_
          refine pu 3 (.pointer (some (ad.add j))) hS rfl ?_
          refine ld 4 (.int .i64 x) hS rfl ?_
          refine pu 5 (.slice (some ad) n c) hS rfl ?_
          refine pu 6 (.int .i64 (j : Int)) hS rfl ?_
          refine pu 7 (.pointer (some (ad.add j))) hS rfl ?_
          refine ld 8 (.int .i64 x) hS rfl ?_
          refine co 9 60 13 #[.pointer (some ⟨bb, 0, none⟩), .int .i64 x, .int .i64 x] (zputI (HF.out.drew) (by have := HEL.out; omega) x x) (by kernel_rfl) rfl ?_
          rintro e w4 ⟨own4, rfl, F4⟩
          rw [← HES.out] at F4
          refine ⟨_, rfl, HAD.out w4 F4.below, ?_⟩
          have HF4 := Aside0.mk F4
          clear F4 HES HEL HF g0 hS HAD
          refine doneL (by kernel_rfl) ?_ _
          go_wp2_with fail
          go_roundg j
          case rel => exact ⟨own4, by omega, by first | rfl | (rw [ew]), HF4⟩
          case measure => omega
        | zero =>
          have hF := HF.out
          rw [List.drop_zero] at hF
          have hsame : sift ea m2 (fill l2.reverse e1) = ea := by rw [← HEAF.out, ← HE1.out]; exact orders_same l2 m2
          obtain ⟨e2, he2⟩ : ∃ e2, fill l2.reverse e1 = e2 := ⟨_, rfl⟩
          rw [he2] at hF hsame
          have HSAME := Aside0.mk hsame
          have HF6 := Aside0.mk hF
          have hz : decide ((0 : Int) ≤ ((0 : Nat) : Int) - 1) = false := by decide
          clear hF HF hgn HBW he2 hsame
          go_wp2_with fail
          -- the third loop: what was put and is none of them is dropped
          go_loopg [10] nm (fun gg s10 wr => ∃ (j : Nat) (own : Own), s10 = .int .i64 (j : Int) ∧ j + gg = nm ∧ Aside0 (FreshI w2.heap.size w2 wr own bb (sift ea (m2.take j) e2)))
          case atStart => exact ⟨0, own2, rfl, by omega, HF6⟩
          case round =>
            clear HF6
            obtain ⟨j, own3, rfl, hj, HF⟩ := hrel
            have HBW := Aside0.mk (show Below base w wr from B2.out.1.trans (HF.out.below.mono B2.out.2))
            by_cases hlt : j < nm
            · have hd : decide (j < nm) = true := decide_eq_true hlt
              have hd' : decide ((j : Int) < (nm : Int)) = true := decide_eq_true (by omega)
              have hjl : j < m2.length := by rw [HNM.out]; exact hlt
              obtain ⟨ad, e0, g0⟩ := Kd.at_int (Kd.C_below HCM.out (by rw [HB.out]; exact HBW.out)) (j : Int) (by omega) (by omega)
              subst e0
              rw [show rd m2 (j : Int) = m2.getD j 0 by simp [rd], Int.toNat_natCast] at g0
              have hj0 : (0 : Int) ≤ (j : Int) := by omega
              have hj1 : (j : Int) < (nm : Int) := by omega
              have ew := one_w j (by have := HLM.out; have := HNM.out; omega)
              have es := sift_take ea m2 e2 j hjl
              obtain ⟨x, hx⟩ : ∃ x, m2.getD j 0 = x := ⟨_, rfl⟩
              rw [hx] at g0 es
              obtain ⟨v, hv⟩ : ∃ v, (getL x ea).getD 0 = v := ⟨_, rfl⟩
              obtain ⟨b, hb⟩ : ∃ b, (getL x ea).isSome = b := ⟨_, rfl⟩
              rw [hb] at es
              have HES := Aside0.mk es
              have HG := Aside0.mk (zgetIv (HFA.out.still HF.out.below) x v b hv hb)
              have HDR := Aside0.mk (zdropI HF.out x)
              clear hjl es hx HBW hv hb
              go_wp2_with fail
              refine HG.out.mono ?_
              rintro e w' ⟨rfl, hw⟩; obtain rfl := hw.symm; clear hw HG
              cases b with
              | true =>
                have hF4 := HF.out
                have es := HES.out
                rw [if_pos rfl] at es
                rw [← es] at hF4
                have HF4 := Aside0.mk hF4
                clear hF4 es HES HDR HF g0
                go_wp2_with fail
                go_roundg (nm - (j + 1))
                case rel => exact ⟨j + 1, own3, by first | rfl | (rw [ew]; rfl), by omega, HF4⟩
                case measure => omega
              | false =>
                go_wp2_with fail
                refine HDR.out.mono ?_
                rintro e w4 ⟨own4, rfl, F4⟩
                have es := HES.out
                rw [if_neg (by decide)] at es
                rw [← es] at F4
                have HF4 := Aside0.mk F4
                clear F4 es HES HDR HF g0
                go_wp2_with fail
                go_roundg (nm - (j + 1))
                case rel => exact ⟨j + 1, own4, by first | rfl | (rw [ew]; rfl), by omega, HF4⟩
                case measure => omega
            · have hd : decide (j < nm) = false := decide_eq_false hlt
              have hd' : decide ((j : Int) < (nm : Int)) = false := decide_eq_false (by omega)
              have hjn : j = m2.length := by have := HNM.out; omega
              have hF := HF.out
              rw [hjn, List.take_length, HSAME.out] at hF
              have HKA := Aside0.mk (zkeysI (HFA.out.still hF.below) (by have := HEA.out; omega) (-9223372036854775808) 9223372036854775807)
              have HF7 := Aside0.mk hF
              clear hF HF hjn hlt hj HBW HSAME
              go_wp2_with fail
              refine HKA.out.mono ?_
              have hkl := keysL_le2 (-9223372036854775808) 9223372036854775807 ea
              obtain ⟨ks, hks⟩ : ∃ ks, keysL (-9223372036854775808) 9223372036854775807 ea = ks := ⟨_, rfl⟩
              rw [hks] at hkl ⊢
              rintro e w5 ⟨A5, c5, rfl, hc5, hC5, hb5⟩
              have F5 := HF7.out.still hb5
              have hkb := zkeysI F5 (by have := HEA.out; omega) (-9223372036854775808) 9223372036854775807
              rw [hks] at hkb
              have HKB := Aside0.mk hkb
              have HC5 := Aside0.mk (And.intro hc5 hC5)
              have HF8 := Aside0.mk F5
              have HKL := Aside0.mk (Nat.le_trans hkl HEA.out)
              clear F5 hkb hC5 hc5 hb5 HKA HF7 hks hkl
              go_wp2_with fail
              refine HKB.out.mono ?_
              rintro e w6 ⟨A6, c6, rfl, hc6, hC6, hb6⟩
              obtain ⟨K, hK⟩ := same_self ks (by have := HKL.out; omega)
              have HSM := Aside0.mk (nautilusref02_Same.calls K A5 c5 ks A6 c6 ks true w6 (Kd.C_below HC5.out.2 hb6) HC5.out.1 hC6 hc6 hK)
              have HF9 := Aside0.mk (HF8.out.still hb6)
              clear HKB HF8 hC6 hc6 hb6 HC5 hK
              go_wp2_with fail
              refine HSM.out.mono ?_
              rintro e w7' ⟨rfl, hdr⟩
              obtain ⟨qn, hqn⟩ := hdr.out
              have F7 := HF9.out.drewN qn
              rw [← hqn] at F7
              have HF10 := Aside0.mk F7
              clear hdr hqn HSM HF9 F7
              obtain ⟨w7, hw7⟩ : ∃ W, W = w7' := ⟨_, rfl⟩
              subst hw7
              go_wp2_with fail
              -- the fourth loop: all numbers stand there
              go_loopg [15] n (fun gg s15 wr => ∃ (j : Nat), s15 = .int .i64 (j : Int) ∧ j + gg = n ∧ wr = w7)
              case atStart => exact ⟨0, rfl, by omega, rfl⟩
              case round =>
                obtain ⟨j, rfl, hj, rfl⟩ := hrel
                by_cases hlt : j < n
                · have hd : decide (j < n) = true := decide_eq_true hlt
                  have hd' : decide ((j : Int) < (n : Int)) = true := decide_eq_true (by omega)
                  have hjl : j < l2.length := by rw [HN.out]; exact hlt
                  have HBW := Aside0.mk (show Below base w wr from B2.out.1.trans (HF10.out.below.mono B2.out.2))
                  obtain ⟨ad, e0, g0⟩ := Kd.at_int (Kd.C_below HCL.out (by rw [HB.out]; exact HBW.out)) (j : Int) (by omega) (by omega)
                  subst e0
                  rw [show rd l2 (j : Int) = l2.getD j 0 by simp [rd], Int.toNat_natCast] at g0
                  have hj0 : (0 : Int) ≤ (j : Int) := by omega
                  have hj1 : (j : Int) < (n : Int) := by omega
                  have ew := one_w j (by have := HLL.out; have := HN.out; omega)
                  obtain ⟨x, hx⟩ : ∃ x, l2.getD j 0 = x := ⟨_, rfl⟩
                  rw [hx] at g0
                  have hxm : x ∈ l2 := by
                    rw [← hx, List.getD_eq_getElem?_getD, List.getElem?_eq_getElem hjl]; exact List.getElem_mem hjl
                  have hg : getL x ea = some x := by rw [← HEAF.out, fill_get, if_pos hxm]
                  have HG := Aside0.mk (zgetIv HF10.out x x true (by rw [hg]; rfl) (by rw [hg]; rfl))
                  clear hjl hx hxm hg HBW
                  go_wp2_with fail
                  refine HG.out.mono ?_
                  rintro e w' ⟨rfl, hw⟩; obtain rfl := hw.symm; clear hw HG
                  go_wp2_with fail
                  go_roundg (n - (j + 1))
                  case rel => exact ⟨j + 1, by first | rfl | (rw [ew]; rfl), by omega, rfl⟩
                  case measure => omega
                · have hd : decide (j < n) = false := decide_eq_false hlt
                  have hd' : decide ((j : Int) < (n : Int)) = false := decide_eq_false (by omega)
                  have HLA := Aside0.mk (zlenI (HFA.out.still HF10.out.below))
                  have HLB := Aside0.mk (zlenI HF10.out)
                  have HSA := Aside0.mk (zshapeI (HFA.out.still HF10.out.below) (by have := HEA.out; omega))
                  clear hlt hj
                  go_wp2_with fail
                  refine HLA.out.mono ?_
                  rintro e w' ⟨rfl, hw⟩; obtain rfl := hw.symm; clear hw HLA
                  go_wp2_with fail
                  refine HLB.out.mono ?_
                  rintro e w' ⟨rfl, hw⟩; obtain rfl := hw.symm; clear hw HLB
                  go_wp2_with fail
                  refine HSA.out.mono ?_
                  rintro e w8 ⟨rows, A8, c8, hgood, rfl, hc8, hC8, hb8⟩
                  have F8 := HF10.out.still hb8
                  have HLA2 := Aside0.mk (zlenI (HFA.out.still F8.below))
                  obtain ⟨K8, hK8⟩ := shaped_good (by have := HEA.out; omega) hgood
                  have HS8 := Aside0.mk (nautilusref02_Shaped.calls K8 A8 c8 rows (ea.length : Int) true w8 hC8 hc8 hK8)
                  have HF11 := Aside0.mk F8
                  clear F8 HSA HF10 hgood hc8 hC8 hb8 hK8
                  go_wp2_with fail
                  refine HLA2.out.mono ?_
                  rintro e w' ⟨rfl, hw⟩; obtain rfl := hw.symm; clear hw HLA2
                  go_wp2_with fail
                  refine HS8.out.mono ?_
                  rintro e w9' ⟨rfl, hdr⟩
                  obtain ⟨qn, hqn⟩ := hdr.out
                  have F9 := HF11.out.drewN qn
                  rw [← hqn] at F9
                  have HF12 := Aside0.mk F9
                  have HSB := Aside0.mk (zshapeI F9 (by have := HEA.out; omega))
                  clear hdr hqn HS8 HF11 F9
                  go_wp2_with fail
                  refine HSB.out.mono ?_
                  rintro e w10 ⟨rows2, A9, c9, hgood, rfl, hc9, hC9, hb9⟩
                  have F10 := HF12.out.still hb9
                  have HLB2 := Aside0.mk (zlenI F10)
                  obtain ⟨K9, hK9⟩ := shaped_good (by have := HEA.out; omega) hgood
                  have HS9 := Aside0.mk (nautilusref02_Shaped.calls K9 A9 c9 rows2 (ea.length : Int) true w10 hC9 hc9 hK9)
                  have FIN := Aside0.mk (show ∀ qn, Below base w (w10.drewN qn) from fun qn => B2.out.1.trans ((F10.drewN qn).below.mono B2.out.2))
                  clear F10 HSB HF12 hgood hc9 hC9 hb9 hK9
                  go_wp2_with fail
                  refine HLB2.out.mono ?_
                  rintro e w' ⟨rfl, hw⟩; obtain rfl := hw.symm; clear hw HLB2
                  go_wp2_with fail
                  refine HS9.out.mono ?_
                  rintro e w11 ⟨rfl, hdr⟩
                  obtain ⟨qm, hqm⟩ := hdr.out
                  have FIN2 := FIN.out qm
                  rw [← hqm] at FIN2
                  have FIN := Aside0.mk FIN2
                  clear hdr hqm HS9 FIN2
                  go_wp2_with fail
                  first | exact HQ.out ▸ ⟨rfl, FIN.out⟩ | (go_ret; rw [← HQ.out]; exact ⟨rfl, FIN.out⟩)
end Go.Proofs.Ytkfcflflgecljaa.H
