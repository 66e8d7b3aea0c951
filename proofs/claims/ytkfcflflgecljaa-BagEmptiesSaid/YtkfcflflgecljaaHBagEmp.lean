/- nautiluslaw02.BagEmpties: its walk. -/
import Derived.Test.YtkfcflflgecljaaHBagFilled
import Derived.Test.YtkfcflflgecljaaHBagShown
import Derived.Test.YtkfcflflgecljaaHBagKeysI
import Derived.Test.YtkfcflflgecljaaHBagShapeI
set_option linter.unusedVariables false
set_option linter.unusedSimpArgs false
namespace Go.Proofs.Ytkfcflflgecljaa.H
open Go.RowKit Go.Proofs.YtkfcflflgecljaaW.PrintWords Go.Proofs.YtkfcflflgecljaaW.PrintLast
attribute [local go_sem] min2_i min_2
set_option maxRecDepth 100000
theorem keysL_len (a lim : Int) (es : List (Int × Int)) : (keysL a lim es).length ≤ es.length := by
  unfold keysL fr
  refine Nat.le_trans (List.length_filter_le _ _) ?_
  rw [List.length_map]; exact List.length_filter_le _ _
set_option maxHeartbeats 8000000 in
theorem emp.calls (A : Option Addr) (c : Nat) (l : List Int) (w : World) (hC : Kd.C (Kd.int .i64) w A l.length l) (hc : l.length ≤ c) :
    Calls Try.prog 8 #[.slice A l.length c] w (fun e w' => e = .returned (.bool true) ∧ Below w.heap.size w w') := by
  obtain ⟨base, hbase⟩ : ∃ base, w.heap.size = base := ⟨_, rfl⟩
  rw [hbase]
  have H1 := Aside0.mk (shown.calls base w w (Below.refl _ _) (by omega))
  obtain ⟨Q, hQ⟩ : ∃ Q : Ending → World → Prop, (fun (e : Ending) (w' : World) => e = .returned (.bool true) ∧ Below base w w') = Q := ⟨_, rfl⟩
  rw [hQ]
  have HQ := Aside0.mk hQ
  obtain ⟨m, hm⟩ : ∃ m : Int, (if (200 : Int) < (l.length : Int) then (200 : Int) else (l.length : Int)) = m := ⟨_, rfl⟩
  have hcut := cut200_run A l c hc m hm
  have HCL := Aside0.mk (show Kd.C (Kd.int .i64) w A (cut200 l).length (cut200 l) from Kd.C_take hC (by omega))
  have HB := Aside0.mk hbase
  have hlen := cut200_len l
  have HLL := Aside0.mk hlen
  generalize cut200 l = l2 at hcut HCL HLL
  clear hQ hbase hC hc hlen
  go_enter Try.func8, Try.ntmps8
  go_wp2_with fail
  refine H1.out.mono ?_
  rintro e w1 ⟨rfl, hb1, hs1⟩
  have hf := filled.calls A c l2 w1 (Kd.C_below HCL.out (by rw [HB.out]; exact hb1)) HLL.out
  have HF := Aside0.mk hf
  have B1 := Aside0.mk (And.intro hb1 hs1)
  clear H1 hb1 hs1 hf
  go_wp2_with fail
  refine HF.out.mono ?_
  rintro e w2 ⟨own, bb, rfl, F⟩
  have hlen := fill_len l2 [] List.Pairwise.nil
  have hel : (fill l2 []).length ≤ 200 := by have := HLL.out; simp at hlen; omega
  have HK := Aside0.mk (zkeysI F (by omega) (-9223372036854775808) 9223372036854775807)
  have hkl : (keysL (-9223372036854775808) 9223372036854775807 (fill l2 [])).length ≤ l2.length := by
    have h1 := keysL_len (-9223372036854775808) 9223372036854775807 (fill l2 [])
    simp at hlen; omega
  have HF2 := Aside0.mk F
  have HEL := Aside0.mk hel
  obtain ⟨kl, hkl2⟩ : ∃ kl, (keysL (-9223372036854775808) 9223372036854775807 (fill l2 [])).length = kl := ⟨_, rfl⟩
  rw [hkl2] at hkl
  have HKL := Aside0.mk hkl
  have HKL2 := Aside0.mk hkl2
  clear hlen hel HF F hkl hkl2
  go_wp2_with fail
  refine HK.out.mono ?_
  rintro e w3 ⟨A5, c5, rfl, _, _, hb3⟩
  rw [HKL2.out]
  have HF3 := Aside0.mk (HF2.out.down hb3)
  clear hb3 HK HF2 HKL2
  obtain ⟨n, hn⟩ : ∃ n, l2.length = n := ⟨_, rfl⟩
  have HN := Aside0.mk hn
  rw [hn]
  clear hn
  go_wp2_with fail
  go_loopg [6] n (fun gg s6 wr => ∃ (j : Nat) (own : Own), s6 = .int .i64 (j : Int) ∧ j + gg = n ∧ Aside0 (FreshI w1.heap.size w1 wr own bb (drops (l2.take j) (fill l2 []))))
  case atStart => exact ⟨0, own, rfl, by omega, HF3⟩
  case round =>
    clear HF3
    obtain ⟨j, own, rfl, hj, HF⟩ := hrel
    have HBW := Aside0.mk (show Below base w wr from B1.out.1.trans (HF.out.below.mono B1.out.2))
    by_cases hlt : j < n
    · have hd : decide (j < n) = true := decide_eq_true hlt
      have hd' : decide ((j : Int) < (n : Int)) = true := decide_eq_true (by omega)
      have hjl : j < l2.length := by rw [HN.out]; exact hlt
      obtain ⟨ad, e0, g0⟩ := Kd.at_int (Kd.C_below HCL.out (by rw [HB.out]; exact HBW.out)) (j : Int) (by omega) (by omega)
      subst e0
      rw [show rd l2 (j : Int) = l2.getD j 0 by simp [rd], Int.toNat_natCast] at g0
      have hj0 : (0 : Int) ≤ (j : Int) := by omega
      have hj1 : (j : Int) < (n : Int) := by omega
      have ew := one_w j (by have := HLL.out; have := HN.out; omega)
      have es := drops_take l2 (fill l2 []) j hjl
      obtain ⟨x, hx⟩ : ∃ x, l2.getD j 0 = x := ⟨_, rfl⟩
      rw [hx] at g0 es
      have HES := Aside0.mk es
      obtain ⟨v, hv⟩ : ∃ v, (getL x (drops (l2.take j) (fill l2 []))).getD 0 = v := ⟨_, rfl⟩
      obtain ⟨b, hb⟩ : ∃ b, (getL x (drops (l2.take j) (fill l2 []))).isSome = b := ⟨_, rfl⟩
      have HG := Aside0.mk (zgetIv HF.out x v b hv hb)
      have hdr := zdropI HF.out x
      rw [hb] at hdr
      have HDR := Aside0.mk hdr
      clear hjl es hx hv hb hdr HBW
      go_wp2_with fail
      refine HG.out.mono ?_
      rintro e w' ⟨rfl, hw⟩; obtain rfl := hw.symm; clear hw HG
      go_wp2_with fail
      refine HDR.out.mono ?_
      rintro e w4 ⟨own4, rfl, F4⟩
      rw [← HES.out] at F4
      have HF4 := Aside0.mk F4
      clear F4 HDR HF HES g0
      go_wp2_with fail
      go_roundg (n - (j + 1))
      case rel => exact ⟨j + 1, own4, by first | rfl | (rw [ew]; rfl), by omega, HF4⟩
      case measure => omega
    · have hd : decide (j < n) = false := decide_eq_false hlt
      have hd' : decide ((j : Int) < (n : Int)) = false := decide_eq_false (by omega)
      have hjn : j = l2.length := by have := HN.out; omega
      have hF := HF.out
      rw [hjn, List.take_length, drops_fill] at hF
      have HNX := Aside0.mk (znextI hF (-9223372036854775808) none rfl)
      have HF5 := Aside0.mk hF
      clear hF HF hjn hlt hj HBW
      go_wp2_with fail
      refine HNX.out.mono ?_
      rintro e w4 ⟨rfl, hb4⟩
      have F4 := HF5.out.down hb4
      have HLN := Aside0.mk (zlenI F4)
      have HSH := Aside0.mk (zshapeI F4 (by simp))
      have HF6 := Aside0.mk F4
      clear F4 HF5 HNX hb4
      go_wp2_with fail
      refine HLN.out.mono ?_
      rintro e w' ⟨rfl, hw⟩; obtain rfl := hw.symm; clear hw HLN
      go_wp2_with fail
      refine HSH.out.mono ?_
      rintro e w5 ⟨rows, A6, c6, hg, rfl, _, _, hb5⟩
      obtain rfl := hg.none rfl
      have F5 := HF6.out.down hb5
      have HKK := Aside0.mk (zkeysI F5 (by simp) (-9223372036854775808) 9223372036854775807)
      have HF7 := Aside0.mk F5
      have hkd : decide (kl ≤ n) = true := decide_eq_true (by have := HKL.out; have := HN.out; omega)
      have hkd' : decide ((kl : Int) ≤ (n : Int)) = true := decide_eq_true (by have := HKL.out; have := HN.out; omega)
      clear F5 HF6 hb5 HSH hg
      go_wp2_with fail
      refine HKK.out.mono ?_
      rintro e w6 ⟨A7, c7, rfl, _, _, hb6⟩
      have FIN := Aside0.mk (show Below base w w6 from B1.out.1.trans ((HF7.out.down hb6).below.mono B1.out.2))
      clear HF7 hb6 HKK
      go_wp2_with fail
      first | exact HQ.out ▸ ⟨rfl, FIN.out⟩ | (go_ret; rw [← HQ.out]; exact ⟨rfl, FIN.out⟩)
end Go.Proofs.Ytkfcflflgecljaa.H
