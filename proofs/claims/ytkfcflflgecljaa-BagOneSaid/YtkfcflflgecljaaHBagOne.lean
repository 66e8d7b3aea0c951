/- nautiluslaw02.BagOne: its walk. -/
import Derived.Test.YtkfcflflgecljaaHBagFilled
import Derived.Test.YtkfcflflgecljaaHBagShown
import Derived.Test.YtkfcflflgecljaaWMore
set_option linter.unusedVariables false
set_option linter.unusedSimpArgs false
namespace Go.Proofs.Ytkfcflflgecljaa.H
open Go.RowKit Go.Proofs.YtkfcflflgecljaaW.PrintWords Go.Proofs.YtkfcflflgecljaaW.PrintLast Go.Proofs.YtkfcflflgecljaaW.PrintMore
attribute [local go_sem] max2_int min2_int max_two min_two
set_option maxRecDepth 100000
theorem infoI : (Try.prog.info? 2).map (fun i => (i.zero, i.size, i.bytes)) = some (some (.int .i64 0), 1, 8) := by kernel_rfl
theorem zgetIv {base bb : Nat} {w0 w : World} {own : Own} {es : List (Int × Int)} (h : FreshI base w0 w own bb es) (at_ : Int) (v : Int) (b : Bool) (hv : (getL at_ es).getD 0 = v) (hb : (getL at_ es).isSome = b) :
    Calls Try.prog 12 #[.pointer (some ⟨bb, 0, none⟩), .int .i64 at_] w (fun e w' => e = .returned (.tuple #[.int .i64 v, .bool b]) ∧ w' = w) := by
  subst hv
  subst hb
  refine (zgetI h at_).mono ?_
  rintro e w' ⟨rfl, rfl⟩
  refine ⟨?_, rfl⟩
  cases getL at_ es <;> rfl
/-- What is cut to two hundred. -/
def cut200 (l : List Int) : List Int := l.take (min l.length 200)
theorem cut200_len (l : List Int) : (cut200 l).length ≤ 200 := by unfold cut200; rw [List.length_take]; omega
theorem cut200_run (A : Option Addr) (l : List Int) (c : Nat) (hc : l.length ≤ c) (m : Int) (hm : (if (200 : Int) < (l.length : Int) then (200 : Int) else (l.length : Int)) = m) :
    ∀ W : World, (Instr.slice 22 (.slice A l.length c) none (some (.int .i64 m)) none).run Try.prog W = .ok (.slice A (cut200 l).length c) W := by
  obtain ⟨i0, hi, hz0, hz1, hz2⟩ := info_parts infoI
  have hll : m = ((cut200 l).length : Int) := by rw [← hm]; unfold cut200; rw [List.length_take]; split <;> omega
  have h := cut_to (P := Try.prog) 22 2 .i64 Try.underlying22 hi A l.length c m (by omega) (by rw [← hm]; split <;> omega) hc
  rw [hll] at h ⊢
  rw [Int.toNat_natCast] at h
  exact h
theorem one_w (n : Nat) (h : n ≤ 200) : IntKind.i64.wrap ((n : Int) + 1) = (n : Int) + 1 := by
  rw [IntKind.wrap_i64]; omega
set_option maxHeartbeats 8000000 in
theorem one.calls (A : Option Addr) (c : Nat) (l : List Int) (at_ other : Int) (w : World) (hC : Kd.C (Kd.int .i64) w A l.length l) (hc : l.length ≤ c) :
    Calls Try.prog 3 #[.slice A l.length c, .int .i64 at_, .int .i64 other] w (fun e w' => e = .returned (.bool true) ∧ Below w.heap.size w w') := by
  obtain ⟨base, hbase⟩ : ∃ base, w.heap.size = base := ⟨_, rfl⟩
  rw [hbase]
  have H1 := Aside0.mk (shown.calls base w w (Below.refl _ _) (by omega))
  obtain ⟨Q, hQ⟩ : ∃ Q : Ending → World → Prop, (fun (e : Ending) (w' : World) => e = .returned (.bool true) ∧ Below base w w') = Q := ⟨_, rfl⟩
  rw [hQ]
  have HQ := Aside0.mk hQ
  obtain ⟨m, hm⟩ : ∃ m : Int, (if (200 : Int) < (l.length : Int) then (200 : Int) else (l.length : Int)) = m := ⟨_, rfl⟩
  have hcut := cut200_run A l c hc m hm
  have HCL := Aside0.mk (show Kd.C (Kd.int .i64) w A (cut200 l).length (cut200 l) from Kd.C_take hC (by omega))
  have HB := Aside0.mk hbase
  have hlen := cut200_len l
  have HLL := Aside0.mk hlen
  generalize cut200 l = l2 at hcut HCL HLL
  clear hQ hbase hC hc hlen
  go_enter Try.func3, Try.ntmps3
  go_wp2_with fail
  refine H1.out.mono ?_
  rintro e w1 ⟨rfl, hb1, hs1⟩
  have hf := filled.calls A c l2 w1 (Kd.C_below HCL.out (by rw [HB.out]; exact hb1)) HLL.out
  have HF := Aside0.mk hf
  have B1 := Aside0.mk (And.intro hb1 hs1)
  clear H1 hb1 hs1 hf HCL
  go_wp2_with fail
  refine HF.out.mono ?_
  rintro e w2 ⟨own, bb, rfl, F⟩
  have hlen := fill_len l2 [] List.Pairwise.nil
  obtain ⟨es, hes⟩ : ∃ es, fill l2 [] = es := ⟨_, rfl⟩
  rw [hes] at F hlen
  have hl2 : es.length ≤ 200 := by have := HLL.out; simp at hlen; omega
  clear hlen hes HF
  -- the lists' laws
  have hins := insL_length F.rise at_ (7 : Int)
  have g1 : getL at_ (insL at_ (7 : Int) es) = some 7 := by rw [getL_ins, if_pos rfl]
  have g2 : getL at_ (delL at_ (insL at_ (7 : Int) es)) = none := by rw [getL_del, if_pos rfl]
  have g3 : other ≠ at_ → getL other (insL at_ (7 : Int) es) = getL other es := fun h => by rw [getL_ins, if_neg h]
  have g4 : other ≠ at_ → getL other (delL at_ (insL at_ (7 : Int) es)) = getL other es := fun h => by rw [getL_del, if_neg h]; exact g3 h
  obtain ⟨n, hn⟩ : ∃ n, es.length = n := ⟨_, rfl⟩
  rw [hn] at hins hl2
  obtain ⟨es1, hes1⟩ : ∃ es1, insL at_ (7 : Int) es = es1 := ⟨_, rfl⟩
  rw [hes1] at hins g1 g2 g3 g4
  obtain ⟨es2, hes2⟩ : ∃ es2, delL at_ es1 = es2 := ⟨_, rfl⟩
  rw [hes2] at g2 g4
  have H3 := zlenI F
  rw [hn] at H3
  obtain ⟨v, hv⟩ : ∃ v, (getL other es).getD 0 = v := ⟨_, rfl⟩
  obtain ⟨s, hs⟩ : ∃ s, (getL other es).isSome = s := ⟨_, rfl⟩
  obtain ⟨v1, hv1⟩ : ∃ v1, (getL other es1).getD 0 = v1 := ⟨_, rfl⟩
  obtain ⟨s1, hs1⟩ : ∃ s1, (getL other es1).isSome = s1 := ⟨_, rfl⟩
  obtain ⟨v2, hv2⟩ : ∃ v2, (getL other es2).getD 0 = v2 := ⟨_, rfl⟩
  obtain ⟨s2, hs2⟩ : ∃ s2, (getL other es2).isSome = s2 := ⟨_, rfl⟩
  obtain ⟨u, hu⟩ : ∃ u, (getL at_ es).getD 0 = u := ⟨_, rfl⟩
  obtain ⟨there, ht⟩ : ∃ there, (getL at_ es).isSome = there := ⟨_, rfl⟩
  have H4 := zgetIv F other v s hv hs
  have H5 := zgetIv F at_ u there hu ht
  have H6 := zputI F (by omega) at_ 7
  rw [hes1, ht] at H6
  rw [ht] at hins
  have hsame : other ≠ at_ → v1 = v ∧ s1 = s ∧ v2 = v ∧ s2 = s := fun h => by
    rw [← hv, ← hs, ← hv1, ← hs1, ← hv2, ← hs2, g3 h, g4 h]; exact ⟨rfl, rfl, rfl, rfl⟩
  have PL := Aside0.mk (And.intro hins (And.intro g1 (And.intro g2 (And.intro hv1 (And.intro hs1 (And.intro hv2 (And.intro hs2 hes2)))))))
  have H3 := Aside0.mk H3
  have H4 := Aside0.mk H4
  have H5 := Aside0.mk H5
  have H6 := Aside0.mk H6
  have HS := Aside0.mk hsame
  have HN := Aside0.mk hl2
  clear hins g1 g2 g3 g4 hv hs hv1 hs1 hv2 hs2 hu ht hsame hl2 hn hes1 hes2 F HLL
  go_wp2_with fail
  refine H3.out.mono ?_
  rintro e w' ⟨rfl, hw⟩; obtain rfl := hw.symm; clear hw H3
  go_wp2_with fail
  refine H4.out.mono ?_
  rintro e w' ⟨rfl, hw⟩; obtain rfl := hw.symm; clear hw H4
  go_wp2_with fail
  refine H5.out.mono ?_
  rintro e w' ⟨rfl, hw⟩; obtain rfl := hw.symm; clear hw H5
  go_wp2_with fail
  refine H6.out.mono ?_
  rintro e w3 ⟨own3, rfl, F3⟩
  obtain ⟨hins, g1, g2, hv1, hs1, hv2, hs2, hes2⟩ := PL.out
  have H7 := Aside0.mk (zgetIv F3 other v1 s1 hv1 hs1)
  have H8 := Aside0.mk (zgetIv F3 at_ 7 true (by rw [g1]; rfl) (by rw [g1]; rfl))
  have H9 := zlenI F3
  obtain ⟨ln, hln⟩ : ∃ ln, es1.length = ln := ⟨_, rfl⟩
  rw [hln] at hins H9
  have HLN := Aside0.mk hins
  have H9 := Aside0.mk H9
  have H11 := zdropI F3 at_
  rw [hes2, g1] at H11
  simp only [Option.isSome_some] at H11
  have H11 := Aside0.mk H11
  clear hins g1 g2 hv1 hs1 hv2 hs2 hes2 F3 H6 hln
  go_wp2_with fail
  refine H7.out.mono ?_
  rintro e w' ⟨rfl, hw⟩; obtain rfl := hw.symm; clear hw H7
  go_wp2_with fail
  refine H8.out.mono ?_
  rintro e w' ⟨rfl, hw⟩; obtain rfl := hw.symm; clear hw H8
  obtain ⟨eqb, heq⟩ : ∃ b, (other == at_) = b := ⟨_, rfl⟩
  have hne : (other != at_) = !eqb := by rw [bne, heq]
  have HS2 : Aside0 (eqb = false → v1 = v ∧ s1 = s ∧ v2 = v ∧ s2 = s) := ⟨fun h => HS.out (by rw [h] at heq; simpa using heq)⟩
  have ew := one_w n HN.out
  clear HS
  cases eqb <;> cases there
  · obtain ⟨rfl, rfl, rfl, rfl⟩ := HS2.out rfl
    clear HS2
    have e9 : ((ln : Int) != (n : Int) + 1) = false := by
      have h := HLN.out
      simp only [Bool.false_eq_true, if_false, if_true] at h
      subst h; simp
    simp only [Bool.not_true, Bool.not_false] at hne
    clear HLN
    have eq1 := heq
    clear heq
    go_wp2_with fail
    refine H9.out.mono ?_
    rintro e w' ⟨rfl, hw⟩; obtain rfl := hw.symm; clear hw H9
    go_wp2_with fail
    refine H11.out.mono ?_
    rintro e w4 ⟨own4, rfl, F4⟩
    obtain ⟨_, g1, g2, hv1, hs1, hv2, hs2, hes2⟩ := PL.out
    have H12 := Aside0.mk (zgetIv F4 other _ _ hv2 hs2)
    have H13 := Aside0.mk (zgetIv F4 at_ 0 false (by rw [g2]; rfl) (by rw [g2]; rfl))
    have FIN := Aside0.mk (show Below base w w4 from B1.out.1.trans (F4.below.mono B1.out.2))
    clear g1 g2 hv1 hs1 hv2 hs2 hes2 F4 H11 PL B1 e9
    go_wp2_with fail
    refine H12.out.mono ?_
    rintro e w' ⟨rfl, hw⟩; obtain rfl := hw.symm; clear hw H12
    go_wp2_with fail
    refine H13.out.mono ?_
    rintro e w' ⟨rfl, hw⟩; obtain rfl := hw.symm; clear hw H13
    go_wp2_with fail
    first | exact HQ.out ▸ ⟨rfl, FIN.out⟩ | (go_ret; rw [← HQ.out]; exact ⟨rfl, FIN.out⟩)
  · obtain ⟨rfl, rfl, rfl, rfl⟩ := HS2.out rfl
    clear HS2
    have e9 : ((ln : Int) != (n : Int)) = false := by
      have h := HLN.out
      simp only [Bool.false_eq_true, if_false, if_true] at h
      subst h; simp
    simp only [Bool.not_true, Bool.not_false] at hne
    clear HLN
    have eq1 := heq
    clear heq
    go_wp2_with fail
    refine H9.out.mono ?_
    rintro e w' ⟨rfl, hw⟩; obtain rfl := hw.symm; clear hw H9
    go_wp2_with fail
    refine H11.out.mono ?_
    rintro e w4 ⟨own4, rfl, F4⟩
    obtain ⟨_, g1, g2, hv1, hs1, hv2, hs2, hes2⟩ := PL.out
    have H12 := Aside0.mk (zgetIv F4 other _ _ hv2 hs2)
    have H13 := Aside0.mk (zgetIv F4 at_ 0 false (by rw [g2]; rfl) (by rw [g2]; rfl))
    have FIN := Aside0.mk (show Below base w w4 from B1.out.1.trans (F4.below.mono B1.out.2))
    clear g1 g2 hv1 hs1 hv2 hs2 hes2 F4 H11 PL B1 e9
    go_wp2_with fail
    refine H12.out.mono ?_
    rintro e w' ⟨rfl, hw⟩; obtain rfl := hw.symm; clear hw H12
    go_wp2_with fail
    refine H13.out.mono ?_
    rintro e w' ⟨rfl, hw⟩; obtain rfl := hw.symm; clear hw H13
    go_wp2_with fail
    first | exact HQ.out ▸ ⟨rfl, FIN.out⟩ | (go_ret; rw [← HQ.out]; exact ⟨rfl, FIN.out⟩)
  · clear HS2
    have e9 : ((ln : Int) != (n : Int) + 1) = false := by
      have h := HLN.out
      simp only [Bool.false_eq_true, if_false, if_true] at h
      subst h; simp
    simp only [Bool.not_true, Bool.not_false] at hne
    clear HLN
    have eq1 := heq
    clear heq
    go_wp2_with fail
    refine H9.out.mono ?_
    rintro e w' ⟨rfl, hw⟩; obtain rfl := hw.symm; clear hw H9
    go_wp2_with fail
    refine H11.out.mono ?_
    rintro e w4 ⟨own4, rfl, F4⟩
    obtain ⟨_, g1, g2, hv1, hs1, hv2, hs2, hes2⟩ := PL.out
    have H12 := Aside0.mk (zgetIv F4 other _ _ hv2 hs2)
    have H13 := Aside0.mk (zgetIv F4 at_ 0 false (by rw [g2]; rfl) (by rw [g2]; rfl))
    have FIN := Aside0.mk (show Below base w w4 from B1.out.1.trans (F4.below.mono B1.out.2))
    clear g1 g2 hv1 hs1 hv2 hs2 hes2 F4 H11 PL B1 e9
    go_wp2_with fail
    refine H12.out.mono ?_
    rintro e w' ⟨rfl, hw⟩; obtain rfl := hw.symm; clear hw H12
    go_wp2_with fail
    refine H13.out.mono ?_
    rintro e w' ⟨rfl, hw⟩; obtain rfl := hw.symm; clear hw H13
    go_wp2_with fail
    first | exact HQ.out ▸ ⟨rfl, FIN.out⟩ | (go_ret; rw [← HQ.out]; exact ⟨rfl, FIN.out⟩)
  · clear HS2
    have e9 : ((ln : Int) != (n : Int)) = false := by
      have h := HLN.out
      simp only [Bool.false_eq_true, if_false, if_true] at h
      subst h; simp
    simp only [Bool.not_true, Bool.not_false] at hne
    clear HLN
    have eq1 := heq
    clear heq
    go_wp2_with fail
    refine H9.out.mono ?_
    rintro e w' ⟨rfl, hw⟩; obtain rfl := hw.symm; clear hw H9
    go_wp2_with fail
    refine H11.out.mono ?_
    rintro e w4 ⟨own4, rfl, F4⟩
    obtain ⟨_, g1, g2, hv1, hs1, hv2, hs2, hes2⟩ := PL.out
    have H12 := Aside0.mk (zgetIv F4 other _ _ hv2 hs2)
    have H13 := Aside0.mk (zgetIv F4 at_ 0 false (by rw [g2]; rfl) (by rw [g2]; rfl))
    have FIN := Aside0.mk (show Below base w w4 from B1.out.1.trans (F4.below.mono B1.out.2))
    clear g1 g2 hv1 hs1 hv2 hs2 hes2 F4 H11 PL B1 e9
    go_wp2_with fail
    refine H12.out.mono ?_
    rintro e w' ⟨rfl, hw⟩; obtain rfl := hw.symm; clear hw H12
    go_wp2_with fail
    refine H13.out.mono ?_
    rintro e w' ⟨rfl, hw⟩; obtain rfl := hw.symm; clear hw H13
    go_wp2_with fail
    first | exact HQ.out ▸ ⟨rfl, FIN.out⟩ | (go_ret; rw [← HQ.out]; exact ⟨rfl, FIN.out⟩)
end Go.Proofs.Ytkfcflflgecljaa.H
