/- split of a bag's node over string: what it leaves. -/
import Derived.Test.YtkfcflflgecljaaHBagKS
import Derived.Test.YtkfcflflgecljaaHBagLeftS
import Derived.Deep.DeepCutAuto
import Derived.Deep.CutBlock
import Derived.Deep.QuietTactic
import Derived.BigQuiet
set_option linter.unusedVariables false
set_option linter.unusedSimpArgs false
namespace Go.Proofs.Ytkfcflflgecljaa.H
open Go.RowKit Go.Proofs.YtkfcflflgecljaaW.PrintWords Go.Proofs.YtkfcflflgecljaaW.PrintLast
set_option maxRecDepth 100000
/-- What split leaves. -/
def SplitPostS (own : Own) (H : HP ByteArray) (w : World) (x a i : Nat) (xk : List Int) (xv : List ByteArray) (xc : List Nat) (an : Nd ByteArray) (bn : Nd ByteArray) (e : Ending) (w' : World) : Prop :=
  ∃ b own' H', e = .returned (.tuple #[]) ∧ Heap LS w' own' H' ∧ Fr own own' w w' ∧ H b = none ∧ H' x = some ⟨xk, xv, xc.take (i + 1) ++ b :: xc.drop (i + 1)⟩ ∧ H' a = some an ∧ H' b = some bn ∧ ∀ k, k ≠ x → k ≠ a → k ≠ b → H' k = H k
set_option maxHeartbeats 16000000 in
theorem splitS.calls {own : Own} {H : HP ByteArray} (x a i : Nat) (xk : List Int) (xv : List ByteArray) (xc : List Nat) (ak : List Int) (av : List ByteArray) (ac : List Nat) (w : World)
    (hH : Heap LS w own H) (hx : H x = some ⟨xk, xv, xc⟩) (ha : H a = some ⟨ak, av, ac⟩) (hxa : x ≠ a)
    (hca : xc[i]? = some a) (km : Int) (vm : ByteArray) (hkm : ak[3]? = some km) (hvm : av[3]? = some vm) (hlk : ak.length = 7) (hlv : av.length = 7) (hik : i ≤ xk.length) (hiv : i ≤ xv.length)
    (h1 : xc.length ≤ 50) (h2 : xk.length ≤ 50) (h3 : xv.length ≤ 50) (h8 : ac = [] ∨ ac.length = 8) :
    Calls Try.prog 43 #[.pointer (some ⟨x, 0, none⟩), .int .i64 (i : Int)] w
      (SplitPostS own H w x a i (xk.take i ++ km :: xk.drop i) (xv.take i ++ vm :: xv.drop i) xc ⟨ak.take 3, av.take 3, ac.take 4⟩ ⟨ak.drop 4, av.drop 4, ac.drop 4⟩) := by
  obtain ⟨XA0, xc0, XA1, xc1, XA2, xc2, vx⟩ := hH.view hx
  obtain ⟨g2, rfl, y1, _, _, _⟩ := vx.r2.get (j := i) (u := ptrV a) (by simp [Nd.row, hca]) (by simp [Nd.row])
  have k2 : w.cell? ⟨x, 2, none⟩ = some (.slice (some ⟨g2, 0, none⟩) xc.length xc2) := vx.k2
  have q1 : w.cell? ⟨g2, i, none⟩ = some (.pointer (some ⟨a, 0, none⟩)) := y1
  have hic : i < xc.length := (List.getElem?_eq_some_iff.1 hca).1
  generalize hn2 : xc.length = n2 at k2 hic h1
  have i0 : (0 : Int) ≤ (i : Int) := by omega
  have i1 : (i : Int) < (n2 : Int) := by omega
  have HX := Aside0.mk hx
  have HA := Aside0.mk ha
  have HH := Aside0.mk hH
  have HK := Aside0.mk (And.intro hkm hvm)
  have HL := Aside0.mk (And.intro hlk (And.intro hlv (And.intro hik (And.intro hiv (And.intro hic hn2)))))
  have HN := Aside0.mk hxa
  have H8 := Aside0.mk h8
  generalize hxk : xk.take i ++ km :: xk.drop i = xkn
  generalize hxv : xv.take i ++ vm :: xv.drop i = xvn
  generalize han : (⟨ak.take 3, av.take 3, ac.take 4⟩ : Nd ByteArray) = an
  generalize hbn : (⟨ak.drop 4, av.drop 4, ac.drop 4⟩ : Nd ByteArray) = bn
  have HE := Aside0.mk (And.intro (And.intro hxk hxv) (And.intro han hbn))
  clear hxk hxv han hbn hx ha vx y1 hca hkm hvm hlk hlv hik hiv hn2 hxa h8 hH
  go_enter Try.func43, Try.ntmps43
  go_wp2_with fail
  clear k2 q1
  go_cut [6] (fun s6 wc => NewStep LS own H w ⟨ak.drop 4, av.drop 4, []⟩ s6 wc)
  case first =>
    have hH := HH.out
    obtain ⟨AA0, ac0, AA1, ac1, AA2, ac2, va⟩ := hH.view HA.out
    obtain ⟨ga0, rfl, _, yo0, _, _⟩ := va.r0.get (j := 3) (u := .int .i64 km) (by simp [Nd.row, LS, HK.out.1]) (by simp [Nd.row])
    obtain ⟨ga1, rfl, _, yo1, _, _⟩ := va.r1.get (j := 3) (u := .string vm) (by simp [Nd.row, LS, HK.out.2]) (by simp [Nd.row])
    have p0 : w.cell? ⟨a, 0, none⟩ = some (.slice (some ⟨ga0, 0, none⟩) 7 ac0) := by have := va.k0; simp only at this; rw [HL.out.1] at this; exact this
    have p1 : w.cell? ⟨a, 1, none⟩ = some (.slice (some ⟨ga1, 0, none⟩) 7 ac1) := by have := va.k1; simp only at this; rw [HL.out.2.1] at this; exact this
    have c0 : (7 : Int) ≤ (ac0 : Int) := by have := va.l0; have := HL.out.1; simp only at *; omega
    have c1 : (7 : Int) ≤ (ac1 : Int) := by have := va.l1; have := HL.out.2.1; simp only at *; omega
    obtain ⟨t0, ht0, _, ht1, _⟩ := info_parts info2
    obtain ⟨s0, hs0, _, hs1, _⟩ := info_parts info9
    have d0 : ∀ W, (Instr.slice 22 (.slice (some ⟨ga0, 0, none⟩) 7 ac0) (some (.int .i64 4)) none none).run Try.prog W = .ok (.slice (some ⟨ga0, 4, none⟩) 3 (ac0 - 4)) W := fun W => sl_lit (P := Try.prog) 22 2 Try.underlying22 ht0 ht1 ga0 7 ac0 4 (by decide) (by omega) W
    have d1 : ∀ W, (Instr.slice 67 (.slice (some ⟨ga1, 0, none⟩) 7 ac1) (some (.int .i64 4)) none none).run Try.prog W = .ok (.slice (some ⟨ga1, 4, none⟩) 3 (ac1 - 4)) W := fun W => sl_lit (P := Try.prog) 67 9 Try.underlying67 hs0 hs1 ga1 7 ac1 4 (by decide) (by omega) W
    have w4 : IntKind.i64.wrap 4 = 4 := by rfl
    clear ht0 ht1 hs0 hs1

    refine startL (Sees own (0, 9) w) [] (by kernel_rfl) ?_
    change WalkL _ _ _ _ _ _ 19 #[false, false, false, false, false, false, false, false, false, false, false, false, false, false, false, false, false, false, false] _ _
    have hS : Sees own (0, 9) w w.drew := Sees.refl _ _ _
    refine pu 0 (.pointer (some ⟨a, 0, none⟩)) hS rfl ?_
    refine pu 1 (.pointer (some ⟨a, 0, none⟩)) hS rfl ?_
    refine pu 2 (.pointer (some ⟨a, 0, none⟩)) hS rfl ?_
    refine lb 3 (.slice (some ⟨ga0, 0, none⟩) (7) (ac0)) hS p0 va.mine (by simp) rfl ?_
    refine pu 4 (.int .i64 (3)) hS rfl ?_
    refine pu 5 (.int .i64 (4)) hS rfl ?_
    refine pu 6 (.slice (some ⟨ga0, 4, none⟩) (3) ((ac0 - 4))) hS rfl ?_
    refine pu 8 (.pointer (some ⟨a, 0, none⟩)) hS rfl ?_
    refine pu 9 (.pointer (some ⟨a, 0, none⟩)) hS rfl ?_
    refine pu 10 (.pointer (some ⟨a, 1, none⟩)) hS rfl ?_
    refine lb 11 (.slice (some ⟨ga1, 0, none⟩) (7) (ac1)) hS p1 va.mine (by simp) rfl ?_
    refine pu 12 (.int .i64 (3)) hS rfl ?_
    refine pu 13 (.int .i64 (4)) hS rfl ?_
    refine pu 14 (.slice (some ⟨ga1, 4, none⟩) (3) ((ac1 - 4))) hS rfl ?_
    refine co 7 21 47 #[.slice (some ⟨ga0, 4, none⟩) 3 (ac0 - 4)] (CloI.calls ga0 4 3 (ac0 - 4) ((Nd.row LS (⟨ak, av, ac⟩ : Nd ByteArray) 0).drop 4) w.drew (by simp only [Nd.row, List.length_drop, List.length_map, HL.out.1, HL.out.2.1]) (by decide) (fun j u hu => (World.cell?_of_block (a := ⟨ga0, 4 + j, none⟩) (hS.1 ga0 _ yo0 (by simp))).trans (va.r0.cellsAt 4 j u hu)) (fun u hu => row_oneS 0 _ u (List.mem_of_mem_drop hu)) (by decide)) (by kernel_rfl) rfl ?_
    rintro e w2 ⟨B0, k0, rfl, ho0, hb0⟩
    have hS2 := hS.below hH hb0
    refine ⟨_, rfl, hS2, ?_⟩
    refine co 15 29 64 #[.slice (some ⟨ga1, 4, none⟩) 3 (ac1 - 4)] (CloS.calls ga1 4 3 (ac1 - 4) ((Nd.row LS (⟨ak, av, ac⟩ : Nd ByteArray) 1).drop 4) w2 (by simp only [Nd.row, List.length_drop, List.length_map, HL.out.1, HL.out.2.1]) (by decide) (fun j u hu => (World.cell?_of_block (a := ⟨ga1, 4 + j, none⟩) (hS2.1 ga1 _ yo1 (by simp))).trans (va.r1.cellsAt 4 j u hu)) (fun u hu => row_oneS 1 _ u (List.mem_of_mem_drop hu)) (by decide)) (by kernel_rfl) rfl ?_
    rintro e w3 ⟨B1, k1, rfl, ho1, hb1⟩
    have hS3 := hS2.below hH hb1
    refine ⟨_, rfl, hS3, ?_⟩
    refine pu 16 (.agg #[.slice B0 3 k0, .slice B1 3 k1, .slice none 0 0]) hS3 rfl ?_
    refine al 17 (.pointer (some ⟨w3.heap.size, 0, none⟩)) (w3.alloc (.cells #[.slice B0 3 k0, .slice B1 3 k1, .slice none 0 0] 70)) (by kernel_rfl) rfl (hS3.alloc hH _) ?_
    refine pu 18 (.pointer (some ⟨w3.heap.size, 0, none⟩)) (hS3.alloc hH _) rfl ?_
    refine doneL (by kernel_rfl) ?_ _
    go_wp2_with fail
    go_meet
    exact hH.newStep (w2 := w2) (below_of_drew hb0) hb1 (⟨ak.drop 4, av.drop 4, []⟩ : Nd ByteArray) (by rw [show Nd.row LS (⟨ak.drop 4, av.drop 4, []⟩ : Nd ByteArray) 0 = (Nd.row LS (⟨ak, av, ac⟩ : Nd ByteArray) 0).drop 4 by simp [Nd.row, List.map_drop]]; exact ho0) (by rw [show Nd.row LS (⟨ak.drop 4, av.drop 4, []⟩ : Nd ByteArray) 1 = (Nd.row LS (⟨ak, av, ac⟩ : Nd ByteArray) 1).drop 4 by simp [Nd.row, List.map_drop]]; exact ho1) (by simp [Nd.row, HL.out.1]) (by simp [Nd.row, HL.out.2.1]) rfl
  case rest =>
  obtain ⟨b, own0, H0, rfl, hH0, hF0, hbn, hb0, ho0⟩ := hcut
  obtain ⟨w0, hwc⟩ : ∃ W, W = wc := ⟨_, rfl⟩
  subst hwc
  have hxb : x ≠ b := by rintro rfl; rw [HX.out] at hbn; cases hbn
  have hab : a ≠ b := by rintro rfl; rw [HA.out] at hbn; cases hbn
  have S0 := Aside0.mk (And.intro hH0 (And.intro hF0 (And.intro ((ho0 x hxb).trans HX.out) (And.intro ((ho0 a hab).trans HA.out) (And.intro hb0 (fun k (_ : k ≠ x) (_ : k ≠ a) (q : k ≠ b) => ho0 k q))))))
  have NE := Aside0.mk (And.intro HN.out (And.intro hxb hab))
  have HBN := Aside0.mk hbn
  clear hH0 hF0 hbn hb0 ho0 hxb hab HX HA HN HH
  go_upto_if 34 with (go_at_call 41; refine (leafS.calls a (⟨ak, av, ac⟩ : Nd ByteArray) w0 S0.out.1 S0.out.2.2.2.1).mono ?_; rintro e w' ⟨rfl, hw⟩; obtain rfl := hw.symm; clear hw)
  go_cut [] (fun wc => Step2 LS own0 H0 w0 a (⟨ak, av, ac.take 4⟩ : Nd ByteArray) b (⟨ak.drop 4, av.drop 4, ac.drop 4⟩ : Nd ByteArray) wc)
  case first =>
    obtain ⟨hH, _, hx, ha, hb, _⟩ := S0.out
    obtain ⟨hxa, hxb, hab⟩ := NE.out
    rcases H8.out with hac | hac
    · subst hac
      simp only [List.isEmpty_nil]
      go_wp2_with fail
      go_meet
      exact ⟨own0, H0, hH, Fr.refl _ _, ha, hb, fun _ _ _ => rfl⟩
    · have hie : ac.isEmpty = false := by cases ac with | nil => simp at hac | cons _ _ => rfl
      rw [hie]
      have HAC := Aside0.mk hac
      clear hac hie hx ha hb hH hxa hxb hab
      go_upto_region 4 with (fail)
      go_cut [] (fun wc => Step LS own0 H0 w0 b (⟨ak.drop 4, av.drop 4, ac.drop 4⟩ : Nd ByteArray) wc)
      case first =>
        obtain ⟨hH, _, hx, ha, hb, _⟩ := S0.out
        obtain ⟨hxa, hxb, hab⟩ := NE.out
        obtain ⟨AA0, ac0, AA1, ac1, AA2, ac2, va⟩ := hH.view ha
        obtain ⟨BA0, bc0, BA1, bc1, BA2, bc2, vb⟩ := hH.view hb
        obtain ⟨ga, rfl, _, _, _, _⟩ := va.r2.get (j := 4) (u := (Nd.row LS (⟨ak, av, ac⟩ : Nd ByteArray) 2)[4]'(by simp only [Nd.row, List.length_map]; have := HAC.out; omega)) (List.getElem?_eq_getElem _) (by simp only [Nd.row, List.length_map])
        have p2 : w0.cell? ⟨a, 2, none⟩ = some (.slice (some ⟨ga, 0, none⟩) 8 ac2) := by have := va.k2; simp only at this; rw [HAC.out] at this; exact this
        have c2 : 8 ≤ ac2 := by have := va.l2; have := HAC.out; simp only at *; omega
        obtain ⟨t0, ht0, _, ht1, _⟩ := info_parts info66
        have d2 : ∀ W, (Instr.slice 68 (.slice (some ⟨ga, 0, none⟩) 8 ac2) (some (.int .i64 4)) none none).run Try.prog W = .ok (.slice (some ⟨ga, 4, none⟩) 4 (ac2 - 4)) W := fun W => sl_lit (P := Try.prog) 68 66 Try.underlying68 ht0 ht1 ga 8 ac2 4 (by decide) (by omega) W
        have q2 := vb.k2
        have f2 := vb.free 2
        have HC := Aside0.mk (CloQ.calls ga 4 4 (ac2 - 4) ((Nd.row LS (⟨ak, av, ac⟩ : Nd ByteArray) 2).drop 4) w0 (by simp only [Nd.row, List.length_drop, List.length_map, HAC.out]) (by decide) (va.r2.cellsAt 4) (fun u hu => row_oneS 2 _ u (List.mem_of_mem_drop hu)) (by decide))
        clear ht0 ht1
        go_wp2_with (go_at_call 65; refine HC.out.mono ?_; rintro e w2 ⟨A', k', rfl, hop, hbl⟩; have q1 := (hbl.cell (p := ⟨b, 2, none⟩) vb.lt).trans q2; have q3 := (hbl.frozen (p := ⟨b, 2, none⟩) vb.lt).trans f2; have HOP := Aside0.mk (And.intro hop hbl); clear hop hbl)
        go_meet
        exact hH.step (⟨ak.drop 4, av.drop 4, ac.drop 4⟩ : Nd ByteArray) hb 2 (by decide) vb.k2 (RowOp.of_new HOP.out.1 (by simp only [Nd.row, List.length_drop, List.length_map, HAC.out]) HOP.out.2) (by simp [Nd.row, List.map_drop]) (by intro j hj hne; rcases j with _ | _ | _ | j <;> first | rfl | omega)
      case rest =>
      obtain ⟨own1, H1, hH1, hF1, hn1, ho1⟩ := hcut
      obtain ⟨w1, hwc⟩ : ∃ W, W = wc := ⟨_, rfl⟩
      subst hwc
      have ha1 := (ho1 a NE.out.2.2).trans S0.out.2.2.2.1
      have T1 := Aside0.mk (And.intro hH1 (And.intro hF1 (And.intro hn1 ho1)))
      have TA := Aside0.mk ha1
      obtain ⟨AA0, ac0, AA1, ac1, AA2, ac2, va⟩ := hH1.view ha1
      obtain ⟨ga, rfl, _, _, _, _⟩ := va.r2.get (j := 4) (u := (Nd.row LS (⟨ak, av, ac⟩ : Nd ByteArray) 2)[4]'(by simp only [Nd.row, List.length_map]; have := HAC.out; omega)) (List.getElem?_eq_getElem _) (by simp only [Nd.row, List.length_map])
      have p2 : w1.cell? ⟨a, 2, none⟩ = some (.slice (some ⟨ga, 0, none⟩) 8 ac2) := by have := va.k2; simp only at this; rw [HAC.out] at this; exact this
      have c2 : (8 : Int) ≤ (ac2 : Int) := by have := va.l2; have := HAC.out; simp only at *; omega
      have f2 := va.free 2
      clear hH1 hF1 hn1 ho1 ha1
      go_wp2_with fail
      go_meet
      obtain ⟨hH1, hF1, hn1, ho1⟩ := T1.out
      have op2 := rowCut (k := 4) va.r2.row (by simp [Nd.row]) (by simp only [Nd.row, List.length_map]; have := HAC.out; omega)
      simp only [HAC.out] at op2
      obtain ⟨own2, H2, hH2, hF2, hn2, ho2⟩ := hH1.step (⟨ak, av, ac.take 4⟩ : Nd ByteArray) TA.out 2 (by decide) p2 op2 (by simp [Nd.row, List.map_take]) (by intro j hj hne; rcases j with _ | _ | _ | j <;> first | rfl | omega)
      exact ⟨own2, H2, hH2, hF1.trans hF2, hn2, (ho2 b (Ne.symm NE.out.2.2)).trans hn1, fun k ka kb => (ho2 k ka).trans (ho1 k kb)⟩
  case rest =>
  obtain ⟨own1, H1, hH1, hF1, hna1, hnb1, ho1⟩ := hcut
  obtain ⟨w1, hwc⟩ : ∃ W, W = wc := ⟨_, rfl⟩
  subst hwc
  obtain ⟨hH, hF, hx, ha, hb, hO⟩ := S0.out
  obtain ⟨hxa, hxb, hab⟩ := NE.out
  have T := Aside0.mk (And.intro hH1 (And.intro (hF.trans hF1) (And.intro ((ho1 x hxa hxb).trans hx) (And.intro hna1 (And.intro hnb1 (fun k qx qa qb => (ho1 k qa qb).trans (hO k qx qa qb)))))))
  clear S0 hH1 hF1 hna1 hnb1 ho1 hH hF hx ha hb hO hxa hxb hab
  have S0 := T
  clear T
  go_wp2_with fail
  go_cut [] (fun w2 => Step LS own1 H1 w1 x (⟨xk.take i ++ km :: xk.drop i, xv, xc⟩ : Nd ByteArray) w2)
  case first =>
    obtain ⟨hH, _, hx, ha, hb, _⟩ := S0.out
    obtain ⟨hxa, hxb, hab⟩ := NE.out
    have lk : i ≤ xk.length := by have := HL.out; omega
    have lv : i ≤ xv.length := by have := HL.out; omega
    have lc : i < xc.length := by have := HL.out; omega
    have lm : (3 : Int) < (ak.length : Int) := by have := HL.out; omega
    have lm' : (3 : Int) < (av.length : Int) := by have := HL.out; omega
    obtain ⟨XA0, xc0, XA1, xc1, XA2, xc2, vx⟩ := hH.view hx
    obtain ⟨AA0, ac0, AA1, ac1, AA2, ac2, va⟩ := hH.view ha
    obtain ⟨ga, rfl, y, yo, yf, yl⟩ := va.r0.get (j := 3) (u := .int .i64 km) (by simp [Nd.row, LS, HK.out.1]) (by simp [Nd.row])
    refine startL (Sees own1 (x, 0) w1) [17] (by kernel_rfl) ?_
    change WalkL _ _ _ _ _ _ 18 #[false, false, false, false, false, false, false, false, false, false, false, false, false, false, false, false, false, false] _ _
    have hS : Sees own1 (x, 0) w1 w1.drew := Sees.refl _ _ _
    refine pu 0 (.pointer (some ⟨x, 0, none⟩)) hS rfl ?_
    refine pu 1 (.pointer (some ⟨x, 0, none⟩)) hS rfl ?_
    refine pu 2 (.pointer (some ⟨x, 0, none⟩)) hS rfl ?_
    refine pu 3 (.pointer (some ⟨x, 0, none⟩)) hS rfl ?_
    refine lb 4 (.slice (XA0) (xk.length) (xc0)) hS vx.k0 vx.mine (by simp) rfl ?_
    refine pu 5 (.int .i64 ((i : Int))) hS rfl ?_
    refine pu 6 (.pointer (some ⟨a, 0, none⟩)) hS rfl ?_
    refine pu 7 (.pointer (some ⟨a, 0, none⟩)) hS rfl ?_
    refine pu 8 (.pointer (some ⟨a, 0, none⟩)) hS rfl ?_
    refine lb 9 (.slice (some ⟨ga, 0, none⟩) (ak.length) (ac0)) hS va.k0 va.mine (by simp) rfl ?_
    refine pu 10 (.int .i64 (3)) hS rfl ?_
    refine pu 11 (.pointer (some ⟨ga, 3, none⟩)) hS rfl ?_
    refine lb 12 (.int .i64 km) hS y yo (by simp [Ne.symm hxa]) rfl ?_
    refine al 13 (.slice (some ⟨w1.heap.size, 0, none⟩) (1) (1)) (w1.drew.alloc (.cells #[.int .i64 km] 2)) (by kernel_rfl) rfl (hS.alloc hH _) ?_
    refine co 14 70 33 #[.slice XA0 xk.length xc0, .int .i64 (i : Int), .slice (some ⟨w1.heap.size, 0, none⟩) 1 1] (InsI.fresh (.slice XA0 xk.length xc0) (Nd.row LS (⟨xk, xv, xc⟩ : Nd ByteArray) 0) i (.int .i64 km) w1.drew vx.r0.row (by simp only [Nd.row, List.length_map]; omega) (by rfl) (row_oneS 0 _) (by simp only [Nd.row, List.length_map]; omega)) (by kernel_rfl) rfl ?_
    rintro e w2 ⟨A', n', c', rfl, hop⟩
    have hS2 := hS.grown hH hop.grow (fun g hg => .inl (vx.r0.mine g hg))
    refine ⟨_, rfl, hS2, ?_⟩
    have q1 := (World.cell?_of_block (a := ⟨x, 0, none⟩) (hS2.1 x _ vx.mine (by simp))).trans vx.k0
    have q2 := (World.frozen?_of_block (a := ⟨x, 0, none⟩) (hS2.1 x _ vx.mine (by simp))).trans (vx.free 0)
    refine pu 15 (.pointer (some ⟨x, 0, none⟩)) hS2 rfl ?_
    refine pu 16 (.pointer (some ⟨x, 0, none⟩)) hS2 rfl ?_
    refine st 17 (w2.setCell ⟨x, 0, none⟩ (.slice A' n' c')) (by kernel_rfl) rfl ?_
    refine doneL (by kernel_rfl) ?_ _
    go_wp2_with fail
    go_meet
    exact hH.step (⟨xk.take i ++ km :: xk.drop i, xv, xc⟩ : Nd ByteArray) hx 0 (by decide) vx.k0 hop.of_drew (by simp [Nd.row, List.map_take, List.map_drop, LS]) (by intro j hj hne; rcases j with _ | _ | _ | j <;> first | rfl | omega)
  case rest =>
  obtain ⟨w2, hwc⟩ : ∃ W, W = wc := ⟨_, rfl⟩
  subst hwc
  obtain ⟨own2, H2, hH2, hF2, hn2, ho2⟩ := hcut
  obtain ⟨hH, hF, hx, ha, hb, hO⟩ := S0.out
  obtain ⟨hxa, hxb, hab⟩ := NE.out
  have T := Aside0.mk (And.intro hH2 (And.intro (hF.trans hF2) (And.intro (hn2) (And.intro ((ho2 a (Ne.symm hxa)).trans ha) (And.intro ((ho2 b (Ne.symm hxb)).trans hb) (fun k qx qa qb => (ho2 k qx).trans (hO k qx qa qb)))))))
  clear S0 hH2 hF2 hn2 ho2 hH hF hx ha hb hO hxa hxb hab
  have S0 := T
  clear T
  go_wp2_with fail
  go_cut [] (fun w3 => Step LS own2 H2 w2 x (⟨xk.take i ++ km :: xk.drop i, xv.take i ++ vm :: xv.drop i, xc⟩ : Nd ByteArray) w3)
  case first =>
    obtain ⟨hH, _, hx, ha, hb, _⟩ := S0.out
    obtain ⟨hxa, hxb, hab⟩ := NE.out
    have lk : i ≤ xk.length := by have := HL.out; omega
    have lv : i ≤ xv.length := by have := HL.out; omega
    have lc : i < xc.length := by have := HL.out; omega
    have lm : (3 : Int) < (ak.length : Int) := by have := HL.out; omega
    have lm' : (3 : Int) < (av.length : Int) := by have := HL.out; omega
    obtain ⟨XA0, xc0, XA1, xc1, XA2, xc2, vx⟩ := hH.view hx
    obtain ⟨AA0, ac0, AA1, ac1, AA2, ac2, va⟩ := hH.view ha
    obtain ⟨ga, rfl, y, yo, yf, yl⟩ := va.r1.get (j := 3) (u := .string vm) (by simp [Nd.row, LS, HK.out.2]) (by simp [Nd.row])
    refine startL (Sees own2 (x, 1) w2) [17] (by kernel_rfl) ?_
    change WalkL _ _ _ _ _ _ 18 #[false, false, false, false, false, false, false, false, false, false, false, false, false, false, false, false, false, false] _ _
    have hS : Sees own2 (x, 1) w2 w2.drew := Sees.refl _ _ _
    refine pu 0 (.pointer (some ⟨x, 0, none⟩)) hS rfl ?_
    refine pu 1 (.pointer (some ⟨x, 0, none⟩)) hS rfl ?_
    refine pu 2 (.pointer (some ⟨x, 0, none⟩)) hS rfl ?_
    refine pu 3 (.pointer (some ⟨x, 1, none⟩)) hS rfl ?_
    refine lb 4 (.slice (XA1) (xv.length) (xc1)) hS vx.k1 vx.mine (by simp) rfl ?_
    refine pu 5 (.int .i64 ((i : Int))) hS rfl ?_
    refine pu 6 (.pointer (some ⟨a, 0, none⟩)) hS rfl ?_
    refine pu 7 (.pointer (some ⟨a, 0, none⟩)) hS rfl ?_
    refine pu 8 (.pointer (some ⟨a, 1, none⟩)) hS rfl ?_
    refine lb 9 (.slice (some ⟨ga, 0, none⟩) (av.length) (ac1)) hS va.k1 va.mine (by simp) rfl ?_
    refine pu 10 (.int .i64 (3)) hS rfl ?_
    refine pu 11 (.pointer (some ⟨ga, 3, none⟩)) hS rfl ?_
    refine lb 12 (.string vm) hS y yo (by simp [Ne.symm hxa]) rfl ?_
    refine al 13 (.slice (some ⟨w2.heap.size, 0, none⟩) (1) (1)) (w2.drew.alloc (.cells #[.string vm] 9)) (by kernel_rfl) rfl (hS.alloc hH _) ?_
    refine co 14 87 44 #[.slice XA1 xv.length xc1, .int .i64 (i : Int), .slice (some ⟨w2.heap.size, 0, none⟩) 1 1] (InsS.fresh (.slice XA1 xv.length xc1) (Nd.row LS (⟨xk.take i ++ km :: xk.drop i, xv, xc⟩ : Nd ByteArray) 1) i (.string vm) w2.drew vx.r1.row (by simp only [Nd.row, List.length_map]; omega) (by rfl) (row_oneS 1 _) (by simp only [Nd.row, List.length_map]; omega)) (by kernel_rfl) rfl ?_
    rintro e w2 ⟨A', n', c', rfl, hop⟩
    have hS2 := hS.grown hH hop.grow (fun g hg => .inl (vx.r1.mine g hg))
    refine ⟨_, rfl, hS2, ?_⟩
    have q1 := (World.cell?_of_block (a := ⟨x, 1, none⟩) (hS2.1 x _ vx.mine (by simp))).trans vx.k1
    have q2 := (World.frozen?_of_block (a := ⟨x, 1, none⟩) (hS2.1 x _ vx.mine (by simp))).trans (vx.free 1)
    refine pu 15 (.pointer (some ⟨x, 0, none⟩)) hS2 rfl ?_
    refine pu 16 (.pointer (some ⟨x, 1, none⟩)) hS2 rfl ?_
    refine st 17 (w2.setCell ⟨x, 1, none⟩ (.slice A' n' c')) (by kernel_rfl) rfl ?_
    refine doneL (by kernel_rfl) ?_ _
    go_wp2_with fail
    go_meet
    exact hH.step (⟨xk.take i ++ km :: xk.drop i, xv.take i ++ vm :: xv.drop i, xc⟩ : Nd ByteArray) hx 1 (by decide) vx.k1 hop.of_drew (by simp [Nd.row, List.map_take, List.map_drop, LS]) (by intro j hj hne; rcases j with _ | _ | _ | j <;> first | rfl | omega)
  case rest =>
  obtain ⟨w3, hwc⟩ : ∃ W, W = wc := ⟨_, rfl⟩
  subst hwc
  obtain ⟨own3, H3, hH3, hF3, hn3, ho3⟩ := hcut
  obtain ⟨hH, hF, hx, ha, hb, hO⟩ := S0.out
  obtain ⟨hxa, hxb, hab⟩ := NE.out
  have T := Aside0.mk (And.intro hH3 (And.intro (hF.trans hF3) (And.intro (hn3) (And.intro ((ho3 a (Ne.symm hxa)).trans ha) (And.intro ((ho3 b (Ne.symm hxb)).trans hb) (fun k qx qa qb => (ho3 k qx).trans (hO k qx qa qb)))))))
  clear S0 hH3 hF3 hn3 ho3 hH hF hx ha hb hO hxa hxb hab
  have S0 := T
  clear T
  go_upto_region 8 with (fail)
  go_cut [] (fun w4 => Step LS own3 H3 w3 x (⟨xk.take i ++ km :: xk.drop i, xv.take i ++ vm :: xv.drop i, xc.take (i + 1) ++ b :: xc.drop (i + 1)⟩ : Nd ByteArray) w4)
  case first =>
    obtain ⟨hH, _, hx, ha, hb, _⟩ := S0.out
    obtain ⟨hxa, hxb, hab⟩ := NE.out
    have lk : i ≤ xk.length := by have := HL.out; omega
    have lv : i ≤ xv.length := by have := HL.out; omega
    have lc : i < xc.length := by have := HL.out; omega
    have lm : (3 : Int) < (ak.length : Int) := by have := HL.out; omega
    have lm' : (3 : Int) < (av.length : Int) := by have := HL.out; omega
    obtain ⟨XA0, xc0, XA1, xc1, XA2, xc2, vx⟩ := hH.view hx
    have lc2 : xc.length ≤ 50 := by have := HL.out; omega
    have p2 := vx.k2
    have f2 := vx.free 2
    have HI := Aside0.mk (InsQ.fresh (.slice XA2 xc.length xc2) (Nd.row LS (⟨xk.take i ++ km :: xk.drop i, xv.take i ++ vm :: xv.drop i, xc⟩ : Nd ByteArray) 2) (i + 1) (.pointer (some ⟨b, 0, none⟩)) w3 vx.r2.row (by simp only [Nd.row, List.length_map]; omega) (by rfl) (row_oneS 2 _) (by simp only [Nd.row, List.length_map]; omega))
    go_wp2_with (go_at_call 66; refine HI.out.mono ?_; rintro e w2 ⟨A', n', c', rfl, hop⟩; have q1 := hop.grow.cell p2 (fun e => by have := vx.r2.mine x e.symm; rw [vx.mine] at this; simp at this); have q2 := (hop.grow.frozen_far ⟨x, 2, none⟩ vx.lt (fun e => by have := vx.r2.mine x e.symm; rw [vx.mine] at this; simp at this)).trans f2; have HOP := Aside0.mk hop; clear hop)
    go_meet
    exact hH.step (⟨xk.take i ++ km :: xk.drop i, xv.take i ++ vm :: xv.drop i, xc.take (i + 1) ++ b :: xc.drop (i + 1)⟩ : Nd ByteArray) hx 2 (by decide) vx.k2 HOP.out (by simp [Nd.row, List.map_take, List.map_drop, ptrV]) (by intro j hj hne; rcases j with _ | _ | _ | j <;> first | rfl | omega)
  case rest =>
  obtain ⟨w4, hwc⟩ : ∃ W, W = wc := ⟨_, rfl⟩
  subst hwc
  obtain ⟨own4, H4, hH4, hF4, hn4, ho4⟩ := hcut
  obtain ⟨hH, hF, hx, ha, hb, hO⟩ := S0.out
  obtain ⟨hxa, hxb, hab⟩ := NE.out
  have T := Aside0.mk (And.intro hH4 (And.intro (hF.trans hF4) (And.intro (hn4) (And.intro ((ho4 a (Ne.symm hxa)).trans ha) (And.intro ((ho4 b (Ne.symm hxb)).trans hb) (fun k qx qa qb => (ho4 k qx).trans (hO k qx qa qb)))))))
  clear S0 hH4 hF4 hn4 ho4 hH hF hx ha hb hO hxa hxb hab
  have S0 := T
  clear T
  go_wp2_with fail
  obtain ⟨hH, _, hx, ha, hb, _⟩ := S0.out
  obtain ⟨hxa, hxb, hab⟩ := NE.out
  have lk0 : (3 : Int) < (ak.length : Int) := by have := HL.out; omega
  have lk1 : (3 : Int) < (av.length : Int) := by have := HL.out; omega
  obtain ⟨AA0, ac0, AA1, ac1, AA2, ac2, va⟩ := hH.view ha
  obtain ⟨g0, rfl, _, _, _, _⟩ := va.r0.get (j := 3) (u := (Nd.row LS (⟨ak, av, ac.take 4⟩ : Nd ByteArray) 0)[3]'(by simp only [Nd.row, List.length_map]; omega)) (List.getElem?_eq_getElem _) (by simp only [Nd.row, List.length_map])
  obtain ⟨g1, rfl, _, _, _, _⟩ := va.r1.get (j := 3) (u := (Nd.row LS (⟨ak, av, ac.take 4⟩ : Nd ByteArray) 1)[3]'(by simp only [Nd.row, List.length_map]; omega)) (List.getElem?_eq_getElem _) (by simp only [Nd.row, List.length_map])
  have mc0 : (3 : Int) ≤ (ac0 : Int) := by have := va.l0; simp only at this; omega
  have mc1 : (3 : Int) ≤ (ac1 : Int) := by have := va.l1; simp only at this; omega
  have p0 := va.k0
  have p1 := va.k1
  have f0 := va.free 0
  have f1 := va.free 1
  refine startL (Sees own4 (0, 9) w4) [16, 19] (by kernel_rfl) ?_
  change WalkL _ _ _ _ _ _ 20 #[false, false, false, false, false, false, false, false, false, false, false, false, false, false, false, false, false, false, false, false] _ _
  have hS : Sees own4 (0, 9) w4 w4.drew := Sees.refl _ _ _
  refine pu 0 (.pointer (some ⟨a, 0, none⟩)) hS rfl ?_
  refine pu 1 (.pointer (some ⟨a, 0, none⟩)) hS rfl ?_
  refine pu 2 (.pointer (some ⟨a, 0, none⟩)) hS rfl ?_
  refine pu 3 (.pointer (some ⟨a, 0, none⟩)) hS rfl ?_
  refine pu 4 (.pointer (some ⟨a, 0, none⟩)) hS rfl ?_
  refine lb 5 (.slice (some ⟨g0, 0, none⟩) ((ak).length) (ac0)) hS va.k0 va.mine (by simp) rfl ?_
  refine pu 6 (.int .i64 (3)) hS rfl ?_
  refine pu 7 (.slice (some ⟨g0, 0, none⟩) (3) (ac0)) hS rfl ?_
  refine pu 8 (.pointer (some ⟨a, 0, none⟩)) hS rfl ?_
  refine pu 9 (.pointer (some ⟨a, 0, none⟩)) hS rfl ?_
  refine pu 10 (.pointer (some ⟨a, 1, none⟩)) hS rfl ?_
  refine lb 11 (.slice (some ⟨g1, 0, none⟩) ((av).length) (ac1)) hS va.k1 va.mine (by simp) rfl ?_
  refine pu 12 (.int .i64 (3)) hS rfl ?_
  refine pu 13 (.slice (some ⟨g1, 0, none⟩) (3) (ac1)) hS rfl ?_
  refine pu 14 (.pointer (some ⟨a, 0, none⟩)) hS rfl ?_
  refine pu 15 (.pointer (some ⟨a, 0, none⟩)) hS rfl ?_
  refine st 16 (w4.drew.setCell ⟨a, 0, none⟩ (.slice (some ⟨g0, 0, none⟩) (3) ac0)) (by kernel_rfl) rfl ?_
  refine pv 17 (.pointer (some ⟨a, 0, none⟩)) rfl ?_
  refine pv 18 (.pointer (some ⟨a, 1, none⟩)) rfl ?_
  have u1 : (w4.drew.setCell ⟨a, 0, none⟩ (.slice (some ⟨g0, 0, none⟩) (3) ac0)).cell? ⟨a, 1, none⟩ = _ := (cell_off _ _ _ _ _ (by decide)).trans p1
  have u2 : (w4.drew.setCell ⟨a, 0, none⟩ (.slice (some ⟨g0, 0, none⟩) (3) ac0)).frozen? ⟨a, 1, none⟩ = false := (frozen_set1 _ _ _ _ _).trans f1
  refine st 19 ((w4.drew.setCell ⟨a, 0, none⟩ (.slice (some ⟨g0, 0, none⟩) (3) ac0)).setCell ⟨a, 1, none⟩ (.slice (some ⟨g1, 0, none⟩) (3) ac1)) (by kernel_rfl) rfl ?_
  refine doneL (by kernel_rfl) ?_ _
  have hcut : Step LS own4 H4 w4 a (⟨(ak).take 3, (av).take 3, ac.take 4⟩ : Nd ByteArray) ((w4.drew.setCell ⟨a, 0, none⟩ (.slice (some ⟨g0, 0, none⟩) (3) ac0)).setCell ⟨a, 1, none⟩ (.slice (some ⟨g1, 0, none⟩) (3) ac1)) := by
    refine Step.then (n1 := (⟨(ak).take 3, av, ac.take 4⟩ : Nd ByteArray)) (Step.of_drew ((hH.drewN 1).step (⟨(ak).take 3, av, ac.take 4⟩ : Nd ByteArray) ha 0 (by decide) va.k0 (rowCut va.r0.row (by simp [Nd.row]) (k := 3) (by simp only [Nd.row, List.length_map]; omega)) (by simp [Nd.row, List.map_take]) (by intro j hj hne; rcases j with _ | _ | _ | j <;> first | rfl | omega))) fun own1 H1 h1 hn1 => ?_
    obtain ⟨_, _, _, _, _, _, v4⟩ := h1.view hn1
    have e4 := v4.k1.symm.trans ((cell_off _ _ _ _ _ (by decide)).trans p1)
    injection e4 with e4
    have r4 := v4.r1.row
    rw [e4] at r4
    exact h1.step (⟨(ak).take 3, (av).take 3, ac.take 4⟩ : Nd ByteArray) hn1 1 (by decide) ((cell_off _ _ _ _ _ (by decide)).trans p1) (rowCut r4 (by simp [Nd.row]) (k := 3) (by simp only [Nd.row, List.length_map]; omega)) (by simp [Nd.row, List.map_take]) (by intro j hj hne; rcases j with _ | _ | _ | j <;> first | rfl | omega)
  generalize ((w4.drew.setCell ⟨a, 0, none⟩ (.slice (some ⟨g0, 0, none⟩) (3) ac0)).setCell ⟨a, 1, none⟩ (.slice (some ⟨g1, 0, none⟩) (3) ac1)) = wc at hcut ⊢
  obtain ⟨w5, hwc⟩ : ∃ W, W = wc := ⟨_, rfl⟩
  subst hwc
  obtain ⟨own5, H5, hH5, hF5, hn5, ho5⟩ := hcut
  obtain ⟨hH, hF, hx, ha, hb, hO⟩ := S0.out
  obtain ⟨hxa, hxb, hab⟩ := NE.out
  have T := Aside0.mk (And.intro hH5 (And.intro (hF.trans hF5) (And.intro ((ho5 x hxa).trans hx) (And.intro (hn5) (And.intro ((ho5 b (Ne.symm hab)).trans hb) (fun k qx qa qb => (ho5 k qa).trans (hO k qx qa qb)))))))
  clear S0 hH5 hF5 hn5 ho5 hH hF hx ha hb hO hxa hxb hab
  have S0 := T
  clear T
  refine bodyPost_end (v := .tuple #[]) (by simp [results, Try.results43, go_sem]) (by rfl) ?_
  obtain ⟨hH, hF, hx, ha, hb, hO⟩ := S0.out
  obtain ⟨⟨rfl, rfl⟩, rfl, rfl⟩ := HE.out
  exact ⟨b, _, _, rfl, hH, hF, HBN.out, hx, ha, hb, hO⟩
end Go.Proofs.Ytkfcflflgecljaa.H
