/- right of a bag's node over string: what it leaves. -/
import Derived.Test.YtkfcflflgecljaaHBagKS
import Derived.Test.YtkfcflflgecljaaHBagLeftS
import Derived.Deep.DeepCutAuto
import Derived.Deep.CutBlock
import Derived.Deep.QuietTactic
import Derived.BigQuiet
set_option linter.unusedVariables false
set_option linter.unusedSimpArgs false
namespace Go.Proofs.Ytkfcflflgecljaa.H
open Go.RowKit Go.Proofs.YtkfcflflgecljaaW.PrintWords Go.Proofs.YtkfcflflgecljaaW.PrintLast
set_option maxRecDepth 100000
set_option maxHeartbeats 16000000 in
theorem rightS.calls {own : Own} {H : HP ByteArray} (x a b i : Nat) (xk : List Int) (xv : List ByteArray) (xc : List Nat) (ak : List Int) (av : List ByteArray) (ac : List Nat) (bk : List Int) (bv : List ByteArray) (bc : List Nat) (w : World)
    (hH : Heap LS w own H) (hx : H x = some ⟨xk, xv, xc⟩) (ha : H a = some ⟨ak, av, ac⟩) (hb : H b = some ⟨bk, bv, bc⟩) (hxa : x ≠ a) (hxb : x ≠ b) (hab : a ≠ b)
    (hca : xc[i]? = some a) (hcb : xc[i + 1]? = some b) (ki : Int) (vi : ByteArray) (km : Int) (vm : ByteArray) (hki : xk[i]? = some ki) (hvi : xv[i]? = some vi) (hkm : bk[0]? = some km) (hvm : bv[0]? = some vm)
    (h1 : xc.length ≤ 50) (h2 : xk.length ≤ 50) (h3 : xv.length ≤ 50) (h5 : ak.length ≤ 50) (h6 : av.length ≤ 50) (h7 : ac.length ≤ 50) (h9 : bk.length ≤ 50) (h10 : bv.length ≤ 50) (h11 : bc.length ≤ 50) :
    Calls Try.prog 86 #[.pointer (some ⟨x, 0, none⟩), .int .i64 (i : Int)] w
      (LeftPostS own H w x a b ⟨xk.set i km, xv.set i vm, xc⟩ ⟨ak ++ [ki], av ++ [vi], if bc = [] then ac else ac ++ [bc.headD 0]⟩ ⟨bk.drop 1, bv.drop 1, bc.drop 1⟩) := by
  obtain ⟨XA0, xc0, XA1, xc1, XA2, xc2, vx⟩ := hH.view hx
  obtain ⟨g2, rfl, y1, y2, _, _⟩ := vx.r2.get (j := i) (u := ptrV a) (by simp [Nd.row, hca]) (by simp [Nd.row])
  obtain ⟨g2', e2, y3, _, _, _⟩ := vx.r2.get (j := i + 1) (u := ptrV b) (by simp [Nd.row, hcb]) (by simp [Nd.row])
  obtain rfl := addr_inj e2
  clear e2
  have k2 : w.cell? ⟨x, 2, none⟩ = some (.slice (some ⟨g2, 0, none⟩) xc.length xc2) := vx.k2
  have q1 : w.cell? ⟨g2, i, none⟩ = some (.pointer (some ⟨a, 0, none⟩)) := y1
  have q2 : w.cell? ⟨g2, i + 1, none⟩ = some (.pointer (some ⟨b, 0, none⟩)) := y3
  have hic : i + 1 < xc.length := (List.getElem?_eq_some_iff.1 hcb).1
  have hik : i < xk.length := (List.getElem?_eq_some_iff.1 hki).1
  have hiv : i < xv.length := (List.getElem?_eq_some_iff.1 hvi).1
  have hbk : 0 < bk.length := (List.getElem?_eq_some_iff.1 hkm).1
  have hbv : 0 < bv.length := (List.getElem?_eq_some_iff.1 hvm).1
  generalize hn2 : xc.length = n2 at k2 hic h1
  have e5 : IntKind.i64.wrap ((i : Int) + 1) = (i : Int) + 1 := by rw [IntKind.wrap_i64]; omega
  have i0 : (0 : Int) ≤ (i : Int) := by omega
  have i1 : (i : Int) < (n2 : Int) := by omega
  have i2 : (i : Int) + 1 < (n2 : Int) := by omega
  have i3 : (0 : Int) ≤ (i : Int) + 1 := by omega
  have i4 : ((i : Int) + 1).toNat = i + 1 := by omega
  have HH := Aside0.mk hH
  have HX := Aside0.mk hx
  have HA := Aside0.mk ha
  have HB := Aside0.mk hb
  have HK := Aside0.mk (And.intro (And.intro hki hvi) (And.intro hkm hvm))
  have HL := Aside0.mk (And.intro hik (And.intro hiv (And.intro hbk hbv)))
  have NE := Aside0.mk (And.intro hxa (And.intro hxb hab))
  generalize hxn : (⟨xk.set i km, xv.set i vm, xc⟩ : Nd ByteArray) = xn
  generalize han : (⟨ak ++ [ki], av ++ [vi], if bc = [] then ac else ac ++ [bc.headD 0]⟩ : Nd ByteArray) = an
  generalize hbn : (⟨bk.drop 1, bv.drop 1, bc.drop 1⟩ : Nd ByteArray) = bn
  have HE := Aside0.mk (And.intro hxn (And.intro han hbn))
  clear hxn han hbn hH hx ha hb vx y1 y2 y3 hca hcb hki hvi hkm hvm hn2 hxa hxb hab hik hiv hbk hbv
  go_enter Try.func86, Try.ntmps86
  go_wp2_with fail
  go_quiet (fail)
  go_wp2_with fail
  have hH0 := HH.out.drewN nq
  have hF0 : Fr own own w (w.drewN nq) := Fr.drewN own w nq
  clear k2 q1 q2
  have S0 := Aside0.mk (And.intro hH0 (And.intro hF0 (And.intro HX.out (And.intro HA.out (And.intro HB.out (fun k (_ : k ≠ x) (_ : k ≠ a) (_ : k ≠ b) => (rfl : H k = H k)))))))
  clear hH0 hF0 HH HX HA HB
  generalize w.drewN nq = w0 at S0 ⊢

  go_cut [] (fun w1 => Step LS own H w0 a (⟨ak ++ [ki], av, ac⟩ : Nd ByteArray) w1)
  case first =>
    obtain ⟨hH, _, hx, ha, hb, _⟩ := S0.out
    obtain ⟨hxa, hxb, hab⟩ := NE.out
    have lk : (i : Int) < (xk.length : Int) := by have := HL.out; omega
    have lv : (i : Int) < (xv.length : Int) := by have := HL.out; omega
    obtain ⟨AA0, ac0, AA1, ac1, AA2, ac2, va⟩ := hH.view ha
    obtain ⟨XA0, xc0, XA1, xc1, XA2, xc2, vx⟩ := hH.view hx
    obtain ⟨gx, rfl, y, yo, yf, yl⟩ := vx.r0.get (j := i) (u := .int .i64 ki) (by simp [Nd.row, LS, HK.out.1.1]) (by simp [Nd.row])
    refine startL (Sees own (a, 0) w0) [16] (by kernel_rfl) ?_
    change WalkL _ _ _ _ _ _ 17 #[false, false, false, false, false, false, false, false, false, false, false, false, false, false, false, false, false] _ _
    have hS : Sees own (a, 0) w0 w0.drew := Sees.refl _ _ _
    refine pu 0 (.pointer (some ⟨a, 0, none⟩)) hS rfl ?_
    refine pu 1 (.pointer (some ⟨a, 0, none⟩)) hS rfl ?_
    refine pu 2 (.pointer (some ⟨a, 0, none⟩)) hS rfl ?_
    refine pu 3 (.pointer (some ⟨a, 0, none⟩)) hS rfl ?_
    refine lb 4 (.slice (AA0) (ak.length) (ac0)) hS va.k0 va.mine (by simp) rfl ?_
    refine pu 5 (.pointer (some ⟨x, 0, none⟩)) hS rfl ?_
    refine pu 6 (.pointer (some ⟨x, 0, none⟩)) hS rfl ?_
    refine pu 7 (.pointer (some ⟨x, 0, none⟩)) hS rfl ?_
    refine lb 8 (.slice (some ⟨gx, 0, none⟩) (xk.length) (xc0)) hS vx.k0 vx.mine (by simp) rfl ?_
    refine pu 9 (.int .i64 ((i : Int))) hS rfl ?_
    refine pu 10 (.pointer (some ⟨gx, i, none⟩)) hS rfl ?_
    refine lb 11 (.int .i64 ki) hS y yo (by simp [hxa]) rfl ?_
    refine al 12 (.slice (some ⟨w0.heap.size, 0, none⟩) 1 1) (w0.drew.alloc (.cells #[.int .i64 ki] 2)) (by kernel_rfl) rfl (hS.alloc hH _) ?_
    obtain ⟨A1', n1', c1', W1, hr1, hop1⟩ := AppI.fresh (.slice AA0 (ak).length ac0) (Nd.row LS (⟨ak, av, ac⟩ : Nd ByteArray) 0) (.int .i64 ki) w0.drew va.r0.row (by rfl) (by simp only [Nd.row, List.length_map]; omega)
    have hm1 : ∀ g, (Value.slice A1' n1' c1').ownBlock = some g → own g = some (a, 0) ∨ w0.heap.size ≤ g := fun g hg => by
      rcases hop1.blk with e | e
      · rw [e] at hg; exact .inl (va.r0.mine g hg)
      · exact .inr (Nat.le_trans hS.2 (e g hg))
    have hS2 := hS.grown hH hop1.grow (fun g hg => .inl (va.r0.mine g hg))
    refine vl 13 (.slice A1' n1' c1') hr1 (by kernel_rfl) rfl hS2 ?_
    have hop := hop1
    refine pu 14 (.pointer (some ⟨a, 0, none⟩)) hS2 rfl ?_
    refine pu 15 (.pointer (some ⟨a, 0, none⟩)) hS2 rfl ?_
    have q1 := (World.cell?_of_block (a := ⟨a, 0, none⟩) (hS2.1 a _ va.mine (by simp))).trans va.k0
    have q2 := (World.frozen?_of_block (a := ⟨a, 0, none⟩) (hS2.1 a _ va.mine (by simp))).trans (va.free 0)
    refine st 16 (W1.setCell ⟨a, 0, none⟩ (.slice A1' n1' c1')) (by kernel_rfl) rfl ?_
    refine doneL (by kernel_rfl) ?_ _
    go_wp2_with fail
    go_meet
    exact hH.step (⟨ak ++ [ki], av, ac⟩ : Nd ByteArray) ha 0 (by decide) va.k0 hop.of_drew (by simp [Nd.row, LS]) (by intro j hj hne; rcases j with _ | _ | _ | j <;> first | rfl | omega)
  case rest =>
  obtain ⟨w1, hwc⟩ : ∃ W, W = wc := ⟨_, rfl⟩
  subst hwc
  obtain ⟨own1, H1, hH1, hF1, hn1, ho1⟩ := hcut
  obtain ⟨hH, hF, hx, ha, hb, hO⟩ := S0.out
  obtain ⟨hxa, hxb, hab⟩ := NE.out
  have T := Aside0.mk (And.intro hH1 (And.intro (hF.trans hF1) (And.intro ((ho1 x hxa).trans hx) (And.intro (hn1) (And.intro ((ho1 b (Ne.symm hab)).trans hb) (fun k qx qa qb => (ho1 k qa).trans (hO k qx qa qb)))))))
  clear S0 hH1 hF1 hn1 ho1 hH hF hx ha hb hO hxa hxb hab
  have S0 := T
  clear T
  go_wp2_with fail
  go_cut [] (fun w2 => Step LS own1 H1 w1 a (⟨ak ++ [ki], av ++ [vi], ac⟩ : Nd ByteArray) w2)
  case first =>
    obtain ⟨hH, _, hx, ha, hb, _⟩ := S0.out
    obtain ⟨hxa, hxb, hab⟩ := NE.out
    have lk : (i : Int) < (xk.length : Int) := by have := HL.out; omega
    have lv : (i : Int) < (xv.length : Int) := by have := HL.out; omega
    obtain ⟨AA0, ac0, AA1, ac1, AA2, ac2, va⟩ := hH.view ha
    obtain ⟨XA0, xc0, XA1, xc1, XA2, xc2, vx⟩ := hH.view hx
    obtain ⟨gx, rfl, y, yo, yf, yl⟩ := vx.r1.get (j := i) (u := .string vi) (by simp [Nd.row, LS, HK.out.1.2]) (by simp [Nd.row])
    refine startL (Sees own1 (a, 1) w1) [16] (by kernel_rfl) ?_
    change WalkL _ _ _ _ _ _ 17 #[false, false, false, false, false, false, false, false, false, false, false, false, false, false, false, false, false] _ _
    have hS : Sees own1 (a, 1) w1 w1.drew := Sees.refl _ _ _
    refine pu 0 (.pointer (some ⟨a, 0, none⟩)) hS rfl ?_
    refine pu 1 (.pointer (some ⟨a, 0, none⟩)) hS rfl ?_
    refine pu 2 (.pointer (some ⟨a, 0, none⟩)) hS rfl ?_
    refine pu 3 (.pointer (some ⟨a, 1, none⟩)) hS rfl ?_
    refine lb 4 (.slice (AA1) (av.length) (ac1)) hS va.k1 va.mine (by simp) rfl ?_
    refine pu 5 (.pointer (some ⟨x, 0, none⟩)) hS rfl ?_
    refine pu 6 (.pointer (some ⟨x, 0, none⟩)) hS rfl ?_
    refine pu 7 (.pointer (some ⟨x, 1, none⟩)) hS rfl ?_
    refine lb 8 (.slice (some ⟨gx, 0, none⟩) (xv.length) (xc1)) hS vx.k1 vx.mine (by simp) rfl ?_
    refine pu 9 (.int .i64 ((i : Int))) hS rfl ?_
    refine pu 10 (.pointer (some ⟨gx, i, none⟩)) hS rfl ?_
    refine lb 11 (.string vi) hS y yo (by simp [hxa]) rfl ?_
    refine al 12 (.slice (some ⟨w1.heap.size, 0, none⟩) 1 1) (w1.drew.alloc (.cells #[.string vi] 9)) (by kernel_rfl) rfl (hS.alloc hH _) ?_
    obtain ⟨A1', n1', c1', W1, hr1, hop1⟩ := AppS.fresh (.slice AA1 (av).length ac1) (Nd.row LS (⟨ak ++ [ki], av, ac⟩ : Nd ByteArray) 1) (.string vi) w1.drew va.r1.row (by rfl) (by simp only [Nd.row, List.length_map]; omega)
    have hm1 : ∀ g, (Value.slice A1' n1' c1').ownBlock = some g → own1 g = some (a, 1) ∨ w1.heap.size ≤ g := fun g hg => by
      rcases hop1.blk with e | e
      · rw [e] at hg; exact .inl (va.r1.mine g hg)
      · exact .inr (Nat.le_trans hS.2 (e g hg))
    have hS2 := hS.grown hH hop1.grow (fun g hg => .inl (va.r1.mine g hg))
    refine vl 13 (.slice A1' n1' c1') hr1 (by kernel_rfl) rfl hS2 ?_
    have hop := hop1
    refine pu 14 (.pointer (some ⟨a, 0, none⟩)) hS2 rfl ?_
    refine pu 15 (.pointer (some ⟨a, 1, none⟩)) hS2 rfl ?_
    have q1 := (World.cell?_of_block (a := ⟨a, 1, none⟩) (hS2.1 a _ va.mine (by simp))).trans va.k1
    have q2 := (World.frozen?_of_block (a := ⟨a, 1, none⟩) (hS2.1 a _ va.mine (by simp))).trans (va.free 1)
    refine st 16 (W1.setCell ⟨a, 1, none⟩ (.slice A1' n1' c1')) (by kernel_rfl) rfl ?_
    refine doneL (by kernel_rfl) ?_ _
    go_wp2_with fail
    go_meet
    exact hH.step (⟨ak ++ [ki], av ++ [vi], ac⟩ : Nd ByteArray) ha 1 (by decide) va.k1 hop.of_drew (by simp [Nd.row, LS]) (by intro j hj hne; rcases j with _ | _ | _ | j <;> first | rfl | omega)
  case rest =>
  obtain ⟨w2, hwc⟩ : ∃ W, W = wc := ⟨_, rfl⟩
  subst hwc
  obtain ⟨own2, H2, hH2, hF2, hn2, ho2⟩ := hcut
  obtain ⟨hH, hF, hx, ha, hb, hO⟩ := S0.out
  obtain ⟨hxa, hxb, hab⟩ := NE.out
  have T := Aside0.mk (And.intro hH2 (And.intro (hF.trans hF2) (And.intro ((ho2 x hxa).trans hx) (And.intro (hn2) (And.intro ((ho2 b (Ne.symm hab)).trans hb) (fun k qx qa qb => (ho2 k qa).trans (hO k qx qa qb)))))))
  clear S0 hH2 hF2 hn2 ho2 hH hF hx ha hb hO hxa hxb hab
  have S0 := T
  clear T
  go_wp2_with fail
  go_cut [] (fun w3 => Step LS own2 H2 w2 x (⟨xk.set i km, xv.set i vm, xc⟩ : Nd ByteArray) w3)
  case first =>
    obtain ⟨hH, _, hx, ha, hb, _⟩ := S0.out
    obtain ⟨hxa, hxb, hab⟩ := NE.out
    have lk : (i : Int) < (xk.length : Int) := by have := HL.out; omega
    have lv : (i : Int) < (xv.length : Int) := by have := HL.out; omega
    have lbk : (0 : Int) < (bk.length : Int) := by have := HL.out; omega
    have lbv : (0 : Int) < (bv.length : Int) := by have := HL.out; omega
    have lbk' : 0 < bk.length := by have := HL.out; omega
    have lbv' : 0 < bv.length := by have := HL.out; omega
    obtain ⟨XA0, xc0, XA1, xc1, XA2, xc2, vx⟩ := hH.view hx
    obtain ⟨BA0, bc0, BA1, bc1, BA2, bc2, vb⟩ := hH.view hb
    obtain ⟨gx0, rfl, y0, y0o, y0f, y0l⟩ := vx.r0.get (j := i) (u := .int .i64 ki) (by simp [Nd.row, LS, HK.out.1.1]) (by simp [Nd.row])
    obtain ⟨gs0, rfl, z0, z0o, z0f, z0l⟩ := vb.r0.get (j := 0) (u := .int .i64 km) (by simp [Nd.row, LS, HK.out.2.1]) (by simp [Nd.row])
    obtain ⟨gx1, rfl, y1, y1o, y1f, y1l⟩ := vx.r1.get (j := i) (u := .string vi) (by simp [Nd.row, LS, HK.out.1.2]) (by simp [Nd.row])
    obtain ⟨gs1, rfl, z1, z1o, z1f, z1l⟩ := vb.r1.get (j := 0) (u := .string vm) (by simp [Nd.row, LS, HK.out.2.2]) (by simp [Nd.row])
    have g01 : gx0 ≠ gx1 := fun e => by rw [e, y1o] at y0o; simp at y0o
    have gx : x ≠ gx0 := fun e => by have := vx.mine; rw [e, y0o] at this; simp at this
    refine startL (Sees own2 (0, 9) w2) [23, 25] (by kernel_rfl) ?_
    change WalkL _ _ _ _ _ _ 26 #[false, false, false, false, false, false, false, false, false, false, false, false, false, false, false, false, false, false, false, false, false, false, false, false, false, false] _ _
    have hS : Sees own2 (0, 9) w2 w2.drew := Sees.refl _ _ _
    refine pu 0 (.pointer (some ⟨x, 0, none⟩)) hS rfl ?_
    refine pu 1 (.pointer (some ⟨x, 0, none⟩)) hS rfl ?_
    refine pu 2 (.pointer (some ⟨x, 0, none⟩)) hS rfl ?_
    refine lb 3 (.slice (some ⟨gx0, 0, none⟩) (xk.length) (xc0)) hS vx.k0 vx.mine (by simp) rfl ?_
    refine pu 4 (.int .i64 ((i : Int))) hS rfl ?_
    refine pu 5 (.pointer (some ⟨x, 0, none⟩)) hS rfl ?_
    refine pu 6 (.pointer (some ⟨x, 0, none⟩)) hS rfl ?_
    refine pu 7 (.pointer (some ⟨x, 1, none⟩)) hS rfl ?_
    refine lb 8 (.slice (some ⟨gx1, 0, none⟩) (xv.length) (xc1)) hS vx.k1 vx.mine (by simp) rfl ?_
    refine pu 9 (.int .i64 ((i : Int))) hS rfl ?_
    refine pu 10 (.pointer (some ⟨b, 0, none⟩)) hS rfl ?_
    refine pu 11 (.pointer (some ⟨b, 0, none⟩)) hS rfl ?_
    refine pu 12 (.pointer (some ⟨b, 0, none⟩)) hS rfl ?_
    refine lb 13 (.slice (some ⟨gs0, 0, none⟩) (bk.length) (bc0)) hS vb.k0 vb.mine (by simp) rfl ?_
    refine pu 14 (.pointer (some ⟨gs0, 0, none⟩)) hS rfl ?_
    refine lb 15 (.int .i64 km) hS z0 z0o (by simp) rfl ?_
    refine pu 16 (.pointer (some ⟨b, 0, none⟩)) hS rfl ?_
    refine pu 17 (.pointer (some ⟨b, 0, none⟩)) hS rfl ?_
    refine pu 18 (.pointer (some ⟨b, 1, none⟩)) hS rfl ?_
    refine lb 19 (.slice (some ⟨gs1, 0, none⟩) (bv.length) (bc1)) hS vb.k1 vb.mine (by simp) rfl ?_
    refine pu 20 (.pointer (some ⟨gs1, 0, none⟩)) hS rfl ?_
    refine lb 21 (.string vm) hS z1 z1o (by simp) rfl ?_
    refine pu 22 (.pointer (some ⟨gx0, i, none⟩)) hS rfl ?_
    refine st 23 (w2.drew.setCell ⟨gx0, i, none⟩ (.int .i64 km)) (by kernel_rfl) rfl ?_
    refine pv 24 (.pointer (some ⟨gx1, i, none⟩)) rfl ?_
    have u1 : (w2.drew.setCell ⟨gx0, i, none⟩ (.int .i64 km)).cell? ⟨gx1, i, none⟩ = _ := (cell_farB _ _ _ _ _ (Ne.symm g01)).trans y1
    have u2 : (w2.drew.setCell ⟨gx0, i, none⟩ (.int .i64 km)).frozen? ⟨gx1, i, none⟩ = false := (frozen_set1 _ _ _ _ _).trans y1f
    refine st 25 ((w2.drew.setCell ⟨gx0, i, none⟩ (.int .i64 km)).setCell ⟨gx1, i, none⟩ (.string vm)) (by kernel_rfl) rfl ?_
    refine doneL (by kernel_rfl) ?_ _
    go_wp2_with fail
    go_meet
    refine Step.then (n1 := (⟨xk.set i km, xv, xc⟩ : Nd ByteArray)) (Step.of_drew ((hH.drewN 1).stepCell (u := .int .i64 km) (⟨xk.set i km, xv, xc⟩ : Nd ByteArray) hx 0 (by decide) vx.k0 (show i < xk.length by omega) (by simp [Nd.row, List.map_set]) (by intro j hj hne; rcases j with _ | _ | _ | j <;> first | rfl | omega))) fun own1 H1 h1 hn1 => ?_
    exact h1.stepCell (u := .string vm) (⟨xk.set i km, xv.set i vm, xc⟩ : Nd ByteArray) hn1 1 (by decide) ((cell_farB _ _ _ _ _ gx).trans vx.k1) (show i < xv.length by omega) (by simp [Nd.row, List.map_set, LS]) (by intro j hj hne; rcases j with _ | _ | _ | j <;> first | rfl | omega)
  case rest =>
  obtain ⟨w3, hwc⟩ : ∃ W, W = wc := ⟨_, rfl⟩
  subst hwc
  obtain ⟨own3, H3, hH3, hF3, hn3, ho3⟩ := hcut
  obtain ⟨hH, hF, hx, ha, hb, hO⟩ := S0.out
  obtain ⟨hxa, hxb, hab⟩ := NE.out
  have T := Aside0.mk (And.intro hH3 (And.intro (hF.trans hF3) (And.intro (hn3) (And.intro ((ho3 a (Ne.symm hxa)).trans ha) (And.intro ((ho3 b (Ne.symm hxb)).trans hb) (fun k qx qa qb => (ho3 k qx).trans (hO k qx qa qb)))))))
  clear S0 hH3 hF3 hn3 ho3 hH hF hx ha hb hO hxa hxb hab
  have S0 := T
  clear T
  go_wp2_with fail
  refine (leafS.calls b (⟨bk, bv, bc⟩ : Nd ByteArray) w3 S0.out.1 S0.out.2.2.2.2.1).mono ?_
  rintro e w' ⟨rfl, hw⟩
  obtain rfl := hw.symm
  clear hw
  by_cases hbc : bc = []
  · subst hbc
    simp only [List.isEmpty_nil]
    go_upto_region 7 with (fail)
    go_cut [] (fun w4 => Step LS own3 H3 w3 b (⟨bk.drop 1, bv, []⟩ : Nd ByteArray) w4)
    case first =>
      obtain ⟨hH, _, hx, ha, hb, _⟩ := S0.out
      obtain ⟨hxa, hxb, hab⟩ := NE.out
      have lbk' : 0 < bk.length := by have := HL.out; omega
      have lbv' : 0 < bv.length := by have := HL.out; omega
      obtain ⟨BA0, bc0, BA1, bc1, BA2, bc2, vb⟩ := hH.view hb
      have p2 := vb.k0
      have f2 := vb.free 0
      have HD := Aside0.mk (DelI.calls (.slice BA0 (bk).length bc0) (Nd.row LS (⟨bk, bv, []⟩ : Nd ByteArray) 0) (0) w3 vb.r0.row (by simp only [Nd.row, List.length_map]; omega) (row_oneS 0 _) (by simp only [Nd.row, List.length_map]; omega))
      go_wp2_with (go_at_call 52; refine HD.out.mono ?_; rintro e w2 ⟨A', n', c', rfl, hop⟩; have q1 := hop.grow.cell p2 (fun e => by have := vb.r0.mine b e.symm; rw [vb.mine] at this; simp at this); have q2 := (hop.grow.frozen_far ⟨b, 0, none⟩ vb.lt (fun e => by have := vb.r0.mine b e.symm; rw [vb.mine] at this; simp at this)).trans f2; have HOP := Aside0.mk hop; clear hop)
      go_meet
      exact hH.step (⟨bk.drop 1, bv, []⟩ : Nd ByteArray) hb 0 (by decide) vb.k0 HOP.out (by simp [Nd.row]) (by intro j hj hne; rcases j with _ | _ | _ | j <;> first | rfl | omega)
    case rest =>
    obtain ⟨w4, hwc⟩ : ∃ W, W = wc := ⟨_, rfl⟩
    subst hwc
    obtain ⟨own4, H4, hH4, hF4, hn4, ho4⟩ := hcut
    obtain ⟨hH, hF, hx, ha, hb, hO⟩ := S0.out
    obtain ⟨hxa, hxb, hab⟩ := NE.out
    have T := Aside0.mk (And.intro hH4 (And.intro (hF.trans hF4) (And.intro ((ho4 x hxb).trans hx) (And.intro ((ho4 a hab).trans ha) (And.intro (hn4) (fun k qx qa qb => (ho4 k qb).trans (hO k qx qa qb)))))))
    clear S0 hH4 hF4 hn4 ho4 hH hF hx ha hb hO hxa hxb hab
    have S0 := T
    clear T
    go_upto_region 8 with (fail)
    obtain ⟨hH, _, hx, ha, hb, _⟩ := S0.out
    obtain ⟨hxa, hxb, hab⟩ := NE.out
    have lbk' : 0 < bk.length := by have := HL.out; omega
    have lbv' : 0 < bv.length := by have := HL.out; omega
    obtain ⟨BA0, bc0, BA1, bc1, BA2, bc2, vb⟩ := hH.view hb
    have p2 := vb.k1
    have f2 := vb.free 1
    have HD := Aside0.mk (DelS.calls (.slice BA1 (bv).length bc1) (Nd.row LS (⟨bk.drop 1, bv, []⟩ : Nd ByteArray) 1) (0) w4 vb.r1.row (by simp only [Nd.row, List.length_map]; omega) (row_oneS 1 _) (by simp only [Nd.row, List.length_map]; omega))
    go_wp2_with (go_at_call 69; refine HD.out.mono ?_; rintro e w2 ⟨A', n', c', rfl, hop⟩; have q1 := hop.grow.cell p2 (fun e => by have := vb.r1.mine b e.symm; rw [vb.mine] at this; simp at this); have q2 := (hop.grow.frozen_far ⟨b, 1, none⟩ vb.lt (fun e => by have := vb.r1.mine b e.symm; rw [vb.mine] at this; simp at this)).trans f2; have HOP := Aside0.mk hop; clear hop)
    refine bodyPost_end (v := .tuple #[]) (by simp [results, Try.results86, go_sem]) (by rfl) ?_
    have hcut := hH.step (⟨bk.drop 1, bv.drop 1, []⟩ : Nd ByteArray) hb 1 (by decide) vb.k1 HOP.out (by simp [Nd.row, LS]) (by intro j hj hne; rcases j with _ | _ | _ | j <;> first | rfl | omega)
    generalize w2.setCell ⟨b, 1, none⟩ (.slice A' n' c') = wc at hcut ⊢
    skip
    obtain ⟨w5, hwc⟩ : ∃ W, W = wc := ⟨_, rfl⟩
    subst hwc
    obtain ⟨own5, H5, hH5, hF5, hn5, ho5⟩ := hcut
    obtain ⟨hH, hF, hx, ha, hb, hO⟩ := S0.out
    obtain ⟨hxa, hxb, hab⟩ := NE.out
    have T := Aside0.mk (And.intro hH5 (And.intro (hF.trans hF5) (And.intro ((ho5 x hxb).trans hx) (And.intro ((ho5 a hab).trans ha) (And.intro (hn5) (fun k qx qa qb => (ho5 k qb).trans (hO k qx qa qb)))))))
    clear S0 hH5 hF5 hn5 ho5 hH hF hx ha hb hO hxa hxb hab
    have S0 := T
    clear T
    obtain ⟨hH, hF, hx, ha, hb, hO⟩ := S0.out
    obtain ⟨rfl, rfl, rfl⟩ := HE.out
    exact ⟨_, _, rfl, hH, hF, hx, ha, hb, hO⟩
  · obtain ⟨be, hbe⟩ : ∃ be, bc[0]? = some be := by cases bc with | nil => exact absurd rfl hbc | cons z _ => exact ⟨z, rfl⟩
    have hie : bc.isEmpty = false := by cases bc with | nil => exact absurd rfl hbc | cons _ _ => rfl
    have hhd : bc.headD 0 = be := by cases bc with | nil => exact absurd rfl hbc | cons z _ => simpa using hbe
    have hpos : 0 < bc.length := (List.getElem?_eq_some_iff.1 hbe).1
    rw [hie]
    have HAC := Aside0.mk (And.intro hbc (And.intro hbe (And.intro hpos hhd)))
    clear hbc hbe hie hhd hpos
    go_wp2_with fail
    go_wp2_with fail
    go_cut [] (fun w4 => Step LS own3 H3 w3 a (⟨ak ++ [ki], av ++ [vi], ac ++ [be]⟩ : Nd ByteArray) w4)
    case first =>
      obtain ⟨hH, _, hx, ha, hb, _⟩ := S0.out
      obtain ⟨hxa, hxb, hab⟩ := NE.out
      have lbk : (0 : Int) < (bc.length : Int) := by have := HAC.out.2.2.1; omega
      have lbk' : 0 < bc.length := HAC.out.2.2.1
      have lbn : ¬ bc = [] := HAC.out.1
      obtain ⟨AA0, ac0, AA1, ac1, AA2, ac2, va⟩ := hH.view ha
      obtain ⟨BA0, bc0, BA1, bc1, BA2, bc2, vb⟩ := hH.view hb
      obtain ⟨gb, rfl, y, yo, yf, yl⟩ := vb.r2.get (j := 0) (u := ptrV be) (by simp [Nd.row, LS, HAC.out.2.1]) (by simp [Nd.row])
      refine startL (Sees own3 (a, 2) w3) [15] (by kernel_rfl) ?_
      change WalkL _ _ _ _ _ _ 16 #[false, false, false, false, false, false, false, false, false, false, false, false, false, false, false, false] _ _
      have hS : Sees own3 (a, 2) w3 w3.drew := Sees.refl _ _ _
      refine pu 0 (.pointer (some ⟨a, 0, none⟩)) hS rfl ?_
      refine pu 1 (.pointer (some ⟨a, 0, none⟩)) hS rfl ?_
      refine pu 2 (.pointer (some ⟨a, 0, none⟩)) hS rfl ?_
      refine pu 3 (.pointer (some ⟨a, 2, none⟩)) hS rfl ?_
      refine lb 4 (.slice (AA2) (ac.length) (ac2)) hS va.k2 va.mine (by simp) rfl ?_
      refine pu 5 (.pointer (some ⟨b, 0, none⟩)) hS rfl ?_
      refine pu 6 (.pointer (some ⟨b, 0, none⟩)) hS rfl ?_
      refine pu 7 (.pointer (some ⟨b, 2, none⟩)) hS rfl ?_
      refine lb 8 (.slice (some ⟨gb, 0, none⟩) (bc.length) (bc2)) hS vb.k2 vb.mine (by simp) rfl ?_
      refine pu 9 (.pointer (some ⟨gb, 0, none⟩)) hS rfl ?_
      refine lb 10 (.pointer (some ⟨be, 0, none⟩)) hS y yo (by simp [Ne.symm hab]) rfl ?_
      refine al 11 (.slice (some ⟨w3.heap.size, 0, none⟩) 1 1) (w3.drew.alloc (.cells #[.pointer (some ⟨be, 0, none⟩)] 66)) (by kernel_rfl) rfl (hS.alloc hH _) ?_
      obtain ⟨A1', n1', c1', W1, hr1, hop1⟩ := AppQ.fresh (.slice AA2 (ac).length ac2) (Nd.row LS (⟨ak ++ [ki], av ++ [vi], ac⟩ : Nd ByteArray) 2) (.pointer (some ⟨be, 0, none⟩)) w3.drew va.r2.row (by rfl) (by simp only [Nd.row, List.length_map]; omega)
      have hm1 : ∀ g, (Value.slice A1' n1' c1').ownBlock = some g → own3 g = some (a, 2) ∨ w3.heap.size ≤ g := fun g hg => by
        rcases hop1.blk with e | e
        · rw [e] at hg; exact .inl (va.r2.mine g hg)
        · exact .inr (Nat.le_trans hS.2 (e g hg))
      have hS2 := hS.grown hH hop1.grow (fun g hg => .inl (va.r2.mine g hg))
      refine vl 12 (.slice A1' n1' c1') hr1 (by kernel_rfl) rfl hS2 ?_
      have hop := hop1
      refine pu 13 (.pointer (some ⟨a, 0, none⟩)) hS2 rfl ?_
      refine pu 14 (.pointer (some ⟨a, 2, none⟩)) hS2 rfl ?_
      have q1 := (World.cell?_of_block (a := ⟨a, 2, none⟩) (hS2.1 a _ va.mine (by simp))).trans va.k2
      have q2 := (World.frozen?_of_block (a := ⟨a, 2, none⟩) (hS2.1 a _ va.mine (by simp))).trans (va.free 2)
      refine st 15 (W1.setCell ⟨a, 2, none⟩ (.slice A1' n1' c1')) (by kernel_rfl) rfl ?_
      refine doneL (by kernel_rfl) ?_ _
      go_wp2_with fail
      go_meet
      exact hH.step (⟨ak ++ [ki], av ++ [vi], ac ++ [be]⟩ : Nd ByteArray) ha 2 (by decide) va.k2 hop.of_drew (by simp [Nd.row, ptrV]) (by intro j hj hne; rcases j with _ | _ | _ | j <;> first | rfl | omega)
    case rest =>
    obtain ⟨w4, hwc⟩ : ∃ W, W = wc := ⟨_, rfl⟩
    subst hwc
    obtain ⟨own4, H4, hH4, hF4, hn4, ho4⟩ := hcut
    obtain ⟨hH, hF, hx, ha, hb, hO⟩ := S0.out
    obtain ⟨hxa, hxb, hab⟩ := NE.out
    have T := Aside0.mk (And.intro hH4 (And.intro (hF.trans hF4) (And.intro ((ho4 x hxa).trans hx) (And.intro (hn4) (And.intro ((ho4 b (Ne.symm hab)).trans hb) (fun k qx qa qb => (ho4 k qa).trans (hO k qx qa qb)))))))
    clear S0 hH4 hF4 hn4 ho4 hH hF hx ha hb hO hxa hxb hab
    have S0 := T
    clear T
    go_upto_region 6 with (fail)
    go_cut [] (fun w5 => Step LS own4 H4 w4 b (⟨bk, bv, bc.drop 1⟩ : Nd ByteArray) w5)
    case first =>
      obtain ⟨hH, _, hx, ha, hb, _⟩ := S0.out
      obtain ⟨hxa, hxb, hab⟩ := NE.out
      have lbc := HAC.out.2.2.1
      obtain ⟨BA0, bc0, BA1, bc1, BA2, bc2, vb⟩ := hH.view hb
      have p2 := vb.k2
      have f2 := vb.free 2
      have HD := Aside0.mk (DelQ.calls (.slice BA2 (bc).length bc2) (Nd.row LS (⟨bk, bv, bc⟩ : Nd ByteArray) 2) (0) w4 vb.r2.row (by simp only [Nd.row, List.length_map]; omega) (row_oneS 2 _) (by simp only [Nd.row, List.length_map]; omega))
      go_wp2_with (go_at_call 87; refine HD.out.mono ?_; rintro e w2 ⟨A', n', c', rfl, hop⟩; have q1 := hop.grow.cell p2 (fun e => by have := vb.r2.mine b e.symm; rw [vb.mine] at this; simp at this); have q2 := (hop.grow.frozen_far ⟨b, 2, none⟩ vb.lt (fun e => by have := vb.r2.mine b e.symm; rw [vb.mine] at this; simp at this)).trans f2; have HOP := Aside0.mk hop; clear hop)
      go_meet
      exact hH.step (⟨bk, bv, bc.drop 1⟩ : Nd ByteArray) hb 2 (by decide) vb.k2 HOP.out (by simp [Nd.row]) (by intro j hj hne; rcases j with _ | _ | _ | j <;> first | rfl | omega)
    case rest =>
    obtain ⟨w5, hwc⟩ : ∃ W, W = wc := ⟨_, rfl⟩
    subst hwc
    obtain ⟨own5, H5, hH5, hF5, hn5, ho5⟩ := hcut
    obtain ⟨hH, hF, hx, ha, hb, hO⟩ := S0.out
    obtain ⟨hxa, hxb, hab⟩ := NE.out
    have T := Aside0.mk (And.intro hH5 (And.intro (hF.trans hF5) (And.intro ((ho5 x hxb).trans hx) (And.intro ((ho5 a hab).trans ha) (And.intro (hn5) (fun k qx qa qb => (ho5 k qb).trans (hO k qx qa qb)))))))
    clear S0 hH5 hF5 hn5 ho5 hH hF hx ha hb hO hxa hxb hab
    have S0 := T
    clear T
    go_upto_region 7 with (fail)
    go_cut [] (fun w6 => Step LS own5 H5 w5 b (⟨bk.drop 1, bv, bc.drop 1⟩ : Nd ByteArray) w6)
    case first =>
      obtain ⟨hH, _, hx, ha, hb, _⟩ := S0.out
      obtain ⟨hxa, hxb, hab⟩ := NE.out
      have lbk' : 0 < bk.length := by have := HL.out; omega
      have lbv' : 0 < bv.length := by have := HL.out; omega
      obtain ⟨BA0, bc0, BA1, bc1, BA2, bc2, vb⟩ := hH.view hb
      have p2 := vb.k0
      have f2 := vb.free 0
      have HD := Aside0.mk (DelI.calls (.slice BA0 (bk).length bc0) (Nd.row LS (⟨bk, bv, bc.drop 1⟩ : Nd ByteArray) 0) (0) w5 vb.r0.row (by simp only [Nd.row, List.length_map]; omega) (row_oneS 0 _) (by simp only [Nd.row, List.length_map]; omega))
      go_wp2_with (go_at_call 52; refine HD.out.mono ?_; rintro e w2 ⟨A', n', c', rfl, hop⟩; have q1 := hop.grow.cell p2 (fun e => by have := vb.r0.mine b e.symm; rw [vb.mine] at this; simp at this); have q2 := (hop.grow.frozen_far ⟨b, 0, none⟩ vb.lt (fun e => by have := vb.r0.mine b e.symm; rw [vb.mine] at this; simp at this)).trans f2; have HOP := Aside0.mk hop; clear hop)
      go_meet
      exact hH.step (⟨bk.drop 1, bv, bc.drop 1⟩ : Nd ByteArray) hb 0 (by decide) vb.k0 HOP.out (by simp [Nd.row]) (by intro j hj hne; rcases j with _ | _ | _ | j <;> first | rfl | omega)
    case rest =>
    obtain ⟨w6, hwc⟩ : ∃ W, W = wc := ⟨_, rfl⟩
    subst hwc
    obtain ⟨own6, H6, hH6, hF6, hn6, ho6⟩ := hcut
    obtain ⟨hH, hF, hx, ha, hb, hO⟩ := S0.out
    obtain ⟨hxa, hxb, hab⟩ := NE.out
    have T := Aside0.mk (And.intro hH6 (And.intro (hF.trans hF6) (And.intro ((ho6 x hxb).trans hx) (And.intro ((ho6 a hab).trans ha) (And.intro (hn6) (fun k qx qa qb => (ho6 k qb).trans (hO k qx qa qb)))))))
    clear S0 hH6 hF6 hn6 ho6 hH hF hx ha hb hO hxa hxb hab
    have S0 := T
    clear T
    go_upto_region 8 with (fail)
    obtain ⟨hH, _, hx, ha, hb, _⟩ := S0.out
    obtain ⟨hxa, hxb, hab⟩ := NE.out
    have lbk' : 0 < bk.length := by have := HL.out; omega
    have lbv' : 0 < bv.length := by have := HL.out; omega
    obtain ⟨BA0, bc0, BA1, bc1, BA2, bc2, vb⟩ := hH.view hb
    have p2 := vb.k1
    have f2 := vb.free 1
    have HD := Aside0.mk (DelS.calls (.slice BA1 (bv).length bc1) (Nd.row LS (⟨bk.drop 1, bv, bc.drop 1⟩ : Nd ByteArray) 1) (0) w6 vb.r1.row (by simp only [Nd.row, List.length_map]; omega) (row_oneS 1 _) (by simp only [Nd.row, List.length_map]; omega))
    go_wp2_with (go_at_call 69; refine HD.out.mono ?_; rintro e w2 ⟨A', n', c', rfl, hop⟩; have q1 := hop.grow.cell p2 (fun e => by have := vb.r1.mine b e.symm; rw [vb.mine] at this; simp at this); have q2 := (hop.grow.frozen_far ⟨b, 1, none⟩ vb.lt (fun e => by have := vb.r1.mine b e.symm; rw [vb.mine] at this; simp at this)).trans f2; have HOP := Aside0.mk hop; clear hop)
    refine bodyPost_end (v := .tuple #[]) (by simp [results, Try.results86, go_sem]) (by rfl) ?_
    have hcut := hH.step (⟨bk.drop 1, bv.drop 1, bc.drop 1⟩ : Nd ByteArray) hb 1 (by decide) vb.k1 HOP.out (by simp [Nd.row, LS]) (by intro j hj hne; rcases j with _ | _ | _ | j <;> first | rfl | omega)
    generalize w2.setCell ⟨b, 1, none⟩ (.slice A' n' c') = wc at hcut ⊢
    skip
    obtain ⟨w7, hwc⟩ : ∃ W, W = wc := ⟨_, rfl⟩
    subst hwc
    obtain ⟨own7, H7, hH7, hF7, hn7, ho7⟩ := hcut
    obtain ⟨hH, hF, hx, ha, hb, hO⟩ := S0.out
    obtain ⟨hxa, hxb, hab⟩ := NE.out
    have T := Aside0.mk (And.intro hH7 (And.intro (hF.trans hF7) (And.intro ((ho7 x hxb).trans hx) (And.intro ((ho7 a hab).trans ha) (And.intro (hn7) (fun k qx qa qb => (ho7 k qb).trans (hO k qx qa qb)))))))
    clear S0 hH7 hF7 hn7 ho7 hH hF hx ha hb hO hxa hxb hab
    have S0 := T
    clear T
    obtain ⟨hH, hF, hx, ha, hb, hO⟩ := S0.out
    obtain ⟨rfl, rfl, rfl⟩ := HE.out
    obtain ⟨hne, _, _, hhd⟩ := HAC.out
    rw [← hhd] at ha
    exact ⟨_, _, rfl, hH, hF, hx, by rw [if_neg hne]; exact ha, hb, hO⟩
end Go.Proofs.Ytkfcflflgecljaa.H
