/- merge of a bag's node over string: what it leaves. -/
import Derived.Test.YtkfcflflgecljaaHBagKS
import Derived.Test.YtkfcflflgecljaaHBagLeftS
import Derived.Deep.DeepCutAuto
import Derived.Deep.CutBlock
import Derived.Deep.QuietTactic
import Derived.BigQuiet
set_option linter.unusedVariables false
set_option linter.unusedSimpArgs false
namespace Go.Proofs.Ytkfcflflgecljaa.H
open Go.RowKit Go.Proofs.YtkfcflflgecljaaW.PrintWords Go.Proofs.YtkfcflflgecljaaW.PrintLast
set_option maxRecDepth 100000
/-- What merge leaves. -/
def MergePostS (own : Own) (H : HP ByteArray) (w : World) (x a : Nat) (xn an : Nd ByteArray) (e : Ending) (w' : World) : Prop :=
  ∃ own' H', e = .returned (.tuple #[]) ∧ Heap LS w' own' H' ∧ Fr own own' w w' ∧ H' x = some xn ∧ H' a = some an ∧ ∀ k, k ≠ x → k ≠ a → H' k = H k
set_option maxHeartbeats 16000000 in
theorem mergeS.calls {own : Own} {H : HP ByteArray} (x a b i : Nat) (xk : List Int) (xv : List ByteArray) (xc : List Nat) (ak : List Int) (av : List ByteArray) (ac : List Nat) (bk : List Int) (bv : List ByteArray) (bc : List Nat) (w : World)
    (hH : Heap LS w own H) (hx : H x = some ⟨xk, xv, xc⟩) (ha : H a = some ⟨ak, av, ac⟩) (hb : H b = some ⟨bk, bv, bc⟩) (hxa : x ≠ a) (hxb : x ≠ b) (hab : a ≠ b)
    (hca : xc[i]? = some a) (hcb : xc[i + 1]? = some b) (ki : Int) (vi : ByteArray) (hki : xk[i]? = some ki) (hvi : xv[i]? = some vi)
    (h1 : xc.length ≤ 30) (h2 : xk.length ≤ 30) (h3 : xv.length ≤ 30) (h5 : ak.length ≤ 30) (h6 : av.length ≤ 30) (h7 : ac.length ≤ 30) (h9 : bk.length ≤ 30) (h10 : bv.length ≤ 30) (h11 : bc.length ≤ 30) :
    Calls Try.prog 73 #[.pointer (some ⟨x, 0, none⟩), .int .i64 (i : Int)] w
      (MergePostS own H w x a ⟨xk.take i ++ xk.drop (i + 1), xv.take i ++ xv.drop (i + 1), xc.take (i + 1) ++ xc.drop (i + 2)⟩ ⟨ak ++ ki :: bk, av ++ vi :: bv, ac ++ bc⟩) := by
  obtain ⟨XA0, xc0, XA1, xc1, XA2, xc2, vx⟩ := hH.view hx
  obtain ⟨g2, rfl, y1, y2, _, _⟩ := vx.r2.get (j := i) (u := ptrV a) (by simp [Nd.row, hca]) (by simp [Nd.row])
  obtain ⟨g2', e2, y3, _, _, _⟩ := vx.r2.get (j := i + 1) (u := ptrV b) (by simp [Nd.row, hcb]) (by simp [Nd.row])
  obtain rfl := addr_inj e2
  clear e2
  have k2 : w.cell? ⟨x, 2, none⟩ = some (.slice (some ⟨g2, 0, none⟩) xc.length xc2) := vx.k2
  have q1 : w.cell? ⟨g2, i, none⟩ = some (.pointer (some ⟨a, 0, none⟩)) := y1
  have q2 : w.cell? ⟨g2, i + 1, none⟩ = some (.pointer (some ⟨b, 0, none⟩)) := y3
  have hic : i + 1 < xc.length := (List.getElem?_eq_some_iff.1 hcb).1
  have hik : i < xk.length := (List.getElem?_eq_some_iff.1 hki).1
  have hiv : i < xv.length := (List.getElem?_eq_some_iff.1 hvi).1
  generalize hn2 : xc.length = n2 at k2 hic h1
  have e5 : IntKind.i64.wrap ((i : Int) + 1) = (i : Int) + 1 := by rw [IntKind.wrap_i64]; omega
  have i0 : (0 : Int) ≤ (i : Int) := by omega
  have i1 : (i : Int) < (n2 : Int) := by omega
  have i2 : (i : Int) + 1 < (n2 : Int) := by omega
  have i3 : (0 : Int) ≤ (i : Int) + 1 := by omega
  have i4 : ((i : Int) + 1).toNat = i + 1 := by omega
  have HH := Aside0.mk hH
  have HX := Aside0.mk hx
  have HA := Aside0.mk ha
  have HB := Aside0.mk hb
  have HK := Aside0.mk (And.intro hki hvi)
  have HL := Aside0.mk (And.intro hik (And.intro hiv (And.intro hic hn2)))
  have NE := Aside0.mk (And.intro hxa (And.intro hxb hab))
  generalize hxn : (⟨xk.take i ++ xk.drop (i + 1), xv.take i ++ xv.drop (i + 1), xc.take (i + 1) ++ xc.drop (i + 2)⟩ : Nd ByteArray) = xn
  generalize han : (⟨ak ++ ki :: bk, av ++ vi :: bv, ac ++ bc⟩ : Nd ByteArray) = an
  have HE := Aside0.mk (And.intro hxn han)
  clear hxn han hH hx ha hb vx y1 y2 y3 hca hcb hki hvi hn2 hxa hxb hab hik hiv
  go_enter Try.func73, Try.ntmps73
  go_wp2_with fail
  go_quiet (fail)
  go_wp2_with fail
  have hH0 := HH.out.drewN nq
  have hF0 : Fr own own w (w.drewN nq) := Fr.drewN own w nq
  clear k2 q1 q2
  have S0 := Aside0.mk (And.intro hH0 (And.intro hF0 (And.intro HX.out (And.intro HA.out (And.intro HB.out (fun k (_ : k ≠ x) (_ : k ≠ a) (_ : k ≠ b) => (rfl : H k = H k)))))))
  clear hH0 hF0 HH HX HA
  generalize w.drewN nq = w0 at S0 ⊢

  go_cut [] (fun w1 => Step LS own H w0 a (⟨ak ++ ki :: bk, av, ac⟩ : Nd ByteArray) w1)
  case first =>
    obtain ⟨hH, _, hx, ha, hb, _⟩ := S0.out
    obtain ⟨hxa, hxb, hab⟩ := NE.out
    have lk : (i : Int) < (xk.length : Int) := by have := HL.out; omega
    have lv : (i : Int) < (xv.length : Int) := by have := HL.out; omega
    obtain ⟨AA0, ac0, AA1, ac1, AA2, ac2, va⟩ := hH.view ha
    obtain ⟨XA0, xc0, XA1, xc1, XA2, xc2, vx⟩ := hH.view hx
    obtain ⟨BA0, bc0, BA1, bc1, BA2, bc2, vb⟩ := hH.view hb
    obtain ⟨gx, rfl, y, yo, yf, yl⟩ := vx.r0.get (j := i) (u := .int .i64 ki) (by simp [Nd.row, LS, HK.out.1]) (by simp [Nd.row])
    refine startL (Sees own (a, 0) w0) [21] (by kernel_rfl) ?_
    change WalkL _ _ _ _ _ _ 22 #[false, false, false, false, false, false, false, false, false, false, false, false, false, false, false, false, false, false, false, false, false, false] _ _
    have hS : Sees own (a, 0) w0 w0.drew := Sees.refl _ _ _
    refine pu 0 (.pointer (some ⟨a, 0, none⟩)) hS rfl ?_
    refine pu 1 (.pointer (some ⟨a, 0, none⟩)) hS rfl ?_
    refine pu 2 (.pointer (some ⟨a, 0, none⟩)) hS rfl ?_
    refine pu 3 (.pointer (some ⟨a, 0, none⟩)) hS rfl ?_
    refine lb 4 (.slice (AA0) (ak.length) (ac0)) hS va.k0 va.mine (by simp) rfl ?_
    refine pu 5 (.pointer (some ⟨x, 0, none⟩)) hS rfl ?_
    refine pu 6 (.pointer (some ⟨x, 0, none⟩)) hS rfl ?_
    refine pu 7 (.pointer (some ⟨x, 0, none⟩)) hS rfl ?_
    refine lb 8 (.slice (some ⟨gx, 0, none⟩) (xk.length) (xc0)) hS vx.k0 vx.mine (by simp) rfl ?_
    refine pu 9 (.int .i64 ((i : Int))) hS rfl ?_
    refine pu 10 (.pointer (some ⟨gx, i, none⟩)) hS rfl ?_
    refine lb 11 (.int .i64 ki) hS y yo (by simp [hxa]) rfl ?_
    refine pu 14 (.pointer (some ⟨b, 0, none⟩)) hS rfl ?_
    refine pu 15 (.pointer (some ⟨b, 0, none⟩)) hS rfl ?_
    refine pu 16 (.pointer (some ⟨b, 0, none⟩)) hS rfl ?_
    refine lb 17 (.slice (BA0) (bk.length) (bc0)) hS vb.k0 vb.mine (by simp) rfl ?_
    refine al 12 (.slice (some ⟨w0.heap.size, 0, none⟩) 1 1) (w0.drew.alloc (.cells #[.int .i64 ki] 2)) (by kernel_rfl) rfl (hS.alloc hH _) ?_
    obtain ⟨A1', n1', c1', W1, hr1, hop1⟩ := AppI.fresh (.slice AA0 (ak).length ac0) (Nd.row LS (⟨ak, av, ac⟩ : Nd ByteArray) 0) (.int .i64 ki) w0.drew va.r0.row (by rfl) (by simp only [Nd.row, List.length_map]; omega)
    have hm1 : ∀ g, (Value.slice A1' n1' c1').ownBlock = some g → own g = some (a, 0) ∨ w0.heap.size ≤ g := fun g hg => by
      rcases hop1.blk with e | e
      · rw [e] at hg; exact .inl (va.r0.mine g hg)
      · exact .inr (Nat.le_trans hS.2 (e g hg))
    have hS2 := hS.grown hH hop1.grow (fun g hg => .inl (va.r0.mine g hg))
    refine vl 13 (.slice A1' n1' c1') hr1 (by kernel_rfl) rfl hS2 ?_
    have hop := hop1
    have hb2 : W1.ownsRow 0 2 1 (.slice BA0 (bk.length) bc0) (Nd.row LS (⟨bk, bv, bc⟩ : Nd ByteArray) 0).length (Nd.row LS (⟨bk, bv, bc⟩ : Nd ByteArray) 0) := (vb.r0.moved (fun g hg => (hS2.1 g _ (vb.r0.mine g hg) (by simp [Ne.symm hab])).trans rfl) (fun _ _ => rfl) : RowAt LS W1 own b 0 _ _).row
    obtain ⟨A2', n2', c2', W2, hr2, hop2⟩ := AppI.row (.slice A1' n1' c1') ((Nd.row LS (⟨ak, av, ac⟩ : Nd ByteArray) 0) ++ ([.int .i64 ki] : List Value)) (BA0) (bk.length) bc0 (Nd.row LS (⟨bk, bv, bc⟩ : Nd ByteArray) 0) W1 hop1.own hb2 (by simp only [Nd.row, List.length_map]) (row_oneS 0 _) (by simp only [Nd.row, List.length_map, List.length_append, List.length_singleton]; omega)
    have hm2 : ∀ g, (Value.slice A2' n2' c2').ownBlock = some g → own g = some (a, 0) ∨ w0.heap.size ≤ g := fun g hg => by
      rcases hop2.blk with e | e
      · rw [e] at hg; exact hm1 g hg
      · exact .inr (Nat.le_trans hS2.2 (e g hg))
    have hS3 := hS2.grown hH hop2.grow hm1
    refine vl 18 (.slice A2' n2' c2') hr2 (by kernel_rfl) rfl hS3 ?_
    have hopn := RowOp.trans hop hop2
    clear hop
    have hop := hopn
    clear hopn
    refine pu 19 (.pointer (some ⟨a, 0, none⟩)) hS3 rfl ?_
    refine pu 20 (.pointer (some ⟨a, 0, none⟩)) hS3 rfl ?_
    have q1 := (World.cell?_of_block (a := ⟨a, 0, none⟩) (hS3.1 a _ va.mine (by simp))).trans va.k0
    have q2 := (World.frozen?_of_block (a := ⟨a, 0, none⟩) (hS3.1 a _ va.mine (by simp))).trans (va.free 0)
    refine st 21 (W2.setCell ⟨a, 0, none⟩ (.slice A2' n2' c2')) (by kernel_rfl) rfl ?_
    refine doneL (by kernel_rfl) ?_ _
    go_wp2_with fail
    go_meet
    exact hH.step (⟨ak ++ ki :: bk, av, ac⟩ : Nd ByteArray) ha 0 (by decide) va.k0 hop.of_drew (by simp [Nd.row, LS]) (by intro j hj hne; rcases j with _ | _ | _ | j <;> first | rfl | omega)
  case rest =>
  obtain ⟨w1, hwc⟩ : ∃ W, W = wc := ⟨_, rfl⟩
  subst hwc
  obtain ⟨own1, H1, hH1, hF1, hn1, ho1⟩ := hcut
  obtain ⟨hH, hF, hx, ha, hb, hO⟩ := S0.out
  obtain ⟨hxa, hxb, hab⟩ := NE.out
  have T := Aside0.mk (And.intro hH1 (And.intro (hF.trans hF1) (And.intro ((ho1 x hxa).trans hx) (And.intro (hn1) (And.intro ((ho1 b (Ne.symm hab)).trans hb) (fun k qx qa qb => (ho1 k qa).trans (hO k qx qa qb)))))))
  clear S0 hH1 hF1 hn1 ho1 hH hF hx ha hb hO hxa hxb hab
  have S0 := T
  clear T
  go_wp2_with fail
  go_cut [] (fun w2 => Step LS own1 H1 w1 a (⟨ak ++ ki :: bk, av ++ vi :: bv, ac⟩ : Nd ByteArray) w2)
  case first =>
    obtain ⟨hH, _, hx, ha, hb, _⟩ := S0.out
    obtain ⟨hxa, hxb, hab⟩ := NE.out
    have lk : (i : Int) < (xk.length : Int) := by have := HL.out; omega
    have lv : (i : Int) < (xv.length : Int) := by have := HL.out; omega
    obtain ⟨AA0, ac0, AA1, ac1, AA2, ac2, va⟩ := hH.view ha
    obtain ⟨XA0, xc0, XA1, xc1, XA2, xc2, vx⟩ := hH.view hx
    obtain ⟨BA0, bc0, BA1, bc1, BA2, bc2, vb⟩ := hH.view hb
    obtain ⟨gx, rfl, y, yo, yf, yl⟩ := vx.r1.get (j := i) (u := .string vi) (by simp [Nd.row, LS, HK.out.2]) (by simp [Nd.row])
    refine startL (Sees own1 (a, 1) w1) [21] (by kernel_rfl) ?_
    change WalkL _ _ _ _ _ _ 22 #[false, false, false, false, false, false, false, false, false, false, false, false, false, false, false, false, false, false, false, false, false, false] _ _
    have hS : Sees own1 (a, 1) w1 w1.drew := Sees.refl _ _ _
    refine pu 0 (.pointer (some ⟨a, 0, none⟩)) hS rfl ?_
    refine pu 1 (.pointer (some ⟨a, 0, none⟩)) hS rfl ?_
    refine pu 2 (.pointer (some ⟨a, 0, none⟩)) hS rfl ?_
    refine pu 3 (.pointer (some ⟨a, 1, none⟩)) hS rfl ?_
    refine lb 4 (.slice (AA1) (av.length) (ac1)) hS va.k1 va.mine (by simp) rfl ?_
    refine pu 5 (.pointer (some ⟨x, 0, none⟩)) hS rfl ?_
    refine pu 6 (.pointer (some ⟨x, 0, none⟩)) hS rfl ?_
    refine pu 7 (.pointer (some ⟨x, 1, none⟩)) hS rfl ?_
    refine lb 8 (.slice (some ⟨gx, 0, none⟩) (xv.length) (xc1)) hS vx.k1 vx.mine (by simp) rfl ?_
    refine pu 9 (.int .i64 ((i : Int))) hS rfl ?_
    refine pu 10 (.pointer (some ⟨gx, i, none⟩)) hS rfl ?_
    refine lb 11 (.string vi) hS y yo (by simp [hxa]) rfl ?_
    refine pu 14 (.pointer (some ⟨b, 0, none⟩)) hS rfl ?_
    refine pu 15 (.pointer (some ⟨b, 0, none⟩)) hS rfl ?_
    refine pu 16 (.pointer (some ⟨b, 1, none⟩)) hS rfl ?_
    refine lb 17 (.slice (BA1) (bv.length) (bc1)) hS vb.k1 vb.mine (by simp) rfl ?_
    refine al 12 (.slice (some ⟨w1.heap.size, 0, none⟩) 1 1) (w1.drew.alloc (.cells #[.string vi] 9)) (by kernel_rfl) rfl (hS.alloc hH _) ?_
    obtain ⟨A1', n1', c1', W1, hr1, hop1⟩ := AppS.fresh (.slice AA1 (av).length ac1) (Nd.row LS (⟨ak ++ ki :: bk, av, ac⟩ : Nd ByteArray) 1) (.string vi) w1.drew va.r1.row (by rfl) (by simp only [Nd.row, List.length_map]; omega)
    have hm1 : ∀ g, (Value.slice A1' n1' c1').ownBlock = some g → own1 g = some (a, 1) ∨ w1.heap.size ≤ g := fun g hg => by
      rcases hop1.blk with e | e
      · rw [e] at hg; exact .inl (va.r1.mine g hg)
      · exact .inr (Nat.le_trans hS.2 (e g hg))
    have hS2 := hS.grown hH hop1.grow (fun g hg => .inl (va.r1.mine g hg))
    refine vl 13 (.slice A1' n1' c1') hr1 (by kernel_rfl) rfl hS2 ?_
    have hop := hop1
    have hb2 : W1.ownsRow 0 9 1 (.slice BA1 (bv.length) bc1) (Nd.row LS (⟨bk, bv, bc⟩ : Nd ByteArray) 1).length (Nd.row LS (⟨bk, bv, bc⟩ : Nd ByteArray) 1) := (vb.r1.moved (fun g hg => (hS2.1 g _ (vb.r1.mine g hg) (by simp [Ne.symm hab])).trans rfl) (fun _ _ => rfl) : RowAt LS W1 own1 b 1 _ _).row
    obtain ⟨A2', n2', c2', W2, hr2, hop2⟩ := AppS.row (.slice A1' n1' c1') ((Nd.row LS (⟨ak ++ ki :: bk, av, ac⟩ : Nd ByteArray) 1) ++ ([.string vi] : List Value)) (BA1) (bv.length) bc1 (Nd.row LS (⟨bk, bv, bc⟩ : Nd ByteArray) 1) W1 hop1.own hb2 (by simp only [Nd.row, List.length_map]) (row_oneS 1 _) (by simp only [Nd.row, List.length_map, List.length_append, List.length_singleton]; omega)
    have hm2 : ∀ g, (Value.slice A2' n2' c2').ownBlock = some g → own1 g = some (a, 1) ∨ w1.heap.size ≤ g := fun g hg => by
      rcases hop2.blk with e | e
      · rw [e] at hg; exact hm1 g hg
      · exact .inr (Nat.le_trans hS2.2 (e g hg))
    have hS3 := hS2.grown hH hop2.grow hm1
    refine vl 18 (.slice A2' n2' c2') hr2 (by kernel_rfl) rfl hS3 ?_
    have hopn := RowOp.trans hop hop2
    clear hop
    have hop := hopn
    clear hopn
    refine pu 19 (.pointer (some ⟨a, 0, none⟩)) hS3 rfl ?_
    refine pu 20 (.pointer (some ⟨a, 1, none⟩)) hS3 rfl ?_
    have q1 := (World.cell?_of_block (a := ⟨a, 1, none⟩) (hS3.1 a _ va.mine (by simp))).trans va.k1
    have q2 := (World.frozen?_of_block (a := ⟨a, 1, none⟩) (hS3.1 a _ va.mine (by simp))).trans (va.free 1)
    refine st 21 (W2.setCell ⟨a, 1, none⟩ (.slice A2' n2' c2')) (by kernel_rfl) rfl ?_
    refine doneL (by kernel_rfl) ?_ _
    go_wp2_with fail
    go_meet
    exact hH.step (⟨ak ++ ki :: bk, av ++ vi :: bv, ac⟩ : Nd ByteArray) ha 1 (by decide) va.k1 hop.of_drew (by simp [Nd.row, LS]) (by intro j hj hne; rcases j with _ | _ | _ | j <;> first | rfl | omega)
  case rest =>
  obtain ⟨w2, hwc⟩ : ∃ W, W = wc := ⟨_, rfl⟩
  subst hwc
  obtain ⟨own2, H2, hH2, hF2, hn2, ho2⟩ := hcut
  obtain ⟨hH, hF, hx, ha, hb, hO⟩ := S0.out
  obtain ⟨hxa, hxb, hab⟩ := NE.out
  have T := Aside0.mk (And.intro hH2 (And.intro (hF.trans hF2) (And.intro ((ho2 x hxa).trans hx) (And.intro (hn2) (And.intro ((ho2 b (Ne.symm hab)).trans hb) (fun k qx qa qb => (ho2 k qa).trans (hO k qx qa qb)))))))
  clear S0 hH2 hF2 hn2 ho2 hH hF hx ha hb hO hxa hxb hab
  have S0 := T
  clear T
  go_wp2_with fail
  go_cut [] (fun w3 => Step LS own2 H2 w2 a (⟨ak ++ ki :: bk, av ++ vi :: bv, ac ++ bc⟩ : Nd ByteArray) w3)
  case first =>
    obtain ⟨hH, _, hx, ha, hb, _⟩ := S0.out
    obtain ⟨hxa, hxb, hab⟩ := NE.out
    obtain ⟨AA0, ac0, AA1, ac1, AA2, ac2, va⟩ := hH.view ha
    obtain ⟨BA0, bc0, BA1, bc1, BA2, bc2, vb⟩ := hH.view hb
    refine startL (Sees own2 (a, 2) w2) [12] (by kernel_rfl) ?_
    change WalkL _ _ _ _ _ _ 13 #[false, false, false, false, false, false, false, false, false, false, false, false, false] _ _
    have hS : Sees own2 (a, 2) w2 w2.drew := Sees.refl _ _ _
    refine pu 0 (.pointer (some ⟨a, 0, none⟩)) hS rfl ?_
    refine pu 1 (.pointer (some ⟨a, 0, none⟩)) hS rfl ?_
    refine pu 2 (.pointer (some ⟨a, 0, none⟩)) hS rfl ?_
    refine pu 3 (.pointer (some ⟨a, 2, none⟩)) hS rfl ?_
    refine lb 4 (.slice (AA2) (ac.length) (ac2)) hS va.k2 va.mine (by simp) rfl ?_
    refine pu 5 (.pointer (some ⟨b, 0, none⟩)) hS rfl ?_
    refine pu 6 (.pointer (some ⟨b, 0, none⟩)) hS rfl ?_
    refine pu 7 (.pointer (some ⟨b, 2, none⟩)) hS rfl ?_
    refine lb 8 (.slice (BA2) (bc.length) (bc2)) hS vb.k2 vb.mine (by simp) rfl ?_
    have hb1 : w2.drew.ownsRow 0 66 1 (.slice BA2 (bc.length) bc2) (Nd.row LS (⟨bk, bv, bc⟩ : Nd ByteArray) 2).length (Nd.row LS (⟨bk, bv, bc⟩ : Nd ByteArray) 2) := (vb.r2.moved (fun g hg => (hS.1 g _ (vb.r2.mine g hg) (by simp [Ne.symm hab])).trans rfl) (fun _ _ => rfl) : RowAt LS w2.drew own2 b 2 _ _).row
    obtain ⟨A1', n1', c1', W1, hr1, hop1⟩ := AppQ.row (.slice AA2 (ac).length ac2) (Nd.row LS (⟨ak ++ ki :: bk, av ++ vi :: bv, ac⟩ : Nd ByteArray) 2) (BA2) (bc.length) bc2 (Nd.row LS (⟨bk, bv, bc⟩ : Nd ByteArray) 2) w2.drew va.r2.row hb1 (by simp only [Nd.row, List.length_map]) (row_oneS 2 _) (by simp only [Nd.row, List.length_map, List.length_append, List.length_singleton]; omega)
    have hm1 : ∀ g, (Value.slice A1' n1' c1').ownBlock = some g → own2 g = some (a, 2) ∨ w2.heap.size ≤ g := fun g hg => by
      rcases hop1.blk with e | e
      · rw [e] at hg; exact .inl (va.r2.mine g hg)
      · exact .inr (Nat.le_trans hS.2 (e g hg))
    have hS2 := hS.grown hH hop1.grow (fun g hg => .inl (va.r2.mine g hg))
    refine vl 9 (.slice A1' n1' c1') hr1 (by kernel_rfl) rfl hS2 ?_
    have hop := hop1
    refine pu 10 (.pointer (some ⟨a, 0, none⟩)) hS2 rfl ?_
    refine pu 11 (.pointer (some ⟨a, 2, none⟩)) hS2 rfl ?_
    have q1 := (World.cell?_of_block (a := ⟨a, 2, none⟩) (hS2.1 a _ va.mine (by simp))).trans va.k2
    have q2 := (World.frozen?_of_block (a := ⟨a, 2, none⟩) (hS2.1 a _ va.mine (by simp))).trans (va.free 2)
    refine st 12 (W1.setCell ⟨a, 2, none⟩ (.slice A1' n1' c1')) (by kernel_rfl) rfl ?_
    refine doneL (by kernel_rfl) ?_ _
    go_wp2_with fail
    go_meet
    exact hH.step (⟨ak ++ ki :: bk, av ++ vi :: bv, ac ++ bc⟩ : Nd ByteArray) ha 2 (by decide) va.k2 hop.of_drew (by simp [Nd.row]) (by intro j hj hne; rcases j with _ | _ | _ | j <;> first | rfl | omega)
  case rest =>
  obtain ⟨w3, hwc⟩ : ∃ W, W = wc := ⟨_, rfl⟩
  subst hwc
  obtain ⟨own3, H3, hH3, hF3, hn3, ho3⟩ := hcut
  obtain ⟨hH, hF, hx, ha, hb, hO⟩ := S0.out
  obtain ⟨hxa, hxb, hab⟩ := NE.out
  have T := Aside0.mk (And.intro hH3 (And.intro (hF.trans hF3) (And.intro ((ho3 x hxa).trans hx) (And.intro (hn3) (And.intro ((ho3 b (Ne.symm hab)).trans hb) (fun k qx qa qb => (ho3 k qa).trans (hO k qx qa qb)))))))
  clear S0 hH3 hF3 hn3 ho3 hH hF hx ha hb hO hxa hxb hab
  have S0 := T
  clear T
  go_upto_region 4 with (fail)
  go_cut [] (fun w4 => Step LS own3 H3 w3 x (⟨xk.take i ++ xk.drop (i + 1), xv, xc⟩ : Nd ByteArray) w4)
  case first =>
    obtain ⟨hH, _, hx, ha, hb, _⟩ := S0.out
    obtain ⟨hxa, hxb, hab⟩ := NE.out
    have lk : i < xk.length := by have := HL.out; omega
    have lv : i < xv.length := by have := HL.out; omega
    have lc : i + 1 < xc.length := by have := HL.out; omega
    have lc2 : xc.length ≤ 30 := by have := HL.out; omega
    obtain ⟨XA0, xc0, XA1, xc1, XA2, xc2, vx⟩ := hH.view hx
    have p2 := vx.k0
    have f2 := vx.free 0
    have HD := Aside0.mk (DelI.calls (.slice XA0 (xk).length xc0) (Nd.row LS (⟨xk, xv, xc⟩ : Nd ByteArray) 0) (i) w3 vx.r0.row (by simp only [Nd.row, List.length_map]; omega) (row_oneS 0 _) (by simp only [Nd.row, List.length_map]; omega))
    go_wp2_with (go_at_call 52; refine HD.out.mono ?_; rintro e w2 ⟨A', n', c', rfl, hop⟩; have q1 := hop.grow.cell p2 (fun e => by have := vx.r0.mine x e.symm; rw [vx.mine] at this; simp at this); have q2 := (hop.grow.frozen_far ⟨x, 0, none⟩ vx.lt (fun e => by have := vx.r0.mine x e.symm; rw [vx.mine] at this; simp at this)).trans f2; have HOP := Aside0.mk hop; clear hop)
    go_meet
    exact hH.step (⟨xk.take i ++ xk.drop (i + 1), xv, xc⟩ : Nd ByteArray) hx 0 (by decide) vx.k0 HOP.out (by simp [Nd.row, List.map_take, List.map_drop]) (by intro j hj hne; rcases j with _ | _ | _ | j <;> first | rfl | omega)
  case rest =>
  obtain ⟨w4, hwc⟩ : ∃ W, W = wc := ⟨_, rfl⟩
  subst hwc
  obtain ⟨own4, H4, hH4, hF4, hn4, ho4⟩ := hcut
  obtain ⟨hH, hF, hx, ha, hb, hO⟩ := S0.out
  obtain ⟨hxa, hxb, hab⟩ := NE.out
  have T := Aside0.mk (And.intro hH4 (And.intro (hF.trans hF4) (And.intro (hn4) (And.intro ((ho4 a (Ne.symm hxa)).trans ha) (And.intro ((ho4 b (Ne.symm hxb)).trans hb) (fun k qx qa qb => (ho4 k qx).trans (hO k qx qa qb)))))))
  clear S0 hH4 hF4 hn4 ho4 hH hF hx ha hb hO hxa hxb hab
  have S0 := T
  clear T
  go_upto_region 5 with (fail)
  go_cut [] (fun w5 => Step LS own4 H4 w4 x (⟨xk.take i ++ xk.drop (i + 1), xv.take i ++ xv.drop (i + 1), xc⟩ : Nd ByteArray) w5)
  case first =>
    obtain ⟨hH, _, hx, ha, hb, _⟩ := S0.out
    obtain ⟨hxa, hxb, hab⟩ := NE.out
    have lk : i < xk.length := by have := HL.out; omega
    have lv : i < xv.length := by have := HL.out; omega
    have lc : i + 1 < xc.length := by have := HL.out; omega
    have lc2 : xc.length ≤ 30 := by have := HL.out; omega
    obtain ⟨XA0, xc0, XA1, xc1, XA2, xc2, vx⟩ := hH.view hx
    have p2 := vx.k1
    have f2 := vx.free 1
    have HD := Aside0.mk (DelS.calls (.slice XA1 (xv).length xc1) (Nd.row LS (⟨xk.take i ++ xk.drop (i + 1), xv, xc⟩ : Nd ByteArray) 1) (i) w4 vx.r1.row (by simp only [Nd.row, List.length_map]; omega) (row_oneS 1 _) (by simp only [Nd.row, List.length_map]; omega))
    go_wp2_with (go_at_call 69; refine HD.out.mono ?_; rintro e w2 ⟨A', n', c', rfl, hop⟩; have q1 := hop.grow.cell p2 (fun e => by have := vx.r1.mine x e.symm; rw [vx.mine] at this; simp at this); have q2 := (hop.grow.frozen_far ⟨x, 1, none⟩ vx.lt (fun e => by have := vx.r1.mine x e.symm; rw [vx.mine] at this; simp at this)).trans f2; have HOP := Aside0.mk hop; clear hop)
    go_meet
    exact hH.step (⟨xk.take i ++ xk.drop (i + 1), xv.take i ++ xv.drop (i + 1), xc⟩ : Nd ByteArray) hx 1 (by decide) vx.k1 HOP.out (by simp [Nd.row, List.map_take, List.map_drop]) (by intro j hj hne; rcases j with _ | _ | _ | j <;> first | rfl | omega)
  case rest =>
  obtain ⟨w5, hwc⟩ : ∃ W, W = wc := ⟨_, rfl⟩
  subst hwc
  obtain ⟨own5, H5, hH5, hF5, hn5, ho5⟩ := hcut
  obtain ⟨hH, hF, hx, ha, hb, hO⟩ := S0.out
  obtain ⟨hxa, hxb, hab⟩ := NE.out
  have T := Aside0.mk (And.intro hH5 (And.intro (hF.trans hF5) (And.intro (hn5) (And.intro ((ho5 a (Ne.symm hxa)).trans ha) (And.intro ((ho5 b (Ne.symm hxb)).trans hb) (fun k qx qa qb => (ho5 k qx).trans (hO k qx qa qb)))))))
  clear S0 hH5 hF5 hn5 ho5 hH hF hx ha hb hO hxa hxb hab
  have S0 := T
  clear T
  go_upto_region 6 with (fail)
  obtain ⟨hH, _, hx, ha, hb, _⟩ := S0.out
  obtain ⟨hxa, hxb, hab⟩ := NE.out
  have lk : i < xk.length := by have := HL.out; omega
  have lv : i < xv.length := by have := HL.out; omega
  have lc : i + 1 < xc.length := by have := HL.out; omega
  have lc2 : xc.length ≤ 30 := by have := HL.out; omega
  obtain ⟨XA0, xc0, XA1, xc1, XA2, xc2, vx⟩ := hH.view hx
  have p2 := vx.k2
  have f2 := vx.free 2
  have HD := Aside0.mk (DelQ.calls (.slice XA2 (xc).length xc2) (Nd.row LS (⟨xk.take i ++ xk.drop (i + 1), xv.take i ++ xv.drop (i + 1), xc⟩ : Nd ByteArray) 2) (i + 1) w5 vx.r2.row (by simp only [Nd.row, List.length_map]; omega) (row_oneS 2 _) (by simp only [Nd.row, List.length_map]; omega))
  go_wp2_with (go_at_call 87; refine HD.out.mono ?_; rintro e w2 ⟨A', n', c', rfl, hop⟩; have q1 := hop.grow.cell p2 (fun e => by have := vx.r2.mine x e.symm; rw [vx.mine] at this; simp at this); have q2 := (hop.grow.frozen_far ⟨x, 2, none⟩ vx.lt (fun e => by have := vx.r2.mine x e.symm; rw [vx.mine] at this; simp at this)).trans f2; have HOP := Aside0.mk hop; clear hop)
  refine bodyPost_end (v := .tuple #[]) (by simp [results, Try.results73, go_sem]) (by rfl) ?_
  have hcut := hH.step (⟨xk.take i ++ xk.drop (i + 1), xv.take i ++ xv.drop (i + 1), xc.take (i + 1) ++ xc.drop (i + 2)⟩ : Nd ByteArray) hx 2 (by decide) vx.k2 HOP.out (by simp [Nd.row, List.map_take, List.map_drop]) (by intro j hj hne; rcases j with _ | _ | _ | j <;> first | rfl | omega)
  generalize w2.setCell ⟨x, 2, none⟩ (.slice A' n' c') = wc at hcut ⊢
  skip
  obtain ⟨w6, hwc⟩ : ∃ W, W = wc := ⟨_, rfl⟩
  subst hwc
  obtain ⟨own6, H6, hH6, hF6, hn6, ho6⟩ := hcut
  obtain ⟨hH, hF, hx, ha, hb, hO⟩ := S0.out
  obtain ⟨hxa, hxb, hab⟩ := NE.out
  have T := Aside0.mk (And.intro hH6 (And.intro (hF.trans hF6) (And.intro (hn6) (And.intro ((ho6 a (Ne.symm hxa)).trans ha) (And.intro ((ho6 b (Ne.symm hxb)).trans hb) (fun k qx qa qb => (ho6 k qx).trans (hO k qx qa qb)))))))
  clear S0 hH6 hF6 hn6 ho6 hH hF hx ha hb hO hxa hxb hab
  have S0 := T
  clear T
  obtain ⟨hH, hF, hx, ha, hb, hO⟩ := S0.out
  obtain ⟨rfl, rfl⟩ := HE.out
  refine ⟨_, _, rfl, hH, hF, hx, ha, fun k hkx hka => ?_⟩
  by_cases hkb : k = b
  · subst hkb; exact hb.trans HB.out.symm
  · exact hO k hkx hka hkb
end Go.Proofs.Ytkfcflflgecljaa.H
