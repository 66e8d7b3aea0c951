/- left of a bag's node over string: what it leaves. -/
import Derived.Test.YtkfcflflgecljaaHBagKS
import Derived.Deep.DeepCutAuto
import Derived.Deep.CutBlock
import Derived.Deep.QuietTactic
import Derived.BigQuiet
set_option linter.unusedVariables false
set_option linter.unusedSimpArgs false
namespace Go.Proofs.Ytkfcflflgecljaa.H
open Go.RowKit Go.Proofs.YtkfcflflgecljaaW.PrintWords Go.Proofs.YtkfcflflgecljaaW.PrintLast
set_option maxRecDepth 100000
/-- What left leaves. -/
def LeftPostS (own : Own) (H : HP ByteArray) (w : World) (x a b : Nat) (xn an bn : Nd ByteArray) (e : Ending) (w' : World) : Prop :=
  ∃ own' H', e = .returned (.tuple #[]) ∧ Heap LS w' own' H' ∧ Fr own own' w w' ∧ H' x = some xn ∧ H' a = some an ∧ H' b = some bn ∧ ∀ k, k ≠ x → k ≠ a → k ≠ b → H' k = H k
theorem row_oneS (f : Nat) (nd : Nd ByteArray) : ∀ u ∈ nd.row LS f, u.oneCell' = true := by
  intro u hu
  rcases f with _ | _ | f
  · obtain ⟨y, _, rfl⟩ := List.mem_map.1 hu; rfl
  · obtain ⟨y, _, rfl⟩ := List.mem_map.1 hu; rfl
  · obtain ⟨y, _, rfl⟩ := List.mem_map.1 hu; rfl
set_option maxHeartbeats 16000000 in
theorem leftS.calls {own : Own} {H : HP ByteArray} (x a b i m : Nat) (xk : List Int) (xv : List ByteArray) (xc : List Nat) (ak : List Int) (av : List ByteArray) (ac : List Nat) (bk : List Int) (bv : List ByteArray) (bc : List Nat) (w : World)
    (hH : Heap LS w own H) (hx : H x = some ⟨xk, xv, xc⟩) (ha : H a = some ⟨ak, av, ac⟩) (hb : H b = some ⟨bk, bv, bc⟩) (hxa : x ≠ a) (hxb : x ≠ b) (hab : a ≠ b)
    (hca : xc[i]? = some a) (hcb : xc[i + 1]? = some b) (ki : Int) (vi : ByteArray) (km : Int) (vm : ByteArray) (hki : xk[i]? = some ki) (hvi : xv[i]? = some vi) (hkm : ak[m]? = some km) (hvm : av[m]? = some vm) (hlk : ak.length = m + 1) (hlv : av.length = m + 1)
    (h1 : xc.length ≤ 50) (h2 : xk.length ≤ 50) (h3 : xv.length ≤ 50) (h4 : m ≤ 50) (h5 : bk.length ≤ 50) (h6 : bv.length ≤ 50) (h7 : bc.length ≤ 50) (h8 : ac = [] ∨ ac.length = m + 2) :
    Calls Try.prog 85 #[.pointer (some ⟨x, 0, none⟩), .int .i64 (i + 1 : Nat)] w
      (LeftPostS own H w x a b ⟨xk.set i km, xv.set i vm, xc⟩ ⟨ak.take m, av.take m, ac.take (m + 1)⟩ ⟨ki :: bk, vi :: bv, if ac = [] then bc else ac.getLastD 0 :: bc⟩) := by
  obtain ⟨XA0, xc0, XA1, xc1, XA2, xc2, vx⟩ := hH.view hx
  obtain ⟨AA0, ac0, AA1, ac1, AA2, ac2, va⟩ := hH.view ha
  obtain ⟨g2, rfl, y1, y2, _, _⟩ := vx.r2.get (j := i) (u := ptrV a) (by simp [Nd.row, hca]) (by simp [Nd.row])
  obtain ⟨g2', e2, y3, _, _, _⟩ := vx.r2.get (j := i + 1) (u := ptrV b) (by simp [Nd.row, hcb]) (by simp [Nd.row])
  obtain rfl := addr_inj e2
  clear e2
  have k2 : w.cell? ⟨x, 2, none⟩ = some (.slice (some ⟨g2, 0, none⟩) xc.length xc2) := vx.k2
  have q1 : w.cell? ⟨g2, i, none⟩ = some (.pointer (some ⟨a, 0, none⟩)) := y1
  have q2 : w.cell? ⟨g2, i + 1, none⟩ = some (.pointer (some ⟨b, 0, none⟩)) := y3
  have ka : w.cell? ⟨a, 0, none⟩ = some (.slice AA0 (m + 1) ac0) := by have := va.k0; simp only at this; rw [hlk] at this; exact this
  have hic : i + 1 < xc.length := (List.getElem?_eq_some_iff.1 hcb).1
  have hik : i < xk.length := (List.getElem?_eq_some_iff.1 hki).1
  have hiv : i < xv.length := (List.getElem?_eq_some_iff.1 hvi).1
  generalize hn2 : xc.length = n2 at k2 hic h1
  have e1 : ((i + 1 : Nat) : Int) - 1 = (i : Int) := by omega
  have e3 : IntKind.i64.wrap (((i + 1 : Nat) : Int) - 1) = (i : Int) := by rw [IntKind.wrap_i64]; omega
  have e4 : IntKind.i64.wrap ((i : Int) + 1 - 1) = (i : Int) := by rw [IntKind.wrap_i64]; omega
  have e5 : IntKind.i64.wrap (i : Int) = (i : Int) := by rw [IntKind.wrap_i64]; omega
  have i0 : (0 : Int) ≤ (i : Int) := by omega
  have i1 : (i : Int) < (n2 : Int) := by omega
  have i2 : ((i + 1 : Nat) : Int) < (n2 : Int) := by omega
  have i3 : (0 : Int) ≤ ((i + 1 : Nat) : Int) := by omega
  have em : wrap64 (((m + 1 : Nat) : Int) - 1) = (m : Int) := by rw [IntWalk.wrap64_in _ (by omega)]; omega
  have HH := Aside0.mk hH
  have HX := Aside0.mk hx
  have HA := Aside0.mk ha
  have HB := Aside0.mk hb
  have HCA := Aside0.mk (And.intro hca hcb)
  have HK := Aside0.mk (And.intro (And.intro hki hvi) (And.intro hkm hvm))
  have HL := Aside0.mk (And.intro hlk (And.intro hlv (And.intro hn2 (And.intro hik hiv))))
  have HN := Aside0.mk (And.intro hxa (And.intro hxb hab))
  have H8 := Aside0.mk h8
  generalize hxn : (⟨xk.set i km, xv.set i vm, xc⟩ : Nd ByteArray) = xn
  generalize han : (⟨ak.take m, av.take m, ac.take (m + 1)⟩ : Nd ByteArray) = an
  generalize hbn : (⟨ki :: bk, vi :: bv, if ac = [] then bc else ac.getLastD 0 :: bc⟩ : Nd ByteArray) = bn
  have HE := Aside0.mk (And.intro hxn (And.intro han hbn))
  clear hxn han hbn
  clear hH hx ha hb vx va y1 y2 y3 hca hcb hki hvi hkm hvm hlk hlv hn2 hxa hxb hab h8 hik hiv
  go_enter Try.func85, Try.ntmps85
  go_wp2_with fail
  go_quiet (fail)
  go_wp2_with fail
  clear em e1 e3 e4 e5
  have e3 : IntKind.i64.wrap ((i : Int) + 1 - 1) = (i : Int) := by rw [IntKind.wrap_i64]; omega
  have e5 : IntKind.i64.wrap (i : Int) = (i : Int) := by rw [IntKind.wrap_i64]; omega
  obtain ⟨hxa, hxb, hab⟩ := HN.out
  have hH0 := HH.out.drewN nq
  have hF0 : Fr own own w (w.drewN nq) := Fr.drewN own w nq
  clear k2 q1 q2 ka
  have NE := Aside0.mk (And.intro hxa (And.intro hxb hab))
  have S0 := Aside0.mk (And.intro hH0 (And.intro hF0 (And.intro HX.out (And.intro HA.out (And.intro HB.out (fun k (_ : k ≠ x) (_ : k ≠ a) (_ : k ≠ b) => (rfl : H k = H k)))))))
  clear hxa hxb hab hH0 hF0 HH HX HA HB
  generalize w.drewN nq = w0 at S0 ⊢

  go_cut [] (fun w1 => Step LS own H w0 b (⟨ki :: bk, bv, bc⟩ : Nd ByteArray) w1)
  case first =>
    obtain ⟨hH, _, hx, ha, hb, _⟩ := S0.out
    obtain ⟨hxa, hxb, hab⟩ := NE.out
    have lk : (i : Int) < (xk.length : Int) := by have := HL.out; omega
    have lv : (i : Int) < (xv.length : Int) := by have := HL.out; omega
    obtain ⟨BA0, bc0, BA1, bc1, BA2, bc2, vb⟩ := hH.view hb
    obtain ⟨XA0, xc0, XA1, xc1, XA2, xc2, vx⟩ := hH.view hx
    obtain ⟨gx, rfl, y, yo, yf, yl⟩ := vx.r0.get (j := i) (u := .int .i64 ki) (by simp [Nd.row, LS, HK.out.1.1]) (by simp [Nd.row])
    refine startL (Sees own (b, 0) w0) [17] (by kernel_rfl) ?_
    change WalkL _ _ _ _ _ _ 18 #[false, false, false, false, false, false, false, false, false, false, false, false, false, false, false, false, false, false] _ _
    have hS : Sees own (b, 0) w0 w0.drew := Sees.refl _ _ _
    refine pu 0 (.pointer (some ⟨b, 0, none⟩)) hS rfl ?_
    refine pu 1 (.pointer (some ⟨b, 0, none⟩)) hS rfl ?_
    refine pu 2 (.pointer (some ⟨b, 0, none⟩)) hS rfl ?_
    refine pu 3 (.pointer (some ⟨b, 0, none⟩)) hS rfl ?_
    refine lb 4 (.slice (BA0) (bk.length) (bc0)) hS vb.k0 vb.mine (by simp) rfl ?_
    refine pu 5 (.pointer (some ⟨x, 0, none⟩)) hS rfl ?_
    refine pu 6 (.pointer (some ⟨x, 0, none⟩)) hS rfl ?_
    refine pu 7 (.pointer (some ⟨x, 0, none⟩)) hS rfl ?_
    refine lb 8 (.slice (some ⟨gx, 0, none⟩) (xk.length) (xc0)) hS vx.k0 vx.mine (by simp) rfl ?_
    refine pu 9 (.int .i64 ((i : Int) + 1)) hS rfl ?_
    refine pu 10 (.int .i64 ((i : Int))) hS rfl ?_
    refine pu 11 (.pointer (some ⟨gx, i, none⟩)) hS rfl ?_
    refine lb 12 (.int .i64 ki) hS y yo (by simp [hxb]) rfl ?_
    refine al 13 (.slice (some ⟨w0.heap.size, 0, none⟩) (1) (1)) (w0.drew.alloc (.cells #[.int .i64 ki] 2)) (by kernel_rfl) rfl (hS.alloc hH _) ?_
    refine co 14 42 33 #[.slice BA0 bk.length bc0, .int .i64 0, .slice (some ⟨w0.heap.size, 0, none⟩) 1 1] (InsI.fresh (.slice BA0 bk.length bc0) (Nd.row LS (⟨bk, bv, bc⟩ : Nd ByteArray) 0) 0 (.int .i64 ki) w0.drew vb.r0.row (by simp only [Nd.row, List.length_map]; omega) (by rfl) (row_oneS 0 _) (by simp only [Nd.row, List.length_map]; omega)) (by kernel_rfl) rfl ?_
    rintro e w2 ⟨A', n', c', rfl, hop⟩
    have hS2 := hS.grown hH hop.grow (fun g hg => .inl (vb.r0.mine g hg))
    refine ⟨_, rfl, hS2, ?_⟩
    have q1 := (World.cell?_of_block (a := ⟨b, 0, none⟩) (hS2.1 b _ vb.mine (by simp))).trans vb.k0
    have q2 := (World.frozen?_of_block (a := ⟨b, 0, none⟩) (hS2.1 b _ vb.mine (by simp))).trans (vb.free 0)
    refine pu 15 (.pointer (some ⟨b, 0, none⟩)) hS2 rfl ?_
    refine pu 16 (.pointer (some ⟨b, 0, none⟩)) hS2 rfl ?_
    refine st 17 (w2.setCell ⟨b, 0, none⟩ (.slice A' n' c')) (by kernel_rfl) rfl ?_
    refine doneL (by kernel_rfl) ?_ _
    go_wp2_with fail
    go_meet
    exact hH.step (⟨ki :: bk, bv, bc⟩ : Nd ByteArray) hb 0 (by decide) vb.k0 hop.of_drew (by simp [Nd.row] <;> rfl) (by intro j hj hne; rcases j with _ | _ | _ | j <;> first | rfl | omega)
  case rest =>
  obtain ⟨w1, hwc⟩ : ∃ W, W = wc := ⟨_, rfl⟩
  subst hwc
  obtain ⟨own1, H1, hH1, hF1, hn1, ho1⟩ := hcut
  obtain ⟨hH, hF, hx, ha, hb, hO⟩ := S0.out
  obtain ⟨hxa, hxb, hab⟩ := NE.out
  have T := Aside0.mk (And.intro hH1 (And.intro (hF.trans hF1) (And.intro ((ho1 x hxb).trans hx) (And.intro ((ho1 a hab).trans ha) (And.intro (hn1) (fun k qx qa qb => (ho1 k qb).trans (hO k qx qa qb)))))))
  clear S0 hH1 hF1 hn1 ho1 hH hF hx ha hb hO hxa hxb hab
  have S0 := T
  clear T
  go_wp2_with fail
  go_cut [] (fun w2 => Step LS own1 H1 w1 b (⟨ki :: bk, vi :: bv, bc⟩ : Nd ByteArray) w2)
  case first =>
    obtain ⟨hH, _, hx, ha, hb, _⟩ := S0.out
    obtain ⟨hxa, hxb, hab⟩ := NE.out
    have lk : (i : Int) < (xk.length : Int) := by have := HL.out; omega
    have lv : (i : Int) < (xv.length : Int) := by have := HL.out; omega
    obtain ⟨BA0, bc0, BA1, bc1, BA2, bc2, vb⟩ := hH.view hb
    obtain ⟨XA0, xc0, XA1, xc1, XA2, xc2, vx⟩ := hH.view hx
    obtain ⟨gx, rfl, y, yo, yf, yl⟩ := vx.r1.get (j := i) (u := .string vi) (by simp [Nd.row, LS, HK.out.1.2]) (by simp [Nd.row])
    refine startL (Sees own1 (b, 1) w1) [17] (by kernel_rfl) ?_
    change WalkL _ _ _ _ _ _ 18 #[false, false, false, false, false, false, false, false, false, false, false, false, false, false, false, false, false, false] _ _
    have hS : Sees own1 (b, 1) w1 w1.drew := Sees.refl _ _ _
    refine pu 0 (.pointer (some ⟨b, 0, none⟩)) hS rfl ?_
    refine pu 1 (.pointer (some ⟨b, 0, none⟩)) hS rfl ?_
    refine pu 2 (.pointer (some ⟨b, 0, none⟩)) hS rfl ?_
    refine pu 3 (.pointer (some ⟨b, 1, none⟩)) hS rfl ?_
    refine lb 4 (.slice (BA1) (bv.length) (bc1)) hS vb.k1 vb.mine (by simp) rfl ?_
    refine pu 5 (.pointer (some ⟨x, 0, none⟩)) hS rfl ?_
    refine pu 6 (.pointer (some ⟨x, 0, none⟩)) hS rfl ?_
    refine pu 7 (.pointer (some ⟨x, 1, none⟩)) hS rfl ?_
    refine lb 8 (.slice (some ⟨gx, 0, none⟩) (xv.length) (xc1)) hS vx.k1 vx.mine (by simp) rfl ?_
    refine pu 9 (.int .i64 ((i : Int) + 1)) hS rfl ?_
    refine pu 10 (.int .i64 ((i : Int))) hS rfl ?_
    refine pu 11 (.pointer (some ⟨gx, i, none⟩)) hS rfl ?_
    refine lb 12 (.string vi) hS y yo (by simp [hxb]) rfl ?_
    refine al 13 (.slice (some ⟨w1.heap.size, 0, none⟩) (1) (1)) (w1.drew.alloc (.cells #[.string vi] 9)) (by kernel_rfl) rfl (hS.alloc hH _) ?_
    refine co 14 59 44 #[.slice BA1 bv.length bc1, .int .i64 0, .slice (some ⟨w1.heap.size, 0, none⟩) 1 1] (InsS.fresh (.slice BA1 bv.length bc1) (Nd.row LS (⟨ki :: bk, bv, bc⟩ : Nd ByteArray) 1) 0 (.string vi) w1.drew vb.r1.row (by simp only [Nd.row, List.length_map]; omega) (by rfl) (row_oneS 1 _) (by simp only [Nd.row, List.length_map]; omega)) (by kernel_rfl) rfl ?_
    rintro e w2 ⟨A', n', c', rfl, hop⟩
    have hS2 := hS.grown hH hop.grow (fun g hg => .inl (vb.r1.mine g hg))
    refine ⟨_, rfl, hS2, ?_⟩
    have q1 := (World.cell?_of_block (a := ⟨b, 1, none⟩) (hS2.1 b _ vb.mine (by simp))).trans vb.k1
    have q2 := (World.frozen?_of_block (a := ⟨b, 1, none⟩) (hS2.1 b _ vb.mine (by simp))).trans (vb.free 1)
    refine pu 15 (.pointer (some ⟨b, 0, none⟩)) hS2 rfl ?_
    refine pu 16 (.pointer (some ⟨b, 1, none⟩)) hS2 rfl ?_
    refine st 17 (w2.setCell ⟨b, 1, none⟩ (.slice A' n' c')) (by kernel_rfl) rfl ?_
    refine doneL (by kernel_rfl) ?_ _
    go_wp2_with fail
    go_meet
    exact hH.step (⟨ki :: bk, vi :: bv, bc⟩ : Nd ByteArray) hb 1 (by decide) vb.k1 hop.of_drew (by simp [Nd.row] <;> rfl) (by intro j hj hne; rcases j with _ | _ | _ | j <;> first | rfl | omega)
  case rest =>
  obtain ⟨w2, hwc⟩ : ∃ W, W = wc := ⟨_, rfl⟩
  subst hwc
  obtain ⟨own2, H2, hH2, hF2, hn2, ho2⟩ := hcut
  obtain ⟨hH, hF, hx, ha, hb, hO⟩ := S0.out
  obtain ⟨hxa, hxb, hab⟩ := NE.out
  have T := Aside0.mk (And.intro hH2 (And.intro (hF.trans hF2) (And.intro ((ho2 x hxb).trans hx) (And.intro ((ho2 a hab).trans ha) (And.intro (hn2) (fun k qx qa qb => (ho2 k qb).trans (hO k qx qa qb)))))))
  clear S0 hH2 hF2 hn2 ho2 hH hF hx ha hb hO hxa hxb hab
  have S0 := T
  clear T
  go_wp2_with fail
  go_cut [] (fun w3 => Step LS own2 H2 w2 x (⟨xk.set i km, xv.set i vm, xc⟩ : Nd ByteArray) w3)
  case first =>
    obtain ⟨hH, _, hx, ha, hb, _⟩ := S0.out
    obtain ⟨hxa, hxb, hab⟩ := NE.out
    have lk : (i : Int) < (xk.length : Int) := by have := HL.out; omega
    have lv : (i : Int) < (xv.length : Int) := by have := HL.out; omega
    have lm0 : (m : Int) < (ak.length : Int) := by have := HL.out; omega
    have lm1 : (m : Int) < (av.length : Int) := by have := HL.out; omega
    obtain ⟨XA0, xc0, XA1, xc1, XA2, xc2, vx⟩ := hH.view hx
    obtain ⟨AA0, ac0, AA1, ac1, AA2, ac2, va⟩ := hH.view ha
    obtain ⟨gx0, rfl, y0, y0o, y0f, y0l⟩ := vx.r0.get (j := i) (u := .int .i64 ki) (by simp [Nd.row, LS, HK.out.1.1]) (by simp [Nd.row])
    obtain ⟨gs0, rfl, z0, z0o, z0f, z0l⟩ := va.r0.get (j := m) (u := .int .i64 km) (by simp [Nd.row, LS, HK.out.2.1]) (by simp [Nd.row])
    obtain ⟨gx1, rfl, y1, y1o, y1f, y1l⟩ := vx.r1.get (j := i) (u := .string vi) (by simp [Nd.row, LS, HK.out.1.2]) (by simp [Nd.row])
    obtain ⟨gs1, rfl, z1, z1o, z1f, z1l⟩ := va.r1.get (j := m) (u := .string vm) (by simp [Nd.row, LS, HK.out.2.2]) (by simp [Nd.row])
    have g01 : gx0 ≠ gx1 := fun e => by rw [e, y1o] at y0o; simp at y0o
    have gx : x ≠ gx0 := fun e => by have := vx.mine; rw [e, y0o] at this; simp at this
    refine startL (Sees own2 (0, 9) w2) [27, 29] (by kernel_rfl) ?_
    change WalkL _ _ _ _ _ _ 30 #[false, false, false, false, false, false, false, false, false, false, false, false, false, false, false, false, false, false, false, false, false, false, false, false, false, false, false, false, false, false] _ _
    have hS : Sees own2 (0, 9) w2 w2.drew := Sees.refl _ _ _
    refine pu 0 (.pointer (some ⟨x, 0, none⟩)) hS rfl ?_
    refine pu 1 (.pointer (some ⟨x, 0, none⟩)) hS rfl ?_
    refine pu 2 (.pointer (some ⟨x, 0, none⟩)) hS rfl ?_
    refine lb 3 (.slice (some ⟨gx0, 0, none⟩) (xk.length) (xc0)) hS vx.k0 vx.mine (by simp) rfl ?_
    refine pu 4 (.int .i64 ((i : Int) + 1)) hS rfl ?_
    refine pu 5 (.int .i64 ((i : Int))) hS rfl ?_
    refine pu 6 (.pointer (some ⟨x, 0, none⟩)) hS rfl ?_
    refine pu 7 (.pointer (some ⟨x, 0, none⟩)) hS rfl ?_
    refine pu 8 (.pointer (some ⟨x, 1, none⟩)) hS rfl ?_
    refine lb 9 (.slice (some ⟨gx1, 0, none⟩) (xv.length) (xc1)) hS vx.k1 vx.mine (by simp) rfl ?_
    refine pu 10 (.int .i64 ((i : Int) + 1)) hS rfl ?_
    refine pu 11 (.int .i64 ((i : Int))) hS rfl ?_
    refine pu 12 (.pointer (some ⟨a, 0, none⟩)) hS rfl ?_
    refine pu 13 (.pointer (some ⟨a, 0, none⟩)) hS rfl ?_
    refine pu 14 (.pointer (some ⟨a, 0, none⟩)) hS rfl ?_
    refine lb 15 (.slice (some ⟨gs0, 0, none⟩) (ak.length) (ac0)) hS va.k0 va.mine (by simp) rfl ?_
    refine pu 16 (.int .i64 ((m : Int))) hS rfl ?_
    refine pu 17 (.pointer (some ⟨gs0, m, none⟩)) hS rfl ?_
    refine lb 18 (.int .i64 km) hS z0 z0o (by simp) rfl ?_
    refine pu 19 (.pointer (some ⟨a, 0, none⟩)) hS rfl ?_
    refine pu 20 (.pointer (some ⟨a, 0, none⟩)) hS rfl ?_
    refine pu 21 (.pointer (some ⟨a, 1, none⟩)) hS rfl ?_
    refine lb 22 (.slice (some ⟨gs1, 0, none⟩) (av.length) (ac1)) hS va.k1 va.mine (by simp) rfl ?_
    refine pu 23 (.int .i64 ((m : Int))) hS rfl ?_
    refine pu 24 (.pointer (some ⟨gs1, m, none⟩)) hS rfl ?_
    refine lb 25 (.string vm) hS z1 z1o (by simp) rfl ?_
    refine pu 26 (.pointer (some ⟨gx0, i, none⟩)) hS rfl ?_
    refine st 27 (w2.drew.setCell ⟨gx0, i, none⟩ (.int .i64 km)) (by kernel_rfl) rfl ?_
    refine pv 28 (.pointer (some ⟨gx1, i, none⟩)) rfl ?_
    have u1 : (w2.drew.setCell ⟨gx0, i, none⟩ (.int .i64 km)).cell? ⟨gx1, i, none⟩ = _ := (cell_farB _ _ _ _ _ (Ne.symm g01)).trans y1
    have u2 : (w2.drew.setCell ⟨gx0, i, none⟩ (.int .i64 km)).frozen? ⟨gx1, i, none⟩ = false := (frozen_set1 _ _ _ _ _).trans y1f
    refine st 29 ((w2.drew.setCell ⟨gx0, i, none⟩ (.int .i64 km)).setCell ⟨gx1, i, none⟩ (.string vm)) (by kernel_rfl) rfl ?_
    refine doneL (by kernel_rfl) ?_ _
    go_wp2_with fail
    go_meet
    refine Step.then (n1 := (⟨xk.set i km, xv, xc⟩ : Nd ByteArray)) (Step.of_drew ((hH.drewN 1).stepCell (u := .int .i64 km) (⟨xk.set i km, xv, xc⟩ : Nd ByteArray) hx 0 (by decide) vx.k0 (show i < xk.length by omega) (by simp [Nd.row, List.map_set]) (by intro j hj hne; rcases j with _ | _ | _ | j <;> first | rfl | omega))) fun own1 H1 h1 hn1 => ?_
    exact h1.stepCell (u := .string vm) (⟨xk.set i km, xv.set i vm, xc⟩ : Nd ByteArray) hn1 1 (by decide) ((cell_farB _ _ _ _ _ gx).trans vx.k1) (show i < xv.length by omega) (by simp [Nd.row, List.map_set, LS]) (by intro j hj hne; rcases j with _ | _ | _ | j <;> first | rfl | omega)
  case rest =>
  obtain ⟨w3, hwc⟩ : ∃ W, W = wc := ⟨_, rfl⟩
  subst hwc
  obtain ⟨own3, H3, hH3, hF3, hn3, ho3⟩ := hcut
  obtain ⟨hH, hF, hx, ha, hb, hO⟩ := S0.out
  obtain ⟨hxa, hxb, hab⟩ := NE.out
  have T := Aside0.mk (And.intro hH3 (And.intro (hF.trans hF3) (And.intro (hn3) (And.intro ((ho3 a (Ne.symm hxa)).trans ha) (And.intro ((ho3 b (Ne.symm hxb)).trans hb) (fun k qx qa qb => (ho3 k qx).trans (hO k qx qa qb)))))))
  clear S0 hH3 hF3 hn3 ho3 hH hF hx ha hb hO hxa hxb hab
  have S0 := T
  clear T
  go_wp2_with fail
  refine (leafS.calls a (⟨ak, av, ac⟩ : Nd ByteArray) w3 S0.out.1 S0.out.2.2.2.1).mono ?_
  rintro e w' ⟨rfl, hw⟩
  obtain rfl := hw.symm
  clear hw
  rcases H8.out with hac | hac
  · subst hac
    simp only [List.isEmpty_nil]
    go_wp2_with fail
    go_wp2_with fail
    obtain ⟨hH, _, hx, ha, hb, _⟩ := S0.out
    obtain ⟨hxa, hxb, hab⟩ := NE.out
    have lk0 : (m : Int) < (ak.length : Int) := by have := HL.out; omega
    have lk1 : (m : Int) < (av.length : Int) := by have := HL.out; omega
    obtain ⟨AA0, ac0, AA1, ac1, AA2, ac2, va⟩ := hH.view ha
    obtain ⟨g0, rfl, _, _, _, _⟩ := va.r0.get (j := m) (u := (Nd.row LS (⟨ak, av, []⟩ : Nd ByteArray) 0)[m]'(by simp only [Nd.row, List.length_map]; omega)) (List.getElem?_eq_getElem _) (by simp only [Nd.row, List.length_map])
    obtain ⟨g1, rfl, _, _, _, _⟩ := va.r1.get (j := m) (u := (Nd.row LS (⟨ak, av, []⟩ : Nd ByteArray) 1)[m]'(by simp only [Nd.row, List.length_map]; omega)) (List.getElem?_eq_getElem _) (by simp only [Nd.row, List.length_map])
    have mc0 : (m : Int) ≤ (ac0 : Int) := by have := va.l0; simp only at this; omega
    have mc1 : (m : Int) ≤ (ac1 : Int) := by have := va.l1; simp only at this; omega
    have p0 := va.k0
    have p1 := va.k1
    have f0 := va.free 0
    have f1 := va.free 1
    refine startL (Sees own3 (0, 9) w3) [16, 19] (by kernel_rfl) ?_
    change WalkL _ _ _ _ _ _ 20 #[false, false, false, false, false, false, false, false, false, false, false, false, false, false, false, false, false, false, false, false] _ _
    have hS : Sees own3 (0, 9) w3 w3.drew := Sees.refl _ _ _
    refine pu 0 (.pointer (some ⟨a, 0, none⟩)) hS rfl ?_
    refine pu 1 (.pointer (some ⟨a, 0, none⟩)) hS rfl ?_
    refine pu 2 (.pointer (some ⟨a, 0, none⟩)) hS rfl ?_
    refine pu 3 (.pointer (some ⟨a, 0, none⟩)) hS rfl ?_
    refine pu 4 (.pointer (some ⟨a, 0, none⟩)) hS rfl ?_
    refine lb 5 (.slice (some ⟨g0, 0, none⟩) ((ak).length) (ac0)) hS va.k0 va.mine (by simp) rfl ?_
    refine pu 6 (.int .i64 ((m : Int))) hS rfl ?_
    refine pu 7 (.slice (some ⟨g0, 0, none⟩) (m) (ac0)) hS rfl ?_
    refine pu 8 (.pointer (some ⟨a, 0, none⟩)) hS rfl ?_
    refine pu 9 (.pointer (some ⟨a, 0, none⟩)) hS rfl ?_
    refine pu 10 (.pointer (some ⟨a, 1, none⟩)) hS rfl ?_
    refine lb 11 (.slice (some ⟨g1, 0, none⟩) ((av).length) (ac1)) hS va.k1 va.mine (by simp) rfl ?_
    refine pu 12 (.int .i64 ((m : Int))) hS rfl ?_
    refine pu 13 (.slice (some ⟨g1, 0, none⟩) (m) (ac1)) hS rfl ?_
    refine pu 14 (.pointer (some ⟨a, 0, none⟩)) hS rfl ?_
    refine pu 15 (.pointer (some ⟨a, 0, none⟩)) hS rfl ?_
    refine st 16 (w3.drew.setCell ⟨a, 0, none⟩ (.slice (some ⟨g0, 0, none⟩) (m) ac0)) (by kernel_rfl) rfl ?_
    refine pv 17 (.pointer (some ⟨a, 0, none⟩)) rfl ?_
    refine pv 18 (.pointer (some ⟨a, 1, none⟩)) rfl ?_
    have u1 : (w3.drew.setCell ⟨a, 0, none⟩ (.slice (some ⟨g0, 0, none⟩) (m) ac0)).cell? ⟨a, 1, none⟩ = _ := (cell_off _ _ _ _ _ (by decide)).trans p1
    have u2 : (w3.drew.setCell ⟨a, 0, none⟩ (.slice (some ⟨g0, 0, none⟩) (m) ac0)).frozen? ⟨a, 1, none⟩ = false := (frozen_set1 _ _ _ _ _).trans f1
    refine st 19 ((w3.drew.setCell ⟨a, 0, none⟩ (.slice (some ⟨g0, 0, none⟩) (m) ac0)).setCell ⟨a, 1, none⟩ (.slice (some ⟨g1, 0, none⟩) (m) ac1)) (by kernel_rfl) rfl ?_
    refine doneL (by kernel_rfl) ?_ _
    have hcut : Step LS own3 H3 w3 a (⟨(ak).take m, (av).take m, []⟩ : Nd ByteArray) ((w3.drew.setCell ⟨a, 0, none⟩ (.slice (some ⟨g0, 0, none⟩) (m) ac0)).setCell ⟨a, 1, none⟩ (.slice (some ⟨g1, 0, none⟩) (m) ac1)) := by
      refine Step.then (n1 := (⟨(ak).take m, av, []⟩ : Nd ByteArray)) (Step.of_drew ((hH.drewN 1).step (⟨(ak).take m, av, []⟩ : Nd ByteArray) ha 0 (by decide) va.k0 (rowCut va.r0.row (by simp [Nd.row]) (k := m) (by simp only [Nd.row, List.length_map]; omega)) (by simp [Nd.row, List.map_take]) (by intro j hj hne; rcases j with _ | _ | _ | j <;> first | rfl | omega))) fun own1 H1 h1 hn1 => ?_
      obtain ⟨_, _, _, _, _, _, v4⟩ := h1.view hn1
      have e4 := v4.k1.symm.trans ((cell_off _ _ _ _ _ (by decide)).trans p1)
      injection e4 with e4
      have r4 := v4.r1.row
      rw [e4] at r4
      exact h1.step (⟨(ak).take m, (av).take m, []⟩ : Nd ByteArray) hn1 1 (by decide) ((cell_off _ _ _ _ _ (by decide)).trans p1) (rowCut r4 (by simp [Nd.row]) (k := m) (by simp only [Nd.row, List.length_map]; omega)) (by simp [Nd.row, List.map_take]) (by intro j hj hne; rcases j with _ | _ | _ | j <;> first | rfl | omega)
    generalize ((w3.drew.setCell ⟨a, 0, none⟩ (.slice (some ⟨g0, 0, none⟩) (m) ac0)).setCell ⟨a, 1, none⟩ (.slice (some ⟨g1, 0, none⟩) (m) ac1)) = wc at hcut ⊢
    obtain ⟨w4, hwc⟩ : ∃ W, W = wc := ⟨_, rfl⟩
    subst hwc
    obtain ⟨own4, H4, hH4, hF4, hn4, ho4⟩ := hcut
    obtain ⟨hH, hF, hx, ha, hb, hO⟩ := S0.out
    obtain ⟨hxa, hxb, hab⟩ := NE.out
    have T := Aside0.mk (And.intro hH4 (And.intro (hF.trans hF4) (And.intro ((ho4 x hxa).trans hx) (And.intro (hn4) (And.intro ((ho4 b (Ne.symm hab)).trans hb) (fun k qx qa qb => (ho4 k qa).trans (hO k qx qa qb)))))))
    clear S0 hH4 hF4 hn4 ho4 hH hF hx ha hb hO hxa hxb hab
    have S0 := T
    clear T
    refine bodyPost_end (v := .tuple #[]) (by simp [results, Try.results85, go_sem]) (by rfl) ?_
    obtain ⟨hH, hF, hx, ha, hb, hO⟩ := S0.out
    obtain ⟨rfl, rfl, rfl⟩ := HE.out
    exact ⟨_, _, rfl, hH, hF, hx, ha, hb, hO⟩
  · obtain ⟨ae, hae⟩ : ∃ ae, ac[m + 1]? = some ae := ⟨_, List.getElem?_eq_getElem (by omega)⟩
    have hne : ac ≠ [] := by rintro rfl; simp at hac
    have hie : ac.isEmpty = false := by cases ac with | nil => exact absurd rfl hne | cons _ _ => rfl
    have hlast : ac.getLastD 0 = ae := by rw [List.getLastD_eq_getLast?, List.getLast?_eq_getElem?, hac, show m + 2 - 1 = m + 1 by omega, hae]; rfl
    rw [hie]
    have HAC := Aside0.mk (And.intro hac (And.intro hae (And.intro hne hlast)))
    clear hac hae hne hie hlast
    go_wp2_with fail
    go_wp2_with fail
    go_cut [] (fun w4 => Step LS own3 H3 w3 b (⟨ki :: bk, vi :: bv, ae :: bc⟩ : Nd ByteArray) w4)
    case first =>
      obtain ⟨hH, _, hx, ha, hb, _⟩ := S0.out
      obtain ⟨hxa, hxb, hab⟩ := NE.out
      have lm : (m : Int) + 1 < (ac.length : Int) := by have := HAC.out.1; omega
      have lm' : (0 : Int) ≤ (m : Int) + 1 := by omega
      have lt : ((m : Int) + 1).toNat = m + 1 := by omega
      have lw : IntKind.i64.wrap ((m : Int) + 1) = (m : Int) + 1 := by rw [IntKind.wrap_i64]; omega
      obtain ⟨BA0, bc0, BA1, bc1, BA2, bc2, vb⟩ := hH.view hb
      obtain ⟨AA0, ac0, AA1, ac1, AA2, ac2, va⟩ := hH.view ha
      obtain ⟨ga, rfl, y, yo, yf, yl⟩ := va.r2.get (j := m + 1) (u := ptrV ae) (by simp [Nd.row, LS, HAC.out.2.1]) (by simp [Nd.row])
      refine startL (Sees own3 (b, 2) w3) [17] (by kernel_rfl) ?_
      change WalkL _ _ _ _ _ _ 18 #[false, false, false, false, false, false, false, false, false, false, false, false, false, false, false, false, false, false] _ _
      have hS : Sees own3 (b, 2) w3 w3.drew := Sees.refl _ _ _
      refine pu 0 (.pointer (some ⟨b, 0, none⟩)) hS rfl ?_
      refine pu 1 (.pointer (some ⟨b, 0, none⟩)) hS rfl ?_
      refine pu 2 (.pointer (some ⟨b, 0, none⟩)) hS rfl ?_
      refine pu 3 (.pointer (some ⟨b, 2, none⟩)) hS rfl ?_
      refine lb 4 (.slice (BA2) (bc.length) (bc2)) hS vb.k2 vb.mine (by simp) rfl ?_
      refine pu 5 (.pointer (some ⟨a, 0, none⟩)) hS rfl ?_
      refine pu 6 (.pointer (some ⟨a, 0, none⟩)) hS rfl ?_
      refine pu 7 (.pointer (some ⟨a, 2, none⟩)) hS rfl ?_
      refine lb 8 (.slice (some ⟨ga, 0, none⟩) (ac.length) (ac2)) hS va.k2 va.mine (by simp) rfl ?_
      refine pu 9 (.int .i64 ((m : Int))) hS rfl ?_
      refine pu 10 (.int .i64 ((m : Int) + 1)) hS rfl ?_
      refine pu 11 (.pointer (some ⟨ga, (m + 1), none⟩)) hS rfl ?_
      refine lb 12 (.pointer (some ⟨ae, 0, none⟩)) hS y yo (by simp [hab]) rfl ?_
      refine al 13 (.slice (some ⟨w3.heap.size, 0, none⟩) (1) (1)) (w3.drew.alloc (.cells #[.pointer (some ⟨ae, 0, none⟩)] 66)) (by kernel_rfl) rfl (hS.alloc hH _) ?_
      refine co 14 107 66 #[.slice BA2 bc.length bc2, .int .i64 0, .slice (some ⟨w3.heap.size, 0, none⟩) 1 1] (InsQ.fresh (.slice BA2 bc.length bc2) (Nd.row LS (⟨ki :: bk, vi :: bv, bc⟩ : Nd ByteArray) 2) 0 (.pointer (some ⟨ae, 0, none⟩)) w3.drew vb.r2.row (by simp only [Nd.row, List.length_map]; omega) (by rfl) (row_oneS 2 _) (by simp only [Nd.row, List.length_map]; omega)) (by kernel_rfl) rfl ?_
      rintro e w2 ⟨A', n', c', rfl, hop⟩
      have hS2 := hS.grown hH hop.grow (fun g hg => .inl (vb.r2.mine g hg))
      refine ⟨_, rfl, hS2, ?_⟩
      have q1 := (World.cell?_of_block (a := ⟨b, 2, none⟩) (hS2.1 b _ vb.mine (by simp))).trans vb.k2
      have q2 := (World.frozen?_of_block (a := ⟨b, 2, none⟩) (hS2.1 b _ vb.mine (by simp))).trans (vb.free 2)
      refine pu 15 (.pointer (some ⟨b, 0, none⟩)) hS2 rfl ?_
      refine pu 16 (.pointer (some ⟨b, 2, none⟩)) hS2 rfl ?_
      refine st 17 (w2.setCell ⟨b, 2, none⟩ (.slice A' n' c')) (by kernel_rfl) rfl ?_
      refine doneL (by kernel_rfl) ?_ _
      go_wp2_with fail
      go_meet
      exact hH.step (⟨ki :: bk, vi :: bv, ae :: bc⟩ : Nd ByteArray) hb 2 (by decide) vb.k2 hop.of_drew (by simp [Nd.row, ptrV]) (by intro j hj hne; rcases j with _ | _ | _ | j <;> first | rfl | omega)
    case rest =>
    obtain ⟨w4, hwc⟩ : ∃ W, W = wc := ⟨_, rfl⟩
    subst hwc
    obtain ⟨own4, H4, hH4, hF4, hn4, ho4⟩ := hcut
    obtain ⟨hH, hF, hx, ha, hb, hO⟩ := S0.out
    obtain ⟨hxa, hxb, hab⟩ := NE.out
    have T := Aside0.mk (And.intro hH4 (And.intro (hF.trans hF4) (And.intro ((ho4 x hxb).trans hx) (And.intro ((ho4 a hab).trans ha) (And.intro (hn4) (fun k qx qa qb => (ho4 k qb).trans (hO k qx qa qb)))))))
    clear S0 hH4 hF4 hn4 ho4 hH hF hx ha hb hO hxa hxb hab
    have S0 := T
    clear T
    go_upto_region 7 with (fail)
    go_cut [] (fun w5 => Step LS own4 H4 w4 a (⟨ak, av, ac.take (m + 1)⟩ : Nd ByteArray) w5)
    case first =>
      obtain ⟨hH, _, hx, ha, hb, _⟩ := S0.out
      obtain ⟨hxa, hxb, hab⟩ := NE.out
      obtain ⟨AA0, ac0, AA1, ac1, AA2, ac2, va⟩ := hH.view ha
      obtain ⟨ga, rfl, y, yo, yf, yl⟩ := va.r2.get (j := m + 1) (u := ptrV ae) (by simp [Nd.row, LS, HAC.out.2.1]) (by simp [Nd.row])
      have lm : (m : Int) + 1 ≤ (ac2 : Int) := by have := va.l2; have := HAC.out.1; simp only at *; omega
      have p2 := va.k2
      have f2 := va.free 2
      have lt : ((m : Int) + 1).toNat = m + 1 := by omega
      go_wp2_with fail
      go_meet
      exact hH.step (⟨ak, av, ac.take (m + 1)⟩ : Nd ByteArray) ha 2 (by decide) va.k2 (rowCut va.r2.row (by simp [Nd.row]) (k := m + 1) (by have := HAC.out.1; simp only [Nd.row, List.length_map]; omega)) (by simp [Nd.row, List.map_take]) (by intro j hj hne; rcases j with _ | _ | _ | j <;> first | rfl | omega)
    case rest =>
    obtain ⟨w5, hwc⟩ : ∃ W, W = wc := ⟨_, rfl⟩
    subst hwc
    obtain ⟨own5, H5, hH5, hF5, hn5, ho5⟩ := hcut
    obtain ⟨hH, hF, hx, ha, hb, hO⟩ := S0.out
    obtain ⟨hxa, hxb, hab⟩ := NE.out
    have T := Aside0.mk (And.intro hH5 (And.intro (hF.trans hF5) (And.intro ((ho5 x hxa).trans hx) (And.intro (hn5) (And.intro ((ho5 b (Ne.symm hab)).trans hb) (fun k qx qa qb => (ho5 k qa).trans (hO k qx qa qb)))))))
    clear S0 hH5 hF5 hn5 ho5 hH hF hx ha hb hO hxa hxb hab
    have S0 := T
    clear T
    go_wp2_with fail
    obtain ⟨hH, _, hx, ha, hb, _⟩ := S0.out
    obtain ⟨hxa, hxb, hab⟩ := NE.out
    have lk0 : (m : Int) < (ak.length : Int) := by have := HL.out; omega
    have lk1 : (m : Int) < (av.length : Int) := by have := HL.out; omega
    obtain ⟨AA0, ac0, AA1, ac1, AA2, ac2, va⟩ := hH.view ha
    obtain ⟨g0, rfl, _, _, _, _⟩ := va.r0.get (j := m) (u := (Nd.row LS (⟨ak, av, ac.take (m + 1)⟩ : Nd ByteArray) 0)[m]'(by simp only [Nd.row, List.length_map]; omega)) (List.getElem?_eq_getElem _) (by simp only [Nd.row, List.length_map])
    obtain ⟨g1, rfl, _, _, _, _⟩ := va.r1.get (j := m) (u := (Nd.row LS (⟨ak, av, ac.take (m + 1)⟩ : Nd ByteArray) 1)[m]'(by simp only [Nd.row, List.length_map]; omega)) (List.getElem?_eq_getElem _) (by simp only [Nd.row, List.length_map])
    have mc0 : (m : Int) ≤ (ac0 : Int) := by have := va.l0; simp only at this; omega
    have mc1 : (m : Int) ≤ (ac1 : Int) := by have := va.l1; simp only at this; omega
    have p0 := va.k0
    have p1 := va.k1
    have f0 := va.free 0
    have f1 := va.free 1
    refine startL (Sees own5 (0, 9) w5) [16, 19] (by kernel_rfl) ?_
    change WalkL _ _ _ _ _ _ 20 #[false, false, false, false, false, false, false, false, false, false, false, false, false, false, false, false, false, false, false, false] _ _
    have hS : Sees own5 (0, 9) w5 w5.drew := Sees.refl _ _ _
    refine pu 0 (.pointer (some ⟨a, 0, none⟩)) hS rfl ?_
    refine pu 1 (.pointer (some ⟨a, 0, none⟩)) hS rfl ?_
    refine pu 2 (.pointer (some ⟨a, 0, none⟩)) hS rfl ?_
    refine pu 3 (.pointer (some ⟨a, 0, none⟩)) hS rfl ?_
    refine pu 4 (.pointer (some ⟨a, 0, none⟩)) hS rfl ?_
    refine lb 5 (.slice (some ⟨g0, 0, none⟩) ((ak).length) (ac0)) hS va.k0 va.mine (by simp) rfl ?_
    refine pu 6 (.int .i64 ((m : Int))) hS rfl ?_
    refine pu 7 (.slice (some ⟨g0, 0, none⟩) (m) (ac0)) hS rfl ?_
    refine pu 8 (.pointer (some ⟨a, 0, none⟩)) hS rfl ?_
    refine pu 9 (.pointer (some ⟨a, 0, none⟩)) hS rfl ?_
    refine pu 10 (.pointer (some ⟨a, 1, none⟩)) hS rfl ?_
    refine lb 11 (.slice (some ⟨g1, 0, none⟩) ((av).length) (ac1)) hS va.k1 va.mine (by simp) rfl ?_
    refine pu 12 (.int .i64 ((m : Int))) hS rfl ?_
    refine pu 13 (.slice (some ⟨g1, 0, none⟩) (m) (ac1)) hS rfl ?_
    refine pu 14 (.pointer (some ⟨a, 0, none⟩)) hS rfl ?_
    refine pu 15 (.pointer (some ⟨a, 0, none⟩)) hS rfl ?_
    refine st 16 (w5.drew.setCell ⟨a, 0, none⟩ (.slice (some ⟨g0, 0, none⟩) (m) ac0)) (by kernel_rfl) rfl ?_
    refine pv 17 (.pointer (some ⟨a, 0, none⟩)) rfl ?_
    refine pv 18 (.pointer (some ⟨a, 1, none⟩)) rfl ?_
    have u1 : (w5.drew.setCell ⟨a, 0, none⟩ (.slice (some ⟨g0, 0, none⟩) (m) ac0)).cell? ⟨a, 1, none⟩ = _ := (cell_off _ _ _ _ _ (by decide)).trans p1
    have u2 : (w5.drew.setCell ⟨a, 0, none⟩ (.slice (some ⟨g0, 0, none⟩) (m) ac0)).frozen? ⟨a, 1, none⟩ = false := (frozen_set1 _ _ _ _ _).trans f1
    refine st 19 ((w5.drew.setCell ⟨a, 0, none⟩ (.slice (some ⟨g0, 0, none⟩) (m) ac0)).setCell ⟨a, 1, none⟩ (.slice (some ⟨g1, 0, none⟩) (m) ac1)) (by kernel_rfl) rfl ?_
    refine doneL (by kernel_rfl) ?_ _
    have hcut : Step LS own5 H5 w5 a (⟨(ak).take m, (av).take m, ac.take (m + 1)⟩ : Nd ByteArray) ((w5.drew.setCell ⟨a, 0, none⟩ (.slice (some ⟨g0, 0, none⟩) (m) ac0)).setCell ⟨a, 1, none⟩ (.slice (some ⟨g1, 0, none⟩) (m) ac1)) := by
      refine Step.then (n1 := (⟨(ak).take m, av, ac.take (m + 1)⟩ : Nd ByteArray)) (Step.of_drew ((hH.drewN 1).step (⟨(ak).take m, av, ac.take (m + 1)⟩ : Nd ByteArray) ha 0 (by decide) va.k0 (rowCut va.r0.row (by simp [Nd.row]) (k := m) (by simp only [Nd.row, List.length_map]; omega)) (by simp [Nd.row, List.map_take]) (by intro j hj hne; rcases j with _ | _ | _ | j <;> first | rfl | omega))) fun own1 H1 h1 hn1 => ?_
      obtain ⟨_, _, _, _, _, _, v4⟩ := h1.view hn1
      have e4 := v4.k1.symm.trans ((cell_off _ _ _ _ _ (by decide)).trans p1)
      injection e4 with e4
      have r4 := v4.r1.row
      rw [e4] at r4
      exact h1.step (⟨(ak).take m, (av).take m, ac.take (m + 1)⟩ : Nd ByteArray) hn1 1 (by decide) ((cell_off _ _ _ _ _ (by decide)).trans p1) (rowCut r4 (by simp [Nd.row]) (k := m) (by simp only [Nd.row, List.length_map]; omega)) (by simp [Nd.row, List.map_take]) (by intro j hj hne; rcases j with _ | _ | _ | j <;> first | rfl | omega)
    generalize ((w5.drew.setCell ⟨a, 0, none⟩ (.slice (some ⟨g0, 0, none⟩) (m) ac0)).setCell ⟨a, 1, none⟩ (.slice (some ⟨g1, 0, none⟩) (m) ac1)) = wc at hcut ⊢
    obtain ⟨w6, hwc⟩ : ∃ W, W = wc := ⟨_, rfl⟩
    subst hwc
    obtain ⟨own6, H6, hH6, hF6, hn6, ho6⟩ := hcut
    obtain ⟨hH, hF, hx, ha, hb, hO⟩ := S0.out
    obtain ⟨hxa, hxb, hab⟩ := NE.out
    have T := Aside0.mk (And.intro hH6 (And.intro (hF.trans hF6) (And.intro ((ho6 x hxa).trans hx) (And.intro (hn6) (And.intro ((ho6 b (Ne.symm hab)).trans hb) (fun k qx qa qb => (ho6 k qa).trans (hO k qx qa qb)))))))
    clear S0 hH6 hF6 hn6 ho6 hH hF hx ha hb hO hxa hxb hab
    have S0 := T
    clear T
    refine bodyPost_end (v := .tuple #[]) (by simp [results, Try.results85, go_sem]) (by rfl) ?_
    obtain ⟨hH, hF, hx, ha, hb, hO⟩ := S0.out
    obtain ⟨rfl, rfl, rfl⟩ := HE.out
    obtain ⟨_, _, hne, hlast⟩ := HAC.out
    rw [← hlast] at hb
    exact ⟨_, _, rfl, hH, hF, hx, ha, by rw [if_neg hne]; exact hb, hO⟩
end Go.Proofs.Ytkfcflflgecljaa.H
