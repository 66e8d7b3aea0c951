/- Put of a bag over string. -/
import Derived.Test.YtkfcflflgecljaaHBagJS
import Derived.Test.YtkfcflflgecljaaHBagSplitS
import Derived.Test.YtkfcflflgecljaaHBagU
import Derived.Deep.DeepCutAuto
import Derived.Deep.CutBlock
set_option linter.unusedVariables false
set_option linter.unusedSimpArgs false
namespace Go.Proofs.Ytkfcflflgecljaa.H
open Go.RowKit Go.Proofs.YtkfcflflgecljaaW.PrintWords Go.Proofs.YtkfcflflgecljaaW.PrintLast
set_option maxRecDepth 100000
/-- A bag whose root has room. -/
def RoomyS (own : Own) (bb d : Nat) (es : List (Int × ByteArray)) (w : World) (wc : World) : Prop :=
  ∃ own1 H1 d1 t1, BagAt LS 72 wc own1 H1 bb d1 t1 ∧ ents d1 t1 = es ∧ FrB bb own own1 w wc ∧ t1.es.length < 7
/-- What Put leaves. -/
def PutS (own : Own) (bb : Nat) (at_ : Int) (v : ByteArray) (es : List (Int × ByteArray)) (w : World) (e : Ending) (w' : World) : Prop :=
  ∃ own' H' d' t', e = .returned (.bool (getL at_ es).isSome) ∧ BagAt LS 72 w' own' H' bb d' t' ∧ ents d' t' = insL at_ v es ∧ FrB bb own own' w w'
set_option maxHeartbeats 4000000 in
theorem bputS.calls {own : Own} {H : HP ByteArray} (bb d : Nat) (t : Tr ByteArray) (at_ : Int) (v : ByteArray) (w : World) (hB : BagAt LS 72 w own H bb d t) (hsm : (ents d t).length + 1 < 2 ^ 62) :
    Calls Try.prog 27 #[.pointer (some ⟨bb, 0, none⟩), .int .i64 at_, Value.string v] w (PutS own bb at_ v (ents d t) w) := by
  have HB := Aside0.mk hB
  have HS := Aside0.mk hsm
  clear hB hsm
  go_enter Try.func27, Try.ntmps27
  go_wp2_with fail
  with_reducible refine wp_scope_straight ?_
  have hB := HB.out
  have q0 : w.cell? ⟨bb, 0, none⟩ = some (.pointer (some ⟨t.a, 0, none⟩)) := by rw [cell_of_row w bb 0 _ _ (0, 0) hB.cell]; rfl
  have f0 : w.frozen? ⟨bb, 0, none⟩ = false := frozen_of_row w bb 0 _ _ hB.cell
  obtain ⟨Ak, ck, kk⟩ := keysS hB.heap hB.ok.root
  rw [show t.nd.ks.length = t.es.length by simp [Tr.nd]] at kk
  have h7 := hB.ok.hi
  generalize hx : t.a = x at q0 kk
  have HX := Aside0.mk hx
  generalize hn1 : t.es.length = n1 at kk h7
  have HN := Aside0.mk hn1
  clear hx hn1 hB
  go_upto_if 20 with (fail)
  go_cut [] (fun wc => RoomyS own bb d (ents d t) w wc)
  case first =>
    by_cases hf : n1 = 7
    · subst hf
      clear h7
      have hlt := HB.out.lt
      have c0 : ((w.alloc (.cells #[.pointer (some ⟨x, 0, none⟩)] 66)).alloc (.cells #[.slice none 0 0, .slice none 0 0, .slice (some ⟨w.heap.size, 0, none⟩) 1 1] 70)).cell? ⟨bb, 0, none⟩ = some (.pointer (some ⟨x, 0, none⟩)) := (World.cell?_of_block (heap_alloc2 w _ _ bb hlt)).trans q0
      have d0 : ((w.alloc (.cells #[.pointer (some ⟨x, 0, none⟩)] 66)).alloc (.cells #[.slice none 0 0, .slice none 0 0, .slice (some ⟨w.heap.size, 0, none⟩) 1 1] 70)).frozen? ⟨bb, 0, none⟩ = false := (World.frozen?_of_block (heap_alloc2 w _ _ bb hlt)).trans f0
      clear hlt
      go_upto_region 5 with (fail)
      obtain ⟨own1, hH1, hF1, hn1, ho1, hb1⟩ := HB.out.root HN.out
      rw [HX.out] at hH1 hF1 hb1
      simp only [show LS.ty 2 = 66 from rfl, show LS.tN = 70 from rfl] at hH1 hF1 hb1
      generalize w.heap.size + 1 = nx at hH1 hF1 hn1 hb1 ⊢
      generalize (((w.alloc (.cells #[.pointer (some ⟨x, 0, none⟩)] 66)).alloc (.cells #[.slice none 0 0, .slice none 0 0, .slice (some ⟨w.heap.size, 0, none⟩) 1 1] 70)).setCell ⟨bb, 0, none⟩ (.pointer (some ⟨nx, 0, none⟩))) = w1 at hH1 hF1 hb1 ⊢
      have hB := HB.out
      have h7 := HN.out
      obtain ⟨M, m, N, hes, hM, hN3⟩ : ∃ M m N, t.es = M ++ m :: N ∧ M.length = 3 ∧ N.length = 3 := ⟨t.es.take 3, t.es[3], t.es.drop 4, by rw [← List.drop_eq_getElem_cons, List.take_append_drop], by simp [h7], by simp [h7]⟩
      have hks8 : ∀ d', d = d' + 1 → t.ks.length = 8 := fun d' e => by have := hB.ok.kids d' e; omega
      have hnxx : nx ≠ x := by rintro rfl; rw [← HX.out, hB.ok.root] at hn1; cases hn1
      have hroot := hB.ok.root
      rw [HX.out] at hroot
      have hcall := splitS.calls nx x 0 [] [] [x] (t.es.map Prod.fst) (t.es.map Prod.snd) (t.ks.map Tr.a) w1 hH1 (upd_same _ _ _) ((upd_other _ _ _ _ (Ne.symm hnxx)).trans hroot) hnxx rfl m.1 m.2 (by simp [hes, hM]) (by simp [hes, hM]) (by simp [h7]) (by simp [h7]) (Nat.le_refl _) (Nat.le_refl _) (by simp) (by simp) (by simp)
        (by cases d with
          | zero => exact .inl (by simp [hB.ok.2.1])
          | succ d' => exact .inr (by simp [hks8 d' rfl]))
      have hend : ∀ e w2, SplitPostS own1 (upd H nx ⟨[], [], [x]⟩) w1 nx x 0 [m.1] [m.2] [x] ⟨(t.es.map Prod.fst).take 3, (t.es.map Prod.snd).take 3, (t.ks.map Tr.a).take 4⟩ ⟨(t.es.map Prod.fst).drop 4, (t.es.map Prod.snd).drop 4, (t.ks.map Tr.a).drop 4⟩ e w2 → e = .returned (.tuple #[]) ∧ RoomyS own bb d (ents d t) w w2 := by
        rintro e w2 ⟨b, own2, H2, rfl, hH2, hF2, hbn, q1, q2, q3, hq⟩
        have hks : t.ks = t.ks.take 4 ++ t.ks.drop 4 := (List.take_append_drop _ _).symm
        obtain ⟨r1, r2, r3⟩ := root_tree (X := t.ks.take 4) (Y := t.ks.drop 4) (M := M) (N := N) (m := m) (H' := H2) (b := b) hB.ok hB.nodup hn1
          (by rw [← hks, ← hes]; cases t; rfl) hM hN3 (fun d' e => by rw [List.length_take, hks8 d' e]; rfl) (by rw [HX.out]; exact hbn) (by rw [HX.out]; exact q1)
          (by rw [HX.out, q2]; simp [Tr.nd, hes, hM, List.map_take]) (by rw [q3]; simp [Tr.nd, hes, drop4, hM, List.map_drop]) (by rw [HX.out]; exact hq)
        refine ⟨rfl, own2, H2, d + 1, _, ⟨hH2, r1, r2, by rw [r3]; exact hB.rise, fun _ => by simp, by rw [r3]; exact hB.len, ?_, (hF2.keep bb (Array.getElem?_eq_some_iff.1 hb1).1).trans ho1⟩, r3, hF1.trans (hF2.toB bb), by simp⟩
        rw [hF2.same bb (Array.getElem?_eq_some_iff.1 hb1).1 ho1, r3]; exact hb1
      have HC := Aside0.mk (hcall.mono hend)
      have q1 : w1.cell? ⟨bb, 0, none⟩ = some (.pointer (some ⟨nx, 0, none⟩)) := by rw [cell_of_row w1 bb 0 _ _ (0, 0) hb1]; rfl
      clear hH1 hF1 hn1 ho1 hb1 hB h7 hes hM hN3 hks8 hnxx hroot hcall hend c0 d0 q0 f0 kk
      go_wp2_with fail
      refine HC.out.mono ?_
      rintro e w2 ⟨rfl, hq⟩
      have HQ := Aside0.mk hq
      clear hq
      go_wp2_with fail
      go_meet
      exact HQ.out
    · have hz : ¬ ((n1 : Int) = 7) := by omega
      have K := Aside0.mk (show n1 < 7 by omega)
      clear h7 hf
      go_wp2_with fail
      go_meet
      exact ⟨own, H, d, t, HB.out, rfl, FrB.refl _ _ _, by rw [HN.out]; exact K.out⟩
  case rest =>
  obtain ⟨w1, hwc⟩ : ∃ W, W = wc := ⟨_, rfl⟩
  subst hwc
  obtain ⟨own1, H1, d1, t1, hB1, he1, hF1, h61⟩ := hcut
  have q1 : w1.cell? ⟨bb, 0, none⟩ = some (.pointer (some ⟨t1.a, 0, none⟩)) := by rw [cell_of_row w1 bb 0 _ _ (0, 0) hB1.cell]; rfl
  have T := Aside0.mk (And.intro hB1 (And.intro he1 (And.intro hF1 h61)))
  obtain ⟨x1, hx1⟩ : ∃ x1, t1.a = x1 := ⟨_, rfl⟩
  rw [hx1] at q1
  have X1 := Aside0.mk hx1
  have hdown := Down.start at_ v hB1.ok hB1.nodup hB1.rise hB1.one
  rw [he1, hx1] at hdown
  have hbc := hB1.cell
  rw [he1, hx1] at hbc
  have hri : Rise (ents d t) := by rw [← he1]; exact hB1.rise
  generalize hes0 : ents d t = es0 at *
  have hfin : ∀ (own2 : Own) (H2 : HP ByteArray) (w2 : World), Heap LS w2 own2 H2 → FrB bb own own2 w w2 → own2 bb = none → Goal H2 d1 x1 (insL at_ v es0) → w2.heap[bb]? = some (.cells #[.pointer (some ⟨x1, 0, none⟩), .int .i64 ((insL at_ v es0).length : Int)] 72 (0, 0)) → PutS own bb at_ v es0 w (.returned (.bool (getL at_ es0).isSome)) w2 := by
    rintro own2 H2 w2 h1 h2 h3 ⟨t2, g1, g2, g3, g4, g5⟩ h4
    refine ⟨own2, H2, d1, t2, rfl, ⟨h1, g1, g2, by rw [g5]; exact hri.ins at_ v, g4, ?_, by rw [g5, g3]; exact h4, h3⟩, g5, h2⟩
    rw [g5, insL_length hri]
    have := HS.out
    split <;> omega
  have hil := insL_length hri at_ v
  have REL := Aside0.mk (And.intro hB1.heap (And.intro hF1 (And.intro hB1.out (And.intro hbc (And.intro hdown h61)))))
  have FIN := Aside0.mk hfin
  have HIL := Aside0.mk hil
  have HLEN := Aside0.mk HS.out
  obtain ⟨n0, hn0⟩ : ∃ n0, es0.length = n0 := ⟨_, rfl⟩
  rw [hn0] at REL HIL HLEN
  clear hB1 he1 hF1 h61 kk q0 f0 h7 HX HN HB hdown hbc hri hfin hil T hes0 HS hn0
  go_wp2_with fail
  with_reducible refine wp_label ?_
  go_wp2_with fail
  generalize hQ : PutS own bb at_ v es0 w = Q at FIN ⊢
  have HQE := Aside0.mk hQ
  clear hQ
  go_loopg [7] (2 * d1 + 1) (fun gg s7 wr => ∃ (e x : Nat) (s : Tr ByteArray) (own1 : Own) (H1 : HP ByteArray), s7 = .pointer (some ⟨x, 0, none⟩) ∧ Aside0 (s.a = x ∧ Heap LS wr own1 H1 ∧ FrB bb own own1 w wr ∧ own1 bb = none ∧ wr.heap[bb]? = some (.cells #[.pointer (some ⟨x1, 0, none⟩), .int .i64 (n0 : Int)] 72 (0, 0)) ∧ Down H1 d1 x1 at_ v es0 e s ∧
    ((gg = 2 * e + 1 ∧ s.es.length < 7) ∨ (gg = 2 * e ∧ 0 < e ∧ ∀ (L R : List (Int × ByteArray)) (A B : List (Tr ByteArray)) (k : Tr ByteArray), s.es = L ++ R → s.ks = A ++ k :: B → A.length = L.length → (∀ x ∈ L, x.1 < at_) → (∀ y ∈ R, at_ ≤ y.1) → (∃ u R', R = (at_, u) :: R') ∨ k.es.length < 7))))
  case atStart =>
    obtain ⟨h1, h2, h3, h4, h5, h6⟩ := REL.out
    exact ⟨d1, x1, t1, own1, H1, rfl, .mk ⟨hx1, h1, h2, h3, h4, h5, .inl ⟨rfl, h6⟩⟩⟩
  case round =>
    clear REL q1 X1 hx1
    obtain ⟨e, x, s, own2, H2, rfl, T⟩ := hrel
    obtain ⟨hx, hH, hF, hob, hbc, hD, hm⟩ := T.out
    have hes := own_rise hD.ok.kids hD.rise
    obtain ⟨L, R, he, hl, hL, hR, hcc⟩ := cut_at s.es hes at_
    have hroot : H2 x = some s.nd := by rw [← hx]; exact hD.ok.root
    have h7 := hD.ok.hi
    have hf := findS.calls x s.nd at_ wr hH hroot (by simp [Tr.nd]; omega) hes
    rw [show s.nd.ks.countP (· < at_) = L.length from hl.symm] at hf
    have hlf := leafS.calls x s.nd wr hH hroot
    rw [hD.ok.leaf] at hlf
    obtain ⟨XA0, xc0, XA1, xc1, XA2, xc2, vx⟩ := hH.view hroot
    have HF := Aside0.mk hf
    have HLF := Aside0.mk hlf
    by_cases hc : (s.es.map Prod.fst).contains at_ = true
    · obtain ⟨u, R', rfl⟩ := hcc.1 hc
      rw [show s.nd.ks.contains at_ = true from hc] at HF
      obtain ⟨gx1, rfl, y1, y1o, y1f, _⟩ := vx.r1.get (j := L.length) (u := .string u) (by simp [Nd.row, Tr.nd, he, LS]) (by simp [Nd.row])
      have k1 := vx.k1
      have hlv : s.nd.vs.length = s.es.length := by simp [Tr.nd]
      rw [hlv] at k1
      have i1 : (L.length : Int) < (s.es.length : Int) := by rw [he, List.length_append, List.length_cons]; omega
      have i2 : (0 : Int) ≤ (L.length : Int) := by omega
      have hLl : L.length < s.nd.vs.length := by rw [hlv, he]; simp
      obtain ⟨own3, H3, hH3, hF3, hn3, ho3⟩ := hH.stepCell (u := .string v) (⟨s.nd.ks, s.nd.vs.set L.length v, s.nd.cs⟩ : Nd ByteArray) hroot 1 (by decide) vx.k1 hLl (by simp [Nd.row, List.map_set, LS]) (by intro j hj hne; rcases j with _ | _ | _ | j <;> first | rfl | omega)
      obtain ⟨hgoal, hgt⟩ := hD.here (H2 := H3) he hL (by rw [hx, hn3]; rfl) (fun c hc => ho3 c (by rw [← hx]; exact hc))
      have hb3 := hF3.same bb (Array.getElem?_eq_some_iff.1 hbc).1 hob
      have hQ := FIN.out own3 H3 _ hH3 (hF.trans (hF3.toB bb)) ((hF3.keep bb (Array.getElem?_eq_some_iff.1 hbc).1).trans hob) hgoal (by rw [hb3, hbc, HIL.out, hgt]; simp)
      rw [hgt] at hQ
      have HQ := Aside0.mk hQ
      generalize L.length = i at HF k1 y1 y1f i1 i2 HQ
      generalize s.es.length = n1 at k1 i1
      clear hx hH hF hob hbc hD hm hes he hl hL hR hcc hroot h7 hf hlf vx hc hlv hLl hH3 hF3 hn3 ho3 hgoal hgt hb3 hQ T HLF
      go_wp2_with (go_at_call 40; refine HF.out.mono ?_; rintro e w' ⟨rfl, hw⟩; obtain rfl := hw.symm; clear hw)
      first | go_ret | skip
      exact HQ.out
    · have hcf : (s.es.map Prod.fst).contains at_ = false := by simpa using hc
      rw [show s.nd.ks.contains at_ = false from hcf] at HF
      have hnh : ¬ ∃ u R', R = (at_, u) :: R' := fun h => hc (hcc.2 h)
      have hgt := gt_of_not (hes.sub (by rw [he]; exact List.sublist_append_right _ _)) hR hnh
      cases e with
      | zero =>
        rw [show decide ((0 : Nat) = 0) = true from rfl] at HLF
        have hx6 : s.es.length < 7 := by rcases hm with h | h <;> omega
        have hks : s.ks = [] := hD.ok.2.1
        have hroot' : H2 x = some ⟨s.es.map Prod.fst, s.es.map Prod.snd, []⟩ := by rw [hroot]; simp [Tr.nd, hks]
        have hfin : ∀ (own3 : Own) (H3 : HP ByteArray) (w3 : World), Heap LS w3 own3 H3 → Fr own2 own3 wr w3 → H3 x = some ⟨(s.es.map Prod.fst).take L.length ++ at_ :: (s.es.map Prod.fst).drop L.length, (s.es.map Prod.snd).take L.length ++ v :: (s.es.map Prod.snd).drop L.length, []⟩ → (∀ c, c ≠ x → H3 c = H2 c) →
            w3.heap[bb]? = some (.cells #[.pointer (some ⟨x1, 0, none⟩), .int .i64 (n0 : Int)] 72 (0, 0)) ∧ Q (.returned (.bool false)) (w3.setCell ⟨bb, 1, none⟩ (.int .i64 ((n0 : Int) + 1))) := by
          intro own3 H3 w3 h1 h2 h3 h4
          have hb3 := (h2.same bb (Array.getElem?_eq_some_iff.1 hbc).1 hob).trans hbc
          have ho3 := (h2.keep bb (Array.getElem?_eq_some_iff.1 hbc).1).trans hob
          obtain ⟨hgoal, hgt0⟩ := hD.leaf (H2 := H3) he hL hgt hx6 (by rw [hx]; exact h3) (fun c hc => h4 c (by rw [← hx]; exact hc))
          have hQ := FIN.out own3 H3 (w3.setCell ⟨bb, 1, none⟩ (.int .i64 ((n0 : Int) + 1))) (h1.set ho3 1 _) ((hF.trans (h2.toB bb)).trans (FrB.set bb 1 _ own3 w3)) ho3 hgoal (by rw [heap_setCell2 hb3, HIL.out, hgt0]; simp)
          rw [hgt0] at hQ
          exact ⟨hb3, hQ⟩
        have h7k : (s.es.map Prod.fst).length ≤ 7 := by simpa using h7
        have h7v : (s.es.map Prod.snd).length ≤ 7 := by simpa using h7
        have hik : L.length ≤ (s.es.map Prod.fst).length := by simp [he]
        have hiv : L.length ≤ (s.es.map Prod.snd).length := by simp [he]
        have FN := Aside0.mk hfin
        have HR := Aside0.mk hroot'
        have HH := Aside0.mk hH
        have j3 : IntKind.i64.wrap ((n0 : Int) + 1) = (n0 : Int) + 1 := by have := HLEN.out; rw [IntKind.wrap_i64]; omega
        generalize s.es.map Prod.fst = xk at FN HR h7k hik
        generalize s.es.map Prod.snd = xv at FN HR h7v hiv
        generalize L.length = i at HF FN hik hiv
        clear hx hH hF hob hbc hD hm hes he hl hL hR hcc hroot h7 hf hlf vx hc hcf hnh hgt hx6 hks hroot' hfin T FIN
        go_upto_region 12 with (first | (go_at_call 40; refine HF.out.mono ?_; rintro e w' ⟨rfl, hw⟩; obtain rfl := hw.symm; clear hw) | (go_at_call 41; refine HLF.out.mono ?_; rintro e w' ⟨rfl, hw⟩; obtain rfl := hw.symm; clear hw))
        go_cut [] (fun wc => Step LS own2 H2 wr x (⟨xk.take i ++ at_ :: xk.drop i, xv, []⟩ : Nd ByteArray) wc)
        case first =>
          obtain ⟨XA0, xc0, XA1, xc1, XA2, xc2, vx⟩ := HH.out.view HR.out
          have p2 := vx.k0
          have f2 := vx.free 0
          have HI := Aside0.mk (InsI.fresh (.slice XA0 xk.length xc0) (Nd.row LS (⟨xk, xv, []⟩ : Nd ByteArray) 0) i (.int .i64 at_) wr vx.r0.row (by simp only [Nd.row, List.length_map]; omega) (by rfl) (row_oneS 0 _) (by simp only [Nd.row, List.length_map]; omega))
          go_wp2_with (go_at_call 33; refine HI.out.mono ?_; rintro e w2 ⟨A', n', c', rfl, hop⟩; have q1 := hop.grow.cell p2 (fun e => by have := vx.r0.mine x e.symm; rw [vx.mine] at this; simp at this); have q2 := (hop.grow.frozen_far ⟨x, 0, none⟩ vx.lt (fun e => by have := vx.r0.mine x e.symm; rw [vx.mine] at this; simp at this)).trans f2; have HOP := Aside0.mk hop; clear hop)
          go_meet
          exact HH.out.step (⟨xk.take i ++ at_ :: xk.drop i, xv, []⟩ : Nd ByteArray) HR.out 0 (by decide) vx.k0 HOP.out (by simp [Nd.row, List.map_take, List.map_drop]) (by intro j hj hne; rcases j with _ | _ | _ | j <;> first | rfl | omega)
        case rest =>
        obtain ⟨w3, hwc⟩ : ∃ W, W = wc := ⟨_, rfl⟩
        subst hwc
        obtain ⟨own3, H3, hH3, hF3, hn3, ho3⟩ := hcut
        have T3 := Aside0.mk (And.intro hH3 (And.intro hF3 (And.intro hn3 ho3)))
        clear hH3 hF3 hn3 ho3 HH HR
        go_upto_region 13 with (fail)
        go_cut [] (fun wc => Step LS own3 H3 w3 x (⟨xk.take i ++ at_ :: xk.drop i, xv.take i ++ v :: xv.drop i, []⟩ : Nd ByteArray) wc)
        case first =>
          obtain ⟨hH3, hF3, hn3, ho3⟩ := T3.out
          obtain ⟨XA0, xc0, XA1, xc1, XA2, xc2, vx⟩ := hH3.view hn3
          have p2 := vx.k1
          have f2 := vx.free 1
          have HI := Aside0.mk (InsS.fresh (.slice XA1 xv.length xc1) (Nd.row LS (⟨xk.take i ++ at_ :: xk.drop i, xv, []⟩ : Nd ByteArray) 1) i (.string v) w3 vx.r1.row (by simp only [Nd.row, List.length_map]; omega) (by rfl) (row_oneS 1 _) (by simp only [Nd.row, List.length_map]; omega))
          go_wp2_with (go_at_call 44; refine HI.out.mono ?_; rintro e w2 ⟨A', n', c', rfl, hop⟩; have q1 := hop.grow.cell p2 (fun e => by have := vx.r1.mine x e.symm; rw [vx.mine] at this; simp at this); have q2 := (hop.grow.frozen_far ⟨x, 1, none⟩ vx.lt (fun e => by have := vx.r1.mine x e.symm; rw [vx.mine] at this; simp at this)).trans f2; have HOP := Aside0.mk hop; clear hop)
          go_meet
          exact hH3.step (⟨xk.take i ++ at_ :: xk.drop i, xv.take i ++ v :: xv.drop i, []⟩ : Nd ByteArray) hn3 1 (by decide) vx.k1 HOP.out (by simp [Nd.row, List.map_take, List.map_drop, LS]) (by intro j hj hne; rcases j with _ | _ | _ | j <;> first | rfl | omega)
        case rest =>
        obtain ⟨w4, hwc⟩ : ∃ W, W = wc := ⟨_, rfl⟩
        subst hwc
        obtain ⟨own4, H4, hH4, hF4, hn4, ho4⟩ := hcut
        obtain ⟨hH3, hF3, hn3, ho3⟩ := T3.out
        obtain ⟨hb4, hQ4⟩ := FN.out own4 H4 w4 hH4 (hF3.trans hF4) hn4 (fun c hc => (ho4 c hc).trans (ho3 c hc))
        have q1 : w4.cell? ⟨bb, 1, none⟩ = some (.int .i64 (n0 : Int)) := by rw [cell_of_row w4 bb 1 _ _ (0, 0) hb4]; rfl
        have f1 : w4.frozen? ⟨bb, 1, none⟩ = false := frozen_of_row w4 bb 1 _ _ hb4
        have HQ := Aside0.mk hQ4
        clear hH4 hF4 hn4 ho4 hH3 hF3 hn3 ho3 hb4 hQ4
        go_wp2_with fail
        first | go_ret | skip
        have hq := HQ.out
        rw [← HQE.out] at hq
        exact hq
      | succ e =>
        rw [show decide (e + 1 = 0) = false from rfl] at HLF
        obtain ⟨A, k, B, hs, hA, hB⟩ := kid_at hD.ok.2.1 he
        have hkok := hD.ok.2.2.2.2 k (by rw [hs]; simp)
        have hcl : s.nd.cs.length = s.ks.length := by simp [Tr.nd]
        obtain ⟨g, cx, k2, _, hck⟩ := kidsS hH hroot (by rw [hcl, hD.ok.2.1]; omega)
        have y := hck L.length k.a (by simp [Tr.nd, hs, ← hA])
        obtain ⟨Ak, ck, kk⟩ := keysS hH hkok.root
        rw [hcl] at k2
        rw [show k.nd.ks.length = k.es.length by simp [Tr.nd]] at kk
        have i1 : (L.length : Int) < (s.ks.length : Int) := by rw [hs, List.length_append, List.length_cons]; omega
        have i2 : (0 : Int) ≤ (L.length : Int) := by omega
        by_cases hk7 : k.es.length = 7
        · have hm' : gk = 2 * (e + 1) + 1 ∧ s.es.length < 7 := by
            rcases hm with h | ⟨_, _, h⟩
            · exact h
            · rcases h L R A B k he hs hA hL hR with h | h
              · exact absurd h hnh
              · omega
          have hx6 := hm'.2
          obtain ⟨M, m, N, hke, hM, hN3⟩ : ∃ M m N, k.es = M ++ m :: N ∧ M.length = 3 ∧ N.length = 3 := ⟨k.es.take 3, k.es[3], k.es.drop 4, by rw [← List.drop_eq_getElem_cons, List.take_append_drop], by simp [hk7], by simp [hk7]⟩
          have hks8 : ∀ d', e = d' + 1 → k.ks.length = 8 := fun d' e' => by have := hkok.kids d' e'; omega
          have hxk : s.a ≠ k.a := fun e' => (nodup_parts.1 (by have := hD.nodup; rw [fp_split e s A B k hs] at this; exact this)).2.1 (by rw [e']; exact addr_mem e k)
          have hsl : s.ks.length = s.es.length + 1 := hD.ok.2.1
          have hcall := splitS.calls s.a k.a L.length (s.es.map Prod.fst) (s.es.map Prod.snd) (s.ks.map Tr.a) (k.es.map Prod.fst) (k.es.map Prod.snd) (k.ks.map Tr.a) wr hH hD.ok.root hkok.root hxk (by simp [hs, ← hA]) m.1 m.2 (by simp [hke, hM]) (by simp [hke, hM]) (by simp [hk7]) (by simp [hk7]) (by simp [he]) (by simp [he]) (by simp; omega) (by simp; omega) (by simp; omega)
            (by cases e with
              | zero => exact .inl (by simp [hkok.2.1])
              | succ d' => exact .inr (by simp [hks8 d' rfl]))
          have hend : ∀ e' w2, SplitPostS own2 H2 wr s.a k.a L.length ((s.es.map Prod.fst).take L.length ++ m.1 :: (s.es.map Prod.fst).drop L.length) ((s.es.map Prod.snd).take L.length ++ m.2 :: (s.es.map Prod.snd).drop L.length) (s.ks.map Tr.a) ⟨(k.es.map Prod.fst).take 3, (k.es.map Prod.snd).take 3, (k.ks.map Tr.a).take 4⟩ ⟨(k.es.map Prod.fst).drop 4, (k.es.map Prod.snd).drop 4, (k.ks.map Tr.a).drop 4⟩ e' w2 →
              e' = .returned (.tuple #[]) ∧ Aside0 (∃ (s2 : Tr ByteArray) (own3 : Own) (H3 : HP ByteArray), s2.a = x ∧ Heap LS w2 own3 H3 ∧ FrB bb own own3 w w2 ∧ own3 bb = none ∧ w2.heap[bb]? = some (.cells #[.pointer (some ⟨x1, 0, none⟩), .int .i64 (n0 : Int)] 72 (0, 0)) ∧ Down H3 d1 x1 at_ v es0 (e + 1) s2 ∧
                ∀ (L R : List (Int × ByteArray)) (A B : List (Tr ByteArray)) (k : Tr ByteArray), s2.es = L ++ R → s2.ks = A ++ k :: B → A.length = L.length → (∀ x ∈ L, x.1 < at_) → (∀ y ∈ R, at_ ≤ y.1) → (∃ u R', R = (at_, u) :: R') ∨ k.es.length < 7) := by
            rintro e' w2 ⟨b, own3, H3, rfl, hH3, hF3, hbn, q1, q2, q3, hq⟩
            have hkk : k.ks = k.ks.take 4 ++ k.ks.drop 4 := (List.take_append_drop _ _).symm
            have hsk : (s.ks.map Tr.a).take (L.length + 1) ++ b :: (s.ks.map Tr.a).drop (L.length + 1) = A.map Tr.a ++ k.a :: b :: B.map Tr.a := by
              rw [hs, List.map_append, List.map_cons]; exact ins_two (by simpa using hA)
            obtain ⟨r, en⟩ := split_tree (lo := 0) (X := k.ks.take 4) (Y := k.ks.drop 4) (M := M) (N := N) (m := m) (H' := H3) (b := b) hD.ok hD.nodup he hs hA hB
              (by rw [← hkk, ← hke]; cases k; rfl) hM hN3 (fun d' e' => by rw [List.length_take, hks8 d' e']; rfl) (by omega) hbn (by rw [q1, hsk]; simp [Tr.nd, he])
              (by rw [q2]; simp [Tr.nd, hke, hM, List.map_take]) (by rw [q3]; simp [Tr.nd, hke, drop4, hM, List.map_drop]) hq
            refine ⟨rfl, .mk ⟨Tr.mk s.a (L ++ m :: R) (A ++ Tr.mk k.a M (k.ks.take 4) :: Tr.mk b N (k.ks.drop 4) :: B), own3, H3, hx, hH3, hF.trans (hF3.toB bb), (hF3.keep bb (Array.getElem?_eq_some_iff.1 hbc).1).trans hob, by rw [hF3.same bb (Array.getElem?_eq_some_iff.1 hbc).1 hob]; exact hbc, hD.turn r (by rw [he]; simp) en, ?_⟩⟩
            intro L' R' A' B' k' h1 h2 h3 h4 h5
            rcases split_cut hL hgt hA h1 h2 h3 h4 h5 with rfl | rfl
            · exact .inr (by simp [hM])
            · exact .inr (by simp [hN3])
          have HC := Aside0.mk (hcall.mono hend)
          have hgm : 2 * (e + 1) < gk := by omega
          have hz : ((k.es.length : Int) = 7) := by omega
          rw [hk7] at kk
          rw [hx] at HC
          generalize hka : k.a = ka at y kk HC
          generalize L.length = i at HF HC y i1 i2
          generalize s.ks.length = nn at k2 i1
          clear hx hH hF hob hbc hD hm hes he hl hL hR hcc hroot h7 hf hlf vx hc hcf hnh hgt hs hA hB hkok hcl hck hk7 hka T FIN hm' hx6 hke hM hN3 hks8 hxk hsl hcall hend hz
          go_wp2_with (first | (go_at_call 40; refine HF.out.mono ?_; rintro e w' ⟨rfl, hw⟩; obtain rfl := hw.symm; clear hw) | (go_at_call 41; refine HLF.out.mono ?_; rintro e w' ⟨rfl, hw⟩; obtain rfl := hw.symm; clear hw))
          refine HC.out.mono ?_
          rintro e' w2 ⟨rfl, T2⟩
          go_wp2_with fail
          go_roundg (2 * (e + 1))
          case rel =>
            obtain ⟨s2, own3, H3, h1, h2, h3, h4, h5, h6, h8⟩ := T2.out
            exact ⟨e + 1, x, s2, own3, H3, rfl, .mk ⟨h1, h2, h3, h4, h5, h6, .inr ⟨rfl, by omega, h8⟩⟩⟩
          case measure => exact hgm
        · have hkd := hD.kid he hs hA hB hL hgt
          have hk6 : k.es.length < 7 := by have := hkok.hi; omega
          have hz : ¬ ((k.es.length : Int) = 7) := by omega
          have hgm : 2 * e + 1 < gk := by rcases hm with h | h <;> omega
          have T2 := Aside0.mk (And.intro hH (And.intro hF (And.intro hob (And.intro hbc (And.intro hkd hk6)))))
          generalize hka : k.a = ka at y kk
          have KA := Aside0.mk hka
          generalize L.length = i at HF y i1 i2
          generalize s.ks.length = nn at k2 i1
          generalize k.es.length = nk at kk hz
          clear hx hH hF hob hbc hD hm hes he hl hL hR hcc hroot h7 hf hlf vx hc hcf hnh hgt hs hA hB hkok hcl hck hk7 hkd hk6 hka T FIN
          go_wp2_with (first | (go_at_call 40; refine HF.out.mono ?_; rintro e w' ⟨rfl, hw⟩; obtain rfl := hw.symm; clear hw) | (go_at_call 41; refine HLF.out.mono ?_; rintro e w' ⟨rfl, hw⟩; obtain rfl := hw.symm; clear hw))
          go_roundg (2 * e + 1)
          case rel =>
            obtain ⟨hH, hF, hob, hbc, hkd, hk6⟩ := T2.out
            exact ⟨e, ka, k, own2, H2, rfl, .mk ⟨KA.out, hH, hF, hob, hbc, hkd, .inl ⟨rfl, hk6⟩⟩⟩
          case measure => exact hgm
end Go.Proofs.Ytkfcflflgecljaa.H
