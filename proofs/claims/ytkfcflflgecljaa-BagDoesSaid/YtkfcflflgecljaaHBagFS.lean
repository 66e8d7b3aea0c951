/- drop of a bag's node over string: a number above the lowest level, whose place another takes. -/
import Derived.Test.YtkfcflflgecljaaHBagES
import Derived.Deep.DeepCutAuto
import Derived.Deep.CutBlock
import Derived.Deep.QuietTactic
import Derived.BigQuiet
set_option linter.unusedVariables false
set_option linter.unusedSimpArgs false
namespace Go.Proofs.Ytkfcflflgecljaa.H
open Go.RowKit Go.Proofs.YtkfcflflgecljaaW.PrintWords Go.Proofs.YtkfcflflgecljaaW.PrintLast
set_option maxRecDepth 100000
/-- Two of a node's places turn. -/
theorem set_twoS {own : Own} {H : HP ByteArray} {w : World} (hH : Heap LS w own H) {x i : Nat} {xk : List Int} {xv : List ByteArray} {xc : List Nat} {kk : Int} {vv : ByteArray} (hx : H x = some ⟨xk, xv, xc⟩) (lk : i < xk.length) (lv : i < xv.length) {gx0 c0 gx1 c1 : Nat} (k0 : w.cell? ⟨x, 0, none⟩ = some (.slice (some ⟨gx0, 0, none⟩) xk.length c0)) (k1 : w.cell? ⟨x, 1, none⟩ = some (.slice (some ⟨gx1, 0, none⟩) xv.length c1)) (gx : x ≠ gx0) :
    Step LS own H w x (⟨xk.set i kk, xv.set i vv, xc⟩ : Nd ByteArray) ((w.drew.setCell ⟨gx0, i, none⟩ (.int .i64 kk)).setCell ⟨gx1, i, none⟩ (.string vv)) := by
  refine Step.then (n1 := (⟨xk.set i kk, xv, xc⟩ : Nd ByteArray)) (Step.of_drew ((hH.drewN 1).stepCell (u := .int .i64 kk) (⟨xk.set i kk, xv, xc⟩ : Nd ByteArray) hx 0 (by decide) k0 (show i < xk.length by omega) (by simp [Nd.row, List.map_set]) (by intro j hj hne; rcases j with _ | _ | _ | j <;> first | rfl | omega))) fun own1 H1 h1 hn1 => ?_
  exact h1.stepCell (u := .string vv) (⟨xk.set i kk, xv.set i vv, xc⟩ : Nd ByteArray) hn1 1 (by decide) ((cell_farB _ _ _ _ _ gx).trans k1) (show i < xv.length by omega) (by simp [Nd.row, List.map_set, LS]) (by intro j hj hne; rcases j with _ | _ | _ | j <;> first | rfl | omega)
set_option maxHeartbeats 8000000 in
/-- The number ahead takes its place. -/
theorem drop2S {own : Own} {H : HP ByteArray} (d lo : Nat) (ih : DropAtS d) (t k q : Tr ByteArray) (at_ : Int) (u : ByteArray) (L R : List (Int × ByteArray)) (A B : List (Tr ByteArray)) (w : World) (hH : Heap LS w own H) (ho : Ok H (d + 1) lo t) (hn : (fp (d + 1) t).Nodup) (hr : Rise (ents (d + 1) t))
    (he : t.es = L ++ (at_, u) :: R) (hl : L.length = (t.es.map Prod.fst).countP (· < at_)) (hs : t.ks = A ++ k :: q :: B) (hA : A.length = L.length) (hB : B.length = R.length) (hc : (t.es.map Prod.fst).contains at_ = true) (hk : 3 < k.es.length) :
    Calls Try.prog 45 #[.pointer (some ⟨t.a, 0, none⟩), .int .i64 at_] w (DropPostS own H w (d + 1) t at_) := by
  have hes := own_rise ho.kids hr
  have h7 := ho.hi
  have hok := ho.2.2.2.2 k (by rw [hs]; simp)
  have hf := findS.calls t.a t.nd at_ w hH ho.root (by simp [Tr.nd]; omega) hes
  rw [show t.nd.ks.countP (· < at_) = L.length from hl.symm, show t.nd.ks.contains at_ = true from hc] at hf
  have hlf := leafS.calls t.a t.nd w hH ho.root
  rw [ho.leaf, show decide (d + 1 = 0) = false from rfl] at hlf
  have hcl : t.nd.cs.length = t.ks.length := by simp [Tr.nd]
  obtain ⟨g, cx, k2, _, hcc⟩ := kidsS hH ho.root (by rw [hcl, ho.2.1]; omega)
  have y := hcc L.length k.a (by simp [Tr.nd, hs, ← hA])
  obtain ⟨Ak, ck, kk⟩ := keysS hH hok.root
  rw [hcl] at k2
  rw [show k.nd.ks.length = k.es.length by simp [Tr.nd]] at kk
  have i1 : (L.length : Int) < (t.ks.length : Int) := by rw [hs]; simp; omega
  have i3 : (3 : Int) < (k.es.length : Int) := by omega
  have hg := greatestS.calls d k w hH hok
  have hkn : (fp d k).Nodup := (nodup_parts.1 (by have := hn; rw [fp_split d t A (q :: B) k hs] at this; exact this)).2.2.2.2.1
  have hkx : t.a ∉ fp d k := (nodup_parts.1 (by have := hn; rw [fp_split d t A (q :: B) k hs] at this; exact this)).2.1
  have hkr : Rise (ents d k) := by
    rw [ents_two d t L R (at_, u) A B k q he hs hA hB] at hr
    exact (rise_append.1 (rise_append.1 (rise_append.1 hr).1).2.1).1
  have hne := ents_ne (hok.low (show 1 ≤ k.es.length by omega))
  have hrec : ∀ (own2 : Own) (w2 : World) (at2 : Int), Heap LS w2 own2 H → Calls Try.prog 45 #[.pointer (some ⟨k.a, 0, none⟩), .int .i64 at2] w2 (DropPostS own2 H w2 d k at2) := fun own2 w2 at2 h2 => ih own2 H 3 k at2 w2 h2 hok hkn hkr (fun _ => by omega)
  have hfin : ∀ (own3 : Own) (H3 : HP ByteArray) (w3 : World) (k' : Tr ByteArray) (e : Int × ByteArray), (ents d k).getLast? = some e → Rep H H3 d (k.es.length - 1) k k' → ents d k' = delL e.1 (ents d k) → Fr own own3 w w3 → H3 t.a = some ⟨t.es.map Prod.fst, t.es.map Prod.snd, t.ks.map Tr.a⟩ ∧
      ∀ (own4 : Own) (H4 : HP ByteArray) (w4 : World), Heap LS w4 own4 H4 → Fr own3 own4 w3 w4 → H4 t.a = some ⟨(t.es.map Prod.fst).set L.length e.1, (t.es.map Prod.snd).set L.length e.2, t.ks.map Tr.a⟩ → (∀ c, c ≠ t.a → H4 c = H3 c) → DropPostS own H w (d + 1) t at_ (.returned (.tuple #[])) w4 := by
    intro own3 H3 w3 k' e hlast hrep hen hF
    refine ⟨(hrep.frame t.a hkx (by rw [ho.root]; simp)).trans ho.root, fun own4 H4 w4 hH4 hF4 h4 ho4 => ?_⟩
    obtain ⟨t3, r3, e3⟩ := del_last (ho.low (Nat.sub_le _ _)) hn hr he hs hA hB hrep (by omega) hlast hen h4 ho4
    exact ⟨own4, H4, t3, rfl, hH4, hF.trans hF4, r3, e3⟩
  have hlk : L.length < (t.es.map Prod.fst).length := by simp [he]
  have hlv : L.length < (t.es.map Prod.snd).length := by simp [he]
  have hkids : ∀ (own2 : Own) (w2 : World), Heap LS w2 own2 H → ∃ g cx, w2.cell? ⟨t.a, 2, none⟩ = some (.slice (some ⟨g, 0, none⟩) t.ks.length cx) ∧ w2.cell? ⟨g, L.length, none⟩ = some (.pointer (some ⟨k.a, 0, none⟩)) := fun own2 w2 h2 => by
    obtain ⟨g, cx, k2, _, hcc⟩ := kidsS h2 ho.root (by rw [hcl, ho.2.1]; omega)
    rw [hcl] at k2
    exact ⟨g, cx, k2, hcc L.length k.a (by simp [Tr.nd, hs, ← hA])⟩
  have HF := Aside0.mk hf
  have HLF := Aside0.mk hlf
  have HG := Aside0.mk hg
  have HREC := Aside0.mk hrec
  have FIN := Aside0.mk hfin
  have HL := Aside0.mk (And.intro hlk hlv)
  have HKI := Aside0.mk hkids
  have HNE := Aside0.mk hne
  have HH := Aside0.mk hH
  have b7 : L.length ≤ 7 := by rw [he] at h7; simp at h7; omega
  generalize DropPostS own H w (d + 1) t at_ = Q at FIN ⊢
  generalize t.a = x at HF HLF HKI FIN k2 ⊢
  generalize L.length = i at HF HL HKI FIN y i1 b7
  generalize t.ks.length = nn at k2 i1 HKI
  generalize t.es.map Prod.fst = xk at FIN HL
  generalize t.es.map Prod.snd = xv at FIN HL
  generalize t.ks.map Tr.a = xc at FIN
  generalize hnk : k.es.length = nk at kk i3
  have HNK := Aside0.mk hnk
  generalize hka : k.a = ka at y kk HG HREC HKI
  have HKA := Aside0.mk hka
  have i5 : (i : Int) < (nn : Int) := by omega
  have i6 : (0 : Int) ≤ (i : Int) := by omega
  clear hes h7 hf hlf hH ho hn hr he hl hs hA hB hc hok hcl hcc hkn hkx hkr hne hrec hfin hlk hlv hkids hk hg hnk hka
  go_enter Try.func45, Try.ntmps45
  go_wp2_with (first | (go_at_call 40; refine HF.out.mono ?_; rintro e w' ⟨rfl, hw⟩; obtain rfl := hw.symm; clear hw) | (go_at_call 41; refine HLF.out.mono ?_; rintro e w' ⟨rfl, hw⟩; obtain rfl := hw.symm; clear hw))
  refine HG.out.mono ?_
  rintro e w2 ⟨yy, qn, es, rfl, rfl, hy, hlast, h7y⟩
  have hH2 := HH.out.drewN qn
  have hF2 : Fr own own w (w.drewN qn) := Fr.drewN own w qn
  obtain ⟨es0, m, rfl⟩ : ∃ es0 m, es = es0 ++ [m] := ⟨es.dropLast, es.getLast (by rintro rfl; exact HNE.out (List.getLast?_eq_none_iff.1 hlast.symm)), (List.dropLast_concat_getLast _).symm⟩
  rw [List.getLast?_concat] at hlast
  clear k2 y kk i1
  generalize w.drewN qn = w2 at hH2 hF2 ⊢
  obtain ⟨A0, c0, A1, c1, A2, c2, hv⟩ := hH2.view hy
  obtain ⟨g0, rfl, z0, _, _, _⟩ := hv.r0.get (j := es0.length) (u := .int .i64 m.1) (by simp [Nd.row, LS]) (by simp [Nd.row])
  obtain ⟨g1, rfl, z1, _, _, _⟩ := hv.r1.get (j := es0.length) (u := .string m.2) (by simp [Nd.row, LS]) (by simp [Nd.row])
  have p0 : w2.cell? ⟨yy, 0, none⟩ = some (.slice (some ⟨g0, 0, none⟩) (es0.length + 1) c0) := by have := hv.k0; simpa using this
  have p1 : w2.cell? ⟨yy, 1, none⟩ = some (.slice (some ⟨g1, 0, none⟩) (es0.length + 1) c1) := by have := hv.k1; simpa using this
  have b8 : es0.length ≤ 7 := by simp at h7y; omega
  generalize es0.length = n at z0 z1 p0 p1 b8
  obtain ⟨mk, mv⟩ := m
  dsimp only at z0 z1
  have j1 : (0 : Int) ≤ (n : Int) := by omega
  have j2 : (n : Int) < (n : Int) + 1 := by omega
  have j3 : IntKind.i64.wrap (n : Int) = (n : Int) := by rw [IntKind.wrap_i64]; omega
  have j4 : IntKind.i64.wrap ((n : Int) + 1 - 1) = (n : Int) := by rw [IntKind.wrap_i64]; omega
  have T := Aside0.mk (And.intro hH2 (And.intro hF2 hlast))
  clear hv hy h7y hH2 hF2 hlast HG HNE HH HF HLF
  go_wp2_with fail
  go_quiet (fail)
  obtain ⟨hH2, hF2, hlast⟩ := T.out
  have hH3 := hH2.drewN nq
  have hF3 := hF2.trans (Fr.drewN own w2 nq)
  clear z0 z1 p0 p1 T
  generalize w2.drewN nq = w3 at hH3 hF3 ⊢
  obtain ⟨g3, cx3, k3, y3⟩ := HKI.out own w3 hH3
  have T3 := Aside0.mk (And.intro hH3 (And.intro hF3 hlast))
  clear hH2 hF2 hlast hH3 hF3
  go_wp2_with fail
  refine (HREC.out own w3 mk T3.out.1).mono ?_
  rintro e w4 ⟨own4, H4, k', rfl, hH4, hF4, hrep, hen⟩
  obtain ⟨hx4, hdone⟩ := FIN.out own4 H4 w4 k' (mk, mv) T3.out.2.2.symm hrep hen (T3.out.2.1.trans hF4)
  have T4 := Aside0.mk (And.intro hH4 (And.intro hx4 hdone))
  clear hH4 hF4 hrep hen hx4 hdone T3 k3 y3
  go_wp2_with fail
  obtain ⟨hH4, hx, hdone⟩ := T4.out
  obtain ⟨XA0, xc0, XA1, xc1, XA2, xc2, vx⟩ := hH4.view hx
  obtain ⟨gx0, rfl, y0, y0o, y0f, _⟩ := vx.r0.get (j := i) (u := (Nd.row LS (⟨xk, xv, xc⟩ : Nd ByteArray) 0)[i]'(by simp only [Nd.row, List.length_map]; exact HL.out.1)) (List.getElem?_eq_getElem _) (by simp only [Nd.row, List.length_map])
  obtain ⟨gx1, rfl, y1, y1o, y1f, _⟩ := vx.r1.get (j := i) (u := (Nd.row LS (⟨xk, xv, xc⟩ : Nd ByteArray) 1)[i]'(by simp only [Nd.row, List.length_map]; exact HL.out.2)) (List.getElem?_eq_getElem _) (by simp only [Nd.row, List.length_map])
  have g01 : gx0 ≠ gx1 := fun e => by rw [e, y1o] at y0o; simp at y0o
  have gx : x ≠ gx0 := fun e => by have := vx.mine; rw [e, y0o] at this; simp at this
  have lk : (i : Int) < (xk.length : Int) := by have := HL.out.1; omega
  have lv : (i : Int) < (xv.length : Int) := by have := HL.out.2; omega
  refine startL (Sees own4 (0, 9) w4) [13, 15] (by kernel_rfl) ?_
  change WalkL _ _ _ _ _ _ 16 #[false, false, false, false, false, false, false, false, false, false, false, false, false, false, false, false] _ _
  have hS : Sees own4 (0, 9) w4 w4.drew := Sees.refl _ _ _
  refine pu 0 (.pointer (some ⟨x, 0, none⟩)) hS rfl ?_
  refine pu 1 (.pointer (some ⟨x, 0, none⟩)) hS rfl ?_
  refine pu 2 (.pointer (some ⟨x, 0, none⟩)) hS rfl ?_
  refine lb 3 (.slice (some ⟨gx0, 0, none⟩) (xk.length) (xc0)) hS vx.k0 vx.mine (by simp) rfl ?_
  refine pu 4 (.int .i64 ((i : Int))) hS rfl ?_
  refine pu 5 (.pointer (some ⟨x, 0, none⟩)) hS rfl ?_
  refine pu 6 (.pointer (some ⟨x, 0, none⟩)) hS rfl ?_
  refine pu 7 (.pointer (some ⟨x, 1, none⟩)) hS rfl ?_
  refine lb 8 (.slice (some ⟨gx1, 0, none⟩) (xv.length) (xc1)) hS vx.k1 vx.mine (by simp) rfl ?_
  refine pu 9 (.int .i64 ((i : Int))) hS rfl ?_
  refine pu 10 (.int .i64 mk) hS rfl ?_
  refine pu 11 (.string mv) hS rfl ?_
  refine pu 12 (.pointer (some ⟨gx0, i, none⟩)) hS rfl ?_
  refine st 13 (w4.drew.setCell ⟨gx0, i, none⟩ (.int .i64 mk)) (by kernel_rfl) rfl ?_
  refine pv 14 (.pointer (some ⟨gx1, i, none⟩)) rfl ?_
  have u1 : (w4.drew.setCell ⟨gx0, i, none⟩ (.int .i64 mk)).cell? ⟨gx1, i, none⟩ = _ := (cell_farB _ _ _ _ _ (Ne.symm g01)).trans y1
  have u2 : (w4.drew.setCell ⟨gx0, i, none⟩ (.int .i64 mk)).frozen? ⟨gx1, i, none⟩ = false := (frozen_set1 _ _ _ _ _).trans y1f
  refine st 15 ((w4.drew.setCell ⟨gx0, i, none⟩ (.int .i64 mk)).setCell ⟨gx1, i, none⟩ (.string mv)) (by kernel_rfl) rfl ?_
  refine doneL (by kernel_rfl) ?_ _
  obtain ⟨own5, H5, hH5, hF5, hn5, ho5⟩ := set_twoS (kk := mk) (vv := mv) hH4 hx HL.out.1 HL.out.2 vx.k0 vx.k1 gx
  exact bodyPost_end (v := .tuple #[]) (by simp [results, Try.results45, go_sem]) (by rfl) (hdone own5 H5 _ hH5 hF5 hn5 ho5)
set_option maxHeartbeats 8000000 in
/-- The number behind takes its place. -/
theorem drop3S {own : Own} {H : HP ByteArray} (d lo : Nat) (ih : DropAtS d) (t k q : Tr ByteArray) (at_ : Int) (u : ByteArray) (L R : List (Int × ByteArray)) (A B : List (Tr ByteArray)) (w : World) (hH : Heap LS w own H) (ho : Ok H (d + 1) lo t) (hn : (fp (d + 1) t).Nodup) (hr : Rise (ents (d + 1) t))
    (he : t.es = L ++ (at_, u) :: R) (hl : L.length = (t.es.map Prod.fst).countP (· < at_)) (hs : t.ks = A ++ k :: q :: B) (hA : A.length = L.length) (hB : B.length = R.length) (hc : (t.es.map Prod.fst).contains at_ = true) (hk : k.es.length ≤ 3) (hq : 3 < q.es.length) :
    Calls Try.prog 45 #[.pointer (some ⟨t.a, 0, none⟩), .int .i64 at_] w (DropPostS own H w (d + 1) t at_) := by
  have hes := own_rise ho.kids hr
  have h7 := ho.hi
  have hok := ho.2.2.2.2 k (by rw [hs]; simp)
  have hoq := ho.2.2.2.2 q (by rw [hs]; simp)
  have hf := findS.calls t.a t.nd at_ w hH ho.root (by simp [Tr.nd]; omega) hes
  rw [show t.nd.ks.countP (· < at_) = L.length from hl.symm, show t.nd.ks.contains at_ = true from hc] at hf
  have hlf := leafS.calls t.a t.nd w hH ho.root
  rw [ho.leaf, show decide (d + 1 = 0) = false from rfl] at hlf
  have hcl : t.nd.cs.length = t.ks.length := by simp [Tr.nd]
  obtain ⟨g, cx, k2, _, hcc⟩ := kidsS hH ho.root (by rw [hcl, ho.2.1]; omega)
  have y := hcc L.length k.a (by simp [Tr.nd, hs, ← hA])
  have z := hcc (L.length + 1) q.a (by simp [Tr.nd, hs, ← hA])
  obtain ⟨Ak, ck, kk⟩ := keysS hH hok.root
  obtain ⟨Aq, cq, kq⟩ := keysS hH hoq.root
  rw [hcl] at k2
  rw [show k.nd.ks.length = k.es.length by simp [Tr.nd]] at kk
  rw [show q.nd.ks.length = q.es.length by simp [Tr.nd]] at kq
  have i1 : ((L.length + 1 : Nat) : Int) < (t.ks.length : Int) := by rw [hs]; simp; omega
  have i3 : ¬ ((3 : Int) < (k.es.length : Int)) := by omega
  have i4 : (3 : Int) < (q.es.length : Int) := by omega
  have hg := leastS.calls d q w hH hoq
  have hkn : (fp d q).Nodup := (nodup_parts.1 (by have := hn; rw [fp_split d t (A ++ [k]) B q (by rw [hs]; simp)] at this; exact this)).2.2.2.2.1
  have hkx : t.a ∉ fp d q := (nodup_parts.1 (by have := hn; rw [fp_split d t (A ++ [k]) B q (by rw [hs]; simp)] at this; exact this)).2.1
  have hkr : Rise (ents d q) := by
    rw [ents_two d t L R (at_, u) A B k q he hs hA hB] at hr
    exact (rise_cons.1 (rise_append.1 (rise_append.1 (rise_append.1 hr).1).2.1).2.1).2
  have hne := ents_ne (hoq.low (show 1 ≤ q.es.length by omega))
  have hrec : ∀ (own2 : Own) (w2 : World) (at2 : Int), Heap LS w2 own2 H → Calls Try.prog 45 #[.pointer (some ⟨q.a, 0, none⟩), .int .i64 at2] w2 (DropPostS own2 H w2 d q at2) := fun own2 w2 at2 h2 => ih own2 H 3 q at2 w2 h2 hoq hkn hkr (fun _ => by omega)
  have hfin : ∀ (own3 : Own) (H3 : HP ByteArray) (w3 : World) (k' : Tr ByteArray) (e : Int × ByteArray), (ents d q).head? = some e → Rep H H3 d (q.es.length - 1) q k' → ents d k' = delL e.1 (ents d q) → Fr own own3 w w3 → H3 t.a = some ⟨t.es.map Prod.fst, t.es.map Prod.snd, t.ks.map Tr.a⟩ ∧
      ∀ (own4 : Own) (H4 : HP ByteArray) (w4 : World), Heap LS w4 own4 H4 → Fr own3 own4 w3 w4 → H4 t.a = some ⟨(t.es.map Prod.fst).set L.length e.1, (t.es.map Prod.snd).set L.length e.2, t.ks.map Tr.a⟩ → (∀ c, c ≠ t.a → H4 c = H3 c) → DropPostS own H w (d + 1) t at_ (.returned (.tuple #[])) w4 := by
    intro own3 H3 w3 k' e hlast hrep hen hF
    refine ⟨(hrep.frame t.a hkx (by rw [ho.root]; simp)).trans ho.root, fun own4 H4 w4 hH4 hF4 h4 ho4 => ?_⟩
    obtain ⟨t3, r3, e3⟩ := del_first (ho.low (Nat.sub_le _ _)) hn hr he hs hA hB hrep (by omega) hlast hen h4 ho4
    exact ⟨own4, H4, t3, rfl, hH4, hF.trans hF4, r3, e3⟩
  have hlk : L.length < (t.es.map Prod.fst).length := by simp [he]
  have hlv : L.length < (t.es.map Prod.snd).length := by simp [he]
  have hkids : ∀ (own2 : Own) (w2 : World), Heap LS w2 own2 H → ∃ g cx, w2.cell? ⟨t.a, 2, none⟩ = some (.slice (some ⟨g, 0, none⟩) t.ks.length cx) ∧ w2.cell? ⟨g, L.length + 1, none⟩ = some (.pointer (some ⟨q.a, 0, none⟩)) := fun own2 w2 h2 => by
    obtain ⟨g, cx, k2, _, hcc⟩ := kidsS h2 ho.root (by rw [hcl, ho.2.1]; omega)
    rw [hcl] at k2
    exact ⟨g, cx, k2, hcc (L.length + 1) q.a (by simp [Tr.nd, hs, ← hA])⟩
  have HF := Aside0.mk hf
  have HLF := Aside0.mk hlf
  have HG := Aside0.mk hg
  have HREC := Aside0.mk hrec
  have FIN := Aside0.mk hfin
  have HL := Aside0.mk (And.intro hlk hlv)
  have HKI := Aside0.mk hkids
  have HNE := Aside0.mk hne
  have HH := Aside0.mk hH
  have b7 : L.length ≤ 7 := by rw [he] at h7; simp at h7; omega
  generalize DropPostS own H w (d + 1) t at_ = Q at FIN ⊢
  generalize t.a = x at HF HLF HKI FIN k2 ⊢
  generalize L.length = i at HF HL HKI FIN y z i1 b7
  generalize t.ks.length = nn at k2 i1 HKI
  generalize t.es.map Prod.fst = xk at FIN HL
  generalize t.es.map Prod.snd = xv at FIN HL
  generalize t.ks.map Tr.a = xc at FIN
  generalize hnk : k.es.length = nk at kk i3
  have HNK := Aside0.mk hnk
  generalize q.es.length = nq1 at kq i4
  generalize k.a = ka at y kk
  generalize hka : q.a = qa at z kq HG HREC HKI
  have HKA := Aside0.mk hka
  have i5 : (i : Int) < (nn : Int) := by omega
  have i6 : (0 : Int) ≤ (i : Int) := by omega
  have i7 : (i : Int) + 1 < (nn : Int) := by omega
  have i8 : ((i : Int) + 1).toNat = i + 1 := by omega
  clear hes h7 hf hlf hH ho hn hr he hl hs hA hB hc hok hoq hq hcl hcc hkn hkx hkr hne hrec hfin hlk hlv hkids hk hg hnk hka
  go_enter Try.func45, Try.ntmps45
  go_wp2_with (first | (go_at_call 40; refine HF.out.mono ?_; rintro e w' ⟨rfl, hw⟩; obtain rfl := hw.symm; clear hw) | (go_at_call 41; refine HLF.out.mono ?_; rintro e w' ⟨rfl, hw⟩; obtain rfl := hw.symm; clear hw))
  refine HG.out.mono ?_
  rintro e w' ⟨yy, es, rfl, hw, hy, hlast, h7y⟩
  obtain rfl := hw.symm
  clear hw
  have hH2 := HH.out
  have hF2 : Fr own own w w := Fr.refl own w
  obtain ⟨m, es0, rfl⟩ : ∃ m es0, es = m :: es0 := List.exists_cons_of_ne_nil (by rintro rfl; exact HNE.out (List.head?_eq_none_iff.1 hlast.symm))
  rw [List.head?_cons] at hlast
  clear k2 y z kk kq i1
  obtain ⟨w2, hw2⟩ : ∃ W, W = w := ⟨_, rfl⟩
  obtain ⟨A0, c0, A1, c1, A2, c2, hv⟩ := hH2.view hy
  obtain ⟨g0, rfl, z0, _, _, _⟩ := hv.r0.get (j := 0) (u := .int .i64 m.1) (by simp [Nd.row, LS]) (by simp [Nd.row])
  obtain ⟨g1, rfl, z1, _, _, _⟩ := hv.r1.get (j := 0) (u := .string m.2) (by simp [Nd.row, LS]) (by simp [Nd.row])
  have p0 : w.cell? ⟨yy, 0, none⟩ = some (.slice (some ⟨g0, 0, none⟩) (es0.length + 1) c0) := by have := hv.k0; simpa using this
  have p1 : w.cell? ⟨yy, 1, none⟩ = some (.slice (some ⟨g1, 0, none⟩) (es0.length + 1) c1) := by have := hv.k1; simpa using this
  have j5 : (0 : Int) < ((es0.length + 1 : Nat) : Int) := by omega
  generalize es0.length + 1 = n at p0 p1 j5
  obtain ⟨mk, mv⟩ := m
  dsimp only at z0 z1
  have T := Aside0.mk (And.intro hH2 (And.intro hF2 hlast))
  clear hv hy h7y hH2 hF2 hlast HG HNE HH HF HLF
  go_wp2_with fail
  go_quiet (fail)
  obtain ⟨hH2, hF2, hlast⟩ := T.out
  have hH3 := hH2.drewN nq
  have hF3 := hF2.trans (Fr.drewN own w nq)
  clear z0 z1 p0 p1 T
  generalize w.drewN nq = w3 at hH3 hF3 ⊢
  obtain ⟨g3, cx3, k3, y3⟩ := HKI.out own w3 hH3
  have T3 := Aside0.mk (And.intro hH3 (And.intro hF3 hlast))
  clear hH2 hF2 hlast hH3 hF3
  go_wp2_with fail
  refine (HREC.out own w3 mk T3.out.1).mono ?_
  rintro e w4 ⟨own4, H4, k', rfl, hH4, hF4, hrep, hen⟩
  obtain ⟨hx4, hdone⟩ := FIN.out own4 H4 w4 k' (mk, mv) T3.out.2.2.symm hrep hen (T3.out.2.1.trans hF4)
  have T4 := Aside0.mk (And.intro hH4 (And.intro hx4 hdone))
  clear hH4 hF4 hrep hen hx4 hdone T3 k3 y3
  go_wp2_with fail
  obtain ⟨hH4, hx, hdone⟩ := T4.out
  obtain ⟨XA0, xc0, XA1, xc1, XA2, xc2, vx⟩ := hH4.view hx
  obtain ⟨gx0, rfl, y0, y0o, y0f, _⟩ := vx.r0.get (j := i) (u := (Nd.row LS (⟨xk, xv, xc⟩ : Nd ByteArray) 0)[i]'(by simp only [Nd.row, List.length_map]; exact HL.out.1)) (List.getElem?_eq_getElem _) (by simp only [Nd.row, List.length_map])
  obtain ⟨gx1, rfl, y1, y1o, y1f, _⟩ := vx.r1.get (j := i) (u := (Nd.row LS (⟨xk, xv, xc⟩ : Nd ByteArray) 1)[i]'(by simp only [Nd.row, List.length_map]; exact HL.out.2)) (List.getElem?_eq_getElem _) (by simp only [Nd.row, List.length_map])
  have g01 : gx0 ≠ gx1 := fun e => by rw [e, y1o] at y0o; simp at y0o
  have gx : x ≠ gx0 := fun e => by have := vx.mine; rw [e, y0o] at this; simp at this
  have lk : (i : Int) < (xk.length : Int) := by have := HL.out.1; omega
  have lv : (i : Int) < (xv.length : Int) := by have := HL.out.2; omega
  refine startL (Sees own4 (0, 9) w4) [13, 15] (by kernel_rfl) ?_
  change WalkL _ _ _ _ _ _ 16 #[false, false, false, false, false, false, false, false, false, false, false, false, false, false, false, false] _ _
  have hS : Sees own4 (0, 9) w4 w4.drew := Sees.refl _ _ _
  refine pu 0 (.pointer (some ⟨x, 0, none⟩)) hS rfl ?_
  refine pu 1 (.pointer (some ⟨x, 0, none⟩)) hS rfl ?_
  refine pu 2 (.pointer (some ⟨x, 0, none⟩)) hS rfl ?_
  refine lb 3 (.slice (some ⟨gx0, 0, none⟩) (xk.length) (xc0)) hS vx.k0 vx.mine (by simp) rfl ?_
  refine pu 4 (.int .i64 ((i : Int))) hS rfl ?_
  refine pu 5 (.pointer (some ⟨x, 0, none⟩)) hS rfl ?_
  refine pu 6 (.pointer (some ⟨x, 0, none⟩)) hS rfl ?_
  refine pu 7 (.pointer (some ⟨x, 1, none⟩)) hS rfl ?_
  refine lb 8 (.slice (some ⟨gx1, 0, none⟩) (xv.length) (xc1)) hS vx.k1 vx.mine (by simp) rfl ?_
  refine pu 9 (.int .i64 ((i : Int))) hS rfl ?_
  refine pu 10 (.int .i64 mk) hS rfl ?_
  refine pu 11 (.string mv) hS rfl ?_
  refine pu 12 (.pointer (some ⟨gx0, i, none⟩)) hS rfl ?_
  refine st 13 (w4.drew.setCell ⟨gx0, i, none⟩ (.int .i64 mk)) (by kernel_rfl) rfl ?_
  refine pv 14 (.pointer (some ⟨gx1, i, none⟩)) rfl ?_
  have u1 : (w4.drew.setCell ⟨gx0, i, none⟩ (.int .i64 mk)).cell? ⟨gx1, i, none⟩ = _ := (cell_farB _ _ _ _ _ (Ne.symm g01)).trans y1
  have u2 : (w4.drew.setCell ⟨gx0, i, none⟩ (.int .i64 mk)).frozen? ⟨gx1, i, none⟩ = false := (frozen_set1 _ _ _ _ _).trans y1f
  refine st 15 ((w4.drew.setCell ⟨gx0, i, none⟩ (.int .i64 mk)).setCell ⟨gx1, i, none⟩ (.string mv)) (by kernel_rfl) rfl ?_
  refine doneL (by kernel_rfl) ?_ _
  obtain ⟨own5, H5, hH5, hF5, hn5, ho5⟩ := set_twoS (kk := mk) (vv := mv) hH4 hx HL.out.1 HL.out.2 vx.k0 vx.k1 gx
  exact bodyPost_end (v := .tuple #[]) (by simp [results, Try.results45, go_sem]) (by rfl) (hdone own5 H5 _ hH5 hF5 hn5 ho5)
end Go.Proofs.Ytkfcflflgecljaa.H
