/- room of a bag's node over string: a kid that has room to lose a number. -/
import Derived.Test.YtkfcflflgecljaaHBagGS
import Derived.Test.YtkfcflflgecljaaHBagLeftS
import Derived.Test.YtkfcflflgecljaaHBagRightS
import Derived.Test.YtkfcflflgecljaaHBagMergeS
set_option linter.unusedVariables false
set_option linter.unusedSimpArgs false
namespace Go.Proofs.Ytkfcflflgecljaa.H
open Go.RowKit Go.Proofs.YtkfcflflgecljaaW.PrintWords Go.Proofs.YtkfcflflgecljaaW.PrintLast
set_option maxRecDepth 100000
/-- A node's kids, as a walk reads them. -/
theorem kidsS {own : Own} {H : HP ByteArray} {w : World} (hH : Heap LS w own H) {x : Nat} {nd : Nd ByteArray} (hx : H x = some nd) (hne : 0 < nd.cs.length) : ∃ g cx, w.cell? ⟨x, 2, none⟩ = some (.slice (some ⟨g, 0, none⟩) nd.cs.length cx) ∧ nd.cs.length ≤ cx ∧ ∀ j c, nd.cs[j]? = some c → w.cell? ⟨g, j, none⟩ = some (.pointer (some ⟨c, 0, none⟩)) := by
  obtain ⟨A0, c0, A1, c1, A2, c2, hv⟩ := hH.view hx
  obtain ⟨g, rfl, _, _, _, _⟩ := hv.r2.get (j := 0) (u := ptrV (nd.cs[0]'hne)) (by simp only [Nd.row, List.getElem?_map, List.getElem?_eq_getElem hne, Option.map_some]) (by simp [Nd.row])
  refine ⟨g, c2, hv.k2, hv.l2, fun j c hj => ?_⟩
  obtain ⟨g', e, y, _, _, _⟩ := hv.r2.get (j := j) (u := ptrV c) (by simp [Nd.row, hj]) (by simp [Nd.row])
  obtain rfl := addr_inj e
  exact y
theorem keysS {own : Own} {H : HP ByteArray} {w : World} (hH : Heap LS w own H) {x : Nat} {nd : Nd ByteArray} (hx : H x = some nd) : ∃ A c, w.cell? ⟨x, 0, none⟩ = some (.slice A nd.ks.length c) := by
  obtain ⟨A0, c0, A1, c1, A2, c2, hv⟩ := hH.view hx
  exact ⟨A0, c0, hv.k0⟩
def RoomPostS (own : Own) (H : HP ByteArray) (w : World) (d lo : Nat) (t : Tr ByteArray) (at_ : Int) (e : Ending) (w' : World) : Prop :=
  ∃ own' H' t' L R A k B, e = .returned (.int .i64 (List.length L : Int)) ∧ Heap LS w' own' H' ∧ Fr own own' w w' ∧ Rep H H' (d + 1) lo t t' ∧ ents (d + 1) t' = ents (d + 1) t ∧ t'.es = L ++ R ∧ t'.ks = A ++ k :: B ∧ A.length = L.length ∧ B.length = R.length ∧
    (∀ x ∈ L, x.1 < at_) ∧ (∀ y ∈ R, at_ < y.1) ∧ 4 ≤ k.es.length ∧ t.es.length ≤ t'.es.length + 1
set_option maxHeartbeats 4000000 in
/-- There is room. -/
theorem room0S {own : Own} {H : HP ByteArray} (d lo : Nat) (t k : Tr ByteArray) (at_ : Int) (L R : List (Int × ByteArray)) (A B : List (Tr ByteArray)) (w : World) (hH : Heap LS w own H) (ho : Ok H (d + 1) lo t) (hn : (fp (d + 1) t).Nodup)
    (he : t.es = L ++ R) (hs : t.ks = A ++ k :: B) (hA : A.length = L.length) (hB : B.length = R.length) (hL : ∀ x ∈ L, x.1 < at_) (hR : ∀ y ∈ R, at_ < y.1) (hk : 3 < k.es.length) :
    Calls Try.prog 70 #[.pointer (some ⟨t.a, 0, none⟩), .int .i64 (L.length : Int)] w (RoomPostS own H w d lo t at_) := by
  have hend : RoomPostS own H w d lo t at_ (.returned (.int .i64 (L.length : Int))) w := ⟨own, H, t, L, R, A, k, B, rfl, hH, Fr.refl _ _, Rep.refl ho hn, rfl, he, hs, hA, hB, hL, hR, hk, by omega⟩
  have hkr := (ho.2.2.2.2 k (by rw [hs]; simp)).root
  have hcl : t.nd.cs.length = t.ks.length := by simp [Tr.nd]
  obtain ⟨g, cx, k2, _, hc⟩ := kidsS hH ho.root (by rw [hcl, ho.2.1]; omega)
  have y := hc L.length k.a (by simp [Tr.nd, hs, ← hA])
  obtain ⟨Ak, ck, kk⟩ := keysS hH hkr
  rw [hcl] at k2
  rw [show k.nd.ks.length = k.es.length by simp [Tr.nd]] at kk
  have i1 : (L.length : Int) < (t.ks.length : Int) := by rw [hs]; simp; omega
  have i2 : (3 : Int) < (k.es.length : Int) := by omega
  have HE := Aside0.mk hend
  generalize RoomPostS own H w d lo t at_ = Q at HE ⊢
  generalize t.ks.length = n at k2 i1
  generalize k.es.length = nk at kk i2
  generalize L.length = i at y i1 HE ⊢
  generalize k.a = ka at y kk
  generalize t.a = x at k2 ⊢
  clear hend hkr hcl hc he hs hA hB hL hR hk ho hn hH
  go_enter Try.func70, Try.ntmps70
  go_wp2_with fail
  exact HE.out
set_option maxHeartbeats 4000000 in
/-- The one ahead lends. -/
theorem room1S {own : Own} {H : HP ByteArray} (d lo : Nat) (t p k : Tr ByteArray) (at_ : Int) (L R : List (Int × ByteArray)) (m : Int × ByteArray) (A B : List (Tr ByteArray)) (w : World) (hH : Heap LS w own H) (ho : Ok H (d + 1) lo t) (hn : (fp (d + 1) t).Nodup) (hr : Rise (ents (d + 1) t))
    (he : t.es = L ++ m :: R) (hs : t.ks = A ++ p :: k :: B) (hA : A.length = L.length) (hB : B.length = R.length) (hL : ∀ x ∈ L, x.1 < at_) (hm : m.1 < at_) (hR : ∀ y ∈ R, at_ < y.1) (hk : k.es.length ≤ 3) (hp : 3 < p.es.length) :
    Calls Try.prog 70 #[.pointer (some ⟨t.a, 0, none⟩), .int .i64 (L.length + 1 : Nat)] w (RoomPostS own H w d lo t at_) := by
  have hok := ho.2.2.2.2 k (by rw [hs]; simp)
  have hop := ho.2.2.2.2 p (by rw [hs]; simp)
  have hkr := hok.root
  have hpr := hop.root
  have hcl : t.nd.cs.length = t.ks.length := by simp [Tr.nd]
  obtain ⟨g, cx, k2, _, hc⟩ := kidsS hH ho.root (by rw [hcl, ho.2.1]; omega)
  have y := hc (L.length + 1) k.a (by simp [Tr.nd, hs, ← hA])
  have z := hc L.length p.a (by simp [Tr.nd, hs, ← hA])
  obtain ⟨Ak, ck, kk⟩ := keysS hH hkr
  obtain ⟨Ap, cp, kp⟩ := keysS hH hpr
  rw [hcl] at k2
  rw [show k.nd.ks.length = k.es.length by simp [Tr.nd]] at kk
  rw [show p.nd.ks.length = p.es.length by simp [Tr.nd]] at kp
  have i1 : ((L.length + 1 : Nat) : Int) < (t.ks.length : Int) := by rw [hs]; simp; omega
  have i3 : ¬ ((3 : Int) < (k.es.length : Int)) := by omega
  have i4 : (3 : Int) < (p.es.length : Int) := by omega
  -- what left leaves
  have hnd := hn
  rw [fp, hs] at hnd
  have hfpm : ∀ q ∈ t.ks, q.a ∈ t.ks.flatMap (fp d) := fun q hq => List.mem_flatMap.2 ⟨q, hq, addr_mem d q⟩
  have nxp : t.a ≠ p.a := fun e => (List.nodup_cons.1 hnd).1 (by rw [e, ← hs]; exact hfpm p (by rw [hs]; simp))
  have nxk : t.a ≠ k.a := fun e => (List.nodup_cons.1 hnd).1 (by rw [e, ← hs]; exact hfpm k (by rw [hs]; simp))
  have npk : p.a ≠ k.a := fun e => by
    have h2 := (List.nodup_cons.1 hnd).2
    rw [List.flatMap_append, List.flatMap_cons, List.flatMap_cons] at h2
    have h3 := (List.nodup_append.1 (List.nodup_append.1 h2).2.1).2.2 p.a (addr_mem d p) k.a (List.mem_append_left _ (addr_mem d k))
    exact h3 e
  obtain ⟨M, n, hM⟩ : ∃ M n, p.es = M ++ [n] := ⟨p.es.dropLast, p.es.getLast (by intro e; rw [e] at hp; simp at hp), (List.dropLast_concat_getLast _).symm⟩
  have hMl : p.es.length = M.length + 1 := by rw [hM]; simp
  have h7 := hop.hi
  have hk3 := hok.lo
  have hx7 := ho.hi
  obtain ⟨X, Z, hXZ, hX, hZ, hZl⟩ : ∃ X Z, p.ks = X ++ Z ∧ X = p.ks.take (M.length + 1) ∧ (∀ d', d = d' + 1 → Z.length = 1) ∧ (p.ks = [] → Z = []) := by
    refine ⟨p.ks.take (M.length + 1), p.ks.drop (M.length + 1), (List.take_append_drop _ _).symm, rfl, fun d' e => ?_, fun e => by simp [e]⟩
    have := hop.kids d' e
    rw [List.length_drop]; omega
  have hcall := leftS.calls t.a p.a k.a L.length M.length (t.es.map Prod.fst) (t.es.map Prod.snd) (t.ks.map Tr.a) (p.es.map Prod.fst) (p.es.map Prod.snd) (p.ks.map Tr.a) (k.es.map Prod.fst) (k.es.map Prod.snd) (k.ks.map Tr.a) w hH ho.root hpr hkr nxp nxk npk
    (by simp [hs, ← hA]) (by simp [hs, ← hA]) m.1 m.2 n.1 n.2 (by simp [he]) (by simp [he]) (by simp [hM]) (by simp [hM]) (by simp [hMl]) (by simp [hMl]) (by simp [ho.2.1]; omega) (by simp; omega) (by simp; omega) (by omega) (by simp; omega) (by simp; omega)
    (by cases d with
      | zero => simp [hok.2.1]
      | succ d' => simp [hok.kids d' rfl]; omega)
    (by cases d with
      | zero => exact .inl (by simp [hop.2.1])
      | succ d' => exact .inr (by simp [hop.kids d' rfl, hMl]))
  have hend : ∀ e w', LeftPostS own H w t.a p.a k.a ⟨(t.es.map Prod.fst).set L.length n.1, (t.es.map Prod.snd).set L.length n.2, t.ks.map Tr.a⟩ ⟨(p.es.map Prod.fst).take M.length, (p.es.map Prod.snd).take M.length, (p.ks.map Tr.a).take (M.length + 1)⟩
      ⟨m.1 :: k.es.map Prod.fst, m.2 :: k.es.map Prod.snd, if p.ks.map Tr.a = [] then k.ks.map Tr.a else (p.ks.map Tr.a).getLastD 0 :: k.ks.map Tr.a⟩ e w' → e = .returned (.tuple #[]) ∧ RoomPostS own H w d lo t at_ (.returned (.int .i64 (L.length + 1 : Nat))) w' := by
    rintro e w' ⟨own', H', rfl, hH', hF, q1, q2, q3, hq⟩
    refine ⟨rfl, ?_⟩
    have p1 : H' t.a = some (Tr.nd (Tr.mk t.a (L ++ n :: R) (A ++ Tr.mk p.a M X :: Tr.mk k.a (m :: k.es) (Z ++ k.ks) :: B))) := by rw [q1]; simp [Tr.nd, he, hs]
    have p2 : H' p.a = some (Tr.mk p.a M X).nd := by rw [q2]; simp [Tr.nd, hM, hX, List.map_take]
    have p3 : H' k.a = some (Tr.mk k.a (m :: k.es) (Z ++ k.ks)).nd := by
      rw [q3]
      have : (if p.ks.map Tr.a = [] then k.ks.map Tr.a else (p.ks.map Tr.a).getLastD 0 :: k.ks.map Tr.a) = (Z ++ k.ks).map Tr.a := by
        by_cases hp0 : p.ks = []
        · rw [if_pos (by simp [hp0]), hZl hp0]; rfl
        · rw [if_neg (by simpa using hp0)]
          cases d with
          | zero => exact absurd hop.2.1 hp0
          | succ d' =>
            have := hZ d' rfl
            obtain ⟨z, rfl⟩ := List.length_eq_one_iff.1 this
            rw [hXZ]; simp
      rw [this]; simp [Tr.nd]
    obtain ⟨hrep, hen⟩ := left_tree ho hn he hs hA hB hM hXZ (by omega) hZ (by omega) p1 p2 p3 hq
    have hnm : n.1 < m.1 := by
      rw [ents_two d t L R m A B p k he hs hA hB] at hr
      have h1 := (rise_append.1 (rise_append.1 hr).1).2.1
      refine (rise_append.1 h1).2.2 n ?_ m (by simp)
      cases d with
      | zero => rw [ents, hM]; simp
      | succ d' => exact (weave_sub p.es _ (by rw [List.length_map]; exact hop.2.1)).subset (by rw [hM]; simp)
    refine ⟨own', H', _, L ++ [n], R, A ++ [Tr.mk p.a M X], Tr.mk k.a (m :: k.es) (Z ++ k.ks), B, by simp, hH', hF, hrep, hen, by simp, by simp, by simp [hA], hB, ?_, hR, by simp; omega, by simp [he]⟩
    intro q hq
    rcases List.mem_append.1 hq with hq | hq
    · exact hL q hq
    · rw [List.mem_singleton.1 hq]; omega
  have HC := Aside0.mk (hcall.mono hend)
  generalize RoomPostS own H w d lo t at_ = Q at HC ⊢
  have b50 : L.length ≤ 50 := by rw [he] at hx7; simp at hx7; omega
  generalize t.ks.length = nn at k2 i1
  generalize k.es.length = nk at kk i3
  generalize p.es.length = np at kp i4
  generalize L.length = i at y z i1 HC b50 ⊢
  generalize k.a = ka at y kk
  generalize p.a = pa at z kp
  generalize t.a = x at k2 HC ⊢
  have i0 : (0 : Int) < ((i + 1 : Nat) : Int) := by omega
  have e1 : ((i + 1 : Nat) : Int) - 1 = (i : Int) := by omega
  have i5 : (i : Int) < (nn : Int) := by omega
  have i6 : (0 : Int) ≤ (i : Int) := by omega
  have i7 : (i : Int) + 1 < (nn : Int) := by omega
  have i8 : ((i : Int) + 1).toNat = i + 1 := by omega
  clear hok hop hkr hpr hcl hc hnd hfpm nxp nxk npk hM hMl h7 hk3 hx7 hXZ hX hZ hZl hcall hend he hs hA hB hL hm hR hk hp ho hn hr hH
  go_enter Try.func70, Try.ntmps70
  go_wp2_with (go_at_call 85; refine HC.out.mono ?_; rintro e w2 ⟨rfl, hq⟩; have HQ := Aside0.mk hq; clear hq)
  exact HQ.out
set_option maxHeartbeats 4000000 in
/-- The one behind lends. -/
theorem room2S {own : Own} {H : HP ByteArray} (d lo : Nat) (t k q : Tr ByteArray) (at_ : Int) (L R : List (Int × ByteArray)) (m : Int × ByteArray) (A B : List (Tr ByteArray)) (w : World) (hH : Heap LS w own H) (ho : Ok H (d + 1) lo t) (hn : (fp (d + 1) t).Nodup) (hr : Rise (ents (d + 1) t))
    (he : t.es = L ++ m :: R) (hs : t.ks = A ++ k :: q :: B) (hA : A.length = L.length) (hB : B.length = R.length) (hL : ∀ x ∈ L, x.1 < at_) (hm : at_ < m.1) (hR : ∀ y ∈ R, at_ < y.1) (hk : k.es.length ≤ 3) (hq : 3 < q.es.length)
    (hahead : ∀ A0 p, A = A0 ++ [p] → p.es.length ≤ 3) :
    Calls Try.prog 70 #[.pointer (some ⟨t.a, 0, none⟩), .int .i64 (L.length : Int)] w (RoomPostS own H w d lo t at_) := by
  have hok := ho.2.2.2.2 k (by rw [hs]; simp)
  have hoq := ho.2.2.2.2 q (by rw [hs]; simp)
  have hkr := hok.root
  have hqr := hoq.root
  have hcl : t.nd.cs.length = t.ks.length := by simp [Tr.nd]
  obtain ⟨g, cx, k2, _, hc⟩ := kidsS hH ho.root (by rw [hcl, ho.2.1]; omega)
  have y := hc L.length k.a (by simp [Tr.nd, hs, ← hA])
  have z := hc (L.length + 1) q.a (by simp [Tr.nd, hs, ← hA])
  obtain ⟨Ak, ck, kk⟩ := keysS hH hkr
  obtain ⟨Aq, cq, kq⟩ := keysS hH hqr
  obtain ⟨Ax, cx0, kx⟩ := keysS hH ho.root
  rw [hcl] at k2
  rw [show k.nd.ks.length = k.es.length by simp [Tr.nd]] at kk
  rw [show q.nd.ks.length = q.es.length by simp [Tr.nd]] at kq
  rw [show t.nd.ks.length = t.es.length by simp [Tr.nd]] at kx
  have i1 : ((L.length + 1 : Nat) : Int) < (t.ks.length : Int) := by rw [hs]; simp; omega
  have i2 : (L.length : Int) < (t.es.length : Int) := by rw [he]; simp; omega
  have i3 : ¬ ((3 : Int) < (k.es.length : Int)) := by omega
  have i4 : (3 : Int) < (q.es.length : Int) := by omega
  have hap : 0 < L.length → ∃ (pa np : Nat) (Ap : Option Addr) (cp : Nat), w.cell? ⟨g, L.length - 1, none⟩ = some (.pointer (some ⟨pa, 0, none⟩)) ∧ w.cell? ⟨pa, 0, none⟩ = some (.slice Ap np cp) ∧ ¬ ((3 : Int) < (np : Int)) := fun h0 => by
    obtain ⟨A0, p, hAp⟩ : ∃ A0 p, A = A0 ++ [p] := ⟨A.dropLast, A.getLast (by intro e; rw [e] at hA; simp at hA; omega), (List.dropLast_concat_getLast _).symm⟩
    have hop := ho.2.2.2.2 p (by rw [hs, hAp]; simp)
    have hl : A0.length = L.length - 1 := by rw [hAp] at hA; simp at hA; omega
    obtain ⟨Ap, cp, kp⟩ := keysS hH hop.root
    refine ⟨p.a, p.es.length, Ap, cp, hc (L.length - 1) p.a (by rw [← hl]; simp [Tr.nd, hs, hAp]), by rw [kp]; simp [Tr.nd], ?_⟩
    have := hahead A0 p hAp; omega
  have hnd := hn
  rw [fp, hs] at hnd
  have hfpm : ∀ q ∈ t.ks, q.a ∈ t.ks.flatMap (fp d) := fun q hq => List.mem_flatMap.2 ⟨q, hq, addr_mem d q⟩
  have nxp : t.a ≠ k.a := fun e => (List.nodup_cons.1 hnd).1 (by rw [e, ← hs]; exact hfpm k (by rw [hs]; simp))
  have nxk : t.a ≠ q.a := fun e => (List.nodup_cons.1 hnd).1 (by rw [e, ← hs]; exact hfpm q (by rw [hs]; simp))
  have npk : k.a ≠ q.a := fun e => by
    have h2 := (List.nodup_cons.1 hnd).2
    rw [List.flatMap_append, List.flatMap_cons, List.flatMap_cons] at h2
    have h3 := (List.nodup_append.1 (List.nodup_append.1 h2).2.1).2.2 k.a (addr_mem d k) q.a (List.mem_append_left _ (addr_mem d q))
    exact h3 e
  obtain ⟨n, N, hN⟩ : ∃ n N, q.es = n :: N := by
    cases h : q.es with
    | nil => rw [h] at hq; simp at hq
    | cons n N => exact ⟨n, N, rfl⟩
  have hNl : q.es.length = N.length + 1 := by rw [hN]; simp
  have h7 := hoq.hi
  have hk3 := hok.lo
  have hx7 := ho.hi
  obtain ⟨Z, Y, hZY, hY, hZ, hZl⟩ : ∃ Z Y, q.ks = Z ++ Y ∧ Y = q.ks.drop 1 ∧ (∀ d', d = d' + 1 → Z.length = 1) ∧ (q.ks = [] → Z = []) := by
    refine ⟨q.ks.take 1, q.ks.drop 1, (List.take_append_drop _ _).symm, rfl, fun d' e => ?_, fun e => by simp [e]⟩
    have := hoq.kids d' e
    rw [List.length_take]; omega
  have hcall := rightS.calls t.a k.a q.a L.length (t.es.map Prod.fst) (t.es.map Prod.snd) (t.ks.map Tr.a) (k.es.map Prod.fst) (k.es.map Prod.snd) (k.ks.map Tr.a) (q.es.map Prod.fst) (q.es.map Prod.snd) (q.ks.map Tr.a) w hH ho.root hkr hqr nxp nxk npk
    (by simp [hs, ← hA]) (by simp [hs, ← hA]) m.1 m.2 n.1 n.2 (by simp [he]) (by simp [he]) (by simp [hN]) (by simp [hN]) (by simp [ho.2.1]; omega) (by simp; omega) (by simp; omega) (by simp; omega) (by simp; omega)
    (by cases d with
      | zero => simp [hok.2.1]
      | succ d' => simp [hok.kids d' rfl]; omega) (by simp; omega) (by simp; omega)
    (by cases d with
      | zero => simp [hoq.2.1]
      | succ d' => simp [hoq.kids d' rfl]; omega)
  have hend : ∀ e w', LeftPostS own H w t.a k.a q.a ⟨(t.es.map Prod.fst).set L.length n.1, (t.es.map Prod.snd).set L.length n.2, t.ks.map Tr.a⟩ ⟨k.es.map Prod.fst ++ [m.1], k.es.map Prod.snd ++ [m.2], if q.ks.map Tr.a = [] then k.ks.map Tr.a else k.ks.map Tr.a ++ [(q.ks.map Tr.a).headD 0]⟩
      ⟨(q.es.map Prod.fst).drop 1, (q.es.map Prod.snd).drop 1, (q.ks.map Tr.a).drop 1⟩ e w' → e = .returned (.tuple #[]) ∧ RoomPostS own H w d lo t at_ (.returned (.int .i64 (L.length : Int))) w' := by
    rintro e w' ⟨own', H', rfl, hH', hF, q1, q2, q3, hq'⟩
    refine ⟨rfl, ?_⟩
    have p1 : H' t.a = some (Tr.nd (Tr.mk t.a (L ++ n :: R) (A ++ Tr.mk k.a (k.es ++ [m]) (k.ks ++ Z) :: Tr.mk q.a N Y :: B))) := by rw [q1]; simp [Tr.nd, he, hs]
    have p3 : H' q.a = some (Tr.mk q.a N Y).nd := by rw [q3]; simp [Tr.nd, hN, hY, List.map_drop]
    have p2 : H' k.a = some (Tr.mk k.a (k.es ++ [m]) (k.ks ++ Z)).nd := by
      rw [q2]
      have : (if q.ks.map Tr.a = [] then k.ks.map Tr.a else k.ks.map Tr.a ++ [(q.ks.map Tr.a).headD 0]) = (k.ks ++ Z).map Tr.a := by
        by_cases hp0 : q.ks = []
        · rw [if_pos (by simp [hp0]), hZl hp0]; simp
        · rw [if_neg (by simpa using hp0)]
          cases d with
          | zero => exact absurd hoq.2.1 hp0
          | succ d' =>
            have := hZ d' rfl
            obtain ⟨z, rfl⟩ := List.length_eq_one_iff.1 this
            rw [hZY]; simp
      rw [this]; simp [Tr.nd]
    obtain ⟨hrep, hen⟩ := right_tree ho hn he hs hA hB hN hZY (by omega) hZ (by omega) p1 p2 p3 hq'
    have hnm : m.1 < n.1 := by
      rw [ents_two d t L R m A B k q he hs hA hB] at hr
      have h1 := (rise_append.1 (rise_append.1 hr).1).2.1
      refine (rise_cons.1 (rise_append.1 h1).2.1).1 n ?_
      cases d with
      | zero => rw [ents, hN]; simp
      | succ d' => exact (weave_sub q.es _ (by rw [List.length_map]; exact hoq.2.1)).subset (by rw [hN]; simp)
    refine ⟨own', H', _, L, n :: R, A, Tr.mk k.a (k.es ++ [m]) (k.ks ++ Z), Tr.mk q.a N Y :: B, rfl, hH', hF, hrep, hen, rfl, rfl, hA, by simp [hB], hL, ?_, by simp; omega, by simp [he]⟩
    intro z hz
    rcases List.mem_cons.1 hz with rfl | hz
    · omega
    · exact hR z hz
  have HC := Aside0.mk (hcall.mono hend)
  generalize RoomPostS own H w d lo t at_ = Q at HC ⊢
  have b50 : L.length ≤ 50 := by rw [he] at hx7; simp at hx7; omega
  generalize t.ks.length = nn at k2 i1
  generalize t.es.length = nx at kx i2
  generalize k.es.length = nk at kk i3
  generalize q.es.length = nq at kq i4
  generalize L.length = i at y z i1 i2 HC b50 hap ⊢
  generalize k.a = ka at y kk
  generalize q.a = qa at z kq
  generalize t.a = x at k2 kx HC ⊢
  have i5 : (i : Int) < (nn : Int) := by omega
  have i6 : (0 : Int) ≤ (i : Int) := by omega
  have i7 : (i : Int) + 1 < (nn : Int) := by omega
  have i8 : ((i : Int) + 1).toNat = i + 1 := by omega
  clear hok hoq hkr hqr hcl hc hnd hfpm nxp nxk npk hN hNl h7 hk3 hx7 hZY hY hZ hZl hcall hend he hs hA hB hL hm hR hk hq ho hn hr hH hahead
  by_cases h0 : 0 < i
  · obtain ⟨pa, np, Ap, cp, y3, y4, y5⟩ := hap h0
    obtain ⟨j, rfl⟩ : ∃ j, i = j + 1 := ⟨i - 1, by omega⟩
    rw [Nat.add_sub_cancel] at y3
    have j0 : (0 : Int) < ((j + 1 : Nat) : Int) := by omega
    have j1 : ((j + 1 : Nat) : Int) - 1 = (j : Int) := by omega
    have j2 : (j : Int) < (nn : Int) := by omega
    clear hap h0
    go_enter Try.func70, Try.ntmps70
    go_wp2_with (go_at_call 86; refine HC.out.mono ?_; rintro e w2 ⟨rfl, hq⟩; have HQ := Aside0.mk hq; clear hq)
    exact HQ.out
  · obtain rfl : i = 0 := by omega
    clear hap h0
    go_enter Try.func70, Try.ntmps70
    go_wp2_with (go_at_call 86; refine HC.out.mono ?_; rintro e w2 ⟨rfl, hq⟩; have HQ := Aside0.mk hq; clear hq)
    exact HQ.out
set_option maxHeartbeats 4000000 in
/-- Two are merged. -/
theorem room3S {own : Own} {H : HP ByteArray} (d lo : Nat) (t k q : Tr ByteArray) (at_ : Int) (L R : List (Int × ByteArray)) (m : Int × ByteArray) (A B : List (Tr ByteArray)) (w : World) (hH : Heap LS w own H) (ho : Ok H (d + 1) lo t) (hn : (fp (d + 1) t).Nodup) (hr : Rise (ents (d + 1) t))
    (he : t.es = L ++ m :: R) (hs : t.ks = A ++ k :: q :: B) (hA : A.length = L.length) (hB : B.length = R.length) (hL : ∀ x ∈ L, x.1 < at_) (hm : at_ < m.1) (hR : ∀ y ∈ R, at_ < y.1) (hk : k.es.length ≤ 3) (hq : q.es.length ≤ 3)
    (hahead : ∀ A0 p, A = A0 ++ [p] → p.es.length ≤ 3) :
    Calls Try.prog 70 #[.pointer (some ⟨t.a, 0, none⟩), .int .i64 (L.length : Int)] w (RoomPostS own H w d (t.es.length - 1) t at_) := by
  have hok := ho.2.2.2.2 k (by rw [hs]; simp)
  have hoq := ho.2.2.2.2 q (by rw [hs]; simp)
  have hkr := hok.root
  have hqr := hoq.root
  have hcl : t.nd.cs.length = t.ks.length := by simp [Tr.nd]
  obtain ⟨g, cx, k2, _, hc⟩ := kidsS hH ho.root (by rw [hcl, ho.2.1]; omega)
  have y := hc L.length k.a (by simp [Tr.nd, hs, ← hA])
  have z := hc (L.length + 1) q.a (by simp [Tr.nd, hs, ← hA])
  obtain ⟨Ak, ck, kk⟩ := keysS hH hkr
  obtain ⟨Aq, cq, kq⟩ := keysS hH hqr
  obtain ⟨Ax, cx0, kx⟩ := keysS hH ho.root
  rw [hcl] at k2
  rw [show k.nd.ks.length = k.es.length by simp [Tr.nd]] at kk
  rw [show q.nd.ks.length = q.es.length by simp [Tr.nd]] at kq
  rw [show t.nd.ks.length = t.es.length by simp [Tr.nd]] at kx
  have i1 : ((L.length + 1 : Nat) : Int) < (t.ks.length : Int) := by rw [hs]; simp; omega
  have i2 : (L.length : Int) < (t.es.length : Int) := by rw [he]; simp; omega
  have i3 : ¬ ((3 : Int) < (k.es.length : Int)) := by omega
  have i4 : ¬ ((3 : Int) < (q.es.length : Int)) := by omega
  have hap : 0 < L.length → ∃ (pa np : Nat) (Ap : Option Addr) (cp : Nat), w.cell? ⟨g, L.length - 1, none⟩ = some (.pointer (some ⟨pa, 0, none⟩)) ∧ w.cell? ⟨pa, 0, none⟩ = some (.slice Ap np cp) ∧ ¬ ((3 : Int) < (np : Int)) := fun h0 => by
    obtain ⟨A0, p, hAp⟩ : ∃ A0 p, A = A0 ++ [p] := ⟨A.dropLast, A.getLast (by intro e; rw [e] at hA; simp at hA; omega), (List.dropLast_concat_getLast _).symm⟩
    have hop := ho.2.2.2.2 p (by rw [hs, hAp]; simp)
    have hl : A0.length = L.length - 1 := by rw [hAp] at hA; simp at hA; omega
    obtain ⟨Ap, cp, kp⟩ := keysS hH hop.root
    refine ⟨p.a, p.es.length, Ap, cp, hc (L.length - 1) p.a (by rw [← hl]; simp [Tr.nd, hs, hAp]), by rw [kp]; simp [Tr.nd], ?_⟩
    have := hahead A0 p hAp; omega
  have hnd := hn
  rw [fp, hs] at hnd
  have hfpm : ∀ q ∈ t.ks, q.a ∈ t.ks.flatMap (fp d) := fun q hq => List.mem_flatMap.2 ⟨q, hq, addr_mem d q⟩
  have nxp : t.a ≠ k.a := fun e => (List.nodup_cons.1 hnd).1 (by rw [e, ← hs]; exact hfpm k (by rw [hs]; simp))
  have nxk : t.a ≠ q.a := fun e => (List.nodup_cons.1 hnd).1 (by rw [e, ← hs]; exact hfpm q (by rw [hs]; simp))
  have npk : k.a ≠ q.a := fun e => by
    have h2 := (List.nodup_cons.1 hnd).2
    rw [List.flatMap_append, List.flatMap_cons, List.flatMap_cons] at h2
    have h3 := (List.nodup_append.1 (List.nodup_append.1 h2).2.1).2.2 k.a (addr_mem d k) q.a (List.mem_append_left _ (addr_mem d q))
    exact h3 e
  have hk3 := hok.lo
  have hq3 := hoq.lo
  have hx7 := ho.hi
  have hk8 : k.ks.length ≤ 8 := by
    cases d with
    | zero => simp [hok.2.1]
    | succ d' => have := hok.kids d' rfl; omega
  have hq8 : q.ks.length ≤ 8 := by
    cases d with
    | zero => simp [hoq.2.1]
    | succ d' => have := hoq.kids d' rfl; omega
  have hcall := mergeS.calls t.a k.a q.a L.length (t.es.map Prod.fst) (t.es.map Prod.snd) (t.ks.map Tr.a) (k.es.map Prod.fst) (k.es.map Prod.snd) (k.ks.map Tr.a) (q.es.map Prod.fst) (q.es.map Prod.snd) (q.ks.map Tr.a) w hH ho.root hkr hqr nxp nxk npk
    (by simp [hs, ← hA]) (by simp [hs, ← hA]) m.1 m.2 (by simp [he]) (by simp [he]) (by simp [ho.2.1]; omega) (by simp; omega) (by simp; omega) (by simp; omega) (by simp; omega) (by simp; omega) (by simp; omega) (by simp; omega) (by simp; omega)
  have hend : ∀ e w', MergePostS own H w t.a k.a ⟨(t.es.map Prod.fst).take L.length ++ (t.es.map Prod.fst).drop (L.length + 1), (t.es.map Prod.snd).take L.length ++ (t.es.map Prod.snd).drop (L.length + 1), (t.ks.map Tr.a).take (L.length + 1) ++ (t.ks.map Tr.a).drop (L.length + 2)⟩
      ⟨k.es.map Prod.fst ++ m.1 :: q.es.map Prod.fst, k.es.map Prod.snd ++ m.2 :: q.es.map Prod.snd, k.ks.map Tr.a ++ q.ks.map Tr.a⟩ e w' → e = .returned (.tuple #[]) ∧ RoomPostS own H w d (t.es.length - 1) t at_ (.returned (.int .i64 (L.length : Int))) w' := by
    rintro e w' ⟨own', H', rfl, hH', hF, q1, q2, hq'⟩
    refine ⟨rfl, ?_⟩
    have p1 : H' t.a = some (Tr.nd (Tr.mk t.a (L ++ R) (A ++ Tr.mk k.a (k.es ++ m :: q.es) (k.ks ++ q.ks) :: B))) := by 
      rw [q1, show t.es.map Prod.fst = L.map Prod.fst ++ m.1 :: R.map Prod.fst by simp [he], show t.es.map Prod.snd = L.map Prod.snd ++ m.2 :: R.map Prod.snd by simp [he], show t.ks.map Tr.a = A.map Tr.a ++ k.a :: q.a :: B.map Tr.a by simp [hs],
        rm_one _ _ _ _ (by simp), rm_one _ _ _ _ (by simp), rm_two _ _ _ _ _ (by simp [hA])]
      simp [Tr.nd]
    have p2 : H' k.a = some (Tr.mk k.a (k.es ++ m :: q.es) (k.ks ++ q.ks)).nd := by rw [q2]; simp [Tr.nd]
    obtain ⟨hrep, hen⟩ := merge_tree (lo' := t.es.length - 1) ho hn he hs hA hB (by omega) (by rw [he]; simp) p1 p2 hq'
    exact ⟨own', H', _, L, R, A, Tr.mk k.a (k.es ++ m :: q.es) (k.ks ++ q.ks), B, rfl, hH', hF, hrep, hen, rfl, rfl, hA, hB, hL, hR, by simp; omega, by rw [he]; simp; omega⟩
  have HC := Aside0.mk (hcall.mono hend)
  generalize RoomPostS own H w d (t.es.length - 1) t at_ = Q at HC ⊢
  have b50 : L.length ≤ 50 := by rw [he] at hx7; simp at hx7; omega
  generalize t.ks.length = nn at k2 i1
  generalize t.es.length = nx at kx i2
  generalize k.es.length = nk at kk i3
  generalize q.es.length = nq at kq i4
  generalize L.length = i at y z i1 i2 HC b50 hap ⊢
  generalize k.a = ka at y kk
  generalize q.a = qa at z kq
  generalize t.a = x at k2 kx HC ⊢
  have i5 : (i : Int) < (nn : Int) := by omega
  have i6 : (0 : Int) ≤ (i : Int) := by omega
  have i7 : (i : Int) + 1 < (nn : Int) := by omega
  have i8 : ((i : Int) + 1).toNat = i + 1 := by omega
  clear hok hoq hkr hqr hcl hc hnd hfpm nxp nxk npk hk3 hq3 hx7 hk8 hq8 hcall hend he hs hA hB hL hm hR hk hq ho hn hr hH hahead
  by_cases h0 : 0 < i
  · obtain ⟨pa, np, Ap, cp, y3, y4, y5⟩ := hap h0
    obtain ⟨j, rfl⟩ : ∃ j, i = j + 1 := ⟨i - 1, by omega⟩
    rw [Nat.add_sub_cancel] at y3
    have j0 : (0 : Int) < ((j + 1 : Nat) : Int) := by omega
    have j1 : ((j + 1 : Nat) : Int) - 1 = (j : Int) := by omega
    have j2 : (j : Int) < (nn : Int) := by omega
    clear hap h0
    go_enter Try.func70, Try.ntmps70
    go_wp2_with (go_at_call 73; refine HC.out.mono ?_; rintro e w2 ⟨rfl, hq⟩; have HQ := Aside0.mk hq; clear hq)
    exact HQ.out
  · obtain rfl : i = 0 := by omega
    clear hap h0
    go_enter Try.func70, Try.ntmps70
    go_wp2_with (go_at_call 73; refine HC.out.mono ?_; rintro e w2 ⟨rfl, hq⟩; have HQ := Aside0.mk hq; clear hq)
    exact HQ.out
set_option maxHeartbeats 4000000 in
/-- The last one is merged with the one ahead. -/
theorem room4S {own : Own} {H : HP ByteArray} (d lo : Nat) (t p k : Tr ByteArray) (at_ : Int) (L : List (Int × ByteArray)) (m : Int × ByteArray) (A : List (Tr ByteArray)) (w : World) (hH : Heap LS w own H) (ho : Ok H (d + 1) lo t) (hn : (fp (d + 1) t).Nodup)
    (he : t.es = L ++ [m]) (hs : t.ks = A ++ [p, k]) (hA : A.length = L.length) (hL : ∀ x ∈ L, x.1 < at_) (hk : k.es.length ≤ 3) (hp : p.es.length ≤ 3) :
    Calls Try.prog 70 #[.pointer (some ⟨t.a, 0, none⟩), .int .i64 (L.length + 1 : Nat)] w (RoomPostS own H w d (t.es.length - 1) t at_) := by
  have hok := ho.2.2.2.2 k (by rw [hs]; simp)
  have hop := ho.2.2.2.2 p (by rw [hs]; simp)
  have hkr := hok.root
  have hpr := hop.root
  have hcl : t.nd.cs.length = t.ks.length := by simp [Tr.nd]
  obtain ⟨g, cx, k2, _, hc⟩ := kidsS hH ho.root (by rw [hcl, ho.2.1]; omega)
  have y := hc (L.length + 1) k.a (by simp [Tr.nd, hs, ← hA])
  have z := hc L.length p.a (by simp [Tr.nd, hs, ← hA])
  obtain ⟨Ak, ck, kk⟩ := keysS hH hkr
  obtain ⟨Ap, cp, kp⟩ := keysS hH hpr
  obtain ⟨Ax, cx0, kx⟩ := keysS hH ho.root
  rw [hcl] at k2
  rw [show k.nd.ks.length = k.es.length by simp [Tr.nd]] at kk
  rw [show p.nd.ks.length = p.es.length by simp [Tr.nd]] at kp
  rw [show t.nd.ks.length = L.length + 1 by simp [Tr.nd, he]] at kx
  have i1 : ((L.length + 1 : Nat) : Int) < (t.ks.length : Int) := by rw [hs]; simp; omega
  have i3 : ¬ ((3 : Int) < (k.es.length : Int)) := by omega
  have i4 : ¬ ((3 : Int) < (p.es.length : Int)) := by omega
  have hnd := hn
  rw [fp, hs] at hnd
  have hfpm : ∀ q ∈ t.ks, q.a ∈ t.ks.flatMap (fp d) := fun q hq => List.mem_flatMap.2 ⟨q, hq, addr_mem d q⟩
  have nxp : t.a ≠ p.a := fun e => (List.nodup_cons.1 hnd).1 (by rw [e, ← hs]; exact hfpm p (by rw [hs]; simp))
  have nxk : t.a ≠ k.a := fun e => (List.nodup_cons.1 hnd).1 (by rw [e, ← hs]; exact hfpm k (by rw [hs]; simp))
  have npk : p.a ≠ k.a := fun e => by
    have h2 := (List.nodup_cons.1 hnd).2
    rw [List.flatMap_append, List.flatMap_cons, List.flatMap_cons] at h2
    have h3 := (List.nodup_append.1 (List.nodup_append.1 h2).2.1).2.2 p.a (addr_mem d p) k.a (List.mem_append_left _ (addr_mem d k))
    exact h3 e
  have hk3 := hok.lo
  have hp3 := hop.lo
  have hx7 := ho.hi
  have hk8 : k.ks.length ≤ 8 := by
    cases d with
    | zero => simp [hok.2.1]
    | succ d' => have := hok.kids d' rfl; omega
  have hp8 : p.ks.length ≤ 8 := by
    cases d with
    | zero => simp [hop.2.1]
    | succ d' => have := hop.kids d' rfl; omega
  have hcall := mergeS.calls t.a p.a k.a L.length (t.es.map Prod.fst) (t.es.map Prod.snd) (t.ks.map Tr.a) (p.es.map Prod.fst) (p.es.map Prod.snd) (p.ks.map Tr.a) (k.es.map Prod.fst) (k.es.map Prod.snd) (k.ks.map Tr.a) w hH ho.root hpr hkr nxp nxk npk
    (by simp [hs, ← hA]) (by simp [hs, ← hA]) m.1 m.2 (by simp [he]) (by simp [he]) (by simp [ho.2.1]; omega) (by simp; omega) (by simp; omega) (by simp; omega) (by simp; omega) (by simp; omega) (by simp; omega) (by simp; omega) (by simp; omega)
  have hend : ∀ e w', MergePostS own H w t.a p.a ⟨(t.es.map Prod.fst).take L.length ++ (t.es.map Prod.fst).drop (L.length + 1), (t.es.map Prod.snd).take L.length ++ (t.es.map Prod.snd).drop (L.length + 1), (t.ks.map Tr.a).take (L.length + 1) ++ (t.ks.map Tr.a).drop (L.length + 2)⟩
      ⟨p.es.map Prod.fst ++ m.1 :: k.es.map Prod.fst, p.es.map Prod.snd ++ m.2 :: k.es.map Prod.snd, p.ks.map Tr.a ++ k.ks.map Tr.a⟩ e w' → e = .returned (.tuple #[]) ∧ RoomPostS own H w d (t.es.length - 1) t at_ (.returned (.int .i64 (L.length : Int))) w' := by
    rintro e w' ⟨own', H', rfl, hH', hF, q1, q2, hq'⟩
    refine ⟨rfl, ?_⟩
    have p1 : H' t.a = some (Tr.nd (Tr.mk t.a (L ++ []) (A ++ Tr.mk p.a (p.es ++ m :: k.es) (p.ks ++ k.ks) :: []))) := by 
      rw [q1, show t.es.map Prod.fst = L.map Prod.fst ++ m.1 :: [] by simp [he], show t.es.map Prod.snd = L.map Prod.snd ++ m.2 :: [] by simp [he], show t.ks.map Tr.a = A.map Tr.a ++ p.a :: k.a :: [] by simp [hs],
        rm_one _ _ _ _ (by simp), rm_one _ _ _ _ (by simp), rm_two _ _ _ _ _ (by simp [hA])]
      simp [Tr.nd]
    have p2 : H' p.a = some (Tr.mk p.a (p.es ++ m :: k.es) (p.ks ++ k.ks)).nd := by rw [q2]; simp [Tr.nd]
    obtain ⟨hrep, hen⟩ := merge_tree (lo' := t.es.length - 1) (L := L) (R := []) (A := A) (B := []) ho hn he hs hA rfl (by omega) (by rw [he]; simp) p1 p2 hq'
    exact ⟨own', H', _, L, [], A, Tr.mk p.a (p.es ++ m :: k.es) (p.ks ++ k.ks), [], rfl, hH', hF, hrep, hen, rfl, rfl, hA, rfl, hL, by simp, by simp; omega, by simp [he]⟩
  have HC := Aside0.mk (hcall.mono hend)
  generalize RoomPostS own H w d (t.es.length - 1) t at_ = Q at HC ⊢
  have b50 : L.length ≤ 50 := by rw [he] at hx7; simp at hx7; omega
  generalize t.ks.length = nn at k2 i1
  generalize k.es.length = nk at kk i3
  generalize p.es.length = np at kp i4
  generalize L.length = i at y z i1 HC b50 kx ⊢
  generalize k.a = ka at y kk
  generalize p.a = pa at z kp
  generalize t.a = x at k2 kx HC ⊢
  have i0 : (0 : Int) < ((i + 1 : Nat) : Int) := by omega
  have e1 : ((i + 1 : Nat) : Int) - 1 = (i : Int) := by omega
  have i5 : (i : Int) < (nn : Int) := by omega
  have i6 : (0 : Int) ≤ (i : Int) := by omega
  have i7 : (i : Int) + 1 < (nn : Int) := by omega
  have i8 : ((i : Int) + 1).toNat = i + 1 := by omega
  clear hok hop hkr hpr hcl hc hnd hfpm nxp nxk npk hk3 hp3 hx7 hk8 hp8 hcall hend he hs hA hL hk hp ho hn hH
  go_enter Try.func70, Try.ntmps70
  go_wp2_with (go_at_call 73; refine HC.out.mono ?_; rintro e w2 ⟨rfl, hq⟩; have HQ := Aside0.mk hq; clear hq)
  exact HQ.out
end Go.Proofs.Ytkfcflflgecljaa.H
