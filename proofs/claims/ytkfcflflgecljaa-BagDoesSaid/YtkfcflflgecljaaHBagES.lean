/- drop of a bag's node over string: a number is taken out. -/
import Derived.Test.YtkfcflflgecljaaHBagDS
import Derived.Deep.DeepCutAuto
import Derived.Deep.CutBlock
set_option linter.unusedVariables false
set_option linter.unusedSimpArgs false
namespace Go.Proofs.Ytkfcflflgecljaa.H
open Go.RowKit Go.Proofs.YtkfcflflgecljaaW.PrintWords Go.Proofs.YtkfcflflgecljaaW.PrintLast
set_option maxRecDepth 100000
theorem roomS.calls {own : Own} {H : HP ByteArray} (d lo : Nat) (t k : Tr ByteArray) (at_ : Int) (L R : List (Int × ByteArray)) (A B : List (Tr ByteArray)) (w : World) (hH : Heap LS w own H) (ho : Ok H (d + 1) lo t) (hn : (fp (d + 1) t).Nodup) (hr : Rise (ents (d + 1) t)) (h1 : 1 ≤ t.es.length)
    (he : t.es = L ++ R) (hs : t.ks = A ++ k :: B) (hA : A.length = L.length) (hB : B.length = R.length) (hL : ∀ x ∈ L, x.1 < at_) (hR : ∀ y ∈ R, at_ < y.1) :
    Calls Try.prog 70 #[.pointer (some ⟨t.a, 0, none⟩), .int .i64 (L.length : Int)] w (RoomPostS own H w d (t.es.length - 1) t at_) := by
  have ho' : Ok H (d + 1) (t.es.length - 1) t := ho.low (Nat.sub_le _ _)
  by_cases hk : 3 < k.es.length
  · exact room0S d _ t k at_ L R A B w hH ho' hn he hs hA hB hL hR hk
  have hk3 : k.es.length ≤ 3 := by omega
  rcases List.eq_nil_or_concat L with hL0 | ⟨L0, m, hL0⟩
  · have hR0 : R ≠ [] := by rintro rfl; rw [he, hL0] at h1; simp at h1
    obtain ⟨m, R', rfl⟩ := List.exists_cons_of_ne_nil hR0
    obtain ⟨q, B', rfl⟩ : ∃ q B', B = q :: B' := by
      cases B with
      | nil => simp at hB
      | cons q B' => exact ⟨q, B', rfl⟩
    have hah : ∀ A0 p, A = A0 ++ [p] → p.es.length ≤ 3 := fun A0 p e => by rw [e, hL0] at hA; simp at hA
    by_cases hq : 3 < q.es.length
    · exact room2S d _ t k q at_ L R' m A B' w hH ho' hn hr he hs hA (by simpa using hB) hL (hR m (by simp)) (fun y hy => hR y (by simp [hy])) hk3 hq hah
    · exact room3S d _ t k q at_ L R' m A B' w hH ho' hn hr he hs hA (by simpa using hB) hL (hR m (by simp)) (fun y hy => hR y (by simp [hy])) hk3 (by omega) hah
  · rw [List.concat_eq_append] at hL0
    obtain ⟨A0, p, rfl⟩ : ∃ A0 p, A = A0 ++ [p] := ⟨A.dropLast, A.getLast (by intro e; rw [e, hL0] at hA; simp at hA), (List.dropLast_concat_getLast _).symm⟩
    have hA0 : A0.length = L0.length := by rw [hL0] at hA; simpa using hA
    by_cases hp : 3 < p.es.length
    · have := room1S d _ t p k at_ L0 R m A0 B w hH ho' hn hr (by rw [he, hL0]; simp) (by rw [hs]; simp) hA0 hB (fun x hx => hL x (by rw [hL0]; simp [hx])) (hL m (by rw [hL0]; simp)) hR hk3 hp
      rw [show (L.length : Int) = ((L0.length + 1 : Nat) : Int) by rw [hL0]; simp]
      exact this
    · cases R with
      | cons m' R' =>
        obtain ⟨q, B', rfl⟩ : ∃ q B', B = q :: B' := by
          cases B with
          | nil => simp at hB
          | cons q B' => exact ⟨q, B', rfl⟩
        have hah : ∀ A1 p', A0 ++ [p] = A1 ++ [p'] → p'.es.length ≤ 3 := fun A1 p' e => by
          have := (List.append_inj' e rfl).2
          injection this with this
          subst this; omega
        by_cases hq : 3 < q.es.length
        · exact room2S d _ t k q at_ L R' m' (A0 ++ [p]) B' w hH ho' hn hr he hs hA (by simpa using hB) hL (hR m' (by simp)) (fun y hy => hR y (by simp [hy])) hk3 hq hah
        · exact room3S d _ t k q at_ L R' m' (A0 ++ [p]) B' w hH ho' hn hr he hs hA (by simpa using hB) hL (hR m' (by simp)) (fun y hy => hR y (by simp [hy])) hk3 (by omega) hah
      | nil =>
        obtain rfl : B = [] := List.eq_nil_of_length_eq_zero (by simpa using hB)
        have := room4S d _ t p k at_ L0 m A0 w hH ho' hn (by rw [he, hL0]; simp) (by rw [hs]; simp) hA0 (fun x hx => hL x (by rw [hL0]; simp [hx])) hk3 (by omega)
        rw [show (L.length : Int) = ((L0.length + 1 : Nat) : Int) by rw [hL0]; simp]
        exact this
def DropPostS (own : Own) (H : HP ByteArray) (w : World) (d : Nat) (t : Tr ByteArray) (at_ : Int) (e : Ending) (w' : World) : Prop :=
  ∃ own' H' t', e = .returned (.tuple #[]) ∧ Heap LS w' own' H' ∧ Fr own own' w w' ∧ Rep H H' d (t.es.length - 1) t t' ∧ ents d t' = delL at_ (ents d t)
def DropAtS (d : Nat) : Prop := ∀ (own : Own) (H : HP ByteArray) (lo : Nat) (t : Tr ByteArray) (at_ : Int) (w : World), Heap LS w own H → Ok H d lo t → (fp d t).Nodup → Rise (ents d t) → (d ≠ 0 → 1 ≤ t.es.length) →
  Calls Try.prog 45 #[.pointer (some ⟨t.a, 0, none⟩), .int .i64 at_] w (DropPostS own H w d t at_)
set_option maxHeartbeats 4000000 in
/-- Not here: below, where there is room. -/
theorem drop1S {own : Own} {H : HP ByteArray} (d lo : Nat) (ih : DropAtS d) (t k : Tr ByteArray) (at_ : Int) (L R : List (Int × ByteArray)) (A B : List (Tr ByteArray)) (w : World) (hH : Heap LS w own H) (ho : Ok H (d + 1) lo t) (hn : (fp (d + 1) t).Nodup) (hr : Rise (ents (d + 1) t)) (h1 : 1 ≤ t.es.length)
    (he : t.es = L ++ R) (hl : L.length = (t.es.map Prod.fst).countP (· < at_)) (hs : t.ks = A ++ k :: B) (hA : A.length = L.length) (hB : B.length = R.length) (hL : ∀ x ∈ L, x.1 < at_) (hR : ∀ y ∈ R, at_ < y.1) (hc : (t.es.map Prod.fst).contains at_ = false) :
    Calls Try.prog 45 #[.pointer (some ⟨t.a, 0, none⟩), .int .i64 at_] w (DropPostS own H w (d + 1) t at_) := by
  have hes := own_rise ho.kids hr
  have h7 := ho.hi
  have hf := findS.calls t.a t.nd at_ w hH ho.root (by simp [Tr.nd]; omega) hes
  rw [show t.nd.ks.countP (· < at_) = L.length from hl.symm, show t.nd.ks.contains at_ = false from hc] at hf
  have hlf := leafS.calls t.a t.nd w hH ho.root
  rw [ho.leaf, show decide (d + 1 = 0) = false from rfl] at hlf
  have hroom := roomS.calls d lo t k at_ L R A B w hH ho hn hr h1 he hs hA hB hL hR
  have HF := Aside0.mk hf
  have HLF := Aside0.mk hlf
  have HR := Aside0.mk hroom
  have T := Aside0.mk hr
  generalize hx : t.a = x at HF HLF HR ⊢
  have HX := Aside0.mk hx
  generalize L.length = i at HF HR
  clear hes h7 hf hlf hroom hH ho hn hr h1 he hl hs hA hB hL hR hc hx
  go_enter Try.func45, Try.ntmps45
  go_wp2_with (first | (go_at_call 40; refine HF.out.mono ?_; rintro e w' ⟨rfl, hw⟩; obtain rfl := hw.symm; clear hw) | (go_at_call 41; refine HLF.out.mono ?_; rintro e w' ⟨rfl, hw⟩; obtain rfl := hw.symm; clear hw))
  refine HR.out.mono ?_
  rintro e w2 ⟨own2, H2, t2, L2, R2, A2, k2, B2, rfl, hH2, hF2, hrep, hen, he2, hs2, hA2, hB2, hL2, hR2, hk4, hlen⟩
  have hcl : t2.nd.cs.length = t2.ks.length := by simp [Tr.nd]
  obtain ⟨g, cx, kk, _, hcc⟩ := kidsS hH2 hrep.ok.root (by rw [hcl, hrep.ok.2.1]; omega)
  have y := hcc L2.length k2.a (by simp [Tr.nd, hs2, ← hA2])
  rw [hcl, hrep.addr, HX.out] at kk
  have i1 : (L2.length : Int) < (t2.ks.length : Int) := by rw [hs2]; simp; omega
  have hri2 : Rise (ents (d + 1) t2) := by rw [hen]; exact T.out
  have hkok := hrep.ok.2.2.2.2 k2 (by rw [hs2]; simp)
  have hkn : (fp d k2).Nodup := (nodup_parts.1 (by have := hrep.nodup; rw [fp_split d t2 A2 B2 k2 hs2] at this; exact this)).2.2.2.2.1
  have hkr : Rise (ents d k2) := by
    rw [ents_kid d t2 L2 R2 A2 B2 k2 he2 hs2 hA2 hB2] at hri2
    exact (rise_append.1 (rise_append.1 hri2).1).2.1
  have hrec := ih own2 H2 3 k2 at_ w2 hH2 hkok hkn hkr (fun _ => by omega)
  have hend : ∀ e w3, DropPostS own2 H2 w2 d k2 at_ e w3 → e = .returned (.tuple #[]) ∧ DropPostS own H w (d + 1) t at_ (.returned (.tuple #[])) w3 := by
    rintro e w3 ⟨own3, H3, k3, rfl, hH3, hF3, hrep3, hen3⟩
    obtain ⟨t3, r3, e3⟩ := del_kid hrep.ok hrep.nodup hri2 he2 hs2 hA2 hB2 hL2 hR2 hrep3 hk4 hen3
    exact ⟨rfl, own3, H3, t3, rfl, hH3, hF2.trans hF3, hrep.trans r3, by rw [e3, hen]⟩
  have HC := Aside0.mk (hrec.mono hend)
  generalize t2.ks.length = nn at kk i1
  generalize k2.a = ka at y HC
  generalize L2.length = j at y i1 ⊢
  clear hH2 hF2 hrep hen he2 hs2 hA2 hB2 hL2 hR2 hk4 hlen hcl hcc hri2 hkok hkn hkr hrec hend T HR
  go_wp2_with fail
  refine HC.out.mono ?_
  rintro e w3 ⟨rfl, hq⟩
  have HQ := Aside0.mk hq
  clear hq
  go_wp2_with fail
  exact bodyPost_end (v := .tuple #[]) (by simp [results, Try.results45, go_sem]) (by rfl) HQ.out
set_option maxHeartbeats 4000000 in
/-- Here, and no room on either side: merged, then below. -/
theorem drop4S {own : Own} {H : HP ByteArray} (d lo : Nat) (ih : DropAtS d) (t k q : Tr ByteArray) (at_ : Int) (u : ByteArray) (L R : List (Int × ByteArray)) (A B : List (Tr ByteArray)) (w : World) (hH : Heap LS w own H) (ho : Ok H (d + 1) lo t) (hn : (fp (d + 1) t).Nodup) (hr : Rise (ents (d + 1) t))
    (he : t.es = L ++ (at_, u) :: R) (hl : L.length = (t.es.map Prod.fst).countP (· < at_)) (hs : t.ks = A ++ k :: q :: B) (hA : A.length = L.length) (hB : B.length = R.length) (hL : ∀ x ∈ L, x.1 < at_) (hc : (t.es.map Prod.fst).contains at_ = true) (hk : k.es.length ≤ 3) (hq : q.es.length ≤ 3) :
    Calls Try.prog 45 #[.pointer (some ⟨t.a, 0, none⟩), .int .i64 at_] w (DropPostS own H w (d + 1) t at_) := by
  have hes := own_rise ho.kids hr
  have h7 := ho.hi
  have hok := ho.2.2.2.2 k (by rw [hs]; simp)
  have hoq := ho.2.2.2.2 q (by rw [hs]; simp)
  have hkr := hok.root
  have hqr := hoq.root
  have hf := findS.calls t.a t.nd at_ w hH ho.root (by simp [Tr.nd]; omega) hes
  rw [show t.nd.ks.countP (· < at_) = L.length from hl.symm, show t.nd.ks.contains at_ = true from hc] at hf
  have hlf := leafS.calls t.a t.nd w hH ho.root
  rw [ho.leaf, show decide (d + 1 = 0) = false from rfl] at hlf
  have hcl : t.nd.cs.length = t.ks.length := by simp [Tr.nd]
  obtain ⟨g, cx, k2, _, hcc⟩ := kidsS hH ho.root (by rw [hcl, ho.2.1]; omega)
  have y := hcc L.length k.a (by simp [Tr.nd, hs, ← hA])
  have z := hcc (L.length + 1) q.a (by simp [Tr.nd, hs, ← hA])
  obtain ⟨Ak, ck, kk⟩ := keysS hH hkr
  obtain ⟨Aq, cq, kq⟩ := keysS hH hqr
  rw [hcl] at k2
  rw [show k.nd.ks.length = k.es.length by simp [Tr.nd]] at kk
  rw [show q.nd.ks.length = q.es.length by simp [Tr.nd]] at kq
  have i1 : ((L.length + 1 : Nat) : Int) < (t.ks.length : Int) := by rw [hs]; simp; omega
  have i3 : ¬ ((3 : Int) < (k.es.length : Int)) := by omega
  have i4 : ¬ ((3 : Int) < (q.es.length : Int)) := by omega
  have hnd := hn
  rw [fp, hs] at hnd
  have hfpm : ∀ q ∈ t.ks, q.a ∈ t.ks.flatMap (fp d) := fun q hq => List.mem_flatMap.2 ⟨q, hq, addr_mem d q⟩
  have nxp : t.a ≠ k.a := fun e => (List.nodup_cons.1 hnd).1 (by rw [e, ← hs]; exact hfpm k (by rw [hs]; simp))
  have nxk : t.a ≠ q.a := fun e => (List.nodup_cons.1 hnd).1 (by rw [e, ← hs]; exact hfpm q (by rw [hs]; simp))
  have npk : k.a ≠ q.a := fun e => by
    have h2 := (List.nodup_cons.1 hnd).2
    rw [List.flatMap_append, List.flatMap_cons, List.flatMap_cons] at h2
    have h3 := (List.nodup_append.1 (List.nodup_append.1 h2).2.1).2.2 k.a (addr_mem d k) q.a (List.mem_append_left _ (addr_mem d q))
    exact h3 e
  have hk3 := hok.lo
  have hq3 := hoq.lo
  have hk8 : k.ks.length ≤ 8 := by
    cases d with
    | zero => simp [hok.2.1]
    | succ d' => have := hok.kids d' rfl; omega
  have hq8 : q.ks.length ≤ 8 := by
    cases d with
    | zero => simp [hoq.2.1]
    | succ d' => have := hoq.kids d' rfl; omega
  have hcall := mergeS.calls t.a k.a q.a L.length (t.es.map Prod.fst) (t.es.map Prod.snd) (t.ks.map Tr.a) (k.es.map Prod.fst) (k.es.map Prod.snd) (k.ks.map Tr.a) (q.es.map Prod.fst) (q.es.map Prod.snd) (q.ks.map Tr.a) w hH ho.root hkr hqr nxp nxk npk
    (by simp [hs, ← hA]) (by simp [hs, ← hA]) at_ u (by simp [he]) (by simp [he]) (by simp [ho.2.1]; omega) (by simp; omega) (by simp; omega) (by simp; omega) (by simp; omega) (by simp; omega) (by simp; omega) (by simp; omega) (by simp; omega)
  -- what merge leaves
  have hmid : ∀ e w', MergePostS own H w t.a k.a ⟨(t.es.map Prod.fst).take L.length ++ (t.es.map Prod.fst).drop (L.length + 1), (t.es.map Prod.snd).take L.length ++ (t.es.map Prod.snd).drop (L.length + 1), (t.ks.map Tr.a).take (L.length + 1) ++ (t.ks.map Tr.a).drop (L.length + 2)⟩
      ⟨k.es.map Prod.fst ++ at_ :: q.es.map Prod.fst, k.es.map Prod.snd ++ u :: q.es.map Prod.snd, k.ks.map Tr.a ++ q.ks.map Tr.a⟩ e w' → ∃ own' H', e = .returned (.tuple #[]) ∧ Heap LS w' own' H' ∧ Fr own own' w w' ∧
        Rep H H' (d + 1) (t.es.length - 1) t (Tr.mk t.a (L ++ R) (A ++ Tr.mk k.a (k.es ++ (at_, u) :: q.es) (k.ks ++ q.ks) :: B)) ∧ ents (d + 1) (Tr.mk t.a (L ++ R) (A ++ Tr.mk k.a (k.es ++ (at_, u) :: q.es) (k.ks ++ q.ks) :: B)) = ents (d + 1) t := by
    rintro e w' ⟨own', H', rfl, hH', hF, q1, q2, hq'⟩
    have p1 : H' t.a = some (Tr.nd (Tr.mk t.a (L ++ R) (A ++ Tr.mk k.a (k.es ++ (at_, u) :: q.es) (k.ks ++ q.ks) :: B))) := by
      rw [q1, show t.es.map Prod.fst = L.map Prod.fst ++ at_ :: R.map Prod.fst by simp [he], show t.es.map Prod.snd = L.map Prod.snd ++ u :: R.map Prod.snd by simp [he], show t.ks.map Tr.a = A.map Tr.a ++ k.a :: q.a :: B.map Tr.a by simp [hs],
        rm_one _ _ _ _ (by simp), rm_one _ _ _ _ (by simp), rm_two _ _ _ _ _ (by simp [hA])]
      simp [Tr.nd]
    have p2 : H' k.a = some (Tr.mk k.a (k.es ++ (at_, u) :: q.es) (k.ks ++ q.ks)).nd := by rw [q2]; simp [Tr.nd]
    obtain ⟨hrep, hen⟩ := merge_tree (lo' := t.es.length - 1) ho hn he hs hA hB (by omega) (by rw [he]; simp) p1 p2 hq'
    exact ⟨own', H', rfl, hH', hF, hrep, hen⟩
  have HF := Aside0.mk hf
  have HLF := Aside0.mk hlf
  have HM := Aside0.mk (hcall.mono hmid)
  have hRgt : ∀ y ∈ R, at_ < y.1 := fun y hy => by
    have := hes
    rw [he] at this
    exact (rise_cons.1 (rise_append.1 this).2.1).1 y hy
  have T := Aside0.mk (And.intro hr (And.intro (And.intro hA hB) (And.intro hL (And.intro hRgt (And.intro hk3 hq3)))))
  obtain ⟨tm, htm⟩ : ∃ tm, Tr.mk t.a (L ++ R) (A ++ Tr.mk k.a (k.es ++ (at_, u) :: q.es) (k.ks ++ q.ks) :: B) = tm := ⟨_, rfl⟩
  rw [htm] at HM
  have HT := Aside0.mk htm
  generalize hx : t.a = x at HF HLF HM k2 ⊢
  have HX := Aside0.mk hx
  have b7 : L.length ≤ 7 := by rw [he] at h7; simp at h7; omega
  generalize hi : L.length = i at HF HM y z i1 b7
  have HI := Aside0.mk hi
  generalize t.ks.length = nn at k2 i1
  generalize k.es.length = nk at kk i3
  generalize q.es.length = nq at kq i4
  generalize k.a = ka at y kk
  generalize q.a = qa at z kq
  have i5 : (i : Int) < (nn : Int) := by omega
  have i6 : (0 : Int) ≤ (i : Int) := by omega
  have i7 : (i : Int) + 1 < (nn : Int) := by omega
  have i8 : ((i : Int) + 1).toNat = i + 1 := by omega
  clear hes h7 hf hlf hH ho hn hr he hl hs hA hB hL hc hx hi hok hoq hkr hqr hcl hcc hnd hfpm nxp nxk npk hk3 hq3 hk8 hq8 hcall hmid hk hq htm hRgt
  go_enter Try.func45, Try.ntmps45
  go_wp2_with (first | (go_at_call 40; refine HF.out.mono ?_; rintro e w' ⟨rfl, hw⟩; obtain rfl := hw.symm; clear hw) | (go_at_call 41; refine HLF.out.mono ?_; rintro e w' ⟨rfl, hw⟩; obtain rfl := hw.symm; clear hw))
  refine HM.out.mono ?_
  rintro e w2 ⟨own2, H2, rfl, hH2, hF2, hrep, hen⟩
  have htm := HT.out
  obtain ⟨hr, ⟨hA, hB⟩, hL, hR, hk3, hq3⟩ := T.out
  have he2 : tm.es = L ++ R := by rw [← htm]; rfl
  obtain ⟨km, hkm⟩ : ∃ km, Tr.mk k.a (k.es ++ (at_, u) :: q.es) (k.ks ++ q.ks) = km := ⟨_, rfl⟩
  have hs2 : tm.ks = A ++ km :: B := by rw [← htm, ← hkm]; rfl
  have hk4 : 4 ≤ km.es.length := by rw [← hkm]; simp; omega
  have hcl : tm.nd.cs.length = tm.ks.length := by simp [Tr.nd]
  obtain ⟨g2, cx2, kk2, _, hcc⟩ := kidsS hH2 hrep.ok.root (by rw [hcl, hrep.ok.2.1]; omega)
  have y2 := hcc i km.a (by rw [← HI.out]; simp [Tr.nd, hs2, ← hA])
  rw [hcl, hrep.addr, HX.out] at kk2
  have j1 : (i : Int) < (tm.ks.length : Int) := by rw [hs2, ← HI.out]; simp; omega
  have hri2 : Rise (ents (d + 1) tm) := by rw [hen]; exact hr
  have hkok := hrep.ok.2.2.2.2 km (by rw [hs2]; simp)
  have hkn : (fp d km).Nodup := (nodup_parts.1 (by have := hrep.nodup; rw [fp_split d tm A B km hs2] at this; exact this)).2.2.2.2.1
  have hkr : Rise (ents d km) := by
    rw [ents_kid d tm L R A B km he2 hs2 hA hB] at hri2
    exact (rise_append.1 (rise_append.1 hri2).1).2.1
  have hrec := ih own2 H2 3 km at_ w2 hH2 hkok hkn hkr (fun _ => by omega)
  have hend : ∀ e w3, DropPostS own2 H2 w2 d km at_ e w3 → e = .returned (.tuple #[]) ∧ DropPostS own H w (d + 1) t at_ (.returned (.tuple #[])) w3 := by
    rintro e w3 ⟨own3, H3, k3, rfl, hH3, hF3, hrep3, hen3⟩
    obtain ⟨t3, r3, e3⟩ := del_kid hrep.ok hrep.nodup hri2 he2 hs2 hA hB hL hR hrep3 hk4 hen3
    exact ⟨rfl, own3, H3, t3, rfl, hH3, hF2.trans hF3, hrep.trans r3, by rw [e3, hen]⟩
  have HC := Aside0.mk (hrec.mono hend)
  generalize tm.ks.length = n2 at kk2 j1
  generalize km.a = kma at y2 HC
  clear hH2 hF2 hrep hen he2 hs2 hk4 hcl hcc hri2 hkok hkn hkr hrec hend T HT htm hr hA hB hL hR hk3 hq3 hkm HM k2 y z kk kq i1 i3 i4
  go_wp2_with fail
  refine HC.out.mono ?_
  rintro e w3 ⟨rfl, hq⟩
  have HQ := Aside0.mk hq
  clear hq
  go_wp2_with fail
  exact bodyPost_end (v := .tuple #[]) (by simp [results, Try.results45, go_sem]) (by rfl) HQ.out
set_option maxHeartbeats 8000000 in
/-- On the lowest level. -/
theorem drop0S : DropAtS 0 := by
  intro own H lo t at_ w hH ho hn hr _
  have hes : Rise t.es := hr
  have h7 := ho.hi
  obtain ⟨L, R, he, hl, hL, hR, hcc⟩ := cut_at t.es hes at_
  have hks : t.ks = [] := ho.2.1
  have hf := findS.calls t.a t.nd at_ w hH ho.root (by simp [Tr.nd]; omega) hes
  rw [show t.nd.ks.countP (· < at_) = L.length from hl.symm] at hf
  have hlf := leafS.calls t.a t.nd w hH ho.root
  rw [ho.leaf, show decide ((0 : Nat) = 0) = true from rfl] at hlf
  by_cases hc : (t.es.map Prod.fst).contains at_ = true
  · obtain ⟨u, R', rfl⟩ := hcc.1 hc
    have hRgt : ∀ y ∈ R', at_ < y.1 := fun y hy => by
      have := hes
      rw [he] at this
      exact (rise_cons.1 (rise_append.1 this).2.1).1 y hy
    rw [show t.nd.ks.contains at_ = true from hc] at hf
    have hroot : H t.a = some ⟨L.map Prod.fst ++ at_ :: R'.map Prod.fst, L.map Prod.snd ++ u :: R'.map Prod.snd, []⟩ := by rw [ho.root]; simp [Tr.nd, he, hks]
    have hfin : ∀ (own' : Own) (H' : HP ByteArray) (w' : World), Heap LS w' own' H' → Fr own own' w w' → H' t.a = some ⟨L.map Prod.fst ++ R'.map Prod.fst, L.map Prod.snd ++ R'.map Prod.snd, []⟩ → (∀ c, c ≠ t.a → H' c = H c) → DropPostS own H w 0 t at_ (.returned (.tuple #[])) w' := fun own' H' w' h1 h2 h3 h4 =>
      ⟨own', H', Tr.mk t.a (L ++ R') [], rfl, h1, h2, Rep.leaf ho (by rw [h3]; simp [Tr.nd]) (by rw [he]; simp) (by rw [he] at h7; simp at h7 ⊢; omega) h4, by
        show L ++ R' = delL at_ t.es
        rw [he]; exact (delL_here at_ u L R' hL hRgt).symm⟩
    have b7 : L.length + R'.length ≤ 7 := by rw [he] at h7; simp at h7; omega
    have HF := Aside0.mk hf
    have HLF := Aside0.mk hlf
    have FIN := Aside0.mk hfin
    generalize hx : t.a = x at HF HLF FIN hroot ⊢
    obtain ⟨xk, hxk⟩ : ∃ xk, L.map Prod.fst ++ at_ :: R'.map Prod.fst = xk := ⟨_, rfl⟩
    obtain ⟨xv, hxv⟩ : ∃ xv, L.map Prod.snd ++ u :: R'.map Prod.snd = xv := ⟨_, rfl⟩
    rw [hxk, hxv] at hroot
    have hl1 : L.length < xk.length := by rw [← hxk]; simp
    have hl2 : L.length < xv.length := by rw [← hxv]; simp
    have hl3 : xk.length ≤ 50 := by rw [← hxk]; simp; omega
    have hl4 : xv.length ≤ 50 := by rw [← hxv]; simp; omega
    have e1 : L.map Prod.fst ++ R'.map Prod.fst = xk.take L.length ++ xk.drop (L.length + 1) := by rw [← hxk, rm_one _ _ _ _ (by simp)]
    have e2 : L.map Prod.snd ++ R'.map Prod.snd = xv.take L.length ++ xv.drop (L.length + 1) := by rw [← hxv, rm_one _ _ _ _ (by simp)]
    rw [e1, e2] at FIN
    generalize L.length = i at HF FIN hl1 hl2 b7
    have HR := Aside0.mk hroot
    have HH := Aside0.mk hH
    generalize DropPostS own H w 0 t at_ = Q at FIN ⊢
    clear hes h7 he hl hL hR hcc hks hf hlf hc hRgt hfin hx hxk hxv e1 e2 hroot hH ho hn hr
    go_enter Try.func45, Try.ntmps45
    go_upto_region 5 with (first | (go_at_call 40; refine HF.out.mono ?_; rintro e w' ⟨rfl, hw⟩; obtain rfl := hw.symm; clear hw) | (go_at_call 41; refine HLF.out.mono ?_; rintro e w' ⟨rfl, hw⟩; obtain rfl := hw.symm; clear hw))
    go_cut [] (fun wc => Step LS own H w x (⟨xk.take i ++ xk.drop (i + 1), xv, []⟩ : Nd ByteArray) wc)
    case first =>
      obtain ⟨XA0, xc0, XA1, xc1, XA2, xc2, vx⟩ := HH.out.view HR.out
      have p2 := vx.k0
      have f2 := vx.free 0
      have HD := Aside0.mk (DelI.calls (.slice XA0 xk.length xc0) (Nd.row LS (⟨xk, xv, []⟩ : Nd ByteArray) 0) i w vx.r0.row (by simp only [Nd.row, List.length_map]; omega) (row_oneS 0 _) (by simp only [Nd.row, List.length_map]; omega))
      go_wp2_with (go_at_call 52; refine HD.out.mono ?_; rintro e w2 ⟨A', n', c', rfl, hop⟩; have q1 := hop.grow.cell p2 (fun e => by have := vx.r0.mine x e.symm; rw [vx.mine] at this; simp at this); have q2 := (hop.grow.frozen_far ⟨x, 0, none⟩ vx.lt (fun e => by have := vx.r0.mine x e.symm; rw [vx.mine] at this; simp at this)).trans f2; have HOP := Aside0.mk hop; clear hop)
      go_meet
      exact HH.out.step (⟨xk.take i ++ xk.drop (i + 1), xv, []⟩ : Nd ByteArray) HR.out 0 (by decide) vx.k0 HOP.out (by simp [Nd.row, List.map_take, List.map_drop]) (by intro j hj hne; rcases j with _ | _ | _ | j <;> first | rfl | omega)
    case rest =>
    obtain ⟨own1, H1, hH1, hF1, hn1, ho1⟩ := hcut
    obtain ⟨w1, hwc⟩ : ∃ W, W = wc := ⟨_, rfl⟩
    subst hwc
    have T := Aside0.mk (And.intro hH1 (And.intro hF1 (And.intro hn1 ho1)))
    obtain ⟨XA0, xc0, XA1, xc1, XA2, xc2, vx⟩ := hH1.view hn1
    have p2 := vx.k1
    have f2 := vx.free 1
    have HD := Aside0.mk (DelS.calls (.slice XA1 xv.length xc1) (Nd.row LS (⟨xk.take i ++ xk.drop (i + 1), xv, []⟩ : Nd ByteArray) 1) i w1 vx.r1.row (by simp only [Nd.row, List.length_map]; omega) (row_oneS 1 _) (by simp only [Nd.row, List.length_map]; omega))
    clear hH1 hF1 hn1 ho1 HR HH
    go_wp2_with (go_at_call 69; refine HD.out.mono ?_; rintro e w2 ⟨A', n', c', rfl, hop⟩; have q1 := hop.grow.cell p2 (fun e => by have := vx.r1.mine x e.symm; rw [vx.mine] at this; simp at this); have q2 := (hop.grow.frozen_far ⟨x, 1, none⟩ vx.lt (fun e => by have := vx.r1.mine x e.symm; rw [vx.mine] at this; simp at this)).trans f2; have HOP := Aside0.mk hop; clear hop)
    obtain ⟨hH1, hF1, hn1, ho1⟩ := T.out
    obtain ⟨own2, H2, hH2, hF2, hn2, ho2⟩ := hH1.step (⟨xk.take i ++ xk.drop (i + 1), xv.take i ++ xv.drop (i + 1), []⟩ : Nd ByteArray) hn1 1 (by decide) vx.k1 HOP.out (by simp [Nd.row, List.map_take, List.map_drop]) (by intro j hj hne; rcases j with _ | _ | _ | j <;> first | rfl | omega)
    have HQ := Aside0.mk (FIN.out own2 H2 _ hH2 (hF1.trans hF2) hn2 (fun c hc => (ho2 c hc).trans (ho1 c hc)))
    exact bodyPost_end (v := .tuple #[]) (by simp [results, Try.results45, go_sem]) (by rfl) HQ.out
  · have hcf : (t.es.map Prod.fst).contains at_ = false := by simpa using hc
    rw [show t.nd.ks.contains at_ = false from hcf] at hf
    have hgt := gt_of_not (hes.sub (by rw [he]; exact List.sublist_append_right _ _)) hR (fun h => hc (hcc.2 h))
    have HQ : Aside0 (DropPostS own H w 0 t at_ (.returned (.tuple #[])) w) := .mk ⟨own, H, t, rfl, hH, Fr.refl _ _, Rep.refl (ho.low (Nat.sub_le _ _)) hn, by
      show t.es = delL at_ t.es
      rw [delL_none at_ t.es]
      intro y hy e
      rw [he] at hy
      rcases List.mem_append.1 hy with hy | hy
      · have := hL y hy; omega
      · have := hgt y hy; omega⟩
    have HF := Aside0.mk hf
    have HLF := Aside0.mk hlf
    generalize DropPostS own H w 0 t at_ = Q at HQ ⊢
    generalize t.a = x at HF HLF ⊢
    generalize L.length = i at HF
    clear hes h7 he hl hL hR hcc hks hf hlf hc hcf hgt hH ho hn hr
    go_enter Try.func45, Try.ntmps45
    go_wp2_with (first | (go_at_call 40; refine HF.out.mono ?_; rintro e w' ⟨rfl, hw⟩; obtain rfl := hw.symm; clear hw) | (go_at_call 41; refine HLF.out.mono ?_; rintro e w' ⟨rfl, hw⟩; obtain rfl := hw.symm; clear hw))
    exact bodyPost_end (v := .tuple #[]) (by simp [results, Try.results45, go_sem]) (by rfl) HQ.out
end Go.Proofs.Ytkfcflflgecljaa.H
