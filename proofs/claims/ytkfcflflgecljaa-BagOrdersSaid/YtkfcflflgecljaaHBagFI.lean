/- drop of a bag's node over int64: a number is taken out. -/
import Derived.Test.YtkfcflflgecljaaHBagDI
import Derived.Deep.DeepCutAuto
import Derived.Deep.CutBlock
import Derived.Deep.QuietTactic
import Derived.BigQuiet
set_option linter.unusedVariables false
set_option linter.unusedSimpArgs false
namespace Go.Proofs.Ytkfcflflgecljaa.H
open Go.RowKit Go.Proofs.YtkfcflflgecljaaW.PrintWords Go.Proofs.YtkfcflflgecljaaW.PrintLast
set_option maxRecDepth 100000
theorem roomI.calls {own : Own} {H : HP Int} (d lo : Nat) (t k : Tr Int) (at_ : Int) (L R : List (Int × Int)) (A B : List (Tr Int)) (w : World) (hH : Heap LI w own H) (ho : Ok H (d + 1) lo t) (hn : (fp (d + 1) t).Nodup) (hr : Rise (ents (d + 1) t)) (h1 : 1 ≤ t.es.length)
    (he : t.es = L ++ R) (hs : t.ks = A ++ k :: B) (hA : A.length = L.length) (hB : B.length = R.length) (hL : ∀ x ∈ L, x.1 < at_) (hR : ∀ y ∈ R, at_ < y.1) :
    Calls Try.prog 53 #[.pointer (some ⟨t.a, 0, none⟩), .int .i64 (L.length : Int)] w (RoomPostI own H w d (t.es.length - 1) t at_) := by
  have ho' : Ok H (d + 1) (t.es.length - 1) t := ho.low (Nat.sub_le _ _)
  by_cases hk : 3 < k.es.length
  · exact room0I d _ t k at_ L R A B w hH ho' hn he hs hA hB hL hR hk
  have hk3 : k.es.length ≤ 3 := by omega
  rcases List.eq_nil_or_concat L with hL0 | ⟨L0, m, hL0⟩
  · have hR0 : R ≠ [] := by rintro rfl; rw [he, hL0] at h1; simp at h1
    obtain ⟨m, R', rfl⟩ := List.exists_cons_of_ne_nil hR0
    obtain ⟨q, B', rfl⟩ : ∃ q B', B = q :: B' := by
      cases B with
      | nil => simp at hB
      | cons q B' => exact ⟨q, B', rfl⟩
    have hah : ∀ A0 p, A = A0 ++ [p] → p.es.length ≤ 3 := fun A0 p e => by rw [e, hL0] at hA; simp at hA
    by_cases hq : 3 < q.es.length
    · exact room2I d _ t k q at_ L R' m A B' w hH ho' hn hr he hs hA (by simpa using hB) hL (hR m (by simp)) (fun y hy => hR y (by simp [hy])) hk3 hq hah
    · exact room3I d _ t k q at_ L R' m A B' w hH ho' hn hr he hs hA (by simpa using hB) hL (hR m (by simp)) (fun y hy => hR y (by simp [hy])) hk3 (by omega) hah
  · rw [List.concat_eq_append] at hL0
    obtain ⟨A0, p, rfl⟩ : ∃ A0 p, A = A0 ++ [p] := ⟨A.dropLast, A.getLast (by intro e; rw [e, hL0] at hA; simp at hA), (List.dropLast_concat_getLast _).symm⟩
    have hA0 : A0.length = L0.length := by rw [hL0] at hA; simpa using hA
    by_cases hp : 3 < p.es.length
    · have := room1I d _ t p k at_ L0 R m A0 B w hH ho' hn hr (by rw [he, hL0]; simp) (by rw [hs]; simp) hA0 hB (fun x hx => hL x (by rw [hL0]; simp [hx])) (hL m (by rw [hL0]; simp)) hR hk3 hp
      rw [show (L.length : Int) = ((L0.length + 1 : Nat) : Int) by rw [hL0]; simp]
      exact this
    · cases R with
      | cons m' R' =>
        obtain ⟨q, B', rfl⟩ : ∃ q B', B = q :: B' := by
          cases B with
          | nil => simp at hB
          | cons q B' => exact ⟨q, B', rfl⟩
        have hah : ∀ A1 p', A0 ++ [p] = A1 ++ [p'] → p'.es.length ≤ 3 := fun A1 p' e => by
          have := (List.append_inj' e rfl).2
          injection this with this
          subst this; omega
        by_cases hq : 3 < q.es.length
        · exact room2I d _ t k q at_ L R' m' (A0 ++ [p]) B' w hH ho' hn hr he hs hA (by simpa using hB) hL (hR m' (by simp)) (fun y hy => hR y (by simp [hy])) hk3 hq hah
        · exact room3I d _ t k q at_ L R' m' (A0 ++ [p]) B' w hH ho' hn hr he hs hA (by simpa using hB) hL (hR m' (by simp)) (fun y hy => hR y (by simp [hy])) hk3 (by omega) hah
      | nil =>
        obtain rfl : B = [] := List.eq_nil_of_length_eq_zero (by simpa using hB)
        have := room4I d _ t p k at_ L0 m A0 w hH ho' hn (by rw [he, hL0]; simp) (by rw [hs]; simp) hA0 (fun x hx => hL x (by rw [hL0]; simp [hx])) hk3 (by omega)
        rw [show (L.length : Int) = ((L0.length + 1 : Nat) : Int) by rw [hL0]; simp]
        exact this
def DropPostI (own : Own) (H : HP Int) (w : World) (d : Nat) (t : Tr Int) (at_ : Int) (e : Ending) (w' : World) : Prop :=
  ∃ own' H' t', e = .returned (.tuple #[]) ∧ Heap LI w' own' H' ∧ Fr own own' w w' ∧ Rep H H' d (t.es.length - 1) t t' ∧ ents d t' = delL at_ (ents d t)
def DropAtI (d : Nat) : Prop := ∀ (own : Own) (H : HP Int) (lo : Nat) (t : Tr Int) (at_ : Int) (w : World), Heap LI w own H → Ok H d lo t → (fp d t).Nodup → Rise (ents d t) → (d ≠ 0 → 1 ≤ t.es.length) →
  Calls Try.prog 34 #[.pointer (some ⟨t.a, 0, none⟩), .int .i64 at_] w (DropPostI own H w d t at_)
set_option maxHeartbeats 4000000 in
/-- Not here: below, where there is room. -/
theorem drop1I {own : Own} {H : HP Int} (d lo : Nat) (ih : DropAtI d) (t k : Tr Int) (at_ : Int) (L R : List (Int × Int)) (A B : List (Tr Int)) (w : World) (hH : Heap LI w own H) (ho : Ok H (d + 1) lo t) (hn : (fp (d + 1) t).Nodup) (hr : Rise (ents (d + 1) t)) (h1 : 1 ≤ t.es.length)
    (he : t.es = L ++ R) (hl : L.length = (t.es.map Prod.fst).countP (· < at_)) (hs : t.ks = A ++ k :: B) (hA : A.length = L.length) (hB : B.length = R.length) (hL : ∀ x ∈ L, x.1 < at_) (hR : ∀ y ∈ R, at_ < y.1) (hc : (t.es.map Prod.fst).contains at_ = false) :
    Calls Try.prog 34 #[.pointer (some ⟨t.a, 0, none⟩), .int .i64 at_] w (DropPostI own H w (d + 1) t at_) := by
  have hes := own_rise ho.kids hr
  have h7 := ho.hi
  have hf := findI.calls t.a t.nd at_ w hH ho.root (by simp [Tr.nd]; omega) hes
  rw [show t.nd.ks.countP (· < at_) = L.length from hl.symm, show t.nd.ks.contains at_ = false from hc] at hf
  have hlf := leafI.calls t.a t.nd w hH ho.root
  rw [ho.leaf, show decide (d + 1 = 0) = false from rfl] at hlf
  have hroom := roomI.calls d lo t k at_ L R A B w hH ho hn hr h1 he hs hA hB hL hR
  have HF := Aside0.mk hf
  have HLF := Aside0.mk hlf
  have HR := Aside0.mk hroom
  have T := Aside0.mk hr
  generalize hx : t.a = x at HF HLF HR ⊢
  have HX := Aside0.mk hx
  generalize L.length = i at HF HR
  clear hes h7 hf hlf hroom hH ho hn hr h1 he hl hs hA hB hL hR hc hx
  go_enter Try.func34, Try.ntmps34
  go_wp2_with (first | (go_at_call 30; refine HF.out.mono ?_; rintro e w' ⟨rfl, hw⟩; obtain rfl := hw.symm; clear hw) | (go_at_call 31; refine HLF.out.mono ?_; rintro e w' ⟨rfl, hw⟩; obtain rfl := hw.symm; clear hw))
  refine HR.out.mono ?_
  rintro e w2 ⟨own2, H2, t2, L2, R2, A2, k2, B2, rfl, hH2, hF2, hrep, hen, he2, hs2, hA2, hB2, hL2, hR2, hk4, hlen⟩
  have hcl : t2.nd.cs.length = t2.ks.length := by simp [Tr.nd]
  obtain ⟨g, cx, kk, _, hcc⟩ := kidsI hH2 hrep.ok.root (by rw [hcl, hrep.ok.2.1]; omega)
  have y := hcc L2.length k2.a (by simp [Tr.nd, hs2, ← hA2])
  rw [hcl, hrep.addr, HX.out] at kk
  have i1 : (L2.length : Int) < (t2.ks.length : Int) := by rw [hs2]; simp; omega
  have hri2 : Rise (ents (d + 1) t2) := by rw [hen]; exact T.out
  have hkok := hrep.ok.2.2.2.2 k2 (by rw [hs2]; simp)
  have hkn : (fp d k2).Nodup := (nodup_parts.1 (by have := hrep.nodup; rw [fp_split d t2 A2 B2 k2 hs2] at this; exact this)).2.2.2.2.1
  have hkr : Rise (ents d k2) := by
    rw [ents_kid d t2 L2 R2 A2 B2 k2 he2 hs2 hA2 hB2] at hri2
    exact (rise_append.1 (rise_append.1 hri2).1).2.1
  have hrec := ih own2 H2 3 k2 at_ w2 hH2 hkok hkn hkr (fun _ => by omega)
  have hend : ∀ e w3, DropPostI own2 H2 w2 d k2 at_ e w3 → e = .returned (.tuple #[]) ∧ DropPostI own H w (d + 1) t at_ (.returned (.tuple #[])) w3 := by
    rintro e w3 ⟨own3, H3, k3, rfl, hH3, hF3, hrep3, hen3⟩
    obtain ⟨t3, r3, e3⟩ := del_kid hrep.ok hrep.nodup hri2 he2 hs2 hA2 hB2 hL2 hR2 hrep3 hk4 hen3
    exact ⟨rfl, own3, H3, t3, rfl, hH3, hF2.trans hF3, hrep.trans r3, by rw [e3, hen]⟩
  have HC := Aside0.mk (hrec.mono hend)
  generalize t2.ks.length = nn at kk i1
  generalize k2.a = ka at y HC
  generalize L2.length = j at y i1 ⊢
  clear hH2 hF2 hrep hen he2 hs2 hA2 hB2 hL2 hR2 hk4 hlen hcl hcc hri2 hkok hkn hkr hrec hend T HR
  go_wp2_with fail
  refine HC.out.mono ?_
  rintro e w3 ⟨rfl, hq⟩
  have HQ := Aside0.mk hq
  clear hq
  go_wp2_with fail
  exact bodyPost_end (v := .tuple #[]) (by simp [results, Try.results34, go_sem]) (by rfl) HQ.out
set_option maxHeartbeats 4000000 in
/-- Here, and no room on either side: merged, then below. -/
theorem drop4I {own : Own} {H : HP Int} (d lo : Nat) (ih : DropAtI d) (t k q : Tr Int) (at_ : Int) (u : Int) (L R : List (Int × Int)) (A B : List (Tr Int)) (w : World) (hH : Heap LI w own H) (ho : Ok H (d + 1) lo t) (hn : (fp (d + 1) t).Nodup) (hr : Rise (ents (d + 1) t))
    (he : t.es = L ++ (at_, u) :: R) (hl : L.length = (t.es.map Prod.fst).countP (· < at_)) (hs : t.ks = A ++ k :: q :: B) (hA : A.length = L.length) (hB : B.length = R.length) (hL : ∀ x ∈ L, x.1 < at_) (hc : (t.es.map Prod.fst).contains at_ = true) (hk : k.es.length ≤ 3) (hq : q.es.length ≤ 3) :
    Calls Try.prog 34 #[.pointer (some ⟨t.a, 0, none⟩), .int .i64 at_] w (DropPostI own H w (d + 1) t at_) := by
  have hes := own_rise ho.kids hr
  have h7 := ho.hi
  have hok := ho.2.2.2.2 k (by rw [hs]; simp)
  have hoq := ho.2.2.2.2 q (by rw [hs]; simp)
  have hkr := hok.root
  have hqr := hoq.root
  have hf := findI.calls t.a t.nd at_ w hH ho.root (by simp [Tr.nd]; omega) hes
  rw [show t.nd.ks.countP (· < at_) = L.length from hl.symm, show t.nd.ks.contains at_ = true from hc] at hf
  have hlf := leafI.calls t.a t.nd w hH ho.root
  rw [ho.leaf, show decide (d + 1 = 0) = false from rfl] at hlf
  have hcl : t.nd.cs.length = t.ks.length := by simp [Tr.nd]
  obtain ⟨g, cx, k2, _, hcc⟩ := kidsI hH ho.root (by rw [hcl, ho.2.1]; omega)
  have y := hcc L.length k.a (by simp [Tr.nd, hs, ← hA])
  have z := hcc (L.length + 1) q.a (by simp [Tr.nd, hs, ← hA])
  obtain ⟨Ak, ck, kk⟩ := keysI hH hkr
  obtain ⟨Aq, cq, kq⟩ := keysI hH hqr
  rw [hcl] at k2
  rw [show k.nd.ks.length = k.es.length by simp [Tr.nd]] at kk
  rw [show q.nd.ks.length = q.es.length by simp [Tr.nd]] at kq
  have i1 : ((L.length + 1 : Nat) : Int) < (t.ks.length : Int) := by rw [hs]; simp; omega
  have i3 : ¬ ((3 : Int) < (k.es.length : Int)) := by omega
  have i4 : ¬ ((3 : Int) < (q.es.length : Int)) := by omega
  have hnd := hn
  rw [fp, hs] at hnd
  have hfpm : ∀ q ∈ t.ks, q.a ∈ t.ks.flatMap (fp d) := fun q hq => List.mem_flatMap.2 ⟨q, hq, addr_mem d q⟩
  have nxp : t.a ≠ k.a := fun e => (List.nodup_cons.1 hnd).1 (by rw [e, ← hs]; exact hfpm k (by rw [hs]; simp))
  have nxk : t.a ≠ q.a := fun e => (List.nodup_cons.1 hnd).1 (by rw [e, ← hs]; exact hfpm q (by rw [hs]; simp))
  have npk : k.a ≠ q.a := fun e => by
    have h2 := (List.nodup_cons.1 hnd).2
    rw [List.flatMap_append, List.flatMap_cons, List.flatMap_cons] at h2
    have h3 := (List.nodup_append.1 (List.nodup_append.1 h2).2.1).2.2 k.a (addr_mem d k) q.a (List.mem_append_left _ (addr_mem d q))
    exact h3 e
  have hk3 := hok.lo
  have hq3 := hoq.lo
  have hk8 : k.ks.length ≤ 8 := by
    cases d with
    | zero => simp [hok.2.1]
    | succ d' => have := hok.kids d' rfl; omega
  have hq8 : q.ks.length ≤ 8 := by
    cases d with
    | zero => simp [hoq.2.1]
    | succ d' => have := hoq.kids d' rfl; omega
  have hcall := mergeI.calls t.a k.a q.a L.length (t.es.map Prod.fst) (t.es.map Prod.snd) (t.ks.map Tr.a) (k.es.map Prod.fst) (k.es.map Prod.snd) (k.ks.map Tr.a) (q.es.map Prod.fst) (q.es.map Prod.snd) (q.ks.map Tr.a) w hH ho.root hkr hqr nxp nxk npk
    (by simp [hs, ← hA]) (by simp [hs, ← hA]) at_ u (by simp [he]) (by simp [he]) (by simp [ho.2.1]; omega) (by simp; omega) (by simp; omega) (by simp; omega) (by simp; omega) (by simp; omega) (by simp; omega) (by simp; omega) (by simp; omega)
  -- what merge leaves
  have hmid : ∀ e w', MergePostI own H w t.a k.a ⟨(t.es.map Prod.fst).take L.length ++ (t.es.map Prod.fst).drop (L.length + 1), (t.es.map Prod.snd).take L.length ++ (t.es.map Prod.snd).drop (L.length + 1), (t.ks.map Tr.a).take (L.length + 1) ++ (t.ks.map Tr.a).drop (L.length + 2)⟩
      ⟨k.es.map Prod.fst ++ at_ :: q.es.map Prod.fst, k.es.map Prod.snd ++ u :: q.es.map Prod.snd, k.ks.map Tr.a ++ q.ks.map Tr.a⟩ e w' → ∃ own' H', e = .returned (.tuple #[]) ∧ Heap LI w' own' H' ∧ Fr own own' w w' ∧
        Rep H H' (d + 1) (t.es.length - 1) t (Tr.mk t.a (L ++ R) (A ++ Tr.mk k.a (k.es ++ (at_, u) :: q.es) (k.ks ++ q.ks) :: B)) ∧ ents (d + 1) (Tr.mk t.a (L ++ R) (A ++ Tr.mk k.a (k.es ++ (at_, u) :: q.es) (k.ks ++ q.ks) :: B)) = ents (d + 1) t := by
    rintro e w' ⟨own', H', rfl, hH', hF, q1, q2, hq'⟩
    have p1 : H' t.a = some (Tr.nd (Tr.mk t.a (L ++ R) (A ++ Tr.mk k.a (k.es ++ (at_, u) :: q.es) (k.ks ++ q.ks) :: B))) := by
      rw [q1, show t.es.map Prod.fst = L.map Prod.fst ++ at_ :: R.map Prod.fst by simp [he], show t.es.map Prod.snd = L.map Prod.snd ++ u :: R.map Prod.snd by simp [he], show t.ks.map Tr.a = A.map Tr.a ++ k.a :: q.a :: B.map Tr.a by simp [hs],
        rm_one _ _ _ _ (by simp), rm_one _ _ _ _ (by simp), rm_two _ _ _ _ _ (by simp [hA])]
      simp [Tr.nd]
    have p2 : H' k.a = some (Tr.mk k.a (k.es ++ (at_, u) :: q.es) (k.ks ++ q.ks)).nd := by rw [q2]; simp [Tr.nd]
    obtain ⟨hrep, hen⟩ := merge_tree (lo' := t.es.length - 1) ho hn he hs hA hB (by omega) (by rw [he]; simp) p1 p2 hq'
    exact ⟨own', H', rfl, hH', hF, hrep, hen⟩
  have HF := Aside0.mk hf
  have HLF := Aside0.mk hlf
  have HM := Aside0.mk (hcall.mono hmid)
  have hRgt : ∀ y ∈ R, at_ < y.1 := fun y hy => by
    have := hes
    rw [he] at this
    exact (rise_cons.1 (rise_append.1 this).2.1).1 y hy
  have T := Aside0.mk (And.intro hr (And.intro (And.intro hA hB) (And.intro hL (And.intro hRgt (And.intro hk3 hq3)))))
  obtain ⟨tm, htm⟩ : ∃ tm, Tr.mk t.a (L ++ R) (A ++ Tr.mk k.a (k.es ++ (at_, u) :: q.es) (k.ks ++ q.ks) :: B) = tm := ⟨_, rfl⟩
  rw [htm] at HM
  have HT := Aside0.mk htm
  generalize hx : t.a = x at HF HLF HM k2 ⊢
  have HX := Aside0.mk hx
  have b7 : L.length ≤ 7 := by rw [he] at h7; simp at h7; omega
  generalize hi : L.length = i at HF HM y z i1 b7
  have HI := Aside0.mk hi
  generalize t.ks.length = nn at k2 i1
  generalize k.es.length = nk at kk i3
  generalize q.es.length = nq at kq i4
  generalize k.a = ka at y kk
  generalize q.a = qa at z kq
  have i5 : (i : Int) < (nn : Int) := by omega
  have i6 : (0 : Int) ≤ (i : Int) := by omega
  have i7 : (i : Int) + 1 < (nn : Int) := by omega
  have i8 : ((i : Int) + 1).toNat = i + 1 := by omega
  clear hes h7 hf hlf hH ho hn hr he hl hs hA hB hL hc hx hi hok hoq hkr hqr hcl hcc hnd hfpm nxp nxk npk hk3 hq3 hk8 hq8 hcall hmid hk hq htm hRgt
  go_enter Try.func34, Try.ntmps34
  go_wp2_with (first | (go_at_call 30; refine HF.out.mono ?_; rintro e w' ⟨rfl, hw⟩; obtain rfl := hw.symm; clear hw) | (go_at_call 31; refine HLF.out.mono ?_; rintro e w' ⟨rfl, hw⟩; obtain rfl := hw.symm; clear hw))
  refine HM.out.mono ?_
  rintro e w2 ⟨own2, H2, rfl, hH2, hF2, hrep, hen⟩
  have htm := HT.out
  obtain ⟨hr, ⟨hA, hB⟩, hL, hR, hk3, hq3⟩ := T.out
  have he2 : tm.es = L ++ R := by rw [← htm]; rfl
  obtain ⟨km, hkm⟩ : ∃ km, Tr.mk k.a (k.es ++ (at_, u) :: q.es) (k.ks ++ q.ks) = km := ⟨_, rfl⟩
  have hs2 : tm.ks = A ++ km :: B := by rw [← htm, ← hkm]; rfl
  have hk4 : 4 ≤ km.es.length := by rw [← hkm]; simp; omega
  have hcl : tm.nd.cs.length = tm.ks.length := by simp [Tr.nd]
  obtain ⟨g2, cx2, kk2, _, hcc⟩ := kidsI hH2 hrep.ok.root (by rw [hcl, hrep.ok.2.1]; omega)
  have y2 := hcc i km.a (by rw [← HI.out]; simp [Tr.nd, hs2, ← hA])
  rw [hcl, hrep.addr, HX.out] at kk2
  have j1 : (i : Int) < (tm.ks.length : Int) := by rw [hs2, ← HI.out]; simp; omega
  have hri2 : Rise (ents (d + 1) tm) := by rw [hen]; exact hr
  have hkok := hrep.ok.2.2.2.2 km (by rw [hs2]; simp)
  have hkn : (fp d km).Nodup := (nodup_parts.1 (by have := hrep.nodup; rw [fp_split d tm A B km hs2] at this; exact this)).2.2.2.2.1
  have hkr : Rise (ents d km) := by
    rw [ents_kid d tm L R A B km he2 hs2 hA hB] at hri2
    exact (rise_append.1 (rise_append.1 hri2).1).2.1
  have hrec := ih own2 H2 3 km at_ w2 hH2 hkok hkn hkr (fun _ => by omega)
  have hend : ∀ e w3, DropPostI own2 H2 w2 d km at_ e w3 → e = .returned (.tuple #[]) ∧ DropPostI own H w (d + 1) t at_ (.returned (.tuple #[])) w3 := by
    rintro e w3 ⟨own3, H3, k3, rfl, hH3, hF3, hrep3, hen3⟩
    obtain ⟨t3, r3, e3⟩ := del_kid hrep.ok hrep.nodup hri2 he2 hs2 hA hB hL hR hrep3 hk4 hen3
    exact ⟨rfl, own3, H3, t3, rfl, hH3, hF2.trans hF3, hrep.trans r3, by rw [e3, hen]⟩
  have HC := Aside0.mk (hrec.mono hend)
  generalize tm.ks.length = n2 at kk2 j1
  generalize km.a = kma at y2 HC
  clear hH2 hF2 hrep hen he2 hs2 hk4 hcl hcc hri2 hkok hkn hkr hrec hend T HT htm hr hA hB hL hR hk3 hq3 hkm HM k2 y z kk kq i1 i3 i4
  go_wp2_with fail
  refine HC.out.mono ?_
  rintro e w3 ⟨rfl, hq⟩
  have HQ := Aside0.mk hq
  clear hq
  go_wp2_with fail
  exact bodyPost_end (v := .tuple #[]) (by simp [results, Try.results34, go_sem]) (by rfl) HQ.out
set_option maxHeartbeats 8000000 in
/-- On the lowest level. -/
theorem drop0I : DropAtI 0 := by
  intro own H lo t at_ w hH ho hn hr _
  have hes : Rise t.es := hr
  have h7 := ho.hi
  obtain ⟨L, R, he, hl, hL, hR, hcc⟩ := cut_at t.es hes at_
  have hks : t.ks = [] := ho.2.1
  have hf := findI.calls t.a t.nd at_ w hH ho.root (by simp [Tr.nd]; omega) hes
  rw [show t.nd.ks.countP (· < at_) = L.length from hl.symm] at hf
  have hlf := leafI.calls t.a t.nd w hH ho.root
  rw [ho.leaf, show decide ((0 : Nat) = 0) = true from rfl] at hlf
  by_cases hc : (t.es.map Prod.fst).contains at_ = true
  · obtain ⟨u, R', rfl⟩ := hcc.1 hc
    have hRgt : ∀ y ∈ R', at_ < y.1 := fun y hy => by
      have := hes
      rw [he] at this
      exact (rise_cons.1 (rise_append.1 this).2.1).1 y hy
    rw [show t.nd.ks.contains at_ = true from hc] at hf
    have hroot : H t.a = some ⟨L.map Prod.fst ++ at_ :: R'.map Prod.fst, L.map Prod.snd ++ u :: R'.map Prod.snd, []⟩ := by rw [ho.root]; simp [Tr.nd, he, hks]
    have hfin : ∀ (own' : Own) (H' : HP Int) (w' : World), Heap LI w' own' H' → Fr own own' w w' → H' t.a = some ⟨L.map Prod.fst ++ R'.map Prod.fst, L.map Prod.snd ++ R'.map Prod.snd, []⟩ → (∀ c, c ≠ t.a → H' c = H c) → DropPostI own H w 0 t at_ (.returned (.tuple #[])) w' := fun own' H' w' h1 h2 h3 h4 =>
      ⟨own', H', Tr.mk t.a (L ++ R') [], rfl, h1, h2, Rep.leaf ho (by rw [h3]; simp [Tr.nd]) (by rw [he]; simp) (by rw [he] at h7; simp at h7 ⊢; omega) h4, by
        show L ++ R' = delL at_ t.es
        rw [he]; exact (delL_here at_ u L R' hL hRgt).symm⟩
    have b7 : L.length + R'.length ≤ 7 := by rw [he] at h7; simp at h7; omega
    have HF := Aside0.mk hf
    have HLF := Aside0.mk hlf
    have FIN := Aside0.mk hfin
    generalize hx : t.a = x at HF HLF FIN hroot ⊢
    obtain ⟨xk, hxk⟩ : ∃ xk, L.map Prod.fst ++ at_ :: R'.map Prod.fst = xk := ⟨_, rfl⟩
    obtain ⟨xv, hxv⟩ : ∃ xv, L.map Prod.snd ++ u :: R'.map Prod.snd = xv := ⟨_, rfl⟩
    rw [hxk, hxv] at hroot
    have hl1 : L.length < xk.length := by rw [← hxk]; simp
    have hl2 : L.length < xv.length := by rw [← hxv]; simp
    have hl3 : xk.length ≤ 50 := by rw [← hxk]; simp; omega
    have hl4 : xv.length ≤ 50 := by rw [← hxv]; simp; omega
    have e1 : L.map Prod.fst ++ R'.map Prod.fst = xk.take L.length ++ xk.drop (L.length + 1) := by rw [← hxk, rm_one _ _ _ _ (by simp)]
    have e2 : L.map Prod.snd ++ R'.map Prod.snd = xv.take L.length ++ xv.drop (L.length + 1) := by rw [← hxv, rm_one _ _ _ _ (by simp)]
    rw [e1, e2] at FIN
    generalize L.length = i at HF FIN hl1 hl2 b7
    have HR := Aside0.mk hroot
    have HH := Aside0.mk hH
    generalize DropPostI own H w 0 t at_ = Q at FIN ⊢
    clear hes h7 he hl hL hR hcc hks hf hlf hc hRgt hfin hx hxk hxv e1 e2 hroot hH ho hn hr
    go_enter Try.func34, Try.ntmps34
    go_upto_region 5 with (first | (go_at_call 30; refine HF.out.mono ?_; rintro e w' ⟨rfl, hw⟩; obtain rfl := hw.symm; clear hw) | (go_at_call 31; refine HLF.out.mono ?_; rintro e w' ⟨rfl, hw⟩; obtain rfl := hw.symm; clear hw))
    go_cut [] (fun wc => Step LI own H w x (⟨xk.take i ++ xk.drop (i + 1), xv, []⟩ : Nd Int) wc)
    case first =>
      obtain ⟨XA0, xc0, XA1, xc1, XA2, xc2, vx⟩ := HH.out.view HR.out
      have p2 := vx.k0
      have f2 := vx.free 0
      have HD := Aside0.mk (DelI.calls (.slice XA0 xk.length xc0) (Nd.row LI (⟨xk, xv, []⟩ : Nd Int) 0) i w vx.r0.row (by simp only [Nd.row, List.length_map]; omega) (row_oneI 0 _) (by simp only [Nd.row, List.length_map]; omega))
      go_wp2_with (go_at_call 52; refine HD.out.mono ?_; rintro e w2 ⟨A', n', c', rfl, hop⟩; have q1 := hop.grow.cell p2 (fun e => by have := vx.r0.mine x e.symm; rw [vx.mine] at this; simp at this); have q2 := (hop.grow.frozen_far ⟨x, 0, none⟩ vx.lt (fun e => by have := vx.r0.mine x e.symm; rw [vx.mine] at this; simp at this)).trans f2; have HOP := Aside0.mk hop; clear hop)
      go_meet
      exact HH.out.step (⟨xk.take i ++ xk.drop (i + 1), xv, []⟩ : Nd Int) HR.out 0 (by decide) vx.k0 HOP.out (by simp [Nd.row, List.map_take, List.map_drop]) (by intro j hj hne; rcases j with _ | _ | _ | j <;> first | rfl | omega)
    case rest =>
    obtain ⟨own1, H1, hH1, hF1, hn1, ho1⟩ := hcut
    obtain ⟨w1, hwc⟩ : ∃ W, W = wc := ⟨_, rfl⟩
    subst hwc
    have T := Aside0.mk (And.intro hH1 (And.intro hF1 (And.intro hn1 ho1)))
    obtain ⟨XA0, xc0, XA1, xc1, XA2, xc2, vx⟩ := hH1.view hn1
    have p2 := vx.k1
    have f2 := vx.free 1
    have HD := Aside0.mk (DelI.calls (.slice XA1 xv.length xc1) (Nd.row LI (⟨xk.take i ++ xk.drop (i + 1), xv, []⟩ : Nd Int) 1) i w1 vx.r1.row (by simp only [Nd.row, List.length_map]; omega) (row_oneI 1 _) (by simp only [Nd.row, List.length_map]; omega))
    clear hH1 hF1 hn1 ho1 HR HH
    go_wp2_with (go_at_call 52; refine HD.out.mono ?_; rintro e w2 ⟨A', n', c', rfl, hop⟩; have q1 := hop.grow.cell p2 (fun e => by have := vx.r1.mine x e.symm; rw [vx.mine] at this; simp at this); have q2 := (hop.grow.frozen_far ⟨x, 1, none⟩ vx.lt (fun e => by have := vx.r1.mine x e.symm; rw [vx.mine] at this; simp at this)).trans f2; have HOP := Aside0.mk hop; clear hop)
    obtain ⟨hH1, hF1, hn1, ho1⟩ := T.out
    obtain ⟨own2, H2, hH2, hF2, hn2, ho2⟩ := hH1.step (⟨xk.take i ++ xk.drop (i + 1), xv.take i ++ xv.drop (i + 1), []⟩ : Nd Int) hn1 1 (by decide) vx.k1 HOP.out (by simp [Nd.row, List.map_take, List.map_drop]) (by intro j hj hne; rcases j with _ | _ | _ | j <;> first | rfl | omega)
    have HQ := Aside0.mk (FIN.out own2 H2 _ hH2 (hF1.trans hF2) hn2 (fun c hc => (ho2 c hc).trans (ho1 c hc)))
    exact bodyPost_end (v := .tuple #[]) (by simp [results, Try.results34, go_sem]) (by rfl) HQ.out
  · have hcf : (t.es.map Prod.fst).contains at_ = false := by simpa using hc
    rw [show t.nd.ks.contains at_ = false from hcf] at hf
    have hgt := gt_of_not (hes.sub (by rw [he]; exact List.sublist_append_right _ _)) hR (fun h => hc (hcc.2 h))
    have HQ : Aside0 (DropPostI own H w 0 t at_ (.returned (.tuple #[])) w) := .mk ⟨own, H, t, rfl, hH, Fr.refl _ _, Rep.refl (ho.low (Nat.sub_le _ _)) hn, by
      show t.es = delL at_ t.es
      rw [delL_none at_ t.es]
      intro y hy e
      rw [he] at hy
      rcases List.mem_append.1 hy with hy | hy
      · have := hL y hy; omega
      · have := hgt y hy; omega⟩
    have HF := Aside0.mk hf
    have HLF := Aside0.mk hlf
    generalize DropPostI own H w 0 t at_ = Q at HQ ⊢
    generalize t.a = x at HF HLF ⊢
    generalize L.length = i at HF
    clear hes h7 he hl hL hR hcc hks hf hlf hc hcf hgt hH ho hn hr
    go_enter Try.func34, Try.ntmps34
    go_wp2_with (first | (go_at_call 30; refine HF.out.mono ?_; rintro e w' ⟨rfl, hw⟩; obtain rfl := hw.symm; clear hw) | (go_at_call 31; refine HLF.out.mono ?_; rintro e w' ⟨rfl, hw⟩; obtain rfl := hw.symm; clear hw))
    exact bodyPost_end (v := .tuple #[]) (by simp [results, Try.results34, go_sem]) (by rfl) HQ.out
end Go.Proofs.Ytkfcflflgecljaa.H

set_option linter.unusedVariables false
set_option linter.unusedSimpArgs false
namespace Go.Proofs.Ytkfcflflgecljaa.H
open Go.RowKit Go.Proofs.YtkfcflflgecljaaW.PrintWords Go.Proofs.YtkfcflflgecljaaW.PrintLast
set_option maxRecDepth 100000
/-- Two of a node's places turn. -/
theorem set_twoI {own : Own} {H : HP Int} {w : World} (hH : Heap LI w own H) {x i : Nat} {xk : List Int} {xv : List Int} {xc : List Nat} {kk : Int} {vv : Int} (hx : H x = some ⟨xk, xv, xc⟩) (lk : i < xk.length) (lv : i < xv.length) {gx0 c0 gx1 c1 : Nat} (k0 : w.cell? ⟨x, 0, none⟩ = some (.slice (some ⟨gx0, 0, none⟩) xk.length c0)) (k1 : w.cell? ⟨x, 1, none⟩ = some (.slice (some ⟨gx1, 0, none⟩) xv.length c1)) (gx : x ≠ gx0) :
    Step LI own H w x (⟨xk.set i kk, xv.set i vv, xc⟩ : Nd Int) ((w.drew.setCell ⟨gx0, i, none⟩ (.int .i64 kk)).setCell ⟨gx1, i, none⟩ (.int .i64 vv)) := by
  refine Step.then (n1 := (⟨xk.set i kk, xv, xc⟩ : Nd Int)) (Step.of_drew ((hH.drewN 1).stepCell (u := .int .i64 kk) (⟨xk.set i kk, xv, xc⟩ : Nd Int) hx 0 (by decide) k0 (show i < xk.length by omega) (by simp [Nd.row, List.map_set]) (by intro j hj hne; rcases j with _ | _ | _ | j <;> first | rfl | omega))) fun own1 H1 h1 hn1 => ?_
  exact h1.stepCell (u := .int .i64 vv) (⟨xk.set i kk, xv.set i vv, xc⟩ : Nd Int) hn1 1 (by decide) ((cell_farB _ _ _ _ _ gx).trans k1) (show i < xv.length by omega) (by simp [Nd.row, List.map_set, LI]) (by intro j hj hne; rcases j with _ | _ | _ | j <;> first | rfl | omega)
set_option maxHeartbeats 8000000 in
/-- The number ahead takes its place. -/
theorem drop2I {own : Own} {H : HP Int} (d lo : Nat) (ih : DropAtI d) (t k q : Tr Int) (at_ : Int) (u : Int) (L R : List (Int × Int)) (A B : List (Tr Int)) (w : World) (hH : Heap LI w own H) (ho : Ok H (d + 1) lo t) (hn : (fp (d + 1) t).Nodup) (hr : Rise (ents (d + 1) t))
    (he : t.es = L ++ (at_, u) :: R) (hl : L.length = (t.es.map Prod.fst).countP (· < at_)) (hs : t.ks = A ++ k :: q :: B) (hA : A.length = L.length) (hB : B.length = R.length) (hc : (t.es.map Prod.fst).contains at_ = true) (hk : 3 < k.es.length) :
    Calls Try.prog 34 #[.pointer (some ⟨t.a, 0, none⟩), .int .i64 at_] w (DropPostI own H w (d + 1) t at_) := by
  have hes := own_rise ho.kids hr
  have h7 := ho.hi
  have hok := ho.2.2.2.2 k (by rw [hs]; simp)
  have hf := findI.calls t.a t.nd at_ w hH ho.root (by simp [Tr.nd]; omega) hes
  rw [show t.nd.ks.countP (· < at_) = L.length from hl.symm, show t.nd.ks.contains at_ = true from hc] at hf
  have hlf := leafI.calls t.a t.nd w hH ho.root
  rw [ho.leaf, show decide (d + 1 = 0) = false from rfl] at hlf
  have hcl : t.nd.cs.length = t.ks.length := by simp [Tr.nd]
  obtain ⟨g, cx, k2, _, hcc⟩ := kidsI hH ho.root (by rw [hcl, ho.2.1]; omega)
  have y := hcc L.length k.a (by simp [Tr.nd, hs, ← hA])
  obtain ⟨Ak, ck, kk⟩ := keysI hH hok.root
  rw [hcl] at k2
  rw [show k.nd.ks.length = k.es.length by simp [Tr.nd]] at kk
  have i1 : (L.length : Int) < (t.ks.length : Int) := by rw [hs]; simp; omega
  have i3 : (3 : Int) < (k.es.length : Int) := by omega
  have hg := greatestI.calls d k w hH hok
  have hkn : (fp d k).Nodup := (nodup_parts.1 (by have := hn; rw [fp_split d t A (q :: B) k hs] at this; exact this)).2.2.2.2.1
  have hkx : t.a ∉ fp d k := (nodup_parts.1 (by have := hn; rw [fp_split d t A (q :: B) k hs] at this; exact this)).2.1
  have hkr : Rise (ents d k) := by
    rw [ents_two d t L R (at_, u) A B k q he hs hA hB] at hr
    exact (rise_append.1 (rise_append.1 (rise_append.1 hr).1).2.1).1
  have hne := ents_ne (hok.low (show 1 ≤ k.es.length by omega))
  have hrec : ∀ (own2 : Own) (w2 : World) (at2 : Int), Heap LI w2 own2 H → Calls Try.prog 34 #[.pointer (some ⟨k.a, 0, none⟩), .int .i64 at2] w2 (DropPostI own2 H w2 d k at2) := fun own2 w2 at2 h2 => ih own2 H 3 k at2 w2 h2 hok hkn hkr (fun _ => by omega)
  have hfin : ∀ (own3 : Own) (H3 : HP Int) (w3 : World) (k' : Tr Int) (e : Int × Int), (ents d k).getLast? = some e → Rep H H3 d (k.es.length - 1) k k' → ents d k' = delL e.1 (ents d k) → Fr own own3 w w3 → H3 t.a = some ⟨t.es.map Prod.fst, t.es.map Prod.snd, t.ks.map Tr.a⟩ ∧
      ∀ (own4 : Own) (H4 : HP Int) (w4 : World), Heap LI w4 own4 H4 → Fr own3 own4 w3 w4 → H4 t.a = some ⟨(t.es.map Prod.fst).set L.length e.1, (t.es.map Prod.snd).set L.length e.2, t.ks.map Tr.a⟩ → (∀ c, c ≠ t.a → H4 c = H3 c) → DropPostI own H w (d + 1) t at_ (.returned (.tuple #[])) w4 := by
    intro own3 H3 w3 k' e hlast hrep hen hF
    refine ⟨(hrep.frame t.a hkx (by rw [ho.root]; simp)).trans ho.root, fun own4 H4 w4 hH4 hF4 h4 ho4 => ?_⟩
    obtain ⟨t3, r3, e3⟩ := del_last (ho.low (Nat.sub_le _ _)) hn hr he hs hA hB hrep (by omega) hlast hen h4 ho4
    exact ⟨own4, H4, t3, rfl, hH4, hF.trans hF4, r3, e3⟩
  have hlk : L.length < (t.es.map Prod.fst).length := by simp [he]
  have hlv : L.length < (t.es.map Prod.snd).length := by simp [he]
  have hkids : ∀ (own2 : Own) (w2 : World), Heap LI w2 own2 H → ∃ g cx, w2.cell? ⟨t.a, 2, none⟩ = some (.slice (some ⟨g, 0, none⟩) t.ks.length cx) ∧ w2.cell? ⟨g, L.length, none⟩ = some (.pointer (some ⟨k.a, 0, none⟩)) := fun own2 w2 h2 => by
    obtain ⟨g, cx, k2, _, hcc⟩ := kidsI h2 ho.root (by rw [hcl, ho.2.1]; omega)
    rw [hcl] at k2
    exact ⟨g, cx, k2, hcc L.length k.a (by simp [Tr.nd, hs, ← hA])⟩
  have HF := Aside0.mk hf
  have HLF := Aside0.mk hlf
  have HG := Aside0.mk hg
  have HREC := Aside0.mk hrec
  have FIN := Aside0.mk hfin
  have HL := Aside0.mk (And.intro hlk hlv)
  have HKI := Aside0.mk hkids
  have HNE := Aside0.mk hne
  have HH := Aside0.mk hH
  have b7 : L.length ≤ 7 := by rw [he] at h7; simp at h7; omega
  generalize DropPostI own H w (d + 1) t at_ = Q at FIN ⊢
  generalize t.a = x at HF HLF HKI FIN k2 ⊢
  generalize L.length = i at HF HL HKI FIN y i1 b7
  generalize t.ks.length = nn at k2 i1 HKI
  generalize t.es.map Prod.fst = xk at FIN HL
  generalize t.es.map Prod.snd = xv at FIN HL
  generalize t.ks.map Tr.a = xc at FIN
  generalize hnk : k.es.length = nk at kk i3
  have HNK := Aside0.mk hnk
  generalize hka : k.a = ka at y kk HG HREC HKI
  have HKA := Aside0.mk hka
  have i5 : (i : Int) < (nn : Int) := by omega
  have i6 : (0 : Int) ≤ (i : Int) := by omega
  clear hes h7 hf hlf hH ho hn hr he hl hs hA hB hc hok hcl hcc hkn hkx hkr hne hrec hfin hlk hlv hkids hk hg hnk hka
  go_enter Try.func34, Try.ntmps34
  go_wp2_with (first | (go_at_call 30; refine HF.out.mono ?_; rintro e w' ⟨rfl, hw⟩; obtain rfl := hw.symm; clear hw) | (go_at_call 31; refine HLF.out.mono ?_; rintro e w' ⟨rfl, hw⟩; obtain rfl := hw.symm; clear hw))
  refine HG.out.mono ?_
  rintro e w2 ⟨yy, qn, es, rfl, rfl, hy, hlast, h7y⟩
  have hH2 := HH.out.drewN qn
  have hF2 : Fr own own w (w.drewN qn) := Fr.drewN own w qn
  obtain ⟨es0, m, rfl⟩ : ∃ es0 m, es = es0 ++ [m] := ⟨es.dropLast, es.getLast (by rintro rfl; exact HNE.out (List.getLast?_eq_none_iff.1 hlast.symm)), (List.dropLast_concat_getLast _).symm⟩
  rw [List.getLast?_concat] at hlast
  clear k2 y kk i1
  generalize w.drewN qn = w2 at hH2 hF2 ⊢
  obtain ⟨A0, c0, A1, c1, A2, c2, hv⟩ := hH2.view hy
  obtain ⟨g0, rfl, z0, _, _, _⟩ := hv.r0.get (j := es0.length) (u := .int .i64 m.1) (by simp [Nd.row, LI]) (by simp [Nd.row])
  obtain ⟨g1, rfl, z1, _, _, _⟩ := hv.r1.get (j := es0.length) (u := .int .i64 m.2) (by simp [Nd.row, LI]) (by simp [Nd.row])
  have p0 : w2.cell? ⟨yy, 0, none⟩ = some (.slice (some ⟨g0, 0, none⟩) (es0.length + 1) c0) := by have := hv.k0; simpa using this
  have p1 : w2.cell? ⟨yy, 1, none⟩ = some (.slice (some ⟨g1, 0, none⟩) (es0.length + 1) c1) := by have := hv.k1; simpa using this
  have b8 : es0.length ≤ 7 := by simp at h7y; omega
  generalize es0.length = n at z0 z1 p0 p1 b8
  obtain ⟨mk, mv⟩ := m
  dsimp only at z0 z1
  have j1 : (0 : Int) ≤ (n : Int) := by omega
  have j2 : (n : Int) < (n : Int) + 1 := by omega
  have j3 : IntKind.i64.wrap (n : Int) = (n : Int) := by rw [IntKind.wrap_i64]; omega
  have j4 : IntKind.i64.wrap ((n : Int) + 1 - 1) = (n : Int) := by rw [IntKind.wrap_i64]; omega
  have T := Aside0.mk (And.intro hH2 (And.intro hF2 hlast))
  clear hv hy h7y hH2 hF2 hlast HG HNE HH HF HLF
  go_wp2_with fail
  go_quiet (fail)
  obtain ⟨hH2, hF2, hlast⟩ := T.out
  have hH3 := hH2.drewN nq
  have hF3 := hF2.trans (Fr.drewN own w2 nq)
  clear z0 z1 p0 p1 T
  generalize w2.drewN nq = w3 at hH3 hF3 ⊢
  obtain ⟨g3, cx3, k3, y3⟩ := HKI.out own w3 hH3
  have T3 := Aside0.mk (And.intro hH3 (And.intro hF3 hlast))
  clear hH2 hF2 hlast hH3 hF3
  go_wp2_with fail
  refine (HREC.out own w3 mk T3.out.1).mono ?_
  rintro e w4 ⟨own4, H4, k', rfl, hH4, hF4, hrep, hen⟩
  obtain ⟨hx4, hdone⟩ := FIN.out own4 H4 w4 k' (mk, mv) T3.out.2.2.symm hrep hen (T3.out.2.1.trans hF4)
  have T4 := Aside0.mk (And.intro hH4 (And.intro hx4 hdone))
  clear hH4 hF4 hrep hen hx4 hdone T3 k3 y3
  go_wp2_with fail
  obtain ⟨hH4, hx, hdone⟩ := T4.out
  obtain ⟨XA0, xc0, XA1, xc1, XA2, xc2, vx⟩ := hH4.view hx
  obtain ⟨gx0, rfl, y0, y0o, y0f, _⟩ := vx.r0.get (j := i) (u := (Nd.row LI (⟨xk, xv, xc⟩ : Nd Int) 0)[i]'(by simp only [Nd.row, List.length_map]; exact HL.out.1)) (List.getElem?_eq_getElem _) (by simp only [Nd.row, List.length_map])
  obtain ⟨gx1, rfl, y1, y1o, y1f, _⟩ := vx.r1.get (j := i) (u := (Nd.row LI (⟨xk, xv, xc⟩ : Nd Int) 1)[i]'(by simp only [Nd.row, List.length_map]; exact HL.out.2)) (List.getElem?_eq_getElem _) (by simp only [Nd.row, List.length_map])
  have g01 : gx0 ≠ gx1 := fun e => by rw [e, y1o] at y0o; simp at y0o
  have gx : x ≠ gx0 := fun e => by have := vx.mine; rw [e, y0o] at this; simp at this
  have lk : (i : Int) < (xk.length : Int) := by have := HL.out.1; omega
  have lv : (i : Int) < (xv.length : Int) := by have := HL.out.2; omega
  refine startL (Sees own4 (0, 9) w4) [13, 15] (by kernel_rfl) ?_
  change WalkL _ _ _ _ _ _ 16 #[false, false, false, false, false, false, false, false, false, false, false, false, false, false, false, false] _ _
  have hS : Sees own4 (0, 9) w4 w4.drew := Sees.refl _ _ _
  refine pu 0 (.pointer (some ⟨x, 0, none⟩)) hS rfl ?_
  refine pu 1 (.pointer (some ⟨x, 0, none⟩)) hS rfl ?_
  refine pu 2 (.pointer (some ⟨x, 0, none⟩)) hS rfl ?_
  refine lb 3 (.slice (some ⟨gx0, 0, none⟩) (xk.length) (xc0)) hS vx.k0 vx.mine (by simp) rfl ?_
  refine pu 4 (.int .i64 ((i : Int))) hS rfl ?_
  refine pu 5 (.pointer (some ⟨x, 0, none⟩)) hS rfl ?_
  refine pu 6 (.pointer (some ⟨x, 0, none⟩)) hS rfl ?_
  refine pu 7 (.pointer (some ⟨x, 1, none⟩)) hS rfl ?_
  refine lb 8 (.slice (some ⟨gx1, 0, none⟩) (xv.length) (xc1)) hS vx.k1 vx.mine (by simp) rfl ?_
  refine pu 9 (.int .i64 ((i : Int))) hS rfl ?_
  refine pu 10 (.int .i64 mk) hS rfl ?_
  refine pu 11 (.int .i64 mv) hS rfl ?_
  refine pu 12 (.pointer (some ⟨gx0, i, none⟩)) hS rfl ?_
  refine st 13 (w4.drew.setCell ⟨gx0, i, none⟩ (.int .i64 mk)) (by kernel_rfl) rfl ?_
  refine pv 14 (.pointer (some ⟨gx1, i, none⟩)) rfl ?_
  have u1 : (w4.drew.setCell ⟨gx0, i, none⟩ (.int .i64 mk)).cell? ⟨gx1, i, none⟩ = _ := (cell_farB _ _ _ _ _ (Ne.symm g01)).trans y1
  have u2 : (w4.drew.setCell ⟨gx0, i, none⟩ (.int .i64 mk)).frozen? ⟨gx1, i, none⟩ = false := (frozen_set1 _ _ _ _ _).trans y1f
  refine st 15 ((w4.drew.setCell ⟨gx0, i, none⟩ (.int .i64 mk)).setCell ⟨gx1, i, none⟩ (.int .i64 mv)) (by kernel_rfl) rfl ?_
  refine doneL (by kernel_rfl) ?_ _
  obtain ⟨own5, H5, hH5, hF5, hn5, ho5⟩ := set_twoI (kk := mk) (vv := mv) hH4 hx HL.out.1 HL.out.2 vx.k0 vx.k1 gx
  exact bodyPost_end (v := .tuple #[]) (by simp [results, Try.results34, go_sem]) (by rfl) (hdone own5 H5 _ hH5 hF5 hn5 ho5)
set_option maxHeartbeats 8000000 in
/-- The number behind takes its place. -/
theorem drop3I {own : Own} {H : HP Int} (d lo : Nat) (ih : DropAtI d) (t k q : Tr Int) (at_ : Int) (u : Int) (L R : List (Int × Int)) (A B : List (Tr Int)) (w : World) (hH : Heap LI w own H) (ho : Ok H (d + 1) lo t) (hn : (fp (d + 1) t).Nodup) (hr : Rise (ents (d + 1) t))
    (he : t.es = L ++ (at_, u) :: R) (hl : L.length = (t.es.map Prod.fst).countP (· < at_)) (hs : t.ks = A ++ k :: q :: B) (hA : A.length = L.length) (hB : B.length = R.length) (hc : (t.es.map Prod.fst).contains at_ = true) (hk : k.es.length ≤ 3) (hq : 3 < q.es.length) :
    Calls Try.prog 34 #[.pointer (some ⟨t.a, 0, none⟩), .int .i64 at_] w (DropPostI own H w (d + 1) t at_) := by
  have hes := own_rise ho.kids hr
  have h7 := ho.hi
  have hok := ho.2.2.2.2 k (by rw [hs]; simp)
  have hoq := ho.2.2.2.2 q (by rw [hs]; simp)
  have hf := findI.calls t.a t.nd at_ w hH ho.root (by simp [Tr.nd]; omega) hes
  rw [show t.nd.ks.countP (· < at_) = L.length from hl.symm, show t.nd.ks.contains at_ = true from hc] at hf
  have hlf := leafI.calls t.a t.nd w hH ho.root
  rw [ho.leaf, show decide (d + 1 = 0) = false from rfl] at hlf
  have hcl : t.nd.cs.length = t.ks.length := by simp [Tr.nd]
  obtain ⟨g, cx, k2, _, hcc⟩ := kidsI hH ho.root (by rw [hcl, ho.2.1]; omega)
  have y := hcc L.length k.a (by simp [Tr.nd, hs, ← hA])
  have z := hcc (L.length + 1) q.a (by simp [Tr.nd, hs, ← hA])
  obtain ⟨Ak, ck, kk⟩ := keysI hH hok.root
  obtain ⟨Aq, cq, kq⟩ := keysI hH hoq.root
  rw [hcl] at k2
  rw [show k.nd.ks.length = k.es.length by simp [Tr.nd]] at kk
  rw [show q.nd.ks.length = q.es.length by simp [Tr.nd]] at kq
  have i1 : ((L.length + 1 : Nat) : Int) < (t.ks.length : Int) := by rw [hs]; simp; omega
  have i3 : ¬ ((3 : Int) < (k.es.length : Int)) := by omega
  have i4 : (3 : Int) < (q.es.length : Int) := by omega
  have hg := leastI.calls d q w hH hoq
  have hkn : (fp d q).Nodup := (nodup_parts.1 (by have := hn; rw [fp_split d t (A ++ [k]) B q (by rw [hs]; simp)] at this; exact this)).2.2.2.2.1
  have hkx : t.a ∉ fp d q := (nodup_parts.1 (by have := hn; rw [fp_split d t (A ++ [k]) B q (by rw [hs]; simp)] at this; exact this)).2.1
  have hkr : Rise (ents d q) := by
    rw [ents_two d t L R (at_, u) A B k q he hs hA hB] at hr
    exact (rise_cons.1 (rise_append.1 (rise_append.1 (rise_append.1 hr).1).2.1).2.1).2
  have hne := ents_ne (hoq.low (show 1 ≤ q.es.length by omega))
  have hrec : ∀ (own2 : Own) (w2 : World) (at2 : Int), Heap LI w2 own2 H → Calls Try.prog 34 #[.pointer (some ⟨q.a, 0, none⟩), .int .i64 at2] w2 (DropPostI own2 H w2 d q at2) := fun own2 w2 at2 h2 => ih own2 H 3 q at2 w2 h2 hoq hkn hkr (fun _ => by omega)
  have hfin : ∀ (own3 : Own) (H3 : HP Int) (w3 : World) (k' : Tr Int) (e : Int × Int), (ents d q).head? = some e → Rep H H3 d (q.es.length - 1) q k' → ents d k' = delL e.1 (ents d q) → Fr own own3 w w3 → H3 t.a = some ⟨t.es.map Prod.fst, t.es.map Prod.snd, t.ks.map Tr.a⟩ ∧
      ∀ (own4 : Own) (H4 : HP Int) (w4 : World), Heap LI w4 own4 H4 → Fr own3 own4 w3 w4 → H4 t.a = some ⟨(t.es.map Prod.fst).set L.length e.1, (t.es.map Prod.snd).set L.length e.2, t.ks.map Tr.a⟩ → (∀ c, c ≠ t.a → H4 c = H3 c) → DropPostI own H w (d + 1) t at_ (.returned (.tuple #[])) w4 := by
    intro own3 H3 w3 k' e hlast hrep hen hF
    refine ⟨(hrep.frame t.a hkx (by rw [ho.root]; simp)).trans ho.root, fun own4 H4 w4 hH4 hF4 h4 ho4 => ?_⟩
    obtain ⟨t3, r3, e3⟩ := del_first (ho.low (Nat.sub_le _ _)) hn hr he hs hA hB hrep (by omega) hlast hen h4 ho4
    exact ⟨own4, H4, t3, rfl, hH4, hF.trans hF4, r3, e3⟩
  have hlk : L.length < (t.es.map Prod.fst).length := by simp [he]
  have hlv : L.length < (t.es.map Prod.snd).length := by simp [he]
  have hkids : ∀ (own2 : Own) (w2 : World), Heap LI w2 own2 H → ∃ g cx, w2.cell? ⟨t.a, 2, none⟩ = some (.slice (some ⟨g, 0, none⟩) t.ks.length cx) ∧ w2.cell? ⟨g, L.length + 1, none⟩ = some (.pointer (some ⟨q.a, 0, none⟩)) := fun own2 w2 h2 => by
    obtain ⟨g, cx, k2, _, hcc⟩ := kidsI h2 ho.root (by rw [hcl, ho.2.1]; omega)
    rw [hcl] at k2
    exact ⟨g, cx, k2, hcc (L.length + 1) q.a (by simp [Tr.nd, hs, ← hA])⟩
  have HF := Aside0.mk hf
  have HLF := Aside0.mk hlf
  have HG := Aside0.mk hg
  have HREC := Aside0.mk hrec
  have FIN := Aside0.mk hfin
  have HL := Aside0.mk (And.intro hlk hlv)
  have HKI := Aside0.mk hkids
  have HNE := Aside0.mk hne
  have HH := Aside0.mk hH
  have b7 : L.length ≤ 7 := by rw [he] at h7; simp at h7; omega
  generalize DropPostI own H w (d + 1) t at_ = Q at FIN ⊢
  generalize t.a = x at HF HLF HKI FIN k2 ⊢
  generalize L.length = i at HF HL HKI FIN y z i1 b7
  generalize t.ks.length = nn at k2 i1 HKI
  generalize t.es.map Prod.fst = xk at FIN HL
  generalize t.es.map Prod.snd = xv at FIN HL
  generalize t.ks.map Tr.a = xc at FIN
  generalize hnk : k.es.length = nk at kk i3
  have HNK := Aside0.mk hnk
  generalize q.es.length = nq1 at kq i4
  generalize k.a = ka at y kk
  generalize hka : q.a = qa at z kq HG HREC HKI
  have HKA := Aside0.mk hka
  have i5 : (i : Int) < (nn : Int) := by omega
  have i6 : (0 : Int) ≤ (i : Int) := by omega
  have i7 : (i : Int) + 1 < (nn : Int) := by omega
  have i8 : ((i : Int) + 1).toNat = i + 1 := by omega
  clear hes h7 hf hlf hH ho hn hr he hl hs hA hB hc hok hoq hq hcl hcc hkn hkx hkr hne hrec hfin hlk hlv hkids hk hg hnk hka
  go_enter Try.func34, Try.ntmps34
  go_wp2_with (first | (go_at_call 30; refine HF.out.mono ?_; rintro e w' ⟨rfl, hw⟩; obtain rfl := hw.symm; clear hw) | (go_at_call 31; refine HLF.out.mono ?_; rintro e w' ⟨rfl, hw⟩; obtain rfl := hw.symm; clear hw))
  refine HG.out.mono ?_
  rintro e w' ⟨yy, es, rfl, hw, hy, hlast, h7y⟩
  obtain rfl := hw.symm
  clear hw
  have hH2 := HH.out
  have hF2 : Fr own own w w := Fr.refl own w
  obtain ⟨m, es0, rfl⟩ : ∃ m es0, es = m :: es0 := List.exists_cons_of_ne_nil (by rintro rfl; exact HNE.out (List.head?_eq_none_iff.1 hlast.symm))
  rw [List.head?_cons] at hlast
  clear k2 y z kk kq i1
  obtain ⟨w2, hw2⟩ : ∃ W, W = w := ⟨_, rfl⟩
  obtain ⟨A0, c0, A1, c1, A2, c2, hv⟩ := hH2.view hy
  obtain ⟨g0, rfl, z0, _, _, _⟩ := hv.r0.get (j := 0) (u := .int .i64 m.1) (by simp [Nd.row, LI]) (by simp [Nd.row])
  obtain ⟨g1, rfl, z1, _, _, _⟩ := hv.r1.get (j := 0) (u := .int .i64 m.2) (by simp [Nd.row, LI]) (by simp [Nd.row])
  have p0 : w.cell? ⟨yy, 0, none⟩ = some (.slice (some ⟨g0, 0, none⟩) (es0.length + 1) c0) := by have := hv.k0; simpa using this
  have p1 : w.cell? ⟨yy, 1, none⟩ = some (.slice (some ⟨g1, 0, none⟩) (es0.length + 1) c1) := by have := hv.k1; simpa using this
  have j5 : (0 : Int) < ((es0.length + 1 : Nat) : Int) := by omega
  generalize es0.length + 1 = n at p0 p1 j5
  obtain ⟨mk, mv⟩ := m
  dsimp only at z0 z1
  have T := Aside0.mk (And.intro hH2 (And.intro hF2 hlast))
  clear hv hy h7y hH2 hF2 hlast HG HNE HH HF HLF
  go_wp2_with fail
  go_quiet (fail)
  obtain ⟨hH2, hF2, hlast⟩ := T.out
  have hH3 := hH2.drewN nq
  have hF3 := hF2.trans (Fr.drewN own w nq)
  clear z0 z1 p0 p1 T
  generalize w.drewN nq = w3 at hH3 hF3 ⊢
  obtain ⟨g3, cx3, k3, y3⟩ := HKI.out own w3 hH3
  have T3 := Aside0.mk (And.intro hH3 (And.intro hF3 hlast))
  clear hH2 hF2 hlast hH3 hF3
  go_wp2_with fail
  refine (HREC.out own w3 mk T3.out.1).mono ?_
  rintro e w4 ⟨own4, H4, k', rfl, hH4, hF4, hrep, hen⟩
  obtain ⟨hx4, hdone⟩ := FIN.out own4 H4 w4 k' (mk, mv) T3.out.2.2.symm hrep hen (T3.out.2.1.trans hF4)
  have T4 := Aside0.mk (And.intro hH4 (And.intro hx4 hdone))
  clear hH4 hF4 hrep hen hx4 hdone T3 k3 y3
  go_wp2_with fail
  obtain ⟨hH4, hx, hdone⟩ := T4.out
  obtain ⟨XA0, xc0, XA1, xc1, XA2, xc2, vx⟩ := hH4.view hx
  obtain ⟨gx0, rfl, y0, y0o, y0f, _⟩ := vx.r0.get (j := i) (u := (Nd.row LI (⟨xk, xv, xc⟩ : Nd Int) 0)[i]'(by simp only [Nd.row, List.length_map]; exact HL.out.1)) (List.getElem?_eq_getElem _) (by simp only [Nd.row, List.length_map])
  obtain ⟨gx1, rfl, y1, y1o, y1f, _⟩ := vx.r1.get (j := i) (u := (Nd.row LI (⟨xk, xv, xc⟩ : Nd Int) 1)[i]'(by simp only [Nd.row, List.length_map]; exact HL.out.2)) (List.getElem?_eq_getElem _) (by simp only [Nd.row, List.length_map])
  have g01 : gx0 ≠ gx1 := fun e => by rw [e, y1o] at y0o; simp at y0o
  have gx : x ≠ gx0 := fun e => by have := vx.mine; rw [e, y0o] at this; simp at this
  have lk : (i : Int) < (xk.length : Int) := by have := HL.out.1; omega
  have lv : (i : Int) < (xv.length : Int) := by have := HL.out.2; omega
  refine startL (Sees own4 (0, 9) w4) [13, 15] (by kernel_rfl) ?_
  change WalkL _ _ _ _ _ _ 16 #[false, false, false, false, false, false, false, false, false, false, false, false, false, false, false, false] _ _
  have hS : Sees own4 (0, 9) w4 w4.drew := Sees.refl _ _ _
  refine pu 0 (.pointer (some ⟨x, 0, none⟩)) hS rfl ?_
  refine pu 1 (.pointer (some ⟨x, 0, none⟩)) hS rfl ?_
  refine pu 2 (.pointer (some ⟨x, 0, none⟩)) hS rfl ?_
  refine lb 3 (.slice (some ⟨gx0, 0, none⟩) (xk.length) (xc0)) hS vx.k0 vx.mine (by simp) rfl ?_
  refine pu 4 (.int .i64 ((i : Int))) hS rfl ?_
  refine pu 5 (.pointer (some ⟨x, 0, none⟩)) hS rfl ?_
  refine pu 6 (.pointer (some ⟨x, 0, none⟩)) hS rfl ?_
  refine pu 7 (.pointer (some ⟨x, 1, none⟩)) hS rfl ?_
  refine lb 8 (.slice (some ⟨gx1, 0, none⟩) (xv.length) (xc1)) hS vx.k1 vx.mine (by simp) rfl ?_
  refine pu 9 (.int .i64 ((i : Int))) hS rfl ?_
  refine pu 10 (.int .i64 mk) hS rfl ?_
  refine pu 11 (.int .i64 mv) hS rfl ?_
  refine pu 12 (.pointer (some ⟨gx0, i, none⟩)) hS rfl ?_
  refine st 13 (w4.drew.setCell ⟨gx0, i, none⟩ (.int .i64 mk)) (by kernel_rfl) rfl ?_
  refine pv 14 (.pointer (some ⟨gx1, i, none⟩)) rfl ?_
  have u1 : (w4.drew.setCell ⟨gx0, i, none⟩ (.int .i64 mk)).cell? ⟨gx1, i, none⟩ = _ := (cell_farB _ _ _ _ _ (Ne.symm g01)).trans y1
  have u2 : (w4.drew.setCell ⟨gx0, i, none⟩ (.int .i64 mk)).frozen? ⟨gx1, i, none⟩ = false := (frozen_set1 _ _ _ _ _).trans y1f
  refine st 15 ((w4.drew.setCell ⟨gx0, i, none⟩ (.int .i64 mk)).setCell ⟨gx1, i, none⟩ (.int .i64 mv)) (by kernel_rfl) rfl ?_
  refine doneL (by kernel_rfl) ?_ _
  obtain ⟨own5, H5, hH5, hF5, hn5, ho5⟩ := set_twoI (kk := mk) (vv := mv) hH4 hx HL.out.1 HL.out.2 vx.k0 vx.k1 gx
  exact bodyPost_end (v := .tuple #[]) (by simp [results, Try.results34, go_sem]) (by rfl) (hdone own5 H5 _ hH5 hF5 hn5 ho5)
end Go.Proofs.Ytkfcflflgecljaa.H
