/- Drop of a bag over string. -/
import Derived.Test.YtkfcflflgecljaaHBagHS
import Derived.Test.YtkfcflflgecljaaHBagV
import Derived.Deep.DeepCutAuto
import Derived.Deep.CutBlock
set_option linter.unusedVariables false
set_option linter.unusedSimpArgs false
namespace Go.Proofs.Ytkfcflflgecljaa.H
open Go.RowKit Go.Proofs.YtkfcflflgecljaaW.PrintWords Go.Proofs.YtkfcflflgecljaaW.PrintLast
set_option maxRecDepth 100000
/-- What Drop leaves. -/
def DroppedS (own : Own) (bb : Nat) (at_ : Int) (es : List (Int × ByteArray)) (w : World) (e : Ending) (w' : World) : Prop :=
  ∃ own' H' d' t', e = .returned (.bool (getL at_ es).isSome) ∧ BagAt LS 72 w' own' H' bb d' t' ∧ ents d' t' = delL at_ es ∧ FrB bb own own' w w'
set_option maxHeartbeats 4000000 in
theorem bdropS.calls {own : Own} {H : HP ByteArray} (bb d : Nat) (t : Tr ByteArray) (at_ : Int) (w : World) (hB : BagAt LS 72 w own H bb d t) :
    Calls Try.prog 28 #[.pointer (some ⟨bb, 0, none⟩), .int .i64 at_] w (DroppedS own bb at_ (ents d t) w) := by
  have hg := getS.calls bb d t _ at_ w hB.heap hB.ok hB.rise hB.cell
  cases hu : getL at_ (ents d t) with
  | none =>
    rw [hu] at hg
    have HQ := Aside0.mk (show DroppedS own bb at_ (ents d t) w (.returned (.bool false)) w from ⟨own, H, d, t, by rw [hu]; rfl, hB, (delL_same hu).symm, FrB.refl _ _ _⟩)
    have HG := Aside0.mk hg
    generalize DroppedS own bb at_ (ents d t) w = Q at HQ ⊢
    clear hg hu hB
    go_enter Try.func28, Try.ntmps28
    go_wp2_with (go_at_call 25; refine HG.out.mono ?_; rintro e w' ⟨rfl, hw⟩; obtain rfl := hw.symm; clear hw)
    first | go_ret | skip
    exact HQ.out
  | some u =>
    rw [hu] at hg
    have hsm : (getL at_ (ents d t)).isSome = true := by rw [hu]; rfl
    have hd := dropS.calls d own H 0 t at_ w hB.heap hB.ok hB.nodup hB.rise hB.one
    have hlen := delL_length hB.rise hsm
    have hl62 := hB.len
    have hroot : ∀ (w2 : World) (own2 : Own), Fr own own2 w w2 → w2.heap[bb]? = some (.cells #[.pointer (some ⟨t.a, 0, none⟩), .int .i64 (((delL at_ (ents d t)).length : Int) + 1)] 72 (0, 0)) ∧ own2 bb = none := fun w2 own2 hF => ⟨by rw [(hB.stays hF).1, hB.cell, ← hlen]; simp, (hB.stays hF).2⟩
    have hri : Rise (delL at_ (ents d t)) := hB.rise.del at_
    obtain ⟨es', hes'⟩ : ∃ es', delL at_ (ents d t) = es' := ⟨_, rfl⟩
    rw [hes'] at hroot hri hlen
    have kb : w.cell? ⟨bb, 0, none⟩ = some (.pointer (some ⟨t.a, 0, none⟩)) := by rw [cell_of_row w bb 0 _ _ (0, 0) hB.cell]; rfl
    -- what is to be shown in the end
    have hfin : ∀ (own2 : Own) (H2 : HP ByteArray) (w2 w3 : World) (d3 : Nat) (t3 : Tr ByteArray), Fr own own2 w w2 → FrB bb own2 own2 w2 w3 → Heap LS w3 own2 H2 → Ok H2 d3 0 t3 → (fp d3 t3).Nodup → ents d3 t3 = es' → (d3 ≠ 0 → 1 ≤ t3.es.length) →
        w3.heap[bb]? = some (.cells #[.pointer (some ⟨t3.a, 0, none⟩), .int .i64 (es'.length : Int)] 72 (0, 0)) → DroppedS own bb at_ (ents d t) w (.returned (.bool true)) w3 := fun own2 H2 w2 w3 d3 t3 h1 h2 h3 h4 h5 h6 h7 h8 =>
      ⟨own2, H2, d3, t3, by rw [hsm], ⟨h3, h4, h5, by rw [h6]; exact hri, h7, by rw [h6]; omega, by rw [h6]; exact h8, (hroot w2 own2 h1).2⟩, by rw [h6, hes'], (h1.toB bb).trans h2⟩
    have b62 : es'.length < 2 ^ 62 := by omega
    have HG := Aside0.mk hg
    have HD := Aside0.mk hd
    have HROOT := Aside0.mk hroot
    have FIN := Aside0.mk hfin
    generalize DroppedS own bb at_ (ents d t) w = Q at FIN ⊢
    have HES := Aside0.mk hes'
    obtain ⟨x, hx⟩ : ∃ x, t.a = x := ⟨_, rfl⟩
    rw [hx] at HD kb
    have HX := Aside0.mk hx
    generalize hm : es'.length = m at b62
    have HM := Aside0.mk hm
    clear hg hu hsm hd hlen hl62 hroot hri hfin hB hes' hx hm
    go_enter Try.func28, Try.ntmps28
    go_wp2_with (go_at_call 25; refine HG.out.mono ?_; rintro e w' ⟨rfl, hw⟩; obtain rfl := hw.symm; clear hw)
    refine HD.out.mono ?_
    rintro e w2 ⟨own2, H2, t2, rfl, hH2, hF2, hrep, hen⟩
    have hlf := leafS.calls t2.a t2.nd w2 hH2 hrep.ok.root
    rw [hrep.ok.leaf, hrep.addr, HX.out] at hlf
    obtain ⟨Ak, ck, kk⟩ := keysS hH2 hrep.ok.root
    rw [show t2.nd.ks.length = t2.es.length by simp [Tr.nd], hrep.addr, HX.out] at kk
    obtain ⟨hb2, ho2⟩ := HROOT.out w2 own2 hF2
    rw [HX.out, HM.out] at hb2
    have q0 : w2.cell? ⟨bb, 0, none⟩ = some (.pointer (some ⟨x, 0, none⟩)) := by rw [cell_of_row w2 bb 0 _ _ (0, 0) hb2]; rfl
    have q1 : w2.cell? ⟨bb, 1, none⟩ = some (.int .i64 ((m : Int) + 1)) := by rw [cell_of_row w2 bb 1 _ _ (0, 0) hb2]; rfl
    have f0 : w2.frozen? ⟨bb, 0, none⟩ = false := frozen_of_row w2 bb 0 _ _ hb2
    have f1 : w2.frozen? ⟨bb, 1, none⟩ = false := frozen_of_row w2 bb 1 _ _ hb2
    have j4 : IntKind.i64.wrap ((m : Int) + 1 - 1) = (m : Int) := by rw [IntKind.wrap_i64]; omega
    have j3 : IntKind.i64.wrap (m : Int) = (m : Int) := by rw [IntKind.wrap_i64]; omega
    have T := Aside0.mk (And.intro hH2 (And.intro hF2 (And.intro hrep (And.intro hen (And.intro hb2 ho2)))))
    have HLF := Aside0.mk hlf
    by_cases h0 : t2.es.length = 0
    · have hz : (t2.es.length : Int) = 0 := by omega
      rw [h0] at kk
      cases d with
      | zero =>
        rw [show decide ((0 : Nat) = 0) = true from rfl] at HLF
        clear hH2 hF2 hrep hen hb2 ho2 hlf
        go_wp2_with (go_at_call 41; refine HLF.out.mono ?_; rintro e w' ⟨rfl, hw⟩; obtain rfl := hw.symm; clear hw)
        obtain ⟨hH2, hF2, hrep, hen, hb2, ho2⟩ := T.out
        exact FIN.out own2 H2 w2 _ 0 t2 hF2 (FrB.set bb 1 _ own2 w2) (hH2.set ho2 1 _) (hrep.ok.low (Nat.zero_le _)) hrep.nodup (hen.trans HES.out) (fun h => absurd rfl h) (by rw [heap_setCell2 hb2, hrep.addr, HX.out, HM.out]; rfl)
      | succ d =>
        rw [show decide (d + 1 = 0) = false from rfl] at HLF
        have hk1 : t2.ks.length = 1 := by have := hrep.ok.2.1; omega
        obtain ⟨k, hks⟩ := List.length_eq_one_iff.1 hk1
        have hcl : t2.nd.cs.length = 1 := by simp [Tr.nd, hk1]
        obtain ⟨g, cx, k2, _, hcc⟩ := kidsS hH2 hrep.ok.root (by rw [hcl]; omega)
        have y := hcc 0 k.a (by simp [Tr.nd, hks])
        rw [hcl, hrep.addr, HX.out] at k2
        have hkok := hrep.ok.2.2.2.2 k (by rw [hks]; simp)
        have hkn : (fp d k).Nodup := (nodup_parts.1 (by have := hrep.nodup; rw [fp_split d t2 [] [] k hks] at this; exact this)).2.2.2.2.1
        have hke : ents d k = es' := by
          rw [← HES.out, ← hen, ents, hks, List.eq_nil_of_length_eq_zero h0]; rfl
        have K := Aside0.mk (And.intro hkok (And.intro hkn hke))
        obtain ⟨ka, hka⟩ : ∃ ka, k.a = ka := ⟨_, rfl⟩
        rw [hka] at y
        have KA := Aside0.mk hka
        have i1 : (0 : Int) < ((1 : Nat) : Int) := by omega
        clear hH2 hF2 hrep hen hb2 ho2 hlf hk1 hks hcl hcc hkok hkn hke hka
        go_wp2_with (go_at_call 41; refine HLF.out.mono ?_; rintro e w' ⟨rfl, hw⟩; obtain rfl := hw.symm; clear hw)
        obtain ⟨hH2, hF2, hrep, hen, hb2, ho2⟩ := T.out
        obtain ⟨hkok, hkn, hke⟩ := K.out
        exact FIN.out own2 H2 w2 _ d k hF2 ((FrB.set bb 0 _ own2 w2).trans (FrB.set bb 1 _ own2 _)) ((hH2.set ho2 0 _).set ho2 1 _) (hkok.low (Nat.zero_le _)) hkn hke (fun _ => by have := hkok.lo; omega) (by rw [heap_setCell2 (heap_setCell2 hb2 _ _), KA.out, HM.out]; rfl)
    · have hz : ¬ ((t2.es.length : Int) = 0) := by omega
      have K := Aside0.mk h0
      generalize t2.es.length = n2 at kk hz
      clear hH2 hF2 hrep hen hb2 ho2 hlf h0 HLF
      go_wp2_with fail
      obtain ⟨hH2, hF2, hrep, hen, hb2, ho2⟩ := T.out
      exact FIN.out own2 H2 w2 _ d t2 hF2 (FrB.set bb 1 _ own2 w2) (hH2.set ho2 1 _) (hrep.ok.low (Nat.zero_le _)) hrep.nodup (hen.trans HES.out) (fun _ => by have := K.out; omega) (by rw [heap_setCell2 hb2, hrep.addr, HX.out, HM.out]; rfl)
end Go.Proofs.Ytkfcflflgecljaa.H
