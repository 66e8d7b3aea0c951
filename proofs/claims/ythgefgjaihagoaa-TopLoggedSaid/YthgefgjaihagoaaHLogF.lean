/- The log: first, at what Write hands it: flush, write the head, flush. -/
import Derived.Test.YthgefgjaihagoaaHLogG
set_option linter.unusedVariables false
set_option linter.unusedSimpArgs false
namespace Go.Proofs.Ythgefgjaihagoaa.Q
open Go.RowKit Go.Proofs.Ythgefgjaihagoaa.H Go.Proofs.YthgefgjaihagoaaW.PrintWords Go.Proofs.YthgefgjaihagoaaW.PrintLast
set_option maxRecDepth 100000
/-- What is no block of the disk stays. -/
theorem kept_disk {w w' : World} {D g1 g2 m k ty : Nat} {sf nw : List ByteArray} {lv lv' : Value} {cs : Array Value} {fr : Nat × Nat} (h : DiskAt w D g1 g2 sf nw lv m) (hk : w.heap[k]? = some (.cells cs ty fr)) (ht : ty ≠ 95 ∧ ty ≠ 100 ∧ (ty ≠ 9 ∨ cs.size ≠ 256)) (hK : DKeep D g1 g2 lv lv' w w') :
    w'.heap[k]? = some (.cells cs ty fr) := by
  obtain ⟨ops, hc⟩ := h.cell
  obtain ⟨n, inner, ho, _⟩ := h.loose
  refine (hK.same k (Array.getElem?_eq_some_iff.1 hk).1 ?_ ?_ ?_ ?_).trans hk
  · rintro rfl
    have e := hc.symm.trans hk
    injection e with e; injection e with _ e; exact ht.1 e.symm
  · rintro rfl
    have e := h.safe.symm.trans hk
    injection e with e; injection e with e1 e2
    rcases ht.2.2 with h1 | h1
    · exact h1 e2.symm
    · refine h1 ?_
      rw [← e1]; simp [h.l1]
  · rintro rfl
    have e := h.now.symm.trans hk
    injection e with e; injection e with e1 e2
    rcases ht.2.2 with h1 | h1
    · exact h1 e2.symm
    · refine h1 ?_
      rw [← e1]; simp [h.l2]
  · intro he
    obtain ⟨cells, hg'⟩ := own_typed ho k he.symm
    have e := hk.symm.trans hg'
    injection e with e; injection e with _ e; exact ht.2.1 e
/-- The write of the head. -/
theorem Below.drew (w : World) : Below w.heap.size w w.drew := pw_below_drewN (Below.refl _ w) 1
set_option maxHeartbeats 4000000 in
theorem lhead.calls {L D g1 g2 m : Nat} {sf nw : List ByteArray} {lv : Value} {s n : Int} (w : World) (p : Nat) (hL : LogAt w L D (p : Int) s n) (hD : DiskAt w D g1 g2 sf nw lv m) (hm : m ≤ 1000) (hp : p < 256) (B1 B2 : Nat) (t : ByteArray) (ht : t.size = 512)
    (h1 : w.heap[B1]? = some (.cells #[.pointer (some ⟨L, 0, none⟩)] 31 (0, 0))) (h2 : w.heap[B2]? = some (.cells #[.string t] 9 (0, 0))) :
    Calls Try.prog 40 #[.pointer (some ⟨B1, 0, none⟩), .pointer (some ⟨B2, 0, none⟩)] w (fun e w' => ∃ lv', e = .returned (.int .i64 0) ∧ DiskAt w' D g1 g2 sf (nw.set p t) lv' (m + 1) ∧ DKeep D g1 g2 lv lv' w w') := by
  have HD := Aside0.mk hD
  obtain ⟨c0, c1, c2, c3, fz⟩ := hL.fields
  have e1 : w.cell? ⟨B1, 0, none⟩ = some (.pointer (some ⟨L, 0, none⟩)) := by rw [Lib.cell_of_heap h1]; rfl
  have e2 : w.cell? ⟨B2, 0, none⟩ = some (.string t) := by rw [Lib.cell_of_heap h2]; rfl
  have HST := Aside0.mk (show ∀ (W : World) (lv' : Value), DKeep D g1 g2 lv lv' w.drew W → W.cell? ⟨B1, 0, none⟩ = some (.pointer (some ⟨L, 0, none⟩)) ∧ W.cell? ⟨B2, 0, none⟩ = some (.string t) ∧ W.cell? ⟨L, 0, none⟩ = some (.pointer (some ⟨D, 0, none⟩)) ∧ W.cell? ⟨L, 1, none⟩ = some (.int .i64 (p : Int)) from fun W lv' hK => by
    have hD1 := hD.still (Below.drew w)
    have k1 := kept_disk hD1 (k := B1) h1 (by simp) hK
    have k2 := kept_disk hD1 (k := B2) h2 (by simp) hK
    have k3 := kept_disk hD1 (k := L) hL (by simp) hK
    refine ⟨?_, ?_, ?_, ?_⟩
    · rw [Lib.cell_of_heap k1]; rfl
    · rw [Lib.cell_of_heap k2]; rfl
    · rw [Lib.cell_of_heap k3]; rfl
    · rw [Lib.cell_of_heap k3]; rfl)
  clear hL hD h1 h2 c2 c3 fz
  go_enter Try.func40, Try.ntmps40
  go_wp2_with fail
  refine startL (fun W => W.cell? ⟨B1, 0, none⟩ = some (.pointer (some ⟨L, 0, none⟩)) ∧ W.cell? ⟨B2, 0, none⟩ = some (.string t) ∧ W.cell? ⟨L, 0, none⟩ = some (.pointer (some ⟨D, 0, none⟩)) ∧ W.cell? ⟨L, 1, none⟩ = some (.int .i64 (p : Int))) [] (by kernel_rfl) ?_
  change WalkL _ _ _ _ _ _ 11 #[false, false, false, false, false, false, false, false, false, false, false] _ _
  have hS : w.drew.cell? ⟨B1, 0, none⟩ = some (.pointer (some ⟨L, 0, none⟩)) ∧ w.drew.cell? ⟨B2, 0, none⟩ = some (.string t) ∧ w.drew.cell? ⟨L, 0, none⟩ = some (.pointer (some ⟨D, 0, none⟩)) ∧ w.drew.cell? ⟨L, 1, none⟩ = some (.int .i64 (p : Int)) := ⟨e1, e2, c0, c1⟩
  refine ld 0 (.pointer (some ⟨L, 0, none⟩)) hS rfl ?_
  refine pu 1 (.pointer (some ⟨L, 0, none⟩)) hS rfl ?_
  refine pu 2 (.pointer (some ⟨L, 0, none⟩)) hS rfl ?_
  refine ld 3 (.pointer (some ⟨D, 0, none⟩)) hS rfl ?_
  refine ld 4 (.pointer (some ⟨L, 0, none⟩)) hS rfl ?_
  refine pu 5 (.pointer (some ⟨L, 0, none⟩)) hS rfl ?_
  refine pu 6 (.pointer (some ⟨L, 1, none⟩)) hS rfl ?_
  refine ld 7 (.int .i64 (p : Int)) hS rfl ?_
  refine ld 8 (.string t) hS rfl ?_
  refine callL 9 12 (f := 37) (args := #[.pointer (some ⟨D, 0, none⟩), .int .i64 (p : Int), .string t]) (by kernel_rfl) rfl rfl (by kernel_rfl) (by go_simp) (dwrite.calls w.drew (HD.out.still (Below.drew w)) hm p hp t ht) rfl ?_
  rintro e w2 ⟨lv', rfl, r1, r2⟩
  have hS2 := HST.out w2 lv' r2
  refine ⟨_, rfl, fun _ => hS2, _, rfl, ?_⟩
  have HR := Aside0.mk (And.intro r1 ((DKeep.of_below (Below.drew w)).trans r2))
  clear r1 r2 hS
  refine pu 10 (.int .i64 0) hS2 rfl ?_
  refine doneL (by kernel_rfl) ?_ _
  go_wp2_with fail
  go_ret
  exact ⟨lv', rfl, HR.out⟩
/-- What the three calls need. -/
structure HX (B1 B2 B3 D L : Nat) (s n : Int) (t : ByteArray) (p : Nat) (w : World) : Prop where
  l : LogAt w L D (p : Int) s n
  b1 : w.heap[B1]? = some (.cells #[.pointer (some ⟨L, 0, none⟩)] 31 (0, 0))
  b2 : w.heap[B2]? = some (.cells #[.string t] 9 (0, 0))
  b3 : w.heap[B3]? = some (.cells #[.func (.func 39) #[.pointer (some ⟨D, 0, none⟩)] #[], .func (.func 40) #[] #[.pointer (some ⟨B1, 0, none⟩), .pointer (some ⟨B2, 0, none⟩)], .func (.func 39) #[.pointer (some ⟨D, 0, none⟩)] #[]] 90 (0, 0))
theorem HX.fields {B1 B2 B3 D L p : Nat} {s n : Int} {t : ByteArray} {w : World} (h : HX B1 B2 B3 D L s n t p w) : w.cell? ⟨B3, 0, none⟩ = some (.func (.func 39) #[.pointer (some ⟨D, 0, none⟩)] #[]) ∧ w.cell? ⟨B3, 1, none⟩ = some (.func (.func 40) #[] #[.pointer (some ⟨B1, 0, none⟩), .pointer (some ⟨B2, 0, none⟩)]) ∧
    w.cell? ⟨B3, 2, none⟩ = some (.func (.func 39) #[.pointer (some ⟨D, 0, none⟩)] #[]) := by
  refine ⟨?_, ?_, ?_⟩ <;> (rw [Lib.cell_of_heap h.b3]; rfl)
theorem HX.next {B1 B2 B3 D L p g1 g2 m : Nat} {s n : Int} {t : ByteArray} {w w' : World} {sf nw : List ByteArray} {lv lv' : Value} (h : HX B1 B2 B3 D L s n t p w) (hD : DiskAt w D g1 g2 sf nw lv m) (hK : DKeep D g1 g2 lv lv' w w') : HX B1 B2 B3 D L s n t p w' :=
  ⟨kept_disk hD h.l (by simp) hK, kept_disk hD h.b1 (by simp) hK, kept_disk hD h.b2 (by simp) hK, kept_disk hD h.b3 (by simp) hK⟩
set_option maxHeartbeats 8000000 in
/-- What the three calls leave: the head lies on the disk, and all is flushed. -/
theorem lfirst.calls {L D g1 g2 m : Nat} {sf nw : List ByteArray} {lv : Value} {s n : Int} (w : World) (p : Nat) (hL : LogAt w L D (p : Int) s n) (hD : DiskAt w D g1 g2 sf nw lv m) (hm : m ≤ 900) (hp : p < 256) (B1 B2 B3 : Nat) (t : ByteArray) (ht : t.size = 512)
    (h1 : w.heap[B1]? = some (.cells #[.pointer (some ⟨L, 0, none⟩)] 31 (0, 0))) (h2 : w.heap[B2]? = some (.cells #[.string t] 9 (0, 0)))
    (h3 : w.heap[B3]? = some (.cells #[.func (.func 39) #[.pointer (some ⟨D, 0, none⟩)] #[], .func (.func 40) #[] #[.pointer (some ⟨B1, 0, none⟩), .pointer (some ⟨B2, 0, none⟩)], .func (.func 39) #[.pointer (some ⟨D, 0, none⟩)] #[]] 90 (0, 0))) :
    Calls Try.prog 38 #[.slice (some ⟨B3, 0, none⟩) 3 3] w (fun e w' => e = .returned (.int .i64 0) ∧ DiskAt w' D g1 g2 (nw.set p t) (nw.set p t) (.slice none 0 0) 0 ∧ DKeep D g1 g2 lv (.slice none 0 0) w w') := by
  have f0 : w.cell? ⟨B3, 0, none⟩ = some (.func (.func 39) #[.pointer (some ⟨D, 0, none⟩)] #[]) := by rw [Lib.cell_of_heap h3]; rfl
  have f1 : w.cell? ⟨B3, 1, none⟩ = some (.func (.func 40) #[] #[.pointer (some ⟨B1, 0, none⟩), .pointer (some ⟨B2, 0, none⟩)]) := by rw [Lib.cell_of_heap h3]; rfl
  have f2 : w.cell? ⟨B3, 2, none⟩ = some (.func (.func 39) #[.pointer (some ⟨D, 0, none⟩)] #[]) := by rw [Lib.cell_of_heap h3]; rfl
  have HF := Aside0.mk (dflush.calls w hD)
  have HD := Aside0.mk hD
  have HL := Aside0.mk hL
  have HH := Aside0.mk (And.intro h1 (And.intro h2 h3))
  clear hD hL h1 h2 h3
  go_enter Try.func38, Try.ntmps38
  go_wp2_with fail
  have FIN : ∀ (lv' : Value) (m' : Nat) (sf' nw' : List ByteArray) (W W' : World), DiskAt W D g1 g2 sf' nw' lv' m' → DKeep D g1 g2 lv lv' w W → HX B1 B2 B3 D L s n t p W → ∀ lv2, DKeep D g1 g2 lv' lv2 W W' → HX B1 B2 B3 D L s n t p W' ∧ DKeep D g1 g2 lv lv2 w W' := fun lv' m' sf' nw' W W' hD hK hX lv2 hK2 => ⟨HX.next hX hD hK2, hK.trans hK2⟩
  have HFIN := Aside0.mk FIN
  have HX0 : HX B1 B2 B3 D L s n t p w := ⟨HL.out, HH.out.1, HH.out.2.1, HH.out.2.2⟩
  have ST0 := Aside0.mk (And.intro HX0 (And.intro HD.out (DKeep.refl D g1 g2 lv w)))
  clear FIN HX0 f0 f1 f2 HF HD HL HH
  go_loopg [8] 3 (fun gg s8 wr => (s8 = .int .i64 0 ∧ gg = 3 ∧ Aside0 (HX B1 B2 B3 D L s n t p wr ∧ DiskAt wr D g1 g2 sf nw lv m ∧ DKeep D g1 g2 lv lv w wr)) ∨ (s8 = .int .i64 1 ∧ gg = 2 ∧ Aside0 (HX B1 B2 B3 D L s n t p wr ∧ DiskAt wr D g1 g2 nw nw (.slice none 0 0) 0 ∧ DKeep D g1 g2 lv (.slice none 0 0) w wr)) ∨
    (s8 = .int .i64 2 ∧ gg = 1 ∧ Aside0 (HX B1 B2 B3 D L s n t p wr ∧ ∃ lv', DiskAt wr D g1 g2 nw (nw.set p t) lv' 1 ∧ DKeep D g1 g2 lv lv' w wr)) ∨ (s8 = .int .i64 3 ∧ gg = 0 ∧ Aside0 (HX B1 B2 B3 D L s n t p wr ∧ DiskAt wr D g1 g2 (nw.set p t) (nw.set p t) (.slice none 0 0) 0 ∧ DKeep D g1 g2 lv (.slice none 0 0) w wr)))
  case atStart => exact .inl ⟨rfl, rfl, ST0⟩
  case round =>
    clear ST0
    rcases hrel with ⟨rfl, rfl, HS⟩ | ⟨rfl, rfl, HS⟩ | ⟨rfl, rfl, HS⟩ | ⟨rfl, rfl, HS⟩
    · obtain ⟨f0, f1, f2⟩ := HS.out.1.fields
      have HC := dflush.calls wr HS.out.2.1
      clear f1 f2
      go_wp2_with fail
      refine HC.mono ?_
      rintro e w1 ⟨rfl, hD1, hK1⟩
      obtain ⟨hx1, hk1⟩ := HFIN.out _ _ _ _ _ _ HS.out.2.1 HS.out.2.2 HS.out.1 _ hK1
      have HS1 := Aside0.mk (And.intro hx1 (And.intro hD1 hk1))
      clear f0 HC hD1 hK1 hx1 hk1 HS
      go_wp2_with fail
      go_roundg 2
      case rel => exact .inr (.inl ⟨rfl, rfl, HS1⟩)
      case measure => omega
    · obtain ⟨f0, f1, f2⟩ := HS.out.1.fields
      have HC := lhead.calls wr p HS.out.1.l HS.out.2.1 (by omega) hp B1 B2 t ht HS.out.1.b1 HS.out.1.b2
      clear f0 f2
      go_wp2_with fail
      refine HC.mono ?_
      rintro e w1 ⟨lv', rfl, hD1, hK1⟩
      obtain ⟨hx1, hk1⟩ := HFIN.out _ _ _ _ _ _ HS.out.2.1 HS.out.2.2 HS.out.1 _ hK1
      have HS1 := Aside0.mk (show HX B1 B2 B3 D L s n t p w1 ∧ ∃ lv', DiskAt w1 D g1 g2 nw (nw.set p t) lv' 1 ∧ DKeep D g1 g2 lv lv' w w1 from ⟨hx1, lv', hD1, hk1⟩)
      clear f1 HC hD1 hK1 hx1 hk1 HS
      go_wp2_with fail
      go_roundg 1
      case rel => exact .inr (.inr (.inl ⟨rfl, rfl, HS1⟩))
      case measure => omega
    · obtain ⟨lv', hd', hk'⟩ := HS.out.2
      obtain ⟨f0, f1, f2⟩ := HS.out.1.fields
      have HC := dflush.calls wr hd'
      have HDK := Aside0.mk (And.intro hd' hk')
      clear f0 f1 hd' hk'
      go_wp2_with fail
      refine HC.mono ?_
      rintro e w1 ⟨rfl, hD1, hK1⟩
      obtain ⟨hx1, hk1⟩ := HFIN.out _ _ _ _ _ _ HDK.out.1 HDK.out.2 HS.out.1 _ hK1
      have HS1 := Aside0.mk (And.intro hx1 (And.intro hD1 hk1))
      clear f2 HC hD1 hK1 hx1 hk1 HS HDK
      go_wp2_with fail
      go_roundg 0
      case rel => exact .inr (.inr (.inr ⟨rfl, rfl, HS1⟩))
      case measure => omega
    · go_wp2_with fail
      go_ret
      exact ⟨rfl, HS.out.2⟩
end Go.Proofs.Ythgefgjaihagoaa.Q
