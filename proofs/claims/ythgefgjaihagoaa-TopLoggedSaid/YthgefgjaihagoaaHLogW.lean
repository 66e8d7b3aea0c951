/- log.Write. -/
import Derived.Test.YthgefgjaihagoaaHLogF
import Derived.Test.YthgefgjaihagoaaHAnyM
import Derived.Test.YthgefgjaihagoaaHRecT
import Derived.Test.YthgefgjaihagoaaHWrapP
set_option linter.unusedVariables false
set_option linter.unusedSimpArgs false
namespace Go.Proofs.Ythgefgjaihagoaa.Q
open Go.RowKit Go.Proofs.Ythgefgjaihagoaa.H Go.Proofs.YthgefgjaihagoaaW.PrintWords Go.Proofs.YthgefgjaihagoaaW.PrintLast
set_option maxRecDepth 100000
abbrev It := SEn × ByteArray
def kIt : Kd It := Kd.pair k43 Kd.string
def zIt : It := (z43, ⟨#[]⟩)
theorem kIt_open {w : World} {x : It} {cs : List Value} (h : kIt.K w x cs) : cs = [.int .i64 x.1.f0, .int .u32 x.1.f1, .int .u32 x.1.f2, .int .u32 x.1.f3, .string x.2] := by
  obtain ⟨c1, c2, rfl, h1, rfl⟩ := h
  obtain rfl := k43_open h1
  rfl
theorem at_It {w : World} {A : Option Addr} {n : Nat} {xs : List It} (h : Kd.C kIt w A n xs) (j : Nat) (x : It) (hx : xs[j]? = some x) : ∃ ad , A = some ad ∧ w.cell? (ad.add (j * 5)) = some (.int .i64 x.1.f0) ∧ w.cell? ⟨(ad.add (j * 5)).block, (ad.add (j * 5)).off + 1, none⟩ = some (.int .u32 x.1.f1) ∧ w.cell? ⟨(ad.add (j * 5)).block, (ad.add (j * 5)).off + 2, none⟩ = some (.int .u32 x.1.f2) ∧ w.cell? ⟨(ad.add (j * 5)).block, (ad.add (j * 5)).off + 3, none⟩ = some (.int .u32 x.1.f3) ∧ w.cell? ⟨(ad.add (j * 5)).block, (ad.add (j * 5)).off + 4, none⟩ = some (.string x.2) := by
  have hn := h.1
  have hj := (List.getElem?_eq_some_iff.1 hx).1
  obtain ⟨ad, c, e, hp, hK, hc0⟩ := Kd.C_get h zIt (j : Int) (by omega) (by omega)
  have e1 : xs.getD (j : Int).toNat zIt = x := by rw [Int.toNat_natCast, List.getD_eq_getElem?_getD, hx]; rfl
  rw [Int.toNat_natCast] at hc0
  have hc : ∀ i u, c[i]? = some u → w.cell? (ad.add (j * 5 + i)) = some u := hc0
  have hK' : kIt.K w x c := by rw [← e1]; exact hK
  obtain rfl := kIt_open hK'
  exact ⟨ad, e, hc 0 _ rfl, by rw [← add_field _ _ 1 (by omega)]; exact hc 1 _ rfl, by rw [← add_field _ _ 2 (by omega)]; exact hc 2 _ rfl, by rw [← add_field _ _ 3 (by omega)]; exact hc 3 _ rfl, by rw [← add_field _ _ 4 (by omega)]; exact hc 4 _ rfl⟩
def anyK : Nat → Prop := fun _ => True
theorem R_other {β : Type} {d : Kd β} {e base b' e' s' n : Nat} {ok : Nat → Prop} {W w1 : World} {v u : Value} {xs : List β} {ys : List Value} (h : d.R e W base ok v xs) (ho : W.ownsRow b' e' s' u n ys) (hne : ∀ q ∈ e :: d.E, q ≠ e') (hg : W.grownBy w1 u.ownBlock) : d.R e w1 base ok v xs := by
  cases hb : u.ownBlock with
  | none => exact Kd.R_grown h (hb ▸ hg) (fun k _ => by simp)
  | some g =>
    obtain ⟨cells, hc⟩ := own_typed ho g hb
    exact Kd.R_mono (Kd.R_grown (Kd.R_types h hc hne) (hb ▸ hg) (fun k hk e => hk.2 (Option.some.inj e))) (fun _ hk => hk.1)
/-- A block that is no row of type e' stays. -/
theorem blk_other {b' e' s' n k ty : Nat} {W w1 : World} {u : Value} {ys : List Value} {cs : Array Value} (hk : W.heap[k]? = some (.cells cs ty (0, 0))) (ho : W.ownsRow b' e' s' u n ys) (hne : ty ≠ e') (hg : W.grownBy w1 u.ownBlock) : w1.heap[k]? = some (.cells cs ty (0, 0)) := by
  refine (hg.block k (Array.getElem?_eq_some_iff.1 hk).1 (fun e => ?_)).trans hk
  obtain ⟨cells, hc⟩ := own_typed ho k e.symm
  have e := hk.symm.trans hc
  injection e with e; injection e with _ e; exact hne e
/-- What stands between two rounds of Write's first loop. -/
structure WSt (base R L : Nat) (w0 : World) (seq next : Int) (es : List SEn) (ats : List Int) (bs : List ByteArray) (vE vA vB : Value) (w : World) : Prop where
  below : Below base w0 w
  size : base ≤ w.heap.size
  b1 : w.heap[base]? = some (.cells #[.pointer (some ⟨L, 0, none⟩)] 31 (0, 0))
  r : w.heap[R]? = some (.cells #[.int .u64 seq, .int .u64 1, .bool false, .bool false, .int .i64 next, vE] 86 (0, 0))
  e : Kd.R k43 43 w base anyK vE es
  a : Kd.R (Kd.int .i64) 3 w base anyK vA ats
  b : Kd.R Kd.string 9 w base anyK vB bs
section
variable {base R L : Nat} {w0 w w1 : World} {seq next : Int} {es : List SEn} {ats : List Int} {bs : List ByteArray} {vE vA vB : Value}
theorem WSt.still (h : WSt base R L w0 seq next es ats bs vE vA vB w) (hb : Below w.heap.size w w1) : WSt base R L w0 seq next es ats bs vE vA vB w1 :=
  ⟨h.below.trans (hb.mono h.size), Nat.le_trans h.size hb.size, (hb.block base (Array.getElem?_eq_some_iff.1 h.b1).1).trans h.b1, (hb.block R (Array.getElem?_eq_some_iff.1 h.r).1).trans h.r, Kd.R_below h.e hb, Kd.R_below h.a hb, Kd.R_below h.b hb⟩
theorem WSt.appA (h : WSt base R L w0 seq next es ats bs vE vA vB w) {vA' : Value} {ats' : List Int} (hr : Kd.R (Kd.int .i64) 3 w1 base anyK vA' ats') (hb : Below base w0 w1) (hg : w.grownBy w1 vA.ownBlock) : WSt base R L w0 seq next es ats' bs vE vA' vB w1 := by
  obtain ⟨i, ho⟩ := Kd.R_own h.a
  exact ⟨hb, Nat.le_trans h.size hg.size, blk_other h.b1 ho (by decide) hg, blk_other h.r ho (by decide) hg, R_other h.e ho (by decide) hg, hr, R_other h.b ho (by decide) hg⟩
theorem WSt.appB (h : WSt base R L w0 seq next es ats bs vE vA vB w) {vB' : Value} {bs' : List ByteArray} (hr : Kd.R Kd.string 9 w1 base anyK vB' bs') (hb : Below base w0 w1) (hg : w.grownBy w1 vB.ownBlock) : WSt base R L w0 seq next es ats bs' vE vA vB' w1 := by
  obtain ⟨i, ho⟩ := Kd.R_own h.b
  exact ⟨hb, Nat.le_trans h.size hg.size, blk_other h.b1 ho (by decide) hg, blk_other h.r ho (by decide) hg, R_other h.e ho (by decide) hg, R_other h.a ho (by decide) hg, hr⟩
theorem WSt.appE (h : WSt base R L w0 seq next es ats bs vE vA vB w) {vE' : Value} {es' : List SEn} (hr : Kd.R k43 43 w1 base anyK vE' es') (hb : Below base w0 w1) (hg : w.grownBy w1 vE.ownBlock) (hR : base ≤ R) : WSt base R L w0 seq next es' ats bs vE' vA vB (w1.setCell ⟨R, 5, none⟩ vE') := by
  obtain ⟨i, ho⟩ := Kd.R_own h.e
  have r1 := blk_other h.r ho (by decide) hg
  have b1 := blk_other h.b1 ho (by decide) hg
  have a1 := R_other h.a ho (by decide) hg
  have s1 := R_other h.b ho (by decide) hg
  have hRb : base ≠ R := by
    rintro rfl
    have e := b1.symm.trans r1
    injection e with e; injection e with _ e; exact absurd e (by decide)
  refine ⟨?_, ?_, ?_, ?_, ?_, ?_, ?_⟩
  · exact ⟨hb.os, hb.tape, hb.output, by rw [hsize]; exact hb.size, fun k hk => by rw [hfar w1 R 5 k _ (by omega)]; exact hb.block k hk⟩
  · rw [hsize]; exact Nat.le_trans h.size hg.size
  · rw [hfar w1 R 5 base _ hRb]; exact b1
  · exact hset r1 5 vE'
  · exact Kd.R_mono (Kd.R_far (Kd.R_types hr r1 (by decide)) (p := ⟨R, 5, none⟩) (fun k hk => hk.2) vE') (fun _ _ => trivial)
  · exact Kd.R_mono (Kd.R_far (Kd.R_types a1 r1 (by decide)) (p := ⟨R, 5, none⟩) (fun k hk => hk.2) vE') (fun _ _ => trivial)
  · exact Kd.R_mono (Kd.R_far (Kd.R_types s1 r1 (by decide)) (p := ⟨R, 5, none⟩) (fun k hk => hk.2) vE') (fun _ _ => trivial)
end
theorem R_disk {β : Type} {d : Kd β} {e base D g1 g2 m : Nat} {sf nw : List ByteArray} {lv lv' : Value} {w w' : World} {v : Value} {xs : List β} (h : d.R e w base anyK v xs) (hD : DiskAt w D g1 g2 sf nw lv m) (hK : DKeep D g1 g2 lv lv' w w') (hb : D < base ∧ g1 < base ∧ g2 < base) (hne : ∀ q ∈ e :: d.E, q ≠ 100) : d.R e w' base anyK v xs := by
  obtain ⟨n, inner, ho, _⟩ := hD.loose
  refine Kd.R_mono (Kd.R_step (Kd.R_bound h) (fun k hk hlt => ?_)) (fun _ _ => trivial)
  obtain ⟨_, h2, h3, q, hq, cells, hc⟩ := hk
  refine hK.same k hlt (by omega) (by omega) (by omega) (fun he => ?_)
  obtain ⟨cells', hg'⟩ := own_typed ho k he.symm
  have e := hc.symm.trans hg'
  injection e with e; injection e with _ e
  exact hne q hq e
/-- What stands between two rounds of Write's second loop. -/
structure WS2 (base R L D H2 : Nat) (seq next : Int) (p : Nat) (t : ByteArray) (ats : List Int) (bs : List ByteArray) (vE vA vB : Value) (w : World) : Prop where
  b1 : w.heap[base]? = some (.cells #[.pointer (some ⟨L, 0, none⟩)] 31 (0, 0))
  r : w.heap[R]? = some (.cells #[.int .u64 seq, .int .u64 1, .bool false, .bool false, .int .i64 next, vE] 86 (0, 0))
  h2 : w.heap[H2]? = some (.cells #[.string t] 9 (0, 0))
  lg : LogAt w L D (p : Int) seq next
  a : Kd.R (Kd.int .i64) 3 w base anyK vA ats
  b : Kd.R Kd.string 9 w base anyK vB bs
theorem WS2.next {base R L D H2 p g1 g2 m : Nat} {seq next : Int} {t : ByteArray} {ats : List Int} {bs sf nw : List ByteArray} {vE vA vB lv lv' : Value} {w w' : World} (h : WS2 base R L D H2 seq next p t ats bs vE vA vB w) (hD : DiskAt w D g1 g2 sf nw lv m) (hK : DKeep D g1 g2 lv lv' w w') (hb : D < base ∧ g1 < base ∧ g2 < base) : WS2 base R L D H2 seq next p t ats bs vE vA vB w' :=
  ⟨kept_disk hD h.b1 (by simp) hK, kept_disk hD h.r (by simp) hK, kept_disk hD h.h2 (by simp) hK, kept_disk hD h.lg (by simp) hK, R_disk h.a hD hK hb (by decide), R_disk h.b hD hK hb (by decide)⟩
theorem WS2.still {base R L D H2 p : Nat} {seq next : Int} {t : ByteArray} {ats : List Int} {bs : List ByteArray} {vE vA vB : Value} {w w' : World} (h : WS2 base R L D H2 seq next p t ats bs vE vA vB w) (hb : Below w.heap.size w w') : WS2 base R L D H2 seq next p t ats bs vE vA vB w' :=
  ⟨(hb.block _ (Array.getElem?_eq_some_iff.1 h.b1).1).trans h.b1, (hb.block _ (Array.getElem?_eq_some_iff.1 h.r).1).trans h.r, (hb.block _ (Array.getElem?_eq_some_iff.1 h.h2).1).trans h.h2, h.lg.still hb, Kd.R_below h.a hb, Kd.R_below h.b hb⟩
theorem WS2.fields {base R L D H2 p : Nat} {seq next : Int} {t : ByteArray} {ats : List Int} {bs : List ByteArray} {vE vA vB : Value} {w : World} (h : WS2 base R L D H2 seq next p t ats bs vE vA vB w) :
    w.cell? ⟨base, 0, none⟩ = some (.pointer (some ⟨L, 0, none⟩)) ∧ w.cell? ⟨L, 0, none⟩ = some (.pointer (some ⟨D, 0, none⟩)) := ⟨by rw [Lib.cell_of_heap h.b1]; rfl, h.lg.fields.1⟩
end Go.Proofs.Ythgefgjaihagoaa.Q
