/- TopLogged's walk: what stands between two of its steps. -/
import Derived.Test.YthgefgjaihagoaaHTopP
set_option linter.unusedVariables false
set_option linter.unusedSimpArgs false
namespace Go.Proofs.Ythgefgjaihagoaa.Q
open Go.RowKit Go.Proofs.Ythgefgjaihagoaa.H Go.Proofs.YthgefgjaihagoaaW.PrintWords Go.Proofs.YthgefgjaihagoaaW.PrintLast
set_option maxRecDepth 100000
def okW (g1 g2 : Nat) : Nat → Prop := fun k => k ≠ g1 ∧ k ≠ g2
structure TSt (base FB L D g1 g2 : Nat) (w0 : World) (kp tn : Int) (p : Nat) (seq : Int) (next : Nat) (nw : List ByteArray) (ats : List Int) (ws : List ByteArray) (vA vW : Value) (w : World) : Prop where
  below : Below base w0 w
  size : base ≤ w.heap.size
  lo : base ≤ L ∧ base ≤ D ∧ base ≤ g1 ∧ base ≤ g2
  fb : w.heap[FB]? = some (.cells #[.int .u64 kp, .int .i64 tn] 25 (0, 0))
  lg : LogAt w L D (p : Int) seq (next : Int)
  d : DiskAt w D g1 g2 nw nw (.slice none 0 0) 0
  a : Kd.R (Kd.int .i64) 3 w base anyK vA ats
  b : Kd.R Kd.string 9 w base (okW g1 g2) vW ws
section
variable {base FB L D g1 g2 : Nat} {w0 : World} {kp tn : Int} {p : Nat} {seq : Int} {next : Nat} {nw : List ByteArray} {ats : List Int} {ws : List ByteArray} {vA vW : Value} {w w1 : World}
theorem TSt.still (h : TSt base FB L D g1 g2 w0 kp tn p seq next nw ats ws vA vW w) (hb : Below w.heap.size w w1) : TSt base FB L D g1 g2 w0 kp tn p seq next nw ats ws vA vW w1 :=
  ⟨h.below.trans (hb.mono h.size), Nat.le_trans h.size hb.size, h.lo, (hb.block _ (Array.getElem?_eq_some_iff.1 h.fb).1).trans h.fb, h.lg.still hb, h.d.still hb, Kd.R_below h.a hb, Kd.R_below h.b hb⟩
theorem TSt.xfr (h : TSt base FB L D g1 g2 w0 kp tn p seq next nw ats ws vA vW w) (hf : XFr L D g1 g2 w w1) {p' : Nat} {seq' : Int} {next' : Nat} {nw' : List ByteArray} (lg : LogAt w1 L D (p' : Int) seq' (next' : Int)) (d : DiskAt w1 D g1 g2 nw' nw' (.slice none 0 0) 0) :
    TSt base FB L D g1 g2 w0 kp tn p' seq' next' nw' ats ws vA vW w1 := by
  obtain ⟨l1, l2, l3, l4⟩ := h.lo
  obtain ⟨ops, hc⟩ := h.d.cell
  have ne : ∀ (k q : Nat) (cells : Array Value), w.heap[k]? = some (.cells cells q (0, 0)) → (q ≠ 82 → k ≠ L) ∧ (q ≠ 95 → k ≠ D) ∧ (q ≠ 9 → k ≠ g1 ∧ k ≠ g2) := fun k q cells hk => by
    refine ⟨?_, ?_, fun hq => ⟨?_, ?_⟩⟩
    · intro hq; rintro rfl
      have e := hk.symm.trans h.lg
      injection e with e; injection e with _ e; exact hq e
    · intro hq; rintro rfl
      have e := hk.symm.trans hc
      injection e with e; injection e with _ e; exact hq e
    · rintro rfl
      have e := hk.symm.trans h.d.safe
      injection e with e; injection e with _ e; exact hq e
    · rintro rfl
      have e := hk.symm.trans h.d.now
      injection e with e; injection e with _ e; exact hq e
  refine ⟨⟨hf.os.trans h.below.os, hf.tape.trans h.below.tape, hf.output.trans h.below.output, Nat.le_trans h.below.size hf.size, fun k hk => ?_⟩, Nat.le_trans h.size hf.size, h.lo, ?_, lg, d, ?_, ?_⟩
  · exact (hf.same k (Nat.lt_of_lt_of_le hk h.size) (by omega) (by omega) (by omega) (by omega)).trans (h.below.block k hk)
  · obtain ⟨n1, n2, n3⟩ := ne FB _ _ h.fb
    exact (hf.same FB (Array.getElem?_eq_some_iff.1 h.fb).1 (n1 (by decide)) (n2 (by decide)) (n3 (by decide)).1 (n3 (by decide)).2).trans h.fb
  · refine Kd.R_mono (Kd.R_step (Kd.R_bound h.a) (fun k hk hlt => ?_)) (fun _ _ => trivial)
    obtain ⟨_, h2, h3, q, hq, cells, hc'⟩ := hk
    obtain ⟨n1, n2, n3⟩ := ne k _ _ hc'
    obtain rfl : q = 3 := by simpa [Kd.int, Kd.scalar] using hq
    exact hf.same k hlt (n1 (by decide)) (n2 (by decide)) (n3 (by decide)).1 (n3 (by decide)).2
  · refine Kd.R_mono (Kd.R_step (Kd.R_bound h.b) (fun k hk hlt => ?_)) (fun _ hk => hk.1)
    obtain ⟨h1, h2, h3, q, hq, cells, hc'⟩ := hk
    obtain ⟨n1, n2, n3⟩ := ne k _ _ hc'
    obtain rfl : q = 9 := by simpa [Kd.string, Kd.scalar] using hq
    exact hf.same k hlt (n1 (by decide)) (n2 (by decide)) h1.1 h1.2
theorem TSt.appA (h : TSt base FB L D g1 g2 w0 kp tn p seq next nw ats ws vA vW w) {vA' : Value} {ats' : List Int} (hr : Kd.R (Kd.int .i64) 3 w1 base anyK vA' ats') (hb : Below base w0 w1) (hg : w.grownBy w1 vA.ownBlock) : TSt base FB L D g1 g2 w0 kp tn p seq next nw ats' ws vA' vW w1 := by
  obtain ⟨i, ho⟩ := Kd.R_own h.a
  obtain ⟨ops, hc⟩ := h.d.cell
  exact ⟨hb, Nat.le_trans h.size hg.size, h.lo, blk_other h.fb ho (by decide) hg, blk_other h.lg ho (by decide) hg,
    ⟨⟨ops, blk_other hc ho (by decide) hg⟩, blk_other h.d.safe ho (by decide) hg, blk_other h.d.now ho (by decide) hg, h.d.l1, h.d.l2, h.d.d12, 0, [], World.ownsRow_nil _ _ _ _, Nat.le_refl _⟩, hr, R_other h.b ho (by decide) hg⟩
theorem TSt.appW (h : TSt base FB L D g1 g2 w0 kp tn p seq next nw ats ws vA vW w) {vW' : Value} {ws' : List ByteArray} (hr : Kd.R Kd.string 9 w1 base (okW g1 g2) vW' ws') (hb : Below base w0 w1) (hg : w.grownBy w1 vW.ownBlock) : TSt base FB L D g1 g2 w0 kp tn p seq next nw ats ws' vA vW' w1 := by
  obtain ⟨i, ho⟩ := Kd.R_own h.b
  obtain ⟨ops, hc⟩ := h.d.cell
  obtain ⟨l1, l2, l3⟩ := h.d.lt
  exact ⟨hb, Nat.le_trans h.size hg.size, h.lo, blk_other h.fb ho (by decide) hg, blk_other h.lg ho (by decide) hg,
    ⟨⟨ops, blk_other hc ho (by decide) hg⟩, (hg.block g1 l2 (fun e => (h.b.1 g1 e.symm).1 rfl)).trans h.d.safe, (hg.block g2 l3 (fun e => (h.b.1 g2 e.symm).2 rfl)).trans h.d.now, h.d.l1, h.d.l2, h.d.d12, 0, [], World.ownsRow_nil _ _ _ _, Nat.le_refl _⟩, R_other h.a ho (by decide) hg, hr⟩
end
/-- A log's next segment is set. -/
theorem XFr.setn (L D g1 g2 : Nat) (w : World) (v : Value) : XFr L D g1 g2 w (w.setCell ⟨L, 3, none⟩ v) := ⟨rfl, rfl, rfl, by simp, fun k _ h1 _ _ _ => hfar w L 3 k v h1⟩
/-- The row that Write answers is read while others grow. -/
theorem K_app {β : Type} {d : Kd β} {e base' : Nat} {w w1 : World} {v : Value} {xs : List β} {u u' : Value} (h : d.R e w base' (fun k => some k ≠ u.ownBlock) v xs) (hg : w.grownBy w1 u.ownBlock) (hat : u'.ownBlock = u.ownBlock ∨ ∃ b, u'.ownBlock = some b ∧ w.heap.size ≤ b) : d.R e w1 base' (fun k => some k ≠ u'.ownBlock) v xs := by
  refine Kd.R_mono (Kd.R_grown (Kd.R_bound h) hg (fun k hk => hk.1)) (fun k hk => ?_)
  rcases hat with e | ⟨b, e, hb⟩
  · rw [e]; exact hk.1
  · rw [e]; intro e2; injection e2 with e2; have := hk.2.2.1; omega
theorem K_start {β γ : Type} {d : Kd β} {d' : Kd γ} {e e' base : Nat} {ok : Nat → Prop} {W w : World} {v u : Value} {xs : List β} {ys : List γ} (h : d.R e w W.heap.size anyK v xs) (hu : d'.R e' W base ok u ys) : d.R e w W.heap.size (fun k => some k ≠ u.ownBlock) v xs :=
  Kd.R_mono (Kd.R_bound h) (fun k hk e => by have := Kd.R_lt hu k e.symm; have := hk.2.1; omega)
end Go.Proofs.Ythgefgjaihagoaa.Q
