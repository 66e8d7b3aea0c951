/- The law on a range over a function whose assignment lays blocks: as wpIn_rangeN, the round's first world being another one. -/
import Derived.Test.YthgefgjaihagoaaHRF
set_option linter.unusedVariables false
namespace Go.Proofs.Ythgefgjaihagoaa.H
open Go.RowKit
variable {F : Fence} {n : Nat} {P : Program}

theorem wpIn_rangeW {g : Operand} {ps : Array Tmp} {assign body : Code} {Q : Exit → Act → World → Prop} {a : Act} {w : World}
    (hro : F.round = none) (h1 : 1 ≤ n) {gf : Nat} {lb : Array Value} (hg : a.eval g = .func (.func gf) #[] lb) (hFg : F.fn gf) (eg : ∀ args w, (callFunc gf args).run P w = .ok (.enter gf args) w)
    {encs : Nat → Array Value} {own : Nat → Prop} {T : TypeId → Prop} {keep : Nat → Prop} {N : Nat} {w0 : World} (hseq : SeqN F (n - 1) P gf lb encs own T keep N w0)
    (hb0 : Below w0.heap.size w0 w) (hps : ∀ k, (encs k).size = ps.size)
    (ho0 : ¬ own w.heap.size) (ho1 : ¬ own (w.heap.size + 1)) (hk1 : ¬ keep (w.heap.size + 1))
    (I : Nat → World → Prop) (Ix : Code → Nat → World → Prop)
    (hI : ∀ k, Stands (fun j => own j ∨ j = w.heap.size ∨ j = w.heap.size + 1) T (I k)) (hIx : ∀ c k, Stands (fun j => own j ∨ j = w.heap.size ∨ j = w.heap.size + 1) T (Ix c k))
    (h0 : I 0 w) (a₁ : Nat → World → Act) (gw : Nat → World → World) (hgw : ∀ k W, Below W.heap.size W (gw k W))
    (hassign : ∀ (l k : Nat) (W : World) (K : Act → World → Prop), I k W → K (a₁ k W) (gw k W) →
      assign.wpIn (F.inRound l) (n - 1 - 1) P (Exit.then K (fun _ _ _ => False)) { tmps := (ps.zip (encs k)).foldl (fun t (p, v) => t.setIfInBounds p v) a.tmps, defers := [] } W)
    (hbody : ∀ (l k : Nat) (V W : World), k < N → w.heap.size + 2 ≤ V.heap.size → I k W → (∀ j, j ≠ w.heap.size + 1 → W.heap[j]? = (gw k V).heap[j]?) → W.heap.size = (gw k V).heap.size → body.wpIn (F.inRound l) (n - 1 - 1) P (postN keep I Ix (k + 1) W) (a₁ k V) W)
    (hdone : ∀ (W : World), I N W → w.heap.size + 2 ≤ W.heap.size → W.heap[w.heap.size]? = some (.deferred (some [])) → Q .normal { a with defers := { target := .collected w.heap.size, args := #[] } :: a.defers } W)
    (hstop : ∀ (c : Code) (k : Nat) (W : World), k ≤ N → Ix c k W → w.heap.size + 2 ≤ W.heap.size → W.heap[w.heap.size]? = some (.deferred (some [])) → c.wpIn F n P Q { a with defers := { target := .collected w.heap.size, args := #[] } :: a.defers } W) :
    (Code.rangeFunc g ps assign body).wpIn F n P Q a w := by
  refine wpIn_rangeFunc ?_
  intro fn hfn
  rw [hro]
  obtain ⟨rec, hrec⟩ : ∃ rec : LoopState → Option Code → Loop, rec = fun st pe => { state := st, pending := pe, fn, tmps := a.tmps, params := ps, assign, body, defers := w.heap.size } := ⟨_, rfl⟩
  obtain ⟨W1, hW1⟩ : ∃ W1, (w.alloc (.deferred (some []))).alloc (.loop (rec .ready none)) = W1 := ⟨_, rfl⟩
  have hL1 : W1.heap[w.heap.size + 1]? = some (.loop (rec .ready none)) := by
    rw [← hW1]; have := World.alloc_heap_new (w.alloc (.deferred (some []))) (.loop (rec .ready none)); rwa [World.size_alloc] at this
  have hK1 : W1.heap[w.heap.size]? = some (.deferred (some [])) := by
    rw [← hW1]; exact (Below.heap_alloc _ _ _ (by simp)).trans (World.alloc_heap_new w _)
  have hI1 : I 0 W1 := by rw [← hW1]; exact hI 0 _ _ (hI 0 _ _ h0 (Turn.alloc _ _)) (Turn.alloc _ _)
  have hb1 : Below w0.heap.size w0 W1 := by
    rw [← hW1]; exact hb0.trans ((((Below.refl _ w).alloc (Nat.le_refl _) _).alloc (by simp) _).mono hb0.size)
  refine ⟨w.heap.size + 1, [{ target := .collected w.heap.size, args := #[] }], W1, { target := .fn (.func gf) lb, args := #[.func (.yield (w.heap.size + 1)) #[] #[]] }, W1, gf,
    #[.func (.yield (w.heap.size + 1)) #[] #[]] ++ lb, W1, ?_, ?_, ?_, ?_, fun _ => h1, ?_⟩
  · rw [← hW1, hrec]; exact run_enterLoop_outer _ _ _ _ _
  · simp only [resolve, hg]
    simp [go_sem]
  · intro f' hf'; simp [Target.leads] at hf'; subst hf'; exact hFg
  · simp [invoke, go_sem, eg]
  · have up : ∀ {A B : World}, Turn own T A B → Turn (fun j => own j ∨ j = w.heap.size ∨ j = w.heap.size + 1) T A B := fun h => h.mono (fun _ h => .inl h) (fun _ h => h)
    refine (hseq (w.heap.size + 1)
      (fun k W => I k W ∧ W.heap[w.heap.size + 1]? = some (.loop (rec .ready none)) ∧ W.heap[w.heap.size]? = some (.deferred (some [])))
      (fun k W => ∃ c, Ix c k W ∧ W.heap[w.heap.size + 1]? = some (.loop (rec .done (some c))) ∧ W.heap[w.heap.size]? = some (.deferred (some [])))
      W1 hb1
      (fun k A B hs ht => ⟨hI k A B hs.1 (up ht), ht.same _ _ hs.2.1 (.inl ho1), ht.same _ _ hs.2.2 (.inl ho0)⟩)
      (fun k A B hs ht => by
        obtain ⟨c, hc, hl, hk⟩ := hs
        exact ⟨c, hIx c k A B hc (up ht), ht.same _ _ hl (.inl ho1), ht.same _ _ hk (.inl ho0)⟩)
      ?_ ⟨hI1, hL1, hK1⟩).mono ?_
    · rintro k W hlen ⟨hi, hl, hk⟩
      have hlt : w.heap.size + 1 < W.heap.size := (Array.getElem?_eq_some_iff.1 hl).1
      have hy := run_yield (P := P) (args := encs k) hl (by rw [hrec]; exact hps k)
      rw [hrec] at hy
      obtain ⟨Wg, hWg⟩ : ∃ Wg, gw k W = Wg := ⟨_, rfl⟩
      have hbg : Below W.heap.size W Wg := hWg ▸ hgw k W
      have hlg := (hbg.block _ hlt).trans hl
      have hkg := (hbg.block _ (by omega : w.heap.size < W.heap.size)).trans hk
      have hig : I k Wg := hI _ _ _ hi (Turn.of_below hbg)
      have hltg : w.heap.size + 1 < Wg.heap.size := Nat.lt_of_lt_of_le hlt hbg.size
      refine ⟨fn, _, assign, body, hy, roundIn_of_wpIn hfn (hassign _ k W _ hi ⟨_, run_beginRound (hWg.symm ▸ hlg) (by rw [hrec]), ?_⟩)⟩
      rw [hWg]
      have hl2 : (Wg.putObj (w.heap.size + 1) (.loop { rec .ready none with state := .busy })).heap[w.heap.size + 1]? = some (.loop { rec .ready none with state := .busy }) := World.putObj_heap_same hltg
      have hk2 : (Wg.putObj (w.heap.size + 1) (.loop { rec .ready none with state := .busy })).heap[w.heap.size]? = some (.deferred (some [])) := (World.putObj_heap_other (by omega)).trans hkg
      have hw2 : KeepAt keep W (Wg.putObj (w.heap.size + 1) (.loop { rec .ready none with state := .busy })) := (KeepAt.of_below hbg).trans (KeepAt.putObj _ _ _ hk1)
      refine wpIn_mono (hbody _ k W _ hlen (by omega) (hI k _ _ hig (Turn.putObj _ hlg rfl (.inr (.inr rfl)))) (fun j hj => by rw [hWg]; exact World.putObj_heap_other hj) (by rw [hWg]; simp)) ?_
      have fin : ∀ (jump : Option Code) (W3 : World), KeepsOthers (Wg.putObj (w.heap.size + 1) (.loop { rec .ready none with state := .busy })) W3 →
          (Instr.endRound (w.heap.size + 1) jump).run P W3 = .ok (.bool jump.isNone) (W3.putObj (w.heap.size + 1) (.loop (rec (if jump.isNone then .ready else .done) jump))) ∧
          W3.heap[w.heap.size + 1]? = some (.loop { rec .ready none with state := .busy }) ∧
          (W3.putObj (w.heap.size + 1) (.loop (rec (if jump.isNone then .ready else .done) jump))).heap[w.heap.size + 1]? = some (.loop (rec (if jump.isNone then .ready else .done) jump)) ∧
          (W3.putObj (w.heap.size + 1) (.loop (rec (if jump.isNone then .ready else .done) jump))).heap[w.heap.size]? = some (.deferred (some [])) := fun jump W3 hk3 => by
        have hl3 := hk3.same _ _ hl2 rfl
        have := run_endRound (P := P) jump hl3
        rw [hrec] at this ⊢
        exact ⟨this, by rw [hrec] at hl3; exact hl3, World.putObj_heap_same (Array.getElem?_eq_some_iff.1 hl3).1, (World.putObj_heap_other (by omega)).trans (hk3.same _ _ hk2 rfl)⟩
      rintro e a3 W3 hp
      cases e with
      | normal =>
        obtain ⟨hk3, hkp3, hi3⟩ := hp
        obtain ⟨hr, hl3, hl4, hk4⟩ := fin none W3 hk3
        exact ⟨_, _, hr, .inl ⟨rfl, ⟨hI _ _ _ hi3 (Turn.putObj _ hl3 rfl (.inr (.inr rfl))), hl4, hk4⟩, (hw2.trans hkp3).trans (KeepAt.putObj _ _ _ hk1)⟩⟩
      | ret =>
        obtain ⟨hk3, hi3⟩ := hp
        obtain ⟨hr, hl3, hl4, hk4⟩ := fin (some .ret) W3 hk3
        exact ⟨_, _, hr, .inr ⟨rfl, .ret, hIx _ _ _ _ hi3 (Turn.putObj _ hl3 rfl (.inr (.inr rfl))), hl4, hk4⟩⟩
      | exit id =>
        obtain ⟨hk3, hi3⟩ := hp
        obtain ⟨hr, hl3, hl4, hk4⟩ := fin (some (.exit id)) W3 hk3
        exact ⟨_, _, hr, .inr ⟨rfl, .exit id, hIx _ _ _ _ hi3 (Turn.putObj _ hl3 rfl (.inr (.inr rfl))), hl4, hk4⟩⟩
      | goto t =>
        obtain ⟨hk3, hi3⟩ := hp
        obtain ⟨hr, hl3, hl4, hk4⟩ := fin (some (.goto t)) W3 hk3
        exact ⟨_, _, hr, .inr ⟨rfl, .goto t, hIx _ _ _ _ hi3 (Turn.putObj _ hl3 rfl (.inr (.inr rfl))), hl4, hk4⟩⟩
      | panic ch => exact hp.elim
      | outgrown => exact hp.elim
    · rintro e W2 ⟨⟨v, rfl⟩, (⟨hi, hl, hk⟩ | ⟨k, hkN, c, hi, hl, hk⟩)⟩
      · have hlt := (Array.getElem?_eq_some_iff.1 hl).1
        exact ⟨none, _, by have := run_endLoop (P := P) hl (by rw [hrec]; simp); rw [hrec] at this; exact this, hdone _ (hI _ _ _ hi (Turn.putObj _ hl rfl (.inr (.inr rfl)))) (by simp; omega) ((World.putObj_heap_other (by omega)).trans hk)⟩
      · have hlt := (Array.getElem?_eq_some_iff.1 hl).1
        exact ⟨some c, _, by have := run_endLoop (P := P) hl (by rw [hrec]; simp); rw [hrec] at this; exact this, hstop c k _ hkN (hIx c k _ _ hi (Turn.putObj _ hl rfl (.inr (.inr rfl)))) (by simp; omega) ((World.putObj_heap_other (by omega)).trans hk)⟩
end Go.Proofs.Ythgefgjaihagoaa.H
