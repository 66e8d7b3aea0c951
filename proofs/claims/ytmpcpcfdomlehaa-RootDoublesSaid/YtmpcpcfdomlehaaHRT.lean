/- A range over a function whose iterator wants blocks kept that it made itself: as HRF's, what is kept is told by the object, too. -/
import Derived.Test.YtmpcpcfdomlehaaHRF
import Derived.Maps.Own
set_option linter.unusedVariables false
namespace Go.Proofs.Ytmpcpcfdomlehaa.H
open Go.RowKit

/-- What a round keeps for the iterator. -/
structure KeepT (keep : Nat → Obj → Prop) (A B : World) : Prop where
  size : A.heap.size ≤ B.heap.size
  same : ∀ k o, keep k o → A.heap[k]? = some o → B.heap[k]? = some o
theorem KeepT.refl (keep : Nat → Obj → Prop) (A : World) : KeepT keep A A := ⟨Nat.le_refl _, fun _ _ _ h => h⟩
theorem KeepT.trans {keep : Nat → Obj → Prop} {A B C : World} (h : KeepT keep A B) (k : KeepT keep B C) : KeepT keep A C :=
  ⟨Nat.le_trans h.size k.size, fun i o hi ho => k.same i o hi (h.same i o hi ho)⟩
theorem KeepT.putObj {keep : Nat → Obj → Prop} (W : World) (l : Nat) (o : Obj) (hl : ∀ o, W.heap[l]? = some o → ¬ keep l o) : KeepT keep W (W.putObj l o) :=
  ⟨by simp, fun k o' hk ho => (World.putObj_heap_other (fun e => by subst e; exact hl o' ho hk)).trans ho⟩
theorem KeepT.of_below {keep : Nat → Obj → Prop} {A B : World} (h : Below A.heap.size A B) : KeepT keep A B :=
  ⟨h.size, fun k o _ ho => (h.block k (Array.getElem?_eq_some_iff.1 ho).1).trans ho⟩
/-- .. from blocks that are told one by one. -/
theorem KeepT.of_same {keep : Nat → Obj → Prop} {A B : World} (hs : A.heap.size ≤ B.heap.size) (h : ∀ k o, keep k o → A.heap[k]? = some o → B.heap[k]? = A.heap[k]?) : KeepT keep A B :=
  ⟨hs, fun k o hk ho => (h k o hk ho).trans ho⟩

/-- The records of ranges over functions, and of what is deferred. -/
def recB : Obj → Bool
  | .loop _ => true
  | .deferred _ => true
  | _ => false
structure KeepsRec (W W' : World) : Prop where
  size : W.heap.size ≤ W'.heap.size
  same : ∀ (k : Nat) (o : Obj), W.heap[k]? = some o → recB o = true → W'.heap[k]? = some o
theorem KeepsRec.refl (W : World) : KeepsRec W W := ⟨Nat.le_refl _, fun _ _ h _ => h⟩
theorem KeepsRec.trans {A B C : World} (h : KeepsRec A B) (k : KeepsRec B C) : KeepsRec A C :=
  ⟨Nat.le_trans h.size k.size, fun i o hi ho => k.same i o (h.same i o hi ho) ho⟩
theorem rec_cells {o : Obj} (h : recB o = true) : o.isCells = false := by cases o <;> first | rfl | cases h
theorem KeepsRec.of_others {A B : World} (h : KeepsOthers A B) : KeepsRec A B := ⟨h.size, fun k o hk ho => h.same k o hk (rec_cells ho)⟩
theorem KeepsRec.setCell (W : World) (a : Addr) (v : Value) : KeepsRec W (W.setCell a v) := .of_others (KeepsOthers.setCell W a v)
theorem KeepsRec.of_grownBy {W W' : World} {row : Option Nat} (hg : W.grownBy W' row) (hrow : ∀ (j : Nat) (o : Obj), row = some j → W.heap[j]? = some o → recB o = false) : KeepsRec W W' :=
  ⟨hg.size, fun k o hk ho => (hg.block k (Array.getElem?_eq_some_iff.1 hk).1 (fun e => by have := hrow k o e.symm hk; rw [this] at ho; cases ho)).trans hk⟩
theorem stands_map {own : Nat → Prop} {T : TypeId → Prop} {H : Type} {P : Program} {k : TypeId} {R : Value → Option (DataW H × List MemPlace)} {b n : Nat} {D : DataW H} (hk : ¬ own b) : Stands own T (fun W => W.ownsMap P k R b n D) := fun A B h ht => by
  obtain ⟨es, clock, hb, F, hs, hD⟩ := h
  exact ⟨es, clock, ht.same _ _ hb (.inl hk), F, hs, hD⟩

/-- An iterator that yields N times: its contract. -/
def SeqT (F : Fence) (n : Nat) (P : Program) (g : Nat) (lb : Array Value) (encs : Nat → Array Value) (own : Nat → Prop) (T : TypeId → Prop) (keep : Nat → Obj → Prop) (N : Nat) (w : World) : Prop :=
  ∀ (l : Nat) (J Jx : Nat → World → Prop) (W : World), Below w.heap.size w W → (∀ k, Stands own T (J k)) → (∀ k, Stands own T (Jx k)) →
    (∀ k W1, k < N → J k W1 → YieldAt F (n - 1) P l (encs k) W1 fun e W' =>
      (e = .returned (.bool true) ∧ J (k + 1) W' ∧ KeepT keep W1 W') ∨ (e = .returned (.bool false) ∧ Jx (k + 1) W')) →
    J 0 W →
    CallsIn F n P g (#[.func (.yield l) #[] #[]] ++ lb) W fun e W' => (∃ v, e = .returned v) ∧ (J N W' ∨ ∃ k, k ≤ N ∧ Jx k W')

/-- How the body of a round may be left. -/
def postT (keep : Nat → Obj → Prop) (I : Nat → World → Prop) (Ix : Code → Nat → World → Prop) (k : Nat) (W : World) : Exit → Act → World → Prop
  | .normal, _, W' => KeepsRec W W' ∧ KeepT keep W W' ∧ I k W'
  | .ret, _, W' => KeepsRec W W' ∧ Ix .ret k W'
  | .exit id, _, W' => KeepsRec W W' ∧ Ix (.exit id) k W'
  | .goto t, _, W' => KeepsRec W W' ∧ Ix (.goto t) k W'
  | .panic _, _, _ => False
  | .outgrown, _, _ => False

variable {F : Fence} {n : Nat} {P : Program}

theorem wpIn_rangeT {g : Operand} {ps : Array Tmp} {assign body : Code} {Q : Exit → Act → World → Prop} {a : Act} {w : World}
    (hro : F.round = none) (h1 : 1 ≤ n) {gf : Nat} {lb : Array Value} (hg : a.eval g = .func (.func gf) #[] lb) (hFg : F.fn gf) (eg : ∀ args w, (callFunc gf args).run P w = .ok (.enter gf args) w)
    {encs : Nat → Array Value} {own : Nat → Prop} {T : TypeId → Prop} {keep : Nat → Obj → Prop} {N : Nat} {w0 : World} (hseq : SeqT F (n - 1) P gf lb encs own T keep N w0)
    (hb0 : Below w0.heap.size w0 w) (hps : ∀ k, (encs k).size = ps.size)
    (ho0 : ¬ own w.heap.size) (ho1 : ¬ own (w.heap.size + 1)) (hk1 : ∀ L, ¬ keep (w.heap.size + 1) (.loop L))
    (I : Nat → World → Prop) (Ix : Code → Nat → World → Prop)
    (hI : ∀ k, Stands (fun j => own j ∨ j = w.heap.size ∨ j = w.heap.size + 1) T (I k)) (hIx : ∀ c k, Stands (fun j => own j ∨ j = w.heap.size ∨ j = w.heap.size + 1) T (Ix c k))
    (h0 : I 0 w) (a₁ : Nat → Act)
    (hassign : ∀ (l k : Nat) (W : World) (K : Act → World → Prop), K (a₁ k) W →
      assign.wpIn (F.inRound l) (n - 1 - 1) P (Exit.then K (fun _ _ _ => False)) { tmps := (ps.zip (encs k)).foldl (fun t (p, v) => t.setIfInBounds p v) a.tmps, defers := [] } W)
    (hbody : ∀ (l k : Nat) (W : World), k < N → w.heap.size + 2 ≤ W.heap.size → I k W → body.wpIn (F.inRound l) (n - 1 - 1) P (postT keep I Ix (k + 1) W) (a₁ k) W)
    (hdone : ∀ (W : World), I N W → w.heap.size + 2 ≤ W.heap.size → W.heap[w.heap.size]? = some (.deferred (some [])) → Q .normal { a with defers := { target := .collected w.heap.size, args := #[] } :: a.defers } W)
    (hstop : ∀ (c : Code) (k : Nat) (W : World), k ≤ N → Ix c k W → w.heap.size + 2 ≤ W.heap.size → W.heap[w.heap.size]? = some (.deferred (some [])) → c.wpIn F n P Q { a with defers := { target := .collected w.heap.size, args := #[] } :: a.defers } W) :
    (Code.rangeFunc g ps assign body).wpIn F n P Q a w := by
  refine wpIn_rangeFunc ?_
  intro fn hfn
  rw [hro]
  obtain ⟨rec, hrec⟩ : ∃ rec : LoopState → Option Code → Loop, rec = fun st pe => { state := st, pending := pe, fn, tmps := a.tmps, params := ps, assign, body, defers := w.heap.size } := ⟨_, rfl⟩
  obtain ⟨W1, hW1⟩ : ∃ W1, (w.alloc (.deferred (some []))).alloc (.loop (rec .ready none)) = W1 := ⟨_, rfl⟩
  have hL1 : W1.heap[w.heap.size + 1]? = some (.loop (rec .ready none)) := by
    rw [← hW1]; have := World.alloc_heap_new (w.alloc (.deferred (some []))) (.loop (rec .ready none)); rwa [World.size_alloc] at this
  have hK1 : W1.heap[w.heap.size]? = some (.deferred (some [])) := by
    rw [← hW1]; exact (Below.heap_alloc _ _ _ (by simp)).trans (World.alloc_heap_new w _)
  have hI1 : I 0 W1 := by rw [← hW1]; exact hI 0 _ _ (hI 0 _ _ h0 (Turn.alloc _ _)) (Turn.alloc _ _)
  have hb1 : Below w0.heap.size w0 W1 := by
    rw [← hW1]; exact hb0.trans ((((Below.refl _ w).alloc (Nat.le_refl _) _).alloc (by simp) _).mono hb0.size)
  refine ⟨w.heap.size + 1, [{ target := .collected w.heap.size, args := #[] }], W1, { target := .fn (.func gf) lb, args := #[.func (.yield (w.heap.size + 1)) #[] #[]] }, W1, gf,
    #[.func (.yield (w.heap.size + 1)) #[] #[]] ++ lb, W1, ?_, ?_, ?_, ?_, fun _ => h1, ?_⟩
  · rw [← hW1, hrec]; exact run_enterLoop_outer _ _ _ _ _
  · simp only [resolve, hg]
    simp [go_sem]
  · intro f' hf'; simp [Target.leads] at hf'; subst hf'; exact hFg
  · simp [invoke, go_sem, eg]
  · have up : ∀ {A B : World}, Turn own T A B → Turn (fun j => own j ∨ j = w.heap.size ∨ j = w.heap.size + 1) T A B := fun h => h.mono (fun _ h => .inl h) (fun _ h => h)
    refine (hseq (w.heap.size + 1)
      (fun k W => I k W ∧ W.heap[w.heap.size + 1]? = some (.loop (rec .ready none)) ∧ W.heap[w.heap.size]? = some (.deferred (some [])))
      (fun k W => ∃ c, Ix c k W ∧ W.heap[w.heap.size + 1]? = some (.loop (rec .done (some c))) ∧ W.heap[w.heap.size]? = some (.deferred (some [])))
      W1 hb1
      (fun k A B hs ht => ⟨hI k A B hs.1 (up ht), ht.same _ _ hs.2.1 (.inl ho1), ht.same _ _ hs.2.2 (.inl ho0)⟩)
      (fun k A B hs ht => by
        obtain ⟨c, hc, hl, hk⟩ := hs
        exact ⟨c, hIx c k A B hc (up ht), ht.same _ _ hl (.inl ho1), ht.same _ _ hk (.inl ho0)⟩)
      ?_ ⟨hI1, hL1, hK1⟩).mono ?_
    · rintro k W hlen ⟨hi, hl, hk⟩
      have hlt : w.heap.size + 1 < W.heap.size := (Array.getElem?_eq_some_iff.1 hl).1
      have hy := run_yield (P := P) (args := encs k) hl (by rw [hrec]; exact hps k)
      rw [hrec] at hy
      refine ⟨fn, _, assign, body, hy, roundIn_of_wpIn hfn (hassign _ k W _ ⟨_, run_beginRound hl (by rw [hrec]), ?_⟩)⟩
      have hl2 : (W.putObj (w.heap.size + 1) (.loop { rec .ready none with state := .busy })).heap[w.heap.size + 1]? = some (.loop { rec .ready none with state := .busy }) := World.putObj_heap_same hlt
      have hk2 : (W.putObj (w.heap.size + 1) (.loop { rec .ready none with state := .busy })).heap[w.heap.size]? = some (.deferred (some [])) := (World.putObj_heap_other (by omega)).trans hk
      have hw2 : KeepT keep W (W.putObj (w.heap.size + 1) (.loop { rec .ready none with state := .busy })) := KeepT.putObj _ _ _ (fun o ho => by rw [hl] at ho; cases ho; exact hk1 _)
      refine wpIn_mono (hbody _ k _ hlen (by simp; omega) (hI k _ _ hi (Turn.putObj _ hl rfl (.inr (.inr rfl))))) ?_
      have fin : ∀ (jump : Option Code) (W3 : World), KeepsRec (W.putObj (w.heap.size + 1) (.loop { rec .ready none with state := .busy })) W3 →
          (Instr.endRound (w.heap.size + 1) jump).run P W3 = .ok (.bool jump.isNone) (W3.putObj (w.heap.size + 1) (.loop (rec (if jump.isNone then .ready else .done) jump))) ∧
          W3.heap[w.heap.size + 1]? = some (.loop { rec .ready none with state := .busy }) ∧
          (W3.putObj (w.heap.size + 1) (.loop (rec (if jump.isNone then .ready else .done) jump))).heap[w.heap.size + 1]? = some (.loop (rec (if jump.isNone then .ready else .done) jump)) ∧
          (W3.putObj (w.heap.size + 1) (.loop (rec (if jump.isNone then .ready else .done) jump))).heap[w.heap.size]? = some (.deferred (some [])) := fun jump W3 hk3 => by
        have hl3 := hk3.same _ _ hl2 rfl
        have := run_endRound (P := P) jump hl3
        rw [hrec] at this ⊢
        exact ⟨this, by rw [hrec] at hl3; exact hl3, World.putObj_heap_same (Array.getElem?_eq_some_iff.1 hl3).1, (World.putObj_heap_other (by omega)).trans (hk3.same _ _ hk2 rfl)⟩
      rintro e a3 W3 hp
      cases e with
      | normal =>
        obtain ⟨hk3, hkp3, hi3⟩ := hp
        obtain ⟨hr, hl3, hl4, hk4⟩ := fin none W3 hk3
        exact ⟨_, _, hr, .inl ⟨rfl, ⟨hI _ _ _ hi3 (Turn.putObj _ hl3 rfl (.inr (.inr rfl))), hl4, hk4⟩, (hw2.trans hkp3).trans (KeepT.putObj _ _ _ (fun o ho => by rw [hl3] at ho; cases ho; exact hk1 _))⟩⟩
      | ret =>
        obtain ⟨hk3, hi3⟩ := hp
        obtain ⟨hr, hl3, hl4, hk4⟩ := fin (some .ret) W3 hk3
        exact ⟨_, _, hr, .inr ⟨rfl, .ret, hIx _ _ _ _ hi3 (Turn.putObj _ hl3 rfl (.inr (.inr rfl))), hl4, hk4⟩⟩
      | exit id =>
        obtain ⟨hk3, hi3⟩ := hp
        obtain ⟨hr, hl3, hl4, hk4⟩ := fin (some (.exit id)) W3 hk3
        exact ⟨_, _, hr, .inr ⟨rfl, .exit id, hIx _ _ _ _ hi3 (Turn.putObj _ hl3 rfl (.inr (.inr rfl))), hl4, hk4⟩⟩
      | goto t =>
        obtain ⟨hk3, hi3⟩ := hp
        obtain ⟨hr, hl3, hl4, hk4⟩ := fin (some (.goto t)) W3 hk3
        exact ⟨_, _, hr, .inr ⟨rfl, .goto t, hIx _ _ _ _ hi3 (Turn.putObj _ hl3 rfl (.inr (.inr rfl))), hl4, hk4⟩⟩
      | panic ch => exact hp.elim
      | outgrown => exact hp.elim
    · rintro e W2 ⟨⟨v, rfl⟩, (⟨hi, hl, hk⟩ | ⟨k, hkN, c, hi, hl, hk⟩)⟩
      · have hlt := (Array.getElem?_eq_some_iff.1 hl).1
        exact ⟨none, _, by have := run_endLoop (P := P) hl (by rw [hrec]; simp); rw [hrec] at this; exact this, hdone _ (hI _ _ _ hi (Turn.putObj _ hl rfl (.inr (.inr rfl)))) (by simp; omega) ((World.putObj_heap_other (by omega)).trans hk)⟩
      · have hlt := (Array.getElem?_eq_some_iff.1 hl).1
        exact ⟨some c, _, by have := run_endLoop (P := P) hl (by rw [hrec]; simp); rw [hrec] at this; exact this, hstop c k _ hkN (hIx c k _ _ hi (Turn.putObj _ hl rfl (.inr (.inr rfl)))) (by simp; omega) ((World.putObj_heap_other (by omega)).trans hk)⟩

end Go.Proofs.Ytmpcpcfdomlehaa.H
