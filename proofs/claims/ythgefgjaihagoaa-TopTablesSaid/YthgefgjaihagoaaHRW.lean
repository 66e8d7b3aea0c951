/- Laws on a range over a function whose iterator keeps state of its own in cells, and whose rounds are counted. -/
import Derived.RangeFuncNested
import Derived.RangeFuncCalls
import Derived.RangeFuncLeaves
import Derived.Lib.OthersKept
import Derived.Deep.Draws
import Derived.WalkMore
import Derived.RangeFuncBox
import Derived.Maps.AppendAt
import Derived.WalkKit
set_option linter.unusedVariables false
namespace Go.Proofs.Ythgefgjaihagoaa.H
open Go.RowKit

/-- What others may turn: blocks of 'own', and of those that hold cells such alone as are of a type of T. -/
structure Turn (own : Nat → Prop) (T : TypeId → Prop) (A B : World) : Prop where
  os : B.os = A.os
  tape : B.tape = A.tape
  output : B.output = A.output
  size : A.heap.size ≤ B.heap.size
  same : ∀ (k : Nat) (o : Obj), A.heap[k]? = some o → (¬ own k ∨ ∃ c t fz, o = .cells c t fz ∧ ¬ T t) → B.heap[k]? = some o
  typ : ∀ (k : Nat) (c : Array Value) (t : TypeId) (fz : Nat × Nat), A.heap[k]? = some (.cells c t fz) → ∃ c', B.heap[k]? = some (.cells c' t fz)

/-- What a round keeps for the iterator. -/
structure KeepAt (keep : Nat → Prop) (A B : World) : Prop where
  size : A.heap.size ≤ B.heap.size
  same : ∀ k, keep k → k < A.heap.size → B.heap[k]? = A.heap[k]?

theorem KeepAt.refl (keep : Nat → Prop) (A : World) : KeepAt keep A A := ⟨Nat.le_refl _, fun _ _ _ => rfl⟩
theorem KeepAt.trans {keep : Nat → Prop} {A B C : World} (h : KeepAt keep A B) (k : KeepAt keep B C) : KeepAt keep A C :=
  ⟨Nat.le_trans h.size k.size, fun i hi hl => (k.same i hi (Nat.lt_of_lt_of_le hl h.size)).trans (h.same i hi hl)⟩
theorem KeepAt.putObj {keep : Nat → Prop} (W : World) (l : Nat) (o : Obj) (hl : ¬ keep l) : KeepAt keep W (W.putObj l o) :=
  ⟨by simp, fun k hk _ => World.putObj_heap_other (fun e => hl (e ▸ hk))⟩
theorem KeepAt.alloc {keep : Nat → Prop} {A B : World} (h : KeepAt keep A B) (o : Obj) : KeepAt keep A (B.alloc o) :=
  ⟨by simp; have := h.size; omega, fun k hk hl => (Below.heap_alloc B o k (Nat.lt_of_lt_of_le hl h.size)).trans (h.same k hk hl)⟩
theorem KeepAt.setCell {keep : Nat → Prop} {A B : World} (h : KeepAt keep A B) (p : Addr) (v : Value) (hp : ¬ keep p.block) : KeepAt keep A (B.setCell p v) :=
  ⟨Nat.le_trans h.size (KeepsWalks.setCell B p v).size, fun k hk hl => (Below.heap_setCell B p v k (fun e => hp (e ▸ hk))).trans (h.same k hk hl)⟩
theorem KeepAt.of_below {keep : Nat → Prop} {A B : World} (h : Below A.heap.size A B) : KeepAt keep A B := ⟨h.size, fun k _ hl => h.block k hl⟩

theorem Turn.refl (own : Nat → Prop) (T : TypeId → Prop) (A : World) : Turn own T A A := ⟨rfl, rfl, rfl, Nat.le_refl _, fun _ _ h _ => h, fun _ c _ _ h => ⟨c, h⟩⟩
theorem Turn.trans {own : Nat → Prop} {T : TypeId → Prop} {A B C : World} (h : Turn own T A B) (k : Turn own T B C) : Turn own T A C :=
  ⟨k.os.trans h.os, k.tape.trans h.tape, k.output.trans h.output, Nat.le_trans h.size k.size, fun i o hi ho => k.same i o (h.same i o hi ho) ho, fun i c t fz hi => by
    obtain ⟨c', h'⟩ := h.typ i c t fz hi
    exact k.typ i c' t fz h'⟩
theorem Turn.of_below {own : Nat → Prop} {T : TypeId → Prop} {A B : World} (h : Below A.heap.size A B) : Turn own T A B :=
  ⟨h.os, h.tape, h.output, h.size, fun k o hk _ => (h.block k (Array.getElem?_eq_some_iff.1 hk).1).trans hk, fun k c t fz hk => ⟨c, (h.block k (Array.getElem?_eq_some_iff.1 hk).1).trans hk⟩⟩
theorem Turn.alloc {own : Nat → Prop} {T : TypeId → Prop} (A : World) (o : Obj) : Turn own T A (A.alloc o) :=
  Turn.of_below ((Below.refl _ A).alloc (Nat.le_refl _) o)
theorem Turn.putObj {own : Nat → Prop} {T : TypeId → Prop} {A : World} {l : Nat} {o : Obj} (o' : Obj) (hl : A.heap[l]? = some o) (hc : o.isCells = false) (ho : own l) : Turn own T A (A.putObj l o') :=
  ⟨rfl, rfl, rfl, by simp, fun k x hk hx => (by
    refine (World.putObj_heap_other ?_).trans hk
    rintro rfl
    rcases hx with h | ⟨c, t, fz, rfl, _⟩
    · exact h ho
    · rw [hl] at hk; cases hk; cases hc), fun k c t fz hk => ⟨c, (World.putObj_heap_other (fun e => by subst e; rw [hl] at hk; cases hk; cases hc)).trans hk⟩⟩
theorem Turn.setCell {own : Nat → Prop} {T : TypeId → Prop} {A : World} {p : Addr} {c : Array Value} {t : TypeId} {fz : Nat × Nat} (v : Value) (hl : A.heap[p.block]? = some (.cells c t fz)) (ht : T t) (ho : own p.block) : Turn own T A (A.setCell p v) :=
  ⟨rfl, rfl, rfl, (KeepsWalks.setCell A p v).size, fun k x hk hx => (by
    refine (Below.heap_setCell A p v k ?_).trans hk
    rintro rfl
    rcases hx with h | ⟨c', t', fz', rfl, h⟩
    · exact h ho
    · rw [hl] at hk; cases hk; exact h ht), fun k c' t' fz' hk => by
    by_cases e : k = p.block
    · subst e
      rw [hl] at hk; cases hk
      have hlt := (Array.getElem?_eq_some_iff.1 hl).1
      simp [World.setCell, Array.getElem?_modify, hl]
    · exact ⟨c', (Below.heap_setCell A p v k e).trans hk⟩⟩
theorem Turn.drewN {own : Nat → Prop} {T : TypeId → Prop} (A : World) (n : Nat) : Turn own T A (A.drewN n) := ⟨rfl, rfl, rfl, Nat.le_refl _, fun _ _ h _ => h, fun _ c _ _ h => ⟨c, h⟩⟩
theorem Turn.drew {own : Nat → Prop} {T : TypeId → Prop} (A : World) : Turn own T A A.drew := ⟨rfl, rfl, rfl, Nat.le_refl _, fun _ _ h _ => h, fun _ c _ _ h => ⟨c, h⟩⟩
theorem Turn.mono {own own' : Nat → Prop} {T T' : TypeId → Prop} {A B : World} (h : Turn own T A B) (ho : ∀ k, own k → own' k) (hT : ∀ t, T t → T' t) : Turn own' T' A B :=
  ⟨h.os, h.tape, h.output, h.size, fun k o hk hx => h.same k o hk (hx.imp (fun h k' => h (ho _ k')) (fun ⟨c, t, fz, e, n⟩ => ⟨c, t, fz, e, fun h => n (hT _ h)⟩)), h.typ⟩

/-- An invariant that others' turns do not touch. -/
def Stands (own : Nat → Prop) (T : TypeId → Prop) (I : World → Prop) : Prop := ∀ A B, I A → Turn own T A B → I B
theorem Stands.and {own : Nat → Prop} {T : TypeId → Prop} {I I' : World → Prop} (h : Stands own T I) (h' : Stands own T I') : Stands own T (fun W => I W ∧ I' W) := fun A B hi ht => ⟨h A B hi.1 ht, h' A B hi.2 ht⟩
theorem stands_heap {own : Nat → Prop} {T : TypeId → Prop} (k : Nat) (o : Obj) (hk : ¬ own k) : Stands own T (fun W => W.heap[k]? = some o) := fun _ _ h ht => ht.same k o h (.inl hk)
theorem stands_typ {own : Nat → Prop} {T : TypeId → Prop} (k : Nat) (t : TypeId) : Stands own T (fun W => ∃ c, W.heap[k]? = some (.cells c t (0, 0))) := fun _ _ ⟨c, h⟩ ht => ht.typ k c t _ h
theorem stands_pure {own : Nat → Prop} {T : TypeId → Prop} (p : Prop) : Stands own T (fun _ => p) := fun _ _ h _ => h
theorem stands_below {own : Nat → Prop} {T : TypeId → Prop} {n₀ : Nat} {w₀ : World} (hn : n₀ ≤ w₀.heap.size) (ho : ∀ k, own k → n₀ ≤ k) : Stands own T (fun W => Below n₀ w₀ W) := fun A B h ht =>
  h.trans ⟨ht.os, ht.tape, ht.output, ht.size, fun k hk => by
    obtain ⟨o, hko⟩ : ∃ o, A.heap[k]? = some o := ⟨_, Array.getElem?_eq_getElem (by have := h.size; omega)⟩
    exact (ht.same k o hko (.inl (fun e => absurd (ho k e) (by omega)))).trans hko.symm⟩
theorem stands_builder {own : Nat → Prop} {T : TypeId → Prop} {t e : TypeId} {B b : Nat} {p : Value} {bs : List Value} (ht : ¬ T t) (he : ¬ T e) : Stands own T (fun W => Lib.BuilderAtF t e B b p bs W) := fun A C h hT => by
  obtain ⟨hB, v, hb, hown, hne⟩ := h
  refine ⟨hB, v, hT.same b _ hb (.inr ⟨_, _, _, rfl, ht⟩), ⟨hown.1, ?_⟩, hne⟩
  rcases hown.2 with hn | ⟨g, cap, cur, fz, hv, hbg, hg, rest⟩
  · exact .inl hn
  · exact .inr ⟨g, cap, cur, fz, hv, hbg, hT.same g _ hg (.inr ⟨_, _, _, rfl, he⟩), rest⟩
theorem stands_builderF {own : Nat → Prop} {T : TypeId → Prop} {t e : TypeId} {B b : Nat} {bs : List Value} (ht : ¬ T t) (he : ¬ T e) : Stands own T (fun W => Lib.IsBuilderF t e B b bs W) := fun A C h hT =>
  h.elim (fun x => .inl (stands_builder ht he A C x hT)) (fun x => .inr (stands_builder ht he A C x hT))

theorem Turn.builder {own : Nat → Prop} {T : TypeId → Prop} {A B : World} (h : Turn own T A B) {t e : TypeId} {b n : Nat} {bs : List Value} (hb : Lib.IsBuilderF t e n b bs A) (ht : ¬ T t) (he : ¬ T e) : Lib.IsBuilderF t e n b bs B := stands_builderF ht he A B hb h
theorem builder_block {t e : TypeId} {b n : Nat} {bs : List Value} {W : World} (h : Lib.IsBuilderF t e n b bs W) : ∃ c, W.heap[b]? = some (.cells c t (0, 0)) := by
  rcases h with h | h <;> (obtain ⟨_, v, hb, _⟩ := h; exact ⟨_, hb⟩)
/-- What a builder's write leaves of all else. -/
theorem kept_others {e : TypeId} {b : Nat} {W W' : World} (h : Lib.OthersKept e (some b) W W') {t : TypeId} (hb : ∃ c, W.heap[b]? = some (.cells c t (0, 0))) (hs : W.heap.size ≤ W'.heap.size) : KeepsOthers W W' :=
  ⟨hs, fun k o hk ho => h k o hk (fun e => by cases e; obtain ⟨c, hb⟩ := hb; rw [hb] at hk; cases hk; cases ho) (fun c fz e => by subst e; cases ho)⟩
theorem kept_typ {e : TypeId} {b k : Nat} {t : TypeId} {W W' : World} {c : Array Value} {fz : Nat × Nat} (h : Lib.OthersKept e (some b) W W') (hk : W.heap[k]? = some (.cells c t fz)) (hb : k ≠ b) (ht : t ≠ e) : W'.heap[k]? = W.heap[k]? :=
  (h k _ hk (fun e => hb (by cases e; rfl)) (fun _ _ e => by cases e; exact ht rfl)).trans hk.symm

/-- An iterator that yields N times: its contract. -/
def SeqN (F : Fence) (n : Nat) (P : Program) (g : Nat) (lb : Array Value) (encs : Nat → Array Value) (own : Nat → Prop) (T : TypeId → Prop) (keep : Nat → Prop) (N : Nat) (w : World) : Prop :=
  ∀ (l : Nat) (J Jx : Nat → World → Prop) (W : World), Below w.heap.size w W → (∀ k, Stands own T (J k)) → (∀ k, Stands own T (Jx k)) →
    (∀ k W1, k < N → J k W1 → YieldAt F (n - 1) P l (encs k) W1 fun e W' =>
      (e = .returned (.bool true) ∧ J (k + 1) W' ∧ KeepAt keep W1 W') ∨ (e = .returned (.bool false) ∧ Jx (k + 1) W')) →
    J 0 W →
    CallsIn F n P g (#[.func (.yield l) #[] #[]] ++ lb) W fun e W' => (∃ v, e = .returned v) ∧ (J N W' ∨ ∃ k, k ≤ N ∧ Jx k W')

/-- How the body of a round may be left. -/
def postN (keep : Nat → Prop) (I : Nat → World → Prop) (Ix : Code → Nat → World → Prop) (k : Nat) (W : World) : Exit → Act → World → Prop
  | .normal, _, W' => KeepsOthers W W' ∧ KeepAt keep W W' ∧ I k W'
  | .ret, _, W' => KeepsOthers W W' ∧ Ix .ret k W'
  | .exit id, _, W' => KeepsOthers W W' ∧ Ix (.exit id) k W'
  | .goto t, _, W' => KeepsOthers W W' ∧ Ix (.goto t) k W'
  | .panic _, _, _ => False
  | .outgrown, _, _ => False

variable {F : Fence} {n : Nat} {P : Program}

theorem wpIn_rangeN {g : Operand} {ps : Array Tmp} {assign body : Code} {Q : Exit → Act → World → Prop} {a : Act} {w : World}
    (hro : F.round = none) (h1 : 1 ≤ n) {gf : Nat} {lb : Array Value} (hg : a.eval g = .func (.func gf) #[] lb) (hFg : F.fn gf) (eg : ∀ args w, (callFunc gf args).run P w = .ok (.enter gf args) w)
    {encs : Nat → Array Value} {own : Nat → Prop} {T : TypeId → Prop} {keep : Nat → Prop} {N : Nat} {w0 : World} (hseq : SeqN F (n - 1) P gf lb encs own T keep N w0)
    (hb0 : Below w0.heap.size w0 w) (hps : ∀ k, (encs k).size = ps.size)
    (ho0 : ¬ own w.heap.size) (ho1 : ¬ own (w.heap.size + 1)) (hk1 : ¬ keep (w.heap.size + 1))
    (I : Nat → World → Prop) (Ix : Code → Nat → World → Prop)
    (hI : ∀ k, Stands (fun j => own j ∨ j = w.heap.size ∨ j = w.heap.size + 1) T (I k)) (hIx : ∀ c k, Stands (fun j => own j ∨ j = w.heap.size ∨ j = w.heap.size + 1) T (Ix c k))
    (h0 : I 0 w) (a₁ : Nat → Act)
    (hassign : ∀ (l k : Nat) (W : World) (K : Act → World → Prop), K (a₁ k) W →
      assign.wpIn (F.inRound l) (n - 1 - 1) P (Exit.then K (fun _ _ _ => False)) { tmps := (ps.zip (encs k)).foldl (fun t (p, v) => t.setIfInBounds p v) a.tmps, defers := [] } W)
    (hbody : ∀ (l k : Nat) (W : World), k < N → w.heap.size + 2 ≤ W.heap.size → I k W → body.wpIn (F.inRound l) (n - 1 - 1) P (postN keep I Ix (k + 1) W) (a₁ k) W)
    (hdone : ∀ (W : World), I N W → w.heap.size + 2 ≤ W.heap.size → W.heap[w.heap.size]? = some (.deferred (some [])) → Q .normal { a with defers := { target := .collected w.heap.size, args := #[] } :: a.defers } W)
    (hstop : ∀ (c : Code) (k : Nat) (W : World), k ≤ N → Ix c k W → w.heap.size + 2 ≤ W.heap.size → W.heap[w.heap.size]? = some (.deferred (some [])) → c.wpIn F n P Q { a with defers := { target := .collected w.heap.size, args := #[] } :: a.defers } W) :
    (Code.rangeFunc g ps assign body).wpIn F n P Q a w := by
  refine wpIn_rangeFunc ?_
  intro fn hfn
  rw [hro]
  obtain ⟨rec, hrec⟩ : ∃ rec : LoopState → Option Code → Loop, rec = fun st pe => { state := st, pending := pe, fn, tmps := a.tmps, params := ps, assign, body, defers := w.heap.size } := ⟨_, rfl⟩
  obtain ⟨W1, hW1⟩ : ∃ W1, (w.alloc (.deferred (some []))).alloc (.loop (rec .ready none)) = W1 := ⟨_, rfl⟩
  have hL1 : W1.heap[w.heap.size + 1]? = some (.loop (rec .ready none)) := by
    rw [← hW1]; have := World.alloc_heap_new (w.alloc (.deferred (some []))) (.loop (rec .ready none)); rwa [World.size_alloc] at this
  have hK1 : W1.heap[w.heap.size]? = some (.deferred (some [])) := by
    rw [← hW1]; exact (Below.heap_alloc _ _ _ (by simp)).trans (World.alloc_heap_new w _)
  have hI1 : I 0 W1 := by rw [← hW1]; exact hI 0 _ _ (hI 0 _ _ h0 (Turn.alloc _ _)) (Turn.alloc _ _)
  have hb1 : Below w0.heap.size w0 W1 := by
    rw [← hW1]; exact hb0.trans ((((Below.refl _ w).alloc (Nat.le_refl _) _).alloc (by simp) _).mono hb0.size)
  refine ⟨w.heap.size + 1, [{ target := .collected w.heap.size, args := #[] }], W1, { target := .fn (.func gf) lb, args := #[.func (.yield (w.heap.size + 1)) #[] #[]] }, W1, gf,
    #[.func (.yield (w.heap.size + 1)) #[] #[]] ++ lb, W1, ?_, ?_, ?_, ?_, fun _ => h1, ?_⟩
  · rw [← hW1, hrec]; exact run_enterLoop_outer _ _ _ _ _
  · simp only [resolve, hg]
    simp [go_sem]
  · intro f' hf'; simp [Target.leads] at hf'; subst hf'; exact hFg
  · simp [invoke, go_sem, eg]
  · have up : ∀ {A B : World}, Turn own T A B → Turn (fun j => own j ∨ j = w.heap.size ∨ j = w.heap.size + 1) T A B := fun h => h.mono (fun _ h => .inl h) (fun _ h => h)
    refine (hseq (w.heap.size + 1)
      (fun k W => I k W ∧ W.heap[w.heap.size + 1]? = some (.loop (rec .ready none)) ∧ W.heap[w.heap.size]? = some (.deferred (some [])))
      (fun k W => ∃ c, Ix c k W ∧ W.heap[w.heap.size + 1]? = some (.loop (rec .done (some c))) ∧ W.heap[w.heap.size]? = some (.deferred (some [])))
      W1 hb1
      (fun k A B hs ht => ⟨hI k A B hs.1 (up ht), ht.same _ _ hs.2.1 (.inl ho1), ht.same _ _ hs.2.2 (.inl ho0)⟩)
      (fun k A B hs ht => by
        obtain ⟨c, hc, hl, hk⟩ := hs
        exact ⟨c, hIx c k A B hc (up ht), ht.same _ _ hl (.inl ho1), ht.same _ _ hk (.inl ho0)⟩)
      ?_ ⟨hI1, hL1, hK1⟩).mono ?_
    · rintro k W hlen ⟨hi, hl, hk⟩
      have hlt : w.heap.size + 1 < W.heap.size := (Array.getElem?_eq_some_iff.1 hl).1
      have hy := run_yield (P := P) (args := encs k) hl (by rw [hrec]; exact hps k)
      rw [hrec] at hy
      refine ⟨fn, _, assign, body, hy, roundIn_of_wpIn hfn (hassign _ k W _ ⟨_, run_beginRound hl (by rw [hrec]), ?_⟩)⟩
      have hl2 : (W.putObj (w.heap.size + 1) (.loop { rec .ready none with state := .busy })).heap[w.heap.size + 1]? = some (.loop { rec .ready none with state := .busy }) := World.putObj_heap_same hlt
      have hk2 : (W.putObj (w.heap.size + 1) (.loop { rec .ready none with state := .busy })).heap[w.heap.size]? = some (.deferred (some [])) := (World.putObj_heap_other (by omega)).trans hk
      have hw2 : KeepAt keep W (W.putObj (w.heap.size + 1) (.loop { rec .ready none with state := .busy })) := KeepAt.putObj _ _ _ hk1
      refine wpIn_mono (hbody _ k _ hlen (by simp; omega) (hI k _ _ hi (Turn.putObj _ hl rfl (.inr (.inr rfl))))) ?_
      have fin : ∀ (jump : Option Code) (W3 : World), KeepsOthers (W.putObj (w.heap.size + 1) (.loop { rec .ready none with state := .busy })) W3 →
          (Instr.endRound (w.heap.size + 1) jump).run P W3 = .ok (.bool jump.isNone) (W3.putObj (w.heap.size + 1) (.loop (rec (if jump.isNone then .ready else .done) jump))) ∧
          W3.heap[w.heap.size + 1]? = some (.loop { rec .ready none with state := .busy }) ∧
          (W3.putObj (w.heap.size + 1) (.loop (rec (if jump.isNone then .ready else .done) jump))).heap[w.heap.size + 1]? = some (.loop (rec (if jump.isNone then .ready else .done) jump)) ∧
          (W3.putObj (w.heap.size + 1) (.loop (rec (if jump.isNone then .ready else .done) jump))).heap[w.heap.size]? = some (.deferred (some [])) := fun jump W3 hk3 => by
        have hl3 := hk3.same _ _ hl2 rfl
        have := run_endRound (P := P) jump hl3
        rw [hrec] at this ⊢
        exact ⟨this, by rw [hrec] at hl3; exact hl3, World.putObj_heap_same (Array.getElem?_eq_some_iff.1 hl3).1, (World.putObj_heap_other (by omega)).trans (hk3.same _ _ hk2 rfl)⟩
      rintro e a3 W3 hp
      cases e with
      | normal =>
        obtain ⟨hk3, hkp3, hi3⟩ := hp
        obtain ⟨hr, hl3, hl4, hk4⟩ := fin none W3 hk3
        exact ⟨_, _, hr, .inl ⟨rfl, ⟨hI _ _ _ hi3 (Turn.putObj _ hl3 rfl (.inr (.inr rfl))), hl4, hk4⟩, (hw2.trans hkp3).trans (KeepAt.putObj _ _ _ hk1)⟩⟩
      | ret =>
        obtain ⟨hk3, hi3⟩ := hp
        obtain ⟨hr, hl3, hl4, hk4⟩ := fin (some .ret) W3 hk3
        exact ⟨_, _, hr, .inr ⟨rfl, .ret, hIx _ _ _ _ hi3 (Turn.putObj _ hl3 rfl (.inr (.inr rfl))), hl4, hk4⟩⟩
      | exit id =>
        obtain ⟨hk3, hi3⟩ := hp
        obtain ⟨hr, hl3, hl4, hk4⟩ := fin (some (.exit id)) W3 hk3
        exact ⟨_, _, hr, .inr ⟨rfl, .exit id, hIx _ _ _ _ hi3 (Turn.putObj _ hl3 rfl (.inr (.inr rfl))), hl4, hk4⟩⟩
      | goto t =>
        obtain ⟨hk3, hi3⟩ := hp
        obtain ⟨hr, hl3, hl4, hk4⟩ := fin (some (.goto t)) W3 hk3
        exact ⟨_, _, hr, .inr ⟨rfl, .goto t, hIx _ _ _ _ hi3 (Turn.putObj _ hl3 rfl (.inr (.inr rfl))), hl4, hk4⟩⟩
      | panic ch => exact hp.elim
      | outgrown => exact hp.elim
    · rintro e W2 ⟨⟨v, rfl⟩, (⟨hi, hl, hk⟩ | ⟨k, hkN, c, hi, hl, hk⟩)⟩
      · have hlt := (Array.getElem?_eq_some_iff.1 hl).1
        exact ⟨none, _, by have := run_endLoop (P := P) hl (by rw [hrec]; simp); rw [hrec] at this; exact this, hdone _ (hI _ _ _ hi (Turn.putObj _ hl rfl (.inr (.inr rfl)))) (by simp; omega) ((World.putObj_heap_other (by omega)).trans hk)⟩
      · have hlt := (Array.getElem?_eq_some_iff.1 hl).1
        exact ⟨some c, _, by have := run_endLoop (P := P) hl (by rw [hrec]; simp); rw [hrec] at this; exact this, hstop c k _ hkN (hIx c k _ _ hi (Turn.putObj _ hl rfl (.inr (.inr rfl)))) (by simp; omega) ((World.putObj_heap_other (by omega)).trans hk)⟩


/-! ### A boxed slice that a round appends to -/
theorem stands_row {own : Nat → Prop} {T : TypeId → Prop} {base : Nat} {e : TypeId} {size n : Nat} {v : Value} {xs : List Value} (ho : ∀ k, own k → k < base) : Stands own T (fun W => W.ownsRow base e size v n xs) := fun A C h hT => by
  refine ⟨h.1, ?_⟩
  rcases h.2 with hn | ⟨g, cap, cur, hv, hbg, hg, rest⟩
  · exact .inl hn
  · exact .inr ⟨g, cap, cur, hv, hbg, hT.same g _ hg (.inl (fun h => absurd (ho g h) (by omega))), rest⟩
theorem row_lower {W : World} {base base' : Nat} {e : TypeId} {size n : Nat} {v : Value} {xs : List Value} (h : W.ownsRow base e size v n xs) (hb : base' ≤ base) : W.ownsRow base' e size v n xs := by
  refine ⟨h.1, ?_⟩
  rcases h.2 with hn | ⟨g, cap, cur, hv, hbg, hg, rest⟩
  · exact .inl hn
  · exact .inr ⟨g, cap, cur, hv, Nat.le_trans hb hbg, hg, rest⟩
theorem stands_ex {own : Nat → Prop} {T : TypeId → Prop} {α : Sort _} {I : α → World → Prop} (h : ∀ x, Stands own T (I x)) : Stands own T (fun W => ∃ x, I x W) := fun A B ⟨x, hx⟩ ht => ⟨x, h x A B hx ht⟩
theorem stands_box {own : Nat → Prop} {T : TypeId → Prop} (k : Nat) (t : TypeId) (v : Value) (hk : ¬ own k) : Stands own T (fun W => Boxed W k t v) := fun _ _ h ht => ht.same k _ h (.inl hk)
theorem box_appended {W w1 : World} {base n₀ B : Nat} {t e : TypeId} {size : Nat} {v v' : Value} {k m : Nat} {xs ys : List Value} {tmp : Obj}
    (hv : Boxed W B t v) (hrow : W.ownsRow base e size v k xs) (hbase : base ≤ W.heap.size) (hB : B < base) (hn : n₀ ≤ B)
    (hown' : w1.ownsRow base e size v' m ys) (hgrow : (W.alloc tmp).grownBy w1 v.ownBlock) :
    Boxed w1 B t v ∧ Boxed (w1.setCell ⟨B, 0, none⟩ v') B t v' ∧ (w1.setCell ⟨B, 0, none⟩ v').ownsRow base e size v' m ys ∧ KeepsOthers W (w1.setCell ⟨B, 0, none⟩ v') ∧ Below n₀ W (w1.setCell ⟨B, 0, none⟩ v') ∧
      ∀ j, j < base → j ≠ B → (w1.setCell ⟨B, 0, none⟩ v').heap[j]? = W.heap[j]? := by
  have hnb : ∀ j, v.ownBlock = some j → base ≤ j := fun j ej => by
    rcases hrow.2 with ⟨rfl, _⟩ | ⟨g, cap, cur, rfl, hb, _, _⟩
    · simp [Value.ownBlock] at ej
    · obtain rfl : g = j := by simpa [Value.ownBlock] using ej
      exact hb
  have hnb' : ∀ j, v'.ownBlock = some j → base ≤ j := fun j ej => by
    rcases hown'.2 with ⟨rfl, _⟩ | ⟨g, cap, cur, rfl, hb, _, _⟩
    · simp [Value.ownBlock] at ej
    · obtain rfl : g = j := by simpa [Value.ownBlock] using ej
      exact hb
  have hv1 : Boxed w1 B t v := (hv.alloc tmp).kept hgrow (fun e => absurd (hnb B e.symm) (by omega))
  refine ⟨hv1, hv1.set v', hown'.kept (grownBy_setCell' w1 B v') (.inr (fun e => absurd (hnb' B e) (by omega))), ?_, ?_, ?_⟩
  · refine ((KeepsOthers.alloc W tmp).trans (KeepsOthers.of_grownBy hgrow fun j o ej hj => ?_)).trans (KeepsOthers.setCell _ _ _)
    rcases (hrow.alloc tmp).2 with ⟨rfl, _⟩ | ⟨g, cap, cur, rfl, _, hgb, _⟩
    · simp [Value.ownBlock] at ej
    · obtain rfl : g = j := by simpa [Value.ownBlock] using ej
      rw [hgb] at hj; cases hj; rfl
  · exact (((Below.refl n₀ W).alloc (by omega) tmp).grown hgrow (by simp; omega) fun j ej => Nat.le_trans (by omega) (hnb j ej)).setCell (p := ⟨B, 0, none⟩) hn v'
  · intro j hj hjB
    rw [Below.heap_setCell _ _ _ _ hjB, hgrow.block j (by simp; omega) (fun e => absurd (hnb j e.symm) (by omega)), Below.heap_alloc _ _ _ (by omega)]

/-! ### A function that holds a label: its scope, inside a fence -/
theorem stepR_scope {b : Frame} {a : Act} {k : List Item} {cs : List Frame} {w : World} {c : Code} : step P (lone (b.atR a (.code (.scope c) :: k)) cs w) = .next (lone (b.atR a (.code c :: .inScope c :: k)) cs w) :=
  step_lone_go (by simp [stepG, stepG.exec, Frame.atR])
theorem stepR_inScope {b : Frame} {a : Act} {k : List Item} {cs : List Frame} {w : World} {c : Code} : step P (lone (b.atR a (.inScope c :: k)) cs w) = .next (lone (b.atR a k) cs w) :=
  step_lone_go (by simp [stepG, stepG.exec, Frame.atR])
theorem wpIn_scope {c : Code} {Q : Exit → Act → World → Prop} {a : Act} {w : World} (h : c.wpIn F n P (Exit.noGoto Q) a w) : (Code.scope c).wpIn F n P Q a w := by
  intro b k cs hro hb hr
  have h0 : (lone (b.atR a (.code (.scope c) :: k)) cs w).fenced P F := fenced_calm hb hr rfl
  obtain ⟨e, a₁, w₁, hq, harr⟩ := h b (.inScope c :: k) cs hro hb hr
  cases e with
  | normal => exact ⟨.normal, a₁, w₁, hq, .head h0 stepR_scope (StepsIn.trans harr (.one (fenced_calm hb hr rfl) stepR_inScope))⟩
  | exit id =>
    have hx : exitTo id (.inScope c :: k) = exitTo id k := by simp [exitTo]
    exact ⟨_, a₁, w₁, hq, fun k' hk => .head h0 stepR_scope (harr.1 k' (by rw [hx]; exact hk)),
      fun hr' hk => let ⟨k₁, h1, h2⟩ := harr.2 hr' (by rw [hx]; exact hk); ⟨k₁, h1, .head h0 stepR_scope h2⟩⟩
  | goto l => exact hq.elim
  | ret => exact ⟨_, a₁, w₁, hq, .of_steps (.one h0 stepR_scope) harr⟩
  | panic ch => exact ⟨_, a₁, w₁, hq, .of_steps (.one h0 stepR_scope) harr⟩
  | outgrown => exact ⟨_, a₁, w₁, hq, .of_steps (.one h0 stepR_scope) harr⟩

end Go.Proofs.Ythgefgjaihagoaa.H

set_option linter.unusedVariables false
namespace Go.Proofs.Ythgefgjaihagoaa.H
open Go.RowKit
variable {F : Fence} {n : Nat} {P : Program}

theorem wpIn_rangeW {g : Operand} {ps : Array Tmp} {assign body : Code} {Q : Exit → Act → World → Prop} {a : Act} {w : World}
    (hro : F.round = none) (h1 : 1 ≤ n) {gf : Nat} {lb : Array Value} (hg : a.eval g = .func (.func gf) #[] lb) (hFg : F.fn gf) (eg : ∀ args w, (callFunc gf args).run P w = .ok (.enter gf args) w)
    {encs : Nat → Array Value} {own : Nat → Prop} {T : TypeId → Prop} {keep : Nat → Prop} {N : Nat} {w0 : World} (hseq : SeqN F (n - 1) P gf lb encs own T keep N w0)
    (hb0 : Below w0.heap.size w0 w) (hps : ∀ k, (encs k).size = ps.size)
    (ho0 : ¬ own w.heap.size) (ho1 : ¬ own (w.heap.size + 1)) (hk1 : ¬ keep (w.heap.size + 1))
    (I : Nat → World → Prop) (Ix : Code → Nat → World → Prop)
    (hI : ∀ k, Stands (fun j => own j ∨ j = w.heap.size ∨ j = w.heap.size + 1) T (I k)) (hIx : ∀ c k, Stands (fun j => own j ∨ j = w.heap.size ∨ j = w.heap.size + 1) T (Ix c k))
    (h0 : I 0 w) (a₁ : Nat → World → Act) (gw : Nat → World → World) (hgw : ∀ k W, Below W.heap.size W (gw k W))
    (hassign : ∀ (l k : Nat) (W : World) (K : Act → World → Prop), I k W → K (a₁ k W) (gw k W) →
      assign.wpIn (F.inRound l) (n - 1 - 1) P (Exit.then K (fun _ _ _ => False)) { tmps := (ps.zip (encs k)).foldl (fun t (p, v) => t.setIfInBounds p v) a.tmps, defers := [] } W)
    (hbody : ∀ (l k : Nat) (V W : World), k < N → w.heap.size + 2 ≤ V.heap.size → I k W → (∀ j, j ≠ w.heap.size + 1 → W.heap[j]? = (gw k V).heap[j]?) → W.heap.size = (gw k V).heap.size → body.wpIn (F.inRound l) (n - 1 - 1) P (postN keep I Ix (k + 1) W) (a₁ k V) W)
    (hdone : ∀ (W : World), I N W → w.heap.size + 2 ≤ W.heap.size → W.heap[w.heap.size]? = some (.deferred (some [])) → Q .normal { a with defers := { target := .collected w.heap.size, args := #[] } :: a.defers } W)
    (hstop : ∀ (c : Code) (k : Nat) (W : World), k ≤ N → Ix c k W → w.heap.size + 2 ≤ W.heap.size → W.heap[w.heap.size]? = some (.deferred (some [])) → c.wpIn F n P Q { a with defers := { target := .collected w.heap.size, args := #[] } :: a.defers } W) :
    (Code.rangeFunc g ps assign body).wpIn F n P Q a w := by
  refine wpIn_rangeFunc ?_
  intro fn hfn
  rw [hro]
  obtain ⟨rec, hrec⟩ : ∃ rec : LoopState → Option Code → Loop, rec = fun st pe => { state := st, pending := pe, fn, tmps := a.tmps, params := ps, assign, body, defers := w.heap.size } := ⟨_, rfl⟩
  obtain ⟨W1, hW1⟩ : ∃ W1, (w.alloc (.deferred (some []))).alloc (.loop (rec .ready none)) = W1 := ⟨_, rfl⟩
  have hL1 : W1.heap[w.heap.size + 1]? = some (.loop (rec .ready none)) := by
    rw [← hW1]; have := World.alloc_heap_new (w.alloc (.deferred (some []))) (.loop (rec .ready none)); rwa [World.size_alloc] at this
  have hK1 : W1.heap[w.heap.size]? = some (.deferred (some [])) := by
    rw [← hW1]; exact (Below.heap_alloc _ _ _ (by simp)).trans (World.alloc_heap_new w _)
  have hI1 : I 0 W1 := by rw [← hW1]; exact hI 0 _ _ (hI 0 _ _ h0 (Turn.alloc _ _)) (Turn.alloc _ _)
  have hb1 : Below w0.heap.size w0 W1 := by
    rw [← hW1]; exact hb0.trans ((((Below.refl _ w).alloc (Nat.le_refl _) _).alloc (by simp) _).mono hb0.size)
  refine ⟨w.heap.size + 1, [{ target := .collected w.heap.size, args := #[] }], W1, { target := .fn (.func gf) lb, args := #[.func (.yield (w.heap.size + 1)) #[] #[]] }, W1, gf,
    #[.func (.yield (w.heap.size + 1)) #[] #[]] ++ lb, W1, ?_, ?_, ?_, ?_, fun _ => h1, ?_⟩
  · rw [← hW1, hrec]; exact run_enterLoop_outer _ _ _ _ _
  · simp only [resolve, hg]
    simp [go_sem]
  · intro f' hf'; simp [Target.leads] at hf'; subst hf'; exact hFg
  · simp [invoke, go_sem, eg]
  · have up : ∀ {A B : World}, Turn own T A B → Turn (fun j => own j ∨ j = w.heap.size ∨ j = w.heap.size + 1) T A B := fun h => h.mono (fun _ h => .inl h) (fun _ h => h)
    refine (hseq (w.heap.size + 1)
      (fun k W => I k W ∧ W.heap[w.heap.size + 1]? = some (.loop (rec .ready none)) ∧ W.heap[w.heap.size]? = some (.deferred (some [])))
      (fun k W => ∃ c, Ix c k W ∧ W.heap[w.heap.size + 1]? = some (.loop (rec .done (some c))) ∧ W.heap[w.heap.size]? = some (.deferred (some [])))
      W1 hb1
      (fun k A B hs ht => ⟨hI k A B hs.1 (up ht), ht.same _ _ hs.2.1 (.inl ho1), ht.same _ _ hs.2.2 (.inl ho0)⟩)
      (fun k A B hs ht => by
        obtain ⟨c, hc, hl, hk⟩ := hs
        exact ⟨c, hIx c k A B hc (up ht), ht.same _ _ hl (.inl ho1), ht.same _ _ hk (.inl ho0)⟩)
      ?_ ⟨hI1, hL1, hK1⟩).mono ?_
    · rintro k W hlen ⟨hi, hl, hk⟩
      have hlt : w.heap.size + 1 < W.heap.size := (Array.getElem?_eq_some_iff.1 hl).1
      have hy := run_yield (P := P) (args := encs k) hl (by rw [hrec]; exact hps k)
      rw [hrec] at hy
      obtain ⟨Wg, hWg⟩ : ∃ Wg, gw k W = Wg := ⟨_, rfl⟩
      have hbg : Below W.heap.size W Wg := hWg ▸ hgw k W
      have hlg := (hbg.block _ hlt).trans hl
      have hkg := (hbg.block _ (by omega : w.heap.size < W.heap.size)).trans hk
      have hig : I k Wg := hI _ _ _ hi (Turn.of_below hbg)
      have hltg : w.heap.size + 1 < Wg.heap.size := Nat.lt_of_lt_of_le hlt hbg.size
      refine ⟨fn, _, assign, body, hy, roundIn_of_wpIn hfn (hassign _ k W _ hi ⟨_, run_beginRound (hWg.symm ▸ hlg) (by rw [hrec]), ?_⟩)⟩
      rw [hWg]
      have hl2 : (Wg.putObj (w.heap.size + 1) (.loop { rec .ready none with state := .busy })).heap[w.heap.size + 1]? = some (.loop { rec .ready none with state := .busy }) := World.putObj_heap_same hltg
      have hk2 : (Wg.putObj (w.heap.size + 1) (.loop { rec .ready none with state := .busy })).heap[w.heap.size]? = some (.deferred (some [])) := (World.putObj_heap_other (by omega)).trans hkg
      have hw2 : KeepAt keep W (Wg.putObj (w.heap.size + 1) (.loop { rec .ready none with state := .busy })) := (KeepAt.of_below hbg).trans (KeepAt.putObj _ _ _ hk1)
      refine wpIn_mono (hbody _ k W _ hlen (by omega) (hI k _ _ hig (Turn.putObj _ hlg rfl (.inr (.inr rfl)))) (fun j hj => by rw [hWg]; exact World.putObj_heap_other hj) (by rw [hWg]; simp)) ?_
      have fin : ∀ (jump : Option Code) (W3 : World), KeepsOthers (Wg.putObj (w.heap.size + 1) (.loop { rec .ready none with state := .busy })) W3 →
          (Instr.endRound (w.heap.size + 1) jump).run P W3 = .ok (.bool jump.isNone) (W3.putObj (w.heap.size + 1) (.loop (rec (if jump.isNone then .ready else .done) jump))) ∧
          W3.heap[w.heap.size + 1]? = some (.loop { rec .ready none with state := .busy }) ∧
          (W3.putObj (w.heap.size + 1) (.loop (rec (if jump.isNone then .ready else .done) jump))).heap[w.heap.size + 1]? = some (.loop (rec (if jump.isNone then .ready else .done) jump)) ∧
          (W3.putObj (w.heap.size + 1) (.loop (rec (if jump.isNone then .ready else .done) jump))).heap[w.heap.size]? = some (.deferred (some [])) := fun jump W3 hk3 => by
        have hl3 := hk3.same _ _ hl2 rfl
        have := run_endRound (P := P) jump hl3
        rw [hrec] at this ⊢
        exact ⟨this, by rw [hrec] at hl3; exact hl3, World.putObj_heap_same (Array.getElem?_eq_some_iff.1 hl3).1, (World.putObj_heap_other (by omega)).trans (hk3.same _ _ hk2 rfl)⟩
      rintro e a3 W3 hp
      cases e with
      | normal =>
        obtain ⟨hk3, hkp3, hi3⟩ := hp
        obtain ⟨hr, hl3, hl4, hk4⟩ := fin none W3 hk3
        exact ⟨_, _, hr, .inl ⟨rfl, ⟨hI _ _ _ hi3 (Turn.putObj _ hl3 rfl (.inr (.inr rfl))), hl4, hk4⟩, (hw2.trans hkp3).trans (KeepAt.putObj _ _ _ hk1)⟩⟩
      | ret =>
        obtain ⟨hk3, hi3⟩ := hp
        obtain ⟨hr, hl3, hl4, hk4⟩ := fin (some .ret) W3 hk3
        exact ⟨_, _, hr, .inr ⟨rfl, .ret, hIx _ _ _ _ hi3 (Turn.putObj _ hl3 rfl (.inr (.inr rfl))), hl4, hk4⟩⟩
      | exit id =>
        obtain ⟨hk3, hi3⟩ := hp
        obtain ⟨hr, hl3, hl4, hk4⟩ := fin (some (.exit id)) W3 hk3
        exact ⟨_, _, hr, .inr ⟨rfl, .exit id, hIx _ _ _ _ hi3 (Turn.putObj _ hl3 rfl (.inr (.inr rfl))), hl4, hk4⟩⟩
      | goto t =>
        obtain ⟨hk3, hi3⟩ := hp
        obtain ⟨hr, hl3, hl4, hk4⟩ := fin (some (.goto t)) W3 hk3
        exact ⟨_, _, hr, .inr ⟨rfl, .goto t, hIx _ _ _ _ hi3 (Turn.putObj _ hl3 rfl (.inr (.inr rfl))), hl4, hk4⟩⟩
      | panic ch => exact hp.elim
      | outgrown => exact hp.elim
    · rintro e W2 ⟨⟨v, rfl⟩, (⟨hi, hl, hk⟩ | ⟨k, hkN, c, hi, hl, hk⟩)⟩
      · have hlt := (Array.getElem?_eq_some_iff.1 hl).1
        exact ⟨none, _, by have := run_endLoop (P := P) hl (by rw [hrec]; simp); rw [hrec] at this; exact this, hdone _ (hI _ _ _ hi (Turn.putObj _ hl rfl (.inr (.inr rfl)))) (by simp; omega) ((World.putObj_heap_other (by omega)).trans hk)⟩
      · have hlt := (Array.getElem?_eq_some_iff.1 hl).1
        exact ⟨some c, _, by have := run_endLoop (P := P) hl (by rw [hrec]; simp); rw [hrec] at this; exact this, hstop c k _ hkN (hIx c k _ _ hi (Turn.putObj _ hl rfl (.inr (.inr rfl)))) (by simp; omega) ((World.putObj_heap_other (by omega)).trans hk)⟩
end Go.Proofs.Ythgefgjaihagoaa.H
