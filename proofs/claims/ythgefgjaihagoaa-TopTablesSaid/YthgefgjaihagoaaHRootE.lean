/- A range over a function whose iterator wants blocks kept that it made itself: as HRF's, what is kept is told by the object, too. -/
import Derived.Test.YthgefgjaihagoaaHRW
import Derived.Maps.Own
import Derived.Test.YthgefgjaihagoaaQ0
import Derived.WalkKit
import Derived.OwnWalkIn
import Derived.TacticsInMore
import Derived.LoopNIn
import Derived.LoopIn
import Derived.Sort.QuietIn
import Derived.Maps.OwnIn
import Derived.Carry
import Derived.Shelf.Abstract
import Derived.Lib.Hide
import Derived.Maps.Views
import Derived.Test.YthgefgjaihagoaaHNum
import Derived.Laws.EntriesVeiled
set_option linter.unusedVariables false
namespace Go.Proofs.Ythgefgjaihagoaa.H
open Go.RowKit

/-- What a round keeps for the iterator. -/
structure KeepT (keep : Nat → Obj → Prop) (A B : World) : Prop where
  size : A.heap.size ≤ B.heap.size
  same : ∀ k o, keep k o → A.heap[k]? = some o → B.heap[k]? = some o
theorem KeepT.refl (keep : Nat → Obj → Prop) (A : World) : KeepT keep A A := ⟨Nat.le_refl _, fun _ _ _ h => h⟩
theorem KeepT.trans {keep : Nat → Obj → Prop} {A B C : World} (h : KeepT keep A B) (k : KeepT keep B C) : KeepT keep A C :=
  ⟨Nat.le_trans h.size k.size, fun i o hi ho => k.same i o hi (h.same i o hi ho)⟩
theorem KeepT.putObj {keep : Nat → Obj → Prop} (W : World) (l : Nat) (o : Obj) (hl : ∀ o, W.heap[l]? = some o → ¬ keep l o) : KeepT keep W (W.putObj l o) :=
  ⟨by simp, fun k o' hk ho => (World.putObj_heap_other (fun e => by subst e; exact hl o' ho hk)).trans ho⟩
theorem KeepT.of_below {keep : Nat → Obj → Prop} {A B : World} (h : Below A.heap.size A B) : KeepT keep A B :=
  ⟨h.size, fun k o _ ho => (h.block k (Array.getElem?_eq_some_iff.1 ho).1).trans ho⟩
/-- .. from blocks that are told one by one. -/
theorem KeepT.of_same {keep : Nat → Obj → Prop} {A B : World} (hs : A.heap.size ≤ B.heap.size) (h : ∀ k o, keep k o → A.heap[k]? = some o → B.heap[k]? = A.heap[k]?) : KeepT keep A B :=
  ⟨hs, fun k o hk ho => (h k o hk ho).trans ho⟩

/-- The records of ranges over functions, and of what is deferred. -/
def recB : Obj → Bool
  | .loop _ => true
  | .deferred _ => true
  | _ => false
structure KeepsRec (W W' : World) : Prop where
  size : W.heap.size ≤ W'.heap.size
  same : ∀ (k : Nat) (o : Obj), W.heap[k]? = some o → recB o = true → W'.heap[k]? = some o
theorem KeepsRec.refl (W : World) : KeepsRec W W := ⟨Nat.le_refl _, fun _ _ h _ => h⟩
theorem KeepsRec.trans {A B C : World} (h : KeepsRec A B) (k : KeepsRec B C) : KeepsRec A C :=
  ⟨Nat.le_trans h.size k.size, fun i o hi ho => k.same i o (h.same i o hi ho) ho⟩
theorem rec_cells {o : Obj} (h : recB o = true) : o.isCells = false := by cases o <;> first | rfl | cases h
theorem KeepsRec.of_others {A B : World} (h : KeepsOthers A B) : KeepsRec A B := ⟨h.size, fun k o hk ho => h.same k o hk (rec_cells ho)⟩
theorem KeepsRec.setCell (W : World) (a : Addr) (v : Value) : KeepsRec W (W.setCell a v) := .of_others (KeepsOthers.setCell W a v)
theorem KeepsRec.of_grownBy {W W' : World} {row : Option Nat} (hg : W.grownBy W' row) (hrow : ∀ (j : Nat) (o : Obj), row = some j → W.heap[j]? = some o → recB o = false) : KeepsRec W W' :=
  ⟨hg.size, fun k o hk ho => (hg.block k (Array.getElem?_eq_some_iff.1 hk).1 (fun e => by have := hrow k o e.symm hk; rw [this] at ho; cases ho)).trans hk⟩
theorem stands_map {own : Nat → Prop} {T : TypeId → Prop} {H : Type} {P : Program} {k : TypeId} {R : Value → Option (DataW H × List MemPlace)} {b n : Nat} {D : DataW H} (hk : ¬ own b) : Stands own T (fun W => W.ownsMap P k R b n D) := fun A B h ht => by
  obtain ⟨es, clock, hb, F, hs, hD⟩ := h
  exact ⟨es, clock, ht.same _ _ hb (.inl hk), F, hs, hD⟩

/-- An iterator that yields N times: its contract. -/
def SeqT (F : Fence) (n : Nat) (P : Program) (g : Nat) (lb : Array Value) (encs : Nat → Array Value) (own : Nat → Prop) (T : TypeId → Prop) (keep : Nat → Obj → Prop) (N : Nat) (w : World) : Prop :=
  ∀ (l : Nat) (J Jx : Nat → World → Prop) (W : World), Below w.heap.size w W → (∀ k, Stands own T (J k)) → (∀ k, Stands own T (Jx k)) →
    (∀ k W1, k < N → J k W1 → YieldAt F (n - 1) P l (encs k) W1 fun e W' =>
      (e = .returned (.bool true) ∧ J (k + 1) W' ∧ KeepT keep W1 W') ∨ (e = .returned (.bool false) ∧ Jx (k + 1) W')) →
    J 0 W →
    CallsIn F n P g (#[.func (.yield l) #[] #[]] ++ lb) W fun e W' => (∃ v, e = .returned v) ∧ (J N W' ∨ ∃ k, k ≤ N ∧ Jx k W')

/-- How the body of a round may be left. -/
def postT (keep : Nat → Obj → Prop) (I : Nat → World → Prop) (Ix : Code → Nat → World → Prop) (k : Nat) (W : World) : Exit → Act → World → Prop
  | .normal, _, W' => KeepsRec W W' ∧ KeepT keep W W' ∧ I k W'
  | .ret, _, W' => KeepsRec W W' ∧ Ix .ret k W'
  | .exit id, _, W' => KeepsRec W W' ∧ Ix (.exit id) k W'
  | .goto t, _, W' => KeepsRec W W' ∧ Ix (.goto t) k W'
  | .panic _, _, _ => False
  | .outgrown, _, _ => False

variable {F : Fence} {n : Nat} {P : Program}

theorem wpIn_rangeT {g : Operand} {ps : Array Tmp} {assign body : Code} {Q : Exit → Act → World → Prop} {a : Act} {w : World}
    (hro : F.round = none) (h1 : 1 ≤ n) {gf : Nat} {lb : Array Value} (hg : a.eval g = .func (.func gf) #[] lb) (hFg : F.fn gf) (eg : ∀ args w, (callFunc gf args).run P w = .ok (.enter gf args) w)
    {encs : Nat → Array Value} {own : Nat → Prop} {T : TypeId → Prop} {keep : Nat → Obj → Prop} {N : Nat} {w0 : World} (hseq : SeqT F (n - 1) P gf lb encs own T keep N w0)
    (hb0 : Below w0.heap.size w0 w) (hps : ∀ k, (encs k).size = ps.size)
    (ho0 : ¬ own w.heap.size) (ho1 : ¬ own (w.heap.size + 1)) (hk1 : ∀ L, ¬ keep (w.heap.size + 1) (.loop L))
    (I : Nat → World → Prop) (Ix : Code → Nat → World → Prop)
    (hI : ∀ k, Stands (fun j => own j ∨ j = w.heap.size ∨ j = w.heap.size + 1) T (I k)) (hIx : ∀ c k, Stands (fun j => own j ∨ j = w.heap.size ∨ j = w.heap.size + 1) T (Ix c k))
    (h0 : I 0 w) (a₁ : Nat → Act)
    (hassign : ∀ (l k : Nat) (W : World) (K : Act → World → Prop), K (a₁ k) W →
      assign.wpIn (F.inRound l) (n - 1 - 1) P (Exit.then K (fun _ _ _ => False)) { tmps := (ps.zip (encs k)).foldl (fun t (p, v) => t.setIfInBounds p v) a.tmps, defers := [] } W)
    (hbody : ∀ (l k : Nat) (W : World), k < N → w.heap.size + 2 ≤ W.heap.size → I k W → body.wpIn (F.inRound l) (n - 1 - 1) P (postT keep I Ix (k + 1) W) (a₁ k) W)
    (hdone : ∀ (W : World), I N W → w.heap.size + 2 ≤ W.heap.size → W.heap[w.heap.size]? = some (.deferred (some [])) → Q .normal { a with defers := { target := .collected w.heap.size, args := #[] } :: a.defers } W)
    (hstop : ∀ (c : Code) (k : Nat) (W : World), k ≤ N → Ix c k W → w.heap.size + 2 ≤ W.heap.size → W.heap[w.heap.size]? = some (.deferred (some [])) → c.wpIn F n P Q { a with defers := { target := .collected w.heap.size, args := #[] } :: a.defers } W) :
    (Code.rangeFunc g ps assign body).wpIn F n P Q a w := by
  refine wpIn_rangeFunc ?_
  intro fn hfn
  rw [hro]
  obtain ⟨rec, hrec⟩ : ∃ rec : LoopState → Option Code → Loop, rec = fun st pe => { state := st, pending := pe, fn, tmps := a.tmps, params := ps, assign, body, defers := w.heap.size } := ⟨_, rfl⟩
  obtain ⟨W1, hW1⟩ : ∃ W1, (w.alloc (.deferred (some []))).alloc (.loop (rec .ready none)) = W1 := ⟨_, rfl⟩
  have hL1 : W1.heap[w.heap.size + 1]? = some (.loop (rec .ready none)) := by
    rw [← hW1]; have := World.alloc_heap_new (w.alloc (.deferred (some []))) (.loop (rec .ready none)); rwa [World.size_alloc] at this
  have hK1 : W1.heap[w.heap.size]? = some (.deferred (some [])) := by
    rw [← hW1]; exact (Below.heap_alloc _ _ _ (by simp)).trans (World.alloc_heap_new w _)
  have hI1 : I 0 W1 := by rw [← hW1]; exact hI 0 _ _ (hI 0 _ _ h0 (Turn.alloc _ _)) (Turn.alloc _ _)
  have hb1 : Below w0.heap.size w0 W1 := by
    rw [← hW1]; exact hb0.trans ((((Below.refl _ w).alloc (Nat.le_refl _) _).alloc (by simp) _).mono hb0.size)
  refine ⟨w.heap.size + 1, [{ target := .collected w.heap.size, args := #[] }], W1, { target := .fn (.func gf) lb, args := #[.func (.yield (w.heap.size + 1)) #[] #[]] }, W1, gf,
    #[.func (.yield (w.heap.size + 1)) #[] #[]] ++ lb, W1, ?_, ?_, ?_, ?_, fun _ => h1, ?_⟩
  · rw [← hW1, hrec]; exact run_enterLoop_outer _ _ _ _ _
  · simp only [resolve, hg]
    simp [go_sem]
  · intro f' hf'; simp [Target.leads] at hf'; subst hf'; exact hFg
  · simp [invoke, go_sem, eg]
  · have up : ∀ {A B : World}, Turn own T A B → Turn (fun j => own j ∨ j = w.heap.size ∨ j = w.heap.size + 1) T A B := fun h => h.mono (fun _ h => .inl h) (fun _ h => h)
    refine (hseq (w.heap.size + 1)
      (fun k W => I k W ∧ W.heap[w.heap.size + 1]? = some (.loop (rec .ready none)) ∧ W.heap[w.heap.size]? = some (.deferred (some [])))
      (fun k W => ∃ c, Ix c k W ∧ W.heap[w.heap.size + 1]? = some (.loop (rec .done (some c))) ∧ W.heap[w.heap.size]? = some (.deferred (some [])))
      W1 hb1
      (fun k A B hs ht => ⟨hI k A B hs.1 (up ht), ht.same _ _ hs.2.1 (.inl ho1), ht.same _ _ hs.2.2 (.inl ho0)⟩)
      (fun k A B hs ht => by
        obtain ⟨c, hc, hl, hk⟩ := hs
        exact ⟨c, hIx c k A B hc (up ht), ht.same _ _ hl (.inl ho1), ht.same _ _ hk (.inl ho0)⟩)
      ?_ ⟨hI1, hL1, hK1⟩).mono ?_
    · rintro k W hlen ⟨hi, hl, hk⟩
      have hlt : w.heap.size + 1 < W.heap.size := (Array.getElem?_eq_some_iff.1 hl).1
      have hy := run_yield (P := P) (args := encs k) hl (by rw [hrec]; exact hps k)
      rw [hrec] at hy
      refine ⟨fn, _, assign, body, hy, roundIn_of_wpIn hfn (hassign _ k W _ ⟨_, run_beginRound hl (by rw [hrec]), ?_⟩)⟩
      have hl2 : (W.putObj (w.heap.size + 1) (.loop { rec .ready none with state := .busy })).heap[w.heap.size + 1]? = some (.loop { rec .ready none with state := .busy }) := World.putObj_heap_same hlt
      have hk2 : (W.putObj (w.heap.size + 1) (.loop { rec .ready none with state := .busy })).heap[w.heap.size]? = some (.deferred (some [])) := (World.putObj_heap_other (by omega)).trans hk
      have hw2 : KeepT keep W (W.putObj (w.heap.size + 1) (.loop { rec .ready none with state := .busy })) := KeepT.putObj _ _ _ (fun o ho => by rw [hl] at ho; cases ho; exact hk1 _)
      refine wpIn_mono (hbody _ k _ hlen (by simp; omega) (hI k _ _ hi (Turn.putObj _ hl rfl (.inr (.inr rfl))))) ?_
      have fin : ∀ (jump : Option Code) (W3 : World), KeepsRec (W.putObj (w.heap.size + 1) (.loop { rec .ready none with state := .busy })) W3 →
          (Instr.endRound (w.heap.size + 1) jump).run P W3 = .ok (.bool jump.isNone) (W3.putObj (w.heap.size + 1) (.loop (rec (if jump.isNone then .ready else .done) jump))) ∧
          W3.heap[w.heap.size + 1]? = some (.loop { rec .ready none with state := .busy }) ∧
          (W3.putObj (w.heap.size + 1) (.loop (rec (if jump.isNone then .ready else .done) jump))).heap[w.heap.size + 1]? = some (.loop (rec (if jump.isNone then .ready else .done) jump)) ∧
          (W3.putObj (w.heap.size + 1) (.loop (rec (if jump.isNone then .ready else .done) jump))).heap[w.heap.size]? = some (.deferred (some [])) := fun jump W3 hk3 => by
        have hl3 := hk3.same _ _ hl2 rfl
        have := run_endRound (P := P) jump hl3
        rw [hrec] at this ⊢
        exact ⟨this, by rw [hrec] at hl3; exact hl3, World.putObj_heap_same (Array.getElem?_eq_some_iff.1 hl3).1, (World.putObj_heap_other (by omega)).trans (hk3.same _ _ hk2 rfl)⟩
      rintro e a3 W3 hp
      cases e with
      | normal =>
        obtain ⟨hk3, hkp3, hi3⟩ := hp
        obtain ⟨hr, hl3, hl4, hk4⟩ := fin none W3 hk3
        exact ⟨_, _, hr, .inl ⟨rfl, ⟨hI _ _ _ hi3 (Turn.putObj _ hl3 rfl (.inr (.inr rfl))), hl4, hk4⟩, (hw2.trans hkp3).trans (KeepT.putObj _ _ _ (fun o ho => by rw [hl3] at ho; cases ho; exact hk1 _))⟩⟩
      | ret =>
        obtain ⟨hk3, hi3⟩ := hp
        obtain ⟨hr, hl3, hl4, hk4⟩ := fin (some .ret) W3 hk3
        exact ⟨_, _, hr, .inr ⟨rfl, .ret, hIx _ _ _ _ hi3 (Turn.putObj _ hl3 rfl (.inr (.inr rfl))), hl4, hk4⟩⟩
      | exit id =>
        obtain ⟨hk3, hi3⟩ := hp
        obtain ⟨hr, hl3, hl4, hk4⟩ := fin (some (.exit id)) W3 hk3
        exact ⟨_, _, hr, .inr ⟨rfl, .exit id, hIx _ _ _ _ hi3 (Turn.putObj _ hl3 rfl (.inr (.inr rfl))), hl4, hk4⟩⟩
      | goto t =>
        obtain ⟨hk3, hi3⟩ := hp
        obtain ⟨hr, hl3, hl4, hk4⟩ := fin (some (.goto t)) W3 hk3
        exact ⟨_, _, hr, .inr ⟨rfl, .goto t, hIx _ _ _ _ hi3 (Turn.putObj _ hl3 rfl (.inr (.inr rfl))), hl4, hk4⟩⟩
      | panic ch => exact hp.elim
      | outgrown => exact hp.elim
    · rintro e W2 ⟨⟨v, rfl⟩, (⟨hi, hl, hk⟩ | ⟨k, hkN, c, hi, hl, hk⟩)⟩
      · have hlt := (Array.getElem?_eq_some_iff.1 hl).1
        exact ⟨none, _, by have := run_endLoop (P := P) hl (by rw [hrec]; simp); rw [hrec] at this; exact this, hdone _ (hI _ _ _ hi (Turn.putObj _ hl rfl (.inr (.inr rfl)))) (by simp; omega) ((World.putObj_heap_other (by omega)).trans hk)⟩
      · have hlt := (Array.getElem?_eq_some_iff.1 hl).1
        exact ⟨some c, _, by have := run_endLoop (P := P) hl (by rw [hrec]; simp); rw [hrec] at this; exact this, hstop c k _ hkN (hIx c k _ _ hi (Turn.putObj _ hl rfl (.inr (.inr rfl)))) (by simp; omega) ((World.putObj_heap_other (by omega)).trans hk)⟩

end Go.Proofs.Ythgefgjaihagoaa.H

set_option linter.unusedVariables false
set_option linter.unusedSimpArgs false
namespace Go.Proofs.Ythgefgjaihagoaa.Q
open Go.RowKit Go.Proofs.Ythgefgjaihagoaa.H Go.Proofs.YthgefgjaihagoaaW.PrintWords Go.Proofs.YthgefgjaihagoaaW.PrintLast Go.Proofs.YthgefgjaihagoaaW.PrintMore
attribute [local go_sem] Oper.semAt_some
set_option maxRecDepth 100000

theorem cell_same {z W : World} (hs : ∀ k, k < z.heap.size → W.heap[k]? = z.heap[k]?) {a : Addr} {v : Value} (h : z.cell? a = some v) : W.cell? a = some v :=
  (World.cell?_of_block (hs a.block (World.block_lt_of_cell? z _ h))).trans h
theorem all_calls (a b : Int) (A2 : Option Addr) (n2 c2 : Nat) (A3 : Option Addr) (n3 c3 : Nat) (w : World) : Calls Try.prog 60 #[.agg #[.int .u64 a, .int .u64 b, .slice A2 n2 c2, .slice A3 n3 c3]] w fun e w' =>
    e = .returned (.func (.func 90) #[] #[.pointer (some ⟨w.heap.size, 0, none⟩)]) ∧ w' = w.alloc (.cells #[.int .u64 a, .int .u64 b, .slice A2 n2 c2, .slice A3 n3 c3] 55) := by
  go_enter Try.func60, Try.ntmps60
  go_wp2
  go_ret
  exact ⟨rfl, rfl⟩
/-- What a round keeps for the iterator: all that stood ahead of the call, and the lists. -/
def keepR (z : World) (k : Nat) (o : Obj) : Prop := k < z.heap.size ∨ ∃ cs fz, o = .cells cs 53 fz
def offR (d c : List Int) (m : Nat) : Nat := if m = 0 then 0 else if m = 1 then d.length else d.length + c.length
theorem measM (m n : Nat) (h : m < n) : n - (intOf (.int .i64 ((m : Int) + 1))).toNat < n - (intOf (.int .i64 (m : Int))).toNat := by
  show n - ((m : Int) + 1).toNat < n - (m : Int).toNat; omega
theorem wN (m : Nat) (h : m < 9223372036854775000) : wrap64 ((m : Int) + 1) = (m : Int) + 1 := IntWalk.wrap64_in _ (by omega)
set_option maxHeartbeats 4000000 in
theorem all_seq (nn : Nat) (h1n : 1 ≤ nn) (a b : Int) (A2 : Option Addr) (c2 : Nat) (d : List Int) (A3 : Option Addr) (c3 : Nat) (c : List Int) (Rb : Nat) (z w : World) (hz : Below z.heap.size z w)
    (hRb : w.heap[Rb]? = some (.cells #[.int .u64 a, .int .u64 b, .slice A2 d.length c2, .slice A3 c.length c3] 55 (0, 0)))
    (hC2 : Kd.C (Kd.int .u32) z A2 d.length d) (hC3 : Kd.C (Kd.int .u32) z A3 c.length c) (hd : d.length ≤ 100000) (hc : c.length ≤ 100000) :
    SeqT Fence.wide nn Try.prog 90 #[.pointer (some ⟨Rb, 0, none⟩)] (fun k => #[.int .u32 ((d ++ c).getD k 0)]) (fun _ => False) (fun _ => False) (keepR z) (d.length + c.length) w := fun lp J Jx W hW hJ hJx hY h0 => by
  have hlb : Rb < w.heap.size := (Array.getElem?_eq_some_iff.1 hRb).1
  have hm := (hW.block Rb hlb).trans hRb
  have q2 : W.cell? ⟨Rb, 2, none⟩ = some (.slice A2 d.length c2) := by rw [Lib.cell_of_heap hm]; rfl
  have q3 : W.cell? ⟨Rb, 3, none⟩ = some (.slice A3 c.length c3) := by rw [Lib.cell_of_heap hm]; rfl
  have hsW : Aside0 (∀ k, k < z.heap.size → W.heap[k]? = z.heap[k]?) := ⟨fun k hk => (hW.block k (by have := hz.size; omega)).trans (hz.block k hk)⟩
  have hzW : z.heap.size ≤ W.heap.size := by have := hz.size; have := hW.size; omega
  obtain ⟨Wn, hWn⟩ : ∃ Wn, W.heap.size = Wn := ⟨_, rfl⟩
  have HZ := Aside0.mk hzW
  have HC2 := Aside0.mk hC2
  have HC3 := Aside0.mk hC3
  have HD := Aside0.mk hd
  have HCC := Aside0.mk hc
  clear hW hRb hm hlb hz hzW hC2 hC3 hd hc
  refine callsIn_of_wp Try.func90 rfl trivial ?_ rfl
  simp only [Try.ntmps90, List.size_toArray, List.length_cons, List.length_nil, Nat.reduceAdd, Nat.reduceSub, Array.replicate_succ, Array.replicate_zero, List.push_toArray, List.append_toArray, List.nil_append, List.cons_append]
  gi_wp2
  gi_loopw [13] (fun i wr => ∃ m k : Nat, m ≤ 2 ∧ i = .int .i64 m ∧ k = offR d c m ∧ J k wr ∧ wr.heap[Wn]? = some (.cells #[.slice A2 d.length c2, .slice A3 c.length c3] 53 (0, 0)) ∧ Aside0 (∀ k, k < z.heap.size → wr.heap[k]? = z.heap[k]?))
    (fun i _ => 2 - (intOf i).toNat)
  case atStart =>
    refine ⟨0, 0, by omega, rfl, rfl, hJ 0 _ _ h0 (Turn.alloc _ _), by rw [← hWn]; exact World.alloc_heap_new _ _, ⟨fun k hk => (Below.heap_alloc _ _ _ (by have := HZ.out; omega)).trans (hsW.out k hk)⟩⟩
  case round =>
    obtain ⟨m, k, hm, rfl, hk, hJs, hbk, hsr⟩ := hrel
    by_cases hlt : m < 2
    · obtain ⟨A, l, cp, hcell, hC, hl, hget, hoff⟩ : ∃ (A : Option Addr) (l : List Int) (cp : Nat), wr.cell? ⟨Wn, m, none⟩ = some (.slice A l.length cp) ∧ Aside0 (Kd.C (Kd.int .u32) z A l.length l) ∧ l.length ≤ 100000 ∧ Aside0 (∀ j, j < l.length → (d ++ c).getD (k + j) 0 = l.getD j 0) ∧ Aside0 (offR d c (m + 1) = k + l.length ∧ k + l.length ≤ d.length + c.length) := by
        by_cases h0 : m = 0
        · subst h0
          subst hk
          refine ⟨A2, d, c2, by rw [Lib.cell_of_heap hbk]; rfl, HC2, HD.out, ⟨fun j hj => ?_⟩, ⟨?_, ?_⟩⟩
          · simp only [offR, if_true, Nat.zero_add]
            rw [List.getD_eq_getElem?_getD, List.getD_eq_getElem?_getD, List.getElem?_append_left hj]
          · simp [offR]
          · simp [offR]
        · have h1 : m = 1 := by omega
          subst h1
          subst hk
          refine ⟨A3, c, c3, by rw [Lib.cell_of_heap hbk]; rfl, HC3, HCC.out, ⟨fun j hj => ?_⟩, ⟨?_, ?_⟩⟩
          · simp only [offR]
            rw [if_neg (by decide), if_pos trivial, List.getD_eq_getElem?_getD, List.getD_eq_getElem?_getD, List.getElem?_append_right (by omega), Nat.add_sub_cancel_left]
          · simp [offR]
          · simp [offR]
      have hltz : decide ((m : Int) < 2) = true := decide_eq_true (by omega)
      have hm0 : (0 : Int) ≤ (m : Int) := by omega
      have hm2 : (m : Int) < 2 := by omega
      have HLT := Aside0.mk hlt
      have HM := Aside0.mk hm
      have HK := Aside0.mk hk
      have em := wN m (by omega)
      clear hlt hm hk
      gi_wp2
      gi_loopw [19] (fun i wr => ∃ j : Nat, j ≤ l.length ∧ i = .int .i64 j ∧ J (k + j) wr ∧ wr.heap[Wn]? = some (.cells #[.slice A2 d.length c2, .slice A3 c.length c3] 53 (0, 0)) ∧ Aside0 (∀ k, k < z.heap.size → wr.heap[k]? = z.heap[k]?))
        (fun i _ => l.length - (intOf i).toNat)
      case atStart =>
        exact ⟨0, by omega, rfl, hJs, hbk, hsr⟩
      case round =>
        obtain ⟨j, hj, rfl, hJt, hbt, hst⟩ := hrel
        by_cases hjl : j < l.length
        · obtain ⟨ad, e0, g0⟩ := Kd.at_int hC.out (j : Int) (by omega) (by omega)
          subst e0
          have g1 := cell_same hst.out g0
          have hu : rd l (j : Int) = l.getD j 0 := by simp [rd]
          have hget2 := hget.out j hjl
          obtain ⟨u, hu2⟩ : ∃ u, l.getD j 0 = u := ⟨_, rfl⟩
          rw [hu, hu2] at g1
          rw [hu2] at hget2
          have hkN : k + j < d.length + c.length := by have := hoff.out.2; omega
          obtain ⟨fn, tmps, assign, body, hy, hR⟩ := hY (k + j) _ hkN hJt
          rw [hget2] at hy
          have hjz : decide ((j : Int) < (l.length : Int)) = true := decide_eq_true (by omega)
          have hj0 : (0 : Int) ≤ (j : Int) := by omega
          have hj1 : (j : Int) < (l.length : Int) := by omega
          simp only [Int.toNat_natCast] at g1
          have ej := wN j (by omega)
          have HKN := Aside0.mk hkN
          have HJL := Aside0.mk hjl
          clear hget2 hu hu2 hkN hjl hj g0
          gi_wp2
          refine hR.mono ?_
          rintro e W3 (⟨rfl, hJ3, hk3⟩ | ⟨rfl, hJx3⟩)
          · have hb3 := hk3.same Wn _ (.inr ⟨_, _, rfl⟩) hbt
            have hs3 : Aside0 (∀ k, k < z.heap.size → W3.heap[k]? = z.heap[k]?) := ⟨fun i hi => by
              have hx : z.heap[i]? = some z.heap[i] := Array.getElem?_eq_getElem hi
              exact (hk3.same i _ (.inl hi) ((hst.out i hi).trans hx)).trans hx.symm⟩
            gi_wp2
            go_roundw
            case rel => exact ⟨j + 1, HJL.out, rfl, hJ3, hb3, hs3⟩
            case measure => exact measM j l.length HJL.out
          · gi_wp2
            refine bodyPost_ret (results_none rfl _ _ _) rfl ?_
            exact ⟨⟨_, rfl⟩, .inr ⟨k + j + 1, HKN.out, hJx3⟩⟩
        · have hjz : decide ((j : Int) < (l.length : Int)) = false := decide_eq_false (by omega)
          have hjj : j = l.length := by omega
          subst hjj
          have hkk := hoff.out.1
          rw [← hkk] at hJt
          have HKK := Aside0.mk hkk
          clear hkk hjl hj
          gi_wp2
          go_roundw
          case rel => exact ⟨m + 1, _, HLT.out, rfl, rfl, hJt, hbt, hst⟩
          case measure => exact measM m 2 HLT.out
    · have hltz : decide ((m : Int) < 2) = false := decide_eq_false (by omega)
      have hmm : m = 2 := by omega
      subst hmm
      have hkk : k = d.length + c.length := by rw [hk]; rfl
      have HKK := Aside0.mk hkk
      clear hlt hm hk hkk
      gi_wp2
      go_end0
      exact ⟨⟨_, rfl⟩, .inl (HKK.out ▸ hJs)⟩
end Go.Proofs.Ythgefgjaihagoaa.Q

set_option linter.unusedVariables false
set_option linter.unusedSimpArgs false
namespace Go.Proofs.Ythgefgjaihagoaa.Q
open Go.RowKit Go.Maps Go.Shelf Go.Proofs.Ythgefgjaihagoaa.H Go.Proofs.YthgefgjaihagoaaW.PrintWords Go.Proofs.YthgefgjaihagoaaW.PrintLast Go.Proofs.YthgefgjaihagoaaW.PrintMore
attribute [local go_sem] Oper.semAt_some
set_option maxRecDepth 100000

/-- Are all that come within the bounds, and none of them met ahead? -/
def okL : List Int → List Int → Bool
  | _, [] => true
  | pre, x :: xs => !(decide (x < 16)) && (!(decide (x ≥ 4096)) && (!(decide (x ∈ pre)) && okL (pre ++ [x]) xs))
def headR (a b : Int) (n m : Nat) : Bool := a == 0 || (decide (a ≥ 281474976710656) || (decide (b ≥ 281474976710656) || (decide ((n : Int) = 0) || (decide ((n : Int) > 60) || (decide ((m : Int) = 0) || decide ((m : Int) > 12))))))
def rightV (a b : Int) (d c : List Int) : Bool := !(headR a b d.length c.length) && okL [] (d ++ c)
def root_Right.f (a b : Int) (d c : List Int) : Option Bool := some (rightV a b d c)

theorem okL_step (l : List Int) (k : Nat) (h : k < l.length) : okL (l.take k) (l.drop k) = (!(decide (l.getD k 0 < 16)) && (!(decide (l.getD k 0 ≥ 4096)) && (!(decide (l.getD k 0 ∈ l.take k)) && okL (l.take (k + 1)) (l.drop (k + 1))))) := by
  have e : l.getD k 0 = l[k] := by simp [h]
  rw [List.drop_eq_getElem_cons h, e, List.take_succ_eq_append_getElem h]
  rfl
theorem u32_small (u : Int) (h0 : 0 ≤ u) (h : u < 4096) : (Lit.int .u32 u).wf = true := by
  have : u ∈ (List.range 4096).map (fun n : Nat => (n : Int)) := by
    rw [List.mem_map]; exact ⟨u.toNat, by rw [List.mem_range]; omega, by omega⟩
  simp [Lit.wf, IntKind.min, IntKind.max, IntKind.bits, IntKind.signed]; omega
theorem lookB {W : World} {b n : Nat} {D : DataW Unit} {u : Int} {bb : Bool} (hm : W.ownsMap Try.prog 41 (plainElem (H := Unit) Try.prog 4) b n D) (hw : (Lit.int .u32 u).wf = true)
    (hat : D.atKey (.int .u32 u) (.lit (.bool false)) = .lit (.bool bb)) : (Instr.lookup 166 (.map (some b)) (.int .u32 u) false).run Try.prog W = .ok (.bool bb) W := by
  obtain ⟨v, ps, hrun, hv⟩ := hm.lookup (int_keyed Try.underlying41) Try.underlying166 (z := .bool false) (by rfl) (plainElem_bool Try.underlying4 false) (keyOf_int_mk Try.underlying41 hw)
  rw [hat] at hv
  unfold plainElem at hv
  rw [show Try.prog.underlying 4 = some .bool from Try.underlying4] at hv
  cases v <;> simp at hv
  obtain ⟨rfl, _⟩ := hv
  exact hrun

set_option maxHeartbeats 8000000 in
theorem right_yes (a b : Int) (A2 : Option Addr) (c2 : Nat) (d : List Int) (A3 : Option Addr) (c3 : Nat) (c : List Int) (w : World) (hC2 : Kd.C (Kd.int .u32) w A2 d.length d) (hC3 : Kd.C (Kd.int .u32) w A3 c.length c)
    (h1 : (a == 0) = false) (h2 : decide (281474976710656 ≤ a) = false) (h3 : decide (281474976710656 ≤ b) = false) (h4 : ((d.length : Int) == 0) = false) (h5 : decide (60 < (d.length : Int)) = false) (h6 : ((c.length : Int) == 0) = false) (h7 : decide (12 < (c.length : Int)) = false) :
    Calls Try.prog 58 #[.agg #[.int .u64 a, .int .u64 b, .slice A2 d.length c2, .slice A3 c.length c3]] w fun e w' => e = .returned (.bool (okL [] (d ++ c))) ∧ Below w.heap.size w w' := by
  have HC2 := Aside0.mk hC2
  have HC3 := Aside0.mk hC3
  clear hC2 hC3
  refine (callsIn_wide (n := 10)).1 ?_
  refine callsIn_of_wp_marks Try.func58 rfl trivial ?_ rfl
  simp only [Try.ntmps58, List.size_toArray, List.length_cons, List.length_nil, Nat.reduceAdd, Nat.reduceSub, Array.replicate_succ, Array.replicate_zero, List.push_toArray, List.append_toArray, List.nil_append, List.cons_append]
  gi_wp2_with fail
  refine wpIn_scope ?_
  gi_wp2_with fail
  rw [run_makeMap]
  gi_wp2
  obtain ⟨H, hH⟩ : ∃ H, w.heap.size = H := ⟨_, rfl⟩
  simp only [hH, Nat.add_assoc, Nat.reduceAdd]
  obtain ⟨W0, hW0⟩ : ∃ W0, (((w.alloc (.cells #[.int .u64 a, .int .u64 b, .slice A2 d.length c2, .slice A3 c.length c3] 55)).alloc (.cells #[.bool true] 4)).alloc (.map #[] 0)).alloc (.cells #[.map (some (H + 2))] 166) = W0 := ⟨_, rfl⟩
  have hs0 : W0.heap.size = H + 4 := by rw [← hW0]; simp [hH]
  have hB0 : Below H w W0 := by rw [← hW0]; exact ((((Below.refl H w).alloc (by omega) _).alloc (by simp; omega) _).alloc (by simp; omega) _).alloc (by simp; omega) _
  have x0 : W0.heap[H]? = some (.cells #[.int .u64 a, .int .u64 b, .slice A2 d.length c2, .slice A3 c.length c3] 55 (0, 0)) := by
    rw [← hW0, Below.heap_alloc _ _ _ (by simp; omega), Below.heap_alloc _ _ _ (by simp; omega), Below.heap_alloc _ _ _ (by simp; omega), ← hH]
    exact World.alloc_heap_new _ _
  have o0 : Boxed W0 (H + 1) 4 (.bool true) := by
    rw [← hW0]
    have := (Boxed.new (w.alloc (.cells #[.int .u64 a, .int .u64 b, .slice A2 d.length c2, .slice A3 c.length c3] 55)) 4 (.bool true)).alloc (.map #[] 0) |>.alloc (.cells #[.map (some (H + 2))] 166)
    rwa [World.size_alloc, hH] at this
  have m0 : W0.ownsMap Try.prog 41 (plainElem (H := Unit) Try.prog 4) (H + 2) 0 (.map []) := by
    rw [← hW0]
    have := (World.ownsMap_made (H := Unit) ((w.alloc (.cells #[.int .u64 a, .int .u64 b, .slice A2 d.length c2, .slice A3 c.length c3] 55)).alloc (.cells #[.bool true] 4)) Try.prog 41 (plainElem Try.prog 4)).alloc (.cells #[.map (some (H + 2))] 166)
    rwa [World.size_alloc, World.size_alloc, hH] at this
  have b0 : Boxed W0 (H + 3) 166 (.map (some (H + 2))) := by
    rw [← hW0]
    have := Boxed.new (((w.alloc (.cells #[.int .u64 a, .int .u64 b, .slice A2 d.length c2, .slice A3 c.length c3] 55)).alloc (.cells #[.bool true] 4)).alloc (.map #[] 0)) 166 (.map (some (H + 2)))
    rwa [World.size_alloc, World.size_alloc, World.size_alloc, hH] at this
  simp only [hW0]
  clear hW0
  have q0 : W0.cell? ⟨H, 0, none⟩ = some (.int .u64 a) := by rw [Lib.cell_of_heap x0]; rfl
  have q1 : W0.cell? ⟨H, 1, none⟩ = some (.int .u64 b) := by rw [Lib.cell_of_heap x0]; rfl
  have q2 : W0.cell? ⟨H, 2, none⟩ = some (.slice A2 d.length c2) := by rw [Lib.cell_of_heap x0]; rfl
  have q3 : W0.cell? ⟨H, 3, none⟩ = some (.slice A3 c.length c3) := by rw [Lib.cell_of_heap x0]; rfl
  have HX := Aside0.mk x0
  clear x0
  refine wpIn_label ?_
  gi_wp2_with fail
  refine ⟨trivial, (callsIn_wide.2 (all_calls a b A2 d.length c2 A3 c.length c3 W0)).mono ?_⟩
  rintro e W1 ⟨rfl, hW1⟩
  have hs1 : W1.heap.size = H + 5 := by rw [hW1]; simp [hs0]
  have x1 : W1.heap[H + 4]? = some (.cells #[.int .u64 a, .int .u64 b, .slice A2 d.length c2, .slice A3 c.length c3] 55 (0, 0)) := by
    rw [hW1, ← hs0]; exact World.alloc_heap_new _ _
  have hB1 : Below H w W1 := by rw [hW1]; exact hB0.alloc (by omega) _
  have o1 : Boxed W1 (H + 1) 4 (.bool true) := by rw [hW1]; exact o0.alloc _
  have b1 : Boxed W1 (H + 3) 166 (.map (some (H + 2))) := by rw [hW1]; exact b0.alloc _
  have m1 : W1.ownsMap Try.prog 41 (plainElem (H := Unit) Try.prog 4) (H + 2) 0 (.map []) := by rw [hW1]; exact m0.alloc _
  rw [hs0]
  clear hW1 hs0 hB0 q0 q1 q2 q3 HX o0 b0 m0
  have hdl : d.length ≤ 60 := by have := of_decide_eq_false h5; omega
  have hcl : c.length ≤ 12 := by have := of_decide_eq_false h7; omega
  gi_wp2_with fail
  have hBz : Below w.heap.size w W1 := by rw [hH]; exact hB1
  refine wpIn_rangeT rfl (by omega) (gf := 90) (lb := #[.pointer (some ⟨H + 4, 0, none⟩)]) rfl trivial (enters_of Try.func90 (by kernel_rfl) rfl)
    (all_seq 9 (by omega) a b A2 c2 d A3 c3 c (H + 4) w W1 hBz x1 HC2.out HC3.out (by omega) (by omega)) (Below.refl _ _) (fun _ => rfl) (fun h => h.elim) (fun h => h.elim) (fun L h => h.elim (fun h => by omega) (fun ⟨_, _, h⟩ => by cases h))
    (fun k W => Boxed W (H + 1) 4 (.bool true) ∧ Boxed W (H + 3) 166 (.map (some (H + 2))) ∧ Below H w W ∧ (∃ D, W.ownsMap Try.prog 41 (plainElem (H := Unit) Try.prog 4) (H + 2) k D ∧ Aside0 (IsMap D ∧ (∀ x, D.atKey (.int .u32 x) (.lit (.bool false)) = .lit (.bool (decide (x ∈ (d ++ c).take k)))) ∧ okL [] (d ++ c) = okL ((d ++ c).take k) ((d ++ c).drop k))))
    (fun q k W => q = .exit 0 ∧ Boxed W (H + 1) 4 (.bool false) ∧ Below H w W ∧ okL [] (d ++ c) = false)
    (fun k => (stands_box _ _ _ (by rintro (h | h | h) <;> first | exact h.elim | omega)).and ((stands_box _ _ _ (by rintro (h | h | h) <;> first | exact h.elim | omega)).and ((stands_below (by omega) (by rintro j (h | h | h) <;> first | exact h.elim | omega)).and (stands_ex fun D => (stands_map (by rintro (h | h | h) <;> first | exact h.elim | omega)).and (stands_pure _)))))
    (fun q k => (stands_pure _).and ((stands_box _ _ _ (by rintro (h | h | h) <;> first | exact h.elim | omega)).and ((stands_below (by omega) (by rintro j (h | h | h) <;> first | exact h.elim | omega)).and (stands_pure _))))
    ⟨o1, b1, hB1, _, m1, ⟨⟨_, rfl⟩, fun x => by rfl, rfl⟩⟩
    (fun k => { tmps := #[.agg #[.int .u64 a, .int .u64 b, .slice A2 d.length c2, .slice A3 c.length c3], .pointer (some ⟨H, 0, none⟩), .bool false, .pointer (some ⟨H + 1, 0, none⟩), .pointer (some ⟨H + 3, 0, none⟩), .int .u32 ((d ++ c).getD k 0), .pointer (some ⟨H, 0, none⟩), .int .u64 a, .bool false, .bool false, .pointer (some ⟨H, 0, none⟩), .int .u64 a, .bool false, .bool false, .bool false, .pointer (some ⟨H, 1, none⟩), .int .u64 b, .bool false, .bool false, .bool false, .pointer (some ⟨H, 2, none⟩), .slice A2 d.length c2, .int .i64 d.length, .bool false, .bool false, .bool false, .pointer (some ⟨H, 2, none⟩), .slice A2 d.length c2, .int .i64 d.length, .bool false, .bool false, .bool false, .pointer (some ⟨H, 3, none⟩), .slice A3 c.length c3, .int .i64 c.length, .bool false, .bool false, .bool false, .pointer (some ⟨H, 3, none⟩), .slice A3 c.length c3, .int .i64 c.length, .bool false, .bool false, .map (some (H + 2)), .agg #[.int .u64 a, .int .u64 b, .slice A2 d.length c2, .slice A3 c.length c3], .func (.func 90) #[] #[.pointer (some ⟨H + 4, 0, none⟩)], .int .u32 ((d ++ c).getD k 0), undef, undef, undef, undef, undef, undef, undef, undef, undef, undef, undef, undef, undef, undef], defers := [] }) ?assign ?body ?done ?stop
  case assign =>
    intro lp k W K hK
    gi_wp2
    exact hK
  case body =>
    rintro lp k W hk hWs ⟨o, bm, hB, D, hm, hD⟩
    dsimp only
    obtain ⟨u, hu⟩ : ∃ u, (d ++ c).getD k 0 = u := ⟨_, rfl⟩
    have hlen : k < (d ++ c).length := by rw [List.length_append]; exact hk
    have hstep := hD.out.2.2.trans (okL_step (d ++ c) k hlen)
    rw [hu] at hstep
    have hat := hD.out.2.1 u
    have htk : (d ++ c).take (k + 1) = (d ++ c).take k ++ [u] := by
      rw [List.take_succ_eq_append_getElem hlen, ← hu]; congr 1; simp [List.getD_eq_getElem?_getD, List.getElem?_eq_getElem hlen]
    have HT := Aside0.mk htk
    have HU := Aside0.mk hu
    simp only [hu]
    clear hu htk
    have oc := o.cell
    have of := o.frozen
    have bc := bm.cell
    have hk72 : k < maxLen := by unfold maxLen; omega
    have HK72 := Aside0.mk hk72
    have HHS := Aside0.mk hWs
    clear hk72 hk hlen hWs
    by_cases hu1 : u < 16
    · have e1 : decide (u < 16) = true := decide_eq_true hu1
      rw [e1] at hstep
      have hno : okL [] (d ++ c) = false := by rw [hstep]; rfl
      have HNO := Aside0.mk hno
      clear hno hstep hat hu1
      gi_wp2
      exact ⟨.of_others (KeepsOthers.setCell _ _ _), rfl, o.set _, hB.setCell (p := ⟨H + 1, 0, none⟩) (Nat.le_succ H) _, HNO.out⟩
    · have e1 : decide (u < 16) = false := decide_eq_false hu1
      by_cases hu2 : u ≥ 4096
      · have e2 : decide (4096 ≤ u) = true := decide_eq_true hu2
        have hno : okL [] (d ++ c) = false := by rw [hstep, e1, show decide (u ≥ 4096) = true from e2]; rfl
        have HNO := Aside0.mk hno
        clear hno hstep hat hu1 hu2
        gi_wp2
        exact ⟨.of_others (KeepsOthers.setCell _ _ _), rfl, o.set _, hB.setCell (p := ⟨H + 1, 0, none⟩) (Nat.le_succ H) _, HNO.out⟩
      · have e2 : decide (4096 ≤ u) = false := decide_eq_false hu2
        have hw := u32_small u (by omega) (by omega)
        have hrun := lookB hm hw hat
        by_cases hu3 : u ∈ (d ++ c).take k
        · have e3 : decide (u ∈ (d ++ c).take k) = true := decide_eq_true hu3
          rw [e3] at hrun
          have hno : okL [] (d ++ c) = false := by rw [hstep, e1, show decide (u ≥ 4096) = false from e2, e3]; rfl
          have HNO := Aside0.mk hno
          clear hno hstep hat hu1 hu2 hu3 e3
          gi_wp2
          exact ⟨.of_others (KeepsOthers.setCell _ _ _), rfl, o.set _, hB.setCell (p := ⟨H + 1, 0, none⟩) (Nat.le_succ H) _, HNO.out⟩
        · have e3 : decide (u ∈ (d ++ c).take k) = false := decide_eq_false hu3
          rw [e3] at hrun
          have hgo : okL [] (d ++ c) = okL ((d ++ c).take (k + 1)) ((d ++ c).drop (k + 1)) := by rw [hstep, e1, show decide (u ≥ 4096) = false from e2, e3]; rfl
          have HGO := Aside0.mk hgo
          have HW := Aside0.mk hw
          clear hgo hstep hat hu1 hu2 hu3 e3 hw
          gi_wp2_with (first | (gi_at_mapUpdate; refine wpListIn_mapUpdate_own _ rfl _ _ _ 166 rfl 41 4 (int_keyed Try.underlying41) Try.underlying166 _ (H + 2) k D rfl hm HK72.out _ _ (.int .u32 u) rfl rfl (keyOf_int_mk Try.underlying41 HW.out) (.lit (.bool true)) [] (plainElem_bool Try.underlying4 true) ?_; intro w1 hown1 hgrow1) | gi_in)
          have hsz := hgrow1.size
          refine ⟨.of_grownBy hgrow1 ?_, .of_same hsz (fun j q hj hq => hgrow1.block j (Array.getElem?_eq_some_iff.1 hq).1 ?_), o.kept hgrow1 (by simp), bm.kept hgrow1 (by simp), hB.grown hgrow1 (by have := HHS.out; omega) (fun j ej => by cases ej; omega), _, hown1, ⟨?_, ?_, HGO.out⟩⟩
          · intro j q ej hq
            cases ej
            obtain ⟨es, clock, hb, _⟩ := hm
            rw [hb] at hq; cases hq; rfl
          · intro ej
            cases ej
            rcases hj with hj | ⟨_, _, rfl⟩
            · omega
            · obtain ⟨es, clock, hb, _⟩ := hm
              rw [hb] at hq; cases hq
          · exact hD.out.1.put _ _
          · intro x
            by_cases hx : x = u
            · subst hx
              rw [atKey_put_same hD.out.1 (by trivial), HT.out]; simp
            · rw [atKey_put_other (by intro h; cases h; exact hx rfl), hD.out.2.1 x, HT.out]; simp [hx]
  case done =>
    rintro W ⟨o, bm, hB, D, hm, hD⟩ hWs hDf
    have oc := o.cell
    have hr : okL [] (d ++ c) = true := by
      rw [hD.out.2.2, List.drop_of_length_le (by rw [List.length_append]; omega)]; rfl
    have HR := Aside0.mk hr
    clear hr
    gi_wp2
    refine ⟨by simp, .inl ⟨_, _, rfl, run_takeDeferred hDf, ?_⟩⟩
    refine ⟨_, results_tmp rfl _ _ _, ?_⟩
    refine ⟨by rw [HR.out]; rfl, ?_⟩
    rw [hH]
    exact hB.trans (belowK_b (w := W1) (by omega) W _ _ _ (by omega) hDf rfl rfl)
  case stop =>
    rintro q k W hk ⟨rfl, o, hB, hr⟩ hWs hDf
    have oc := o.cell
    have HR := Aside0.mk hr
    clear hr
    gi_wp2
    simp only [Exit.noGoto]
    refine ⟨by simp, .inl ⟨_, _, rfl, run_takeDeferred hDf, ?_⟩⟩
    refine ⟨_, results_tmp rfl _ _ _, ?_⟩
    refine ⟨by rw [HR.out]; rfl, ?_⟩
    rw [hH]
    exact hB.trans (belowK_b (w := W1) (by omega) W _ _ _ (by omega) hDf rfl rfl)
set_option maxHeartbeats 4000000 in
theorem right_no0 (a b : Int) (A2 : Option Addr) (n2 c2 : Nat) (A3 : Option Addr) (n3 c3 : Nat) (w : World) (h1 : (a == 0) = true) :
    Calls Try.prog 58 #[.agg #[.int .u64 a, .int .u64 b, .slice A2 n2 c2, .slice A3 n3 c3]] w fun e w' => e = .returned (.bool false) ∧ Below w.heap.size w w' := by
  go_enter Try.func58, Try.ntmps58
  go_wp2_with fail
  refine wp_scope_straight ?_
  go_wp2_with fail
  (try simp only [Exit.noGoto])
  go_ret
  exact ⟨rfl, (Below.refl _ w).alloc (Nat.le_refl _) _⟩
set_option maxHeartbeats 4000000 in
theorem right_no1 (a b : Int) (A2 : Option Addr) (n2 c2 : Nat) (A3 : Option Addr) (n3 c3 : Nat) (w : World) (h1 : (a == 0) = false) (h2 : decide (281474976710656 ≤ a) = true) :
    Calls Try.prog 58 #[.agg #[.int .u64 a, .int .u64 b, .slice A2 n2 c2, .slice A3 n3 c3]] w fun e w' => e = .returned (.bool false) ∧ Below w.heap.size w w' := by
  go_enter Try.func58, Try.ntmps58
  go_wp2_with fail
  refine wp_scope_straight ?_
  go_wp2_with fail
  (try simp only [Exit.noGoto])
  go_ret
  exact ⟨rfl, (Below.refl _ w).alloc (Nat.le_refl _) _⟩
set_option maxHeartbeats 4000000 in
theorem right_no2 (a b : Int) (A2 : Option Addr) (n2 c2 : Nat) (A3 : Option Addr) (n3 c3 : Nat) (w : World) (h1 : (a == 0) = false) (h2 : decide (281474976710656 ≤ a) = false) (h3 : decide (281474976710656 ≤ b) = true) :
    Calls Try.prog 58 #[.agg #[.int .u64 a, .int .u64 b, .slice A2 n2 c2, .slice A3 n3 c3]] w fun e w' => e = .returned (.bool false) ∧ Below w.heap.size w w' := by
  go_enter Try.func58, Try.ntmps58
  go_wp2_with fail
  refine wp_scope_straight ?_
  go_wp2_with fail
  (try simp only [Exit.noGoto])
  go_ret
  exact ⟨rfl, (Below.refl _ w).alloc (Nat.le_refl _) _⟩
set_option maxHeartbeats 4000000 in
theorem right_no3 (a b : Int) (A2 : Option Addr) (n2 c2 : Nat) (A3 : Option Addr) (n3 c3 : Nat) (w : World) (h1 : (a == 0) = false) (h2 : decide (281474976710656 ≤ a) = false) (h3 : decide (281474976710656 ≤ b) = false) (h4 : ((n2 : Int) == 0) = true) :
    Calls Try.prog 58 #[.agg #[.int .u64 a, .int .u64 b, .slice A2 n2 c2, .slice A3 n3 c3]] w fun e w' => e = .returned (.bool false) ∧ Below w.heap.size w w' := by
  go_enter Try.func58, Try.ntmps58
  go_wp2_with fail
  refine wp_scope_straight ?_
  go_wp2_with fail
  (try simp only [Exit.noGoto])
  go_ret
  exact ⟨rfl, (Below.refl _ w).alloc (Nat.le_refl _) _⟩
set_option maxHeartbeats 4000000 in
theorem right_no4 (a b : Int) (A2 : Option Addr) (n2 c2 : Nat) (A3 : Option Addr) (n3 c3 : Nat) (w : World) (h1 : (a == 0) = false) (h2 : decide (281474976710656 ≤ a) = false) (h3 : decide (281474976710656 ≤ b) = false) (h4 : ((n2 : Int) == 0) = false) (h5 : decide (60 < (n2 : Int)) = true) :
    Calls Try.prog 58 #[.agg #[.int .u64 a, .int .u64 b, .slice A2 n2 c2, .slice A3 n3 c3]] w fun e w' => e = .returned (.bool false) ∧ Below w.heap.size w w' := by
  go_enter Try.func58, Try.ntmps58
  go_wp2_with fail
  refine wp_scope_straight ?_
  go_wp2_with fail
  (try simp only [Exit.noGoto])
  go_ret
  exact ⟨rfl, (Below.refl _ w).alloc (Nat.le_refl _) _⟩
set_option maxHeartbeats 4000000 in
theorem right_no5 (a b : Int) (A2 : Option Addr) (n2 c2 : Nat) (A3 : Option Addr) (n3 c3 : Nat) (w : World) (h1 : (a == 0) = false) (h2 : decide (281474976710656 ≤ a) = false) (h3 : decide (281474976710656 ≤ b) = false) (h4 : ((n2 : Int) == 0) = false) (h5 : decide (60 < (n2 : Int)) = false) (h6 : ((n3 : Int) == 0) = true) :
    Calls Try.prog 58 #[.agg #[.int .u64 a, .int .u64 b, .slice A2 n2 c2, .slice A3 n3 c3]] w fun e w' => e = .returned (.bool false) ∧ Below w.heap.size w w' := by
  go_enter Try.func58, Try.ntmps58
  go_wp2_with fail
  refine wp_scope_straight ?_
  go_wp2_with fail
  (try simp only [Exit.noGoto])
  go_ret
  exact ⟨rfl, (Below.refl _ w).alloc (Nat.le_refl _) _⟩
set_option maxHeartbeats 4000000 in
theorem right_no6 (a b : Int) (A2 : Option Addr) (n2 c2 : Nat) (A3 : Option Addr) (n3 c3 : Nat) (w : World) (h1 : (a == 0) = false) (h2 : decide (281474976710656 ≤ a) = false) (h3 : decide (281474976710656 ≤ b) = false) (h4 : ((n2 : Int) == 0) = false) (h5 : decide (60 < (n2 : Int)) = false) (h6 : ((n3 : Int) == 0) = false) (h7 : decide (12 < (n3 : Int)) = true) :
    Calls Try.prog 58 #[.agg #[.int .u64 a, .int .u64 b, .slice A2 n2 c2, .slice A3 n3 c3]] w fun e w' => e = .returned (.bool false) ∧ Below w.heap.size w w' := by
  go_enter Try.func58, Try.ntmps58
  go_wp2_with fail
  refine wp_scope_straight ?_
  go_wp2_with fail
  (try simp only [Exit.noGoto])
  go_ret
  exact ⟨rfl, (Below.refl _ w).alloc (Nat.le_refl _) _⟩
theorem root_Right.calls (a b : Int) (A2 : Option Addr) (c2 : Nat) (d : List Int) (A3 : Option Addr) (c3 : Nat) (c : List Int) (r : Bool) (w : World) (hC2 : Kd.C (Kd.int .u32) w A2 d.length d) (hc2 : d.length ≤ c2) (hC3 : Kd.C (Kd.int .u32) w A3 c.length c) (hc3 : c.length ≤ c3) (h : root_Right.f a b d c = some r) :
    Calls Try.prog 58 #[.agg #[.int .u64 a, .int .u64 b, .slice A2 d.length c2, .slice A3 c.length c3]] w fun e w' => e = .returned (.bool r) ∧ Below w.heap.size w w' := by
  obtain rfl := Option.some.inj h
  unfold rightV headR
  cases h1 : (a == 0) with
  | true => exact right_no0 a b A2 _ c2 A3 _ c3 w h1
  | false =>
  cases h2 : decide (a ≥ 281474976710656) with
  | true => exact right_no1 a b A2 _ c2 A3 _ c3 w h1 h2
  | false =>
  cases h3 : decide (b ≥ 281474976710656) with
  | true => exact right_no2 a b A2 _ c2 A3 _ c3 w h1 h2 h3
  | false =>
  cases h4 : decide ((d.length : Int) = 0) with
  | true => exact right_no3 a b A2 _ c2 A3 _ c3 w h1 h2 h3 h4
  | false =>
  cases h5 : decide ((d.length : Int) > 60) with
  | true => exact right_no4 a b A2 _ c2 A3 _ c3 w h1 h2 h3 h4 h5
  | false =>
  cases h6 : decide ((c.length : Int) = 0) with
  | true => exact right_no5 a b A2 _ c2 A3 _ c3 w h1 h2 h3 h4 h5 h6
  | false =>
  cases h7 : decide ((c.length : Int) > 12) with
  | true => exact right_no6 a b A2 _ c2 A3 _ c3 w h1 h2 h3 h4 h5 h6 h7
  | false => exact right_yes a b A2 c2 d A3 c3 c w hC2 hC3 h1 h2 h3 h4 h5 h6 h7
end Go.Proofs.Ythgefgjaihagoaa.Q

set_option linter.unusedVariables false
set_option linter.unusedSimpArgs false
namespace Go.Proofs.Ythgefgjaihagoaa.Q
open Go.RowKit Go.Shelf Go.Proofs.Ythgefgjaihagoaa.H Go.Proofs.YthgefgjaihagoaaW.PrintWords Go.Proofs.YthgefgjaihagoaaW.PrintLast Go.Proofs.YthgefgjaihagoaaW.PrintMore
attribute [local go_sem] Oper.semAt_some
set_option maxRecDepth 100000

def numsB (l : List Int) : List UInt8 := (l.map fun x => lowBytes x 4).flatten
def rootL (a b : Int) (d c : List Int) : List UInt8 := lowBytes a 6 ++ lowBytes b 6 ++ lowBytes d.length 1 ++ lowBytes c.length 1 ++ numsB (d ++ c)
def rootB (a b : Int) (d c : List Int) : ByteArray := ⟨(rootL a b d c ++ List.replicate (508 - (rootL a b d c).length) (0 : UInt8)).toArray⟩
def root_Encode.f (a b : Int) (d c : List Int) : Option (ByteArray × Int) := if rightV a b d c = true then (if 0 ≤ a ∧ 0 ≤ b then some (rootB a b d c, 0) else none) else some (⟨#[]⟩, 153)
theorem putR_f {n wd : Int} (h1 : 1 ≤ wd) (h8 : wd ≤ 8) (h0 : 0 ≤ n) (hn : n < 256 ^ wd.toNat) (hn2 : n < 18446744073709551616) : num_Put.f n wd = some (leB n wd.toNat, 0) := by
  unfold num_Put.f
  rw [if_pos ⟨h0, hn2⟩, if_pos ⟨h1, h8⟩, if_pos (Int.ediv_eq_zero_of_lt h0 hn)]; rfl
theorem kept_below {e : TypeId} {b : Nat} {W W' : World} (h : Below W.heap.size W W') : Lib.OthersKept e (some b) W W' := fun k o hk _ _ => (h.block k (Array.getElem?_eq_some_iff.1 hk).1).trans hk
theorem kept_trans {e : TypeId} {b : Nat} {A B C : World} (h : Lib.OthersKept e (some b) A B) (k : Lib.OthersKept e (some b) B C) : Lib.OthersKept e (some b) A C := fun i o hi hb ho => k i o (h i o hi hb ho) hb ho
set_option maxHeartbeats 4000000 in
theorem putR_calls (B : Nat) (n wd : Int) (xs : List UInt8) (w : World) (hp : num_Put.f n wd = some (leB n wd.toNat, 0)) (hwd : wd.toNat ≤ 8) (hB : Lib.IsBuilderF 117 5 B B (Lib.byteCells xs) w) (hx : xs.length ≤ 100000) (hBw : B < w.heap.size) :
    Calls Try.prog 59 #[.int .u64 n, .int .i64 wd, .pointer (some ⟨B, 0, none⟩)] w fun e w' => (∃ v, e = .returned v) ∧ Lib.IsBuilderF 117 5 B B (Lib.byteCells (xs ++ lowBytes n wd.toNat)) w' ∧ Below B w w' ∧ Lib.OthersKept 5 (some B) w w' := by
  go_enter Try.func59, Try.ntmps59
  go_wp2_with fail
  refine (num_Put.calls _ _ _ _ _ hp).mono ?_
  rintro e w1 ⟨rfl, hb1⟩
  have hB1 := (Turn.of_below (own := fun _ => False) (T := fun _ => False) hb1).builder hB (fun h => h) (fun h => h)
  have hs1 := hb1.size
  have hsz : (leB n wd.toNat).size ≤ 8 := by rw [leB_size]; exact hwd
  go_wp2_with fail
  refine (b_WriteString B B _ (leB n wd.toNat) w1 hB1 (by rw [Lib.byteCells_length]; omega) (by omega)).mono ?_
  rintro e w2 ⟨rfl, hB2, hbe2, ho2⟩
  go_wp2
  go_end0
  refine ⟨⟨_, rfl⟩, ?_, (hb1.mono (by omega)).trans hbe2, kept_trans (kept_below hb1) ho2⟩
  rw [Lib.byteCells_append]
  exact .inr hB2

theorem okL_all : ∀ (l pre : List Int), okL pre l = true → ∀ x ∈ l, 16 ≤ x ∧ x < 4096
  | [], _, _ => by simp
  | x :: xs, pre, h => by
    unfold okL at h
    simp only [Bool.and_eq_true, Bool.not_eq_true', decide_eq_false_iff_not] at h
    intro y hy
    rcases List.mem_cons.1 hy with rfl | hy
    · omega
    · exact okL_all xs _ h.2.2.2 y hy
theorem right_facts {a b : Int} {d c : List Int} (h : rightV a b d c = true) : a < 281474976710656 ∧ b < 281474976710656 ∧ d.length ≤ 60 ∧ c.length ≤ 12 ∧ ∀ x ∈ d ++ c, 16 ≤ x ∧ x < 4096 := by
  unfold rightV headR at h
  simp only [Bool.and_eq_true, Bool.not_eq_true', Bool.or_eq_false_iff, decide_eq_false_iff_not] at h
  exact ⟨by omega, by omega, by omega, by omega, okL_all _ _ h.2⟩
theorem numsB_take (l : List Int) (k : Nat) (h : k < l.length) : numsB (l.take (k + 1)) = numsB (l.take k) ++ lowBytes (l.getD k 0) 4 := by
  have e : l.getD k 0 = l[k] := by simp [h]
  unfold numsB
  rw [List.take_succ_eq_append_getElem h, List.map_append, List.flatten_append, e]; simp
theorem numsB_len : ∀ (l : List Int), (numsB l).length = 4 * l.length
  | [] => rfl
  | x :: xs => by
    have := numsB_len xs
    unfold numsB at this ⊢
    simp only [List.map_cons, List.flatten_cons, List.length_append, lowBytes_length, List.length_cons]; omega
def rootH (a b : Int) (d c : List Int) : List UInt8 := lowBytes a 6 ++ lowBytes b 6 ++ lowBytes d.length 1 ++ lowBytes c.length 1
theorem rootH_len (a b : Int) (d c : List Int) : (rootH a b d c).length = 14 := by simp [rootH, lowBytes_length]
theorem rootL_len (a b : Int) (d c : List Int) : (rootL a b d c).length = 14 + 4 * (d.length + c.length) := by
  show (rootH a b d c ++ numsB (d ++ c)).length = _
  rw [List.length_append, rootH_len, numsB_len, List.length_append]
theorem fit_root (a b : Int) (d c : List Int) (h : d.length + c.length ≤ 72) : num_Fit.f ⟨(rootL a b d c).toArray⟩ 508 = some (rootB a b d c, 0) := by
  have hs : (⟨(rootL a b d c).toArray⟩ : ByteArray).size = 14 + 4 * (d.length + c.length) := by rw [← rootL_len a b d c]; simp [ByteArray.size]
  unfold num_Fit.f
  rw [if_neg (by omega), if_neg (by omega), if_neg (by omega), hs]
  have he : (⟨(rootL a b d c).toArray⟩ : ByteArray) ++ zerosB ((508 : Int) - ((14 + 4 * (d.length + c.length) : Nat) : Int)).toNat = rootB a b d c := by
    unfold rootB zerosB
    apply ByteArray.ext
    rw [rootL_len, show ((508 : Int) - ((14 + 4 * (d.length + c.length) : Nat) : Int)).toNat = 508 - (14 + 4 * (d.length + c.length)) by omega]
    simp
  rw [he]

/-- How the world stands behind a put. -/
structure RSt (a b : Int) (A2 : Option Addr) (c2 n2 : Nat) (A3 : Option Addr) (c3 n3 : Nat) (H G : Nat) (w : World) (xs : List UInt8) (W : World) : Prop where
  hb : Lib.IsBuilderF 117 5 G G (Lib.byteCells xs) W
  hr : W.heap[H]? = some (.cells #[.int .u64 a, .int .u64 b, .slice A2 n2 c2, .slice A3 n3 c3] 55 (0, 0))
  hp : W.heap[G + 1]? = some (.cells #[.func (.func 59) #[] #[.pointer (some ⟨G, 0, none⟩)]] 131 (0, 0))
  hw : Below H w W
  hs : G + 2 ≤ W.heap.size
variable {a b : Int} {A2 : Option Addr} {c2 n2 : Nat} {A3 : Option Addr} {c3 n3 : Nat} {H G : Nat} {w W W' : World} {xs ys : List UInt8}
theorem RSt.put (h : RSt a b A2 c2 n2 A3 c3 n3 H G w xs W) (hH : H < G) (h1 : Lib.IsBuilderF 117 5 G G (Lib.byteCells (xs ++ ys)) W') (h2 : Below G W W') (h3 : Lib.OthersKept 5 (some G) W W') : RSt a b A2 c2 n2 A3 c3 n3 H G w (xs ++ ys) W' :=
  ⟨h1, (kept_typ h3 h.hr (by omega) (by decide)).trans h.hr, (kept_typ h3 h.hp (by omega) (by decide)).trans h.hp, h.hw.trans (h2.mono (by omega)), Nat.le_trans h.hs h2.size⟩
theorem RSt.turn (h : RSt a b A2 c2 n2 A3 c3 n3 H G w xs W) (hH : H < G) (hw : H ≤ w.heap.size) {own : Nat → Prop} (ht : Turn own (fun _ => False) W W') (ho : ∀ j, own j → G + 2 ≤ j) : RSt a b A2 c2 n2 A3 c3 n3 H G w xs W' :=
  ⟨ht.builder h.hb (fun h => h) (fun h => h), ht.same _ _ h.hr (.inl (fun e => by have := ho _ e; omega)), ht.same _ _ h.hp (.inl (fun e => by have := ho _ e; omega)),
    stands_below hw (fun j hj => by have := ho j hj; omega) _ _ h.hw ht, Nat.le_trans h.hs ht.size⟩
theorem RSt.field (h : RSt a b A2 c2 n2 A3 c3 n3 H G w xs W) : W.cell? ⟨H, 0, none⟩ = some (.int .u64 a) ∧ W.cell? ⟨H, 1, none⟩ = some (.int .u64 b) ∧ W.cell? ⟨H, 2, none⟩ = some (.slice A2 n2 c2) ∧ W.cell? ⟨H, 3, none⟩ = some (.slice A3 n3 c3) ∧
    W.cell? ⟨G + 1, 0, none⟩ = some (.func (.func 59) #[] #[.pointer (some ⟨G, 0, none⟩)]) :=
  ⟨by rw [Lib.cell_of_heap h.hr]; rfl, by rw [Lib.cell_of_heap h.hr]; rfl, by rw [Lib.cell_of_heap h.hr]; rfl, by rw [Lib.cell_of_heap h.hr]; rfl, by rw [Lib.cell_of_heap h.hp]; rfl⟩

theorem RSt.put_calls (h : RSt a b A2 c2 n2 A3 c3 n3 H G w xs W) (hH : H < G) {n wd : Int} (hp : num_Put.f n wd = some (leB n wd.toNat, 0)) (hwd : wd.toNat ≤ 8) (hx : xs.length ≤ 1000) :
    Calls Try.prog 59 #[.int .u64 n, .int .i64 wd, .pointer (some ⟨G, 0, none⟩)] W fun e W' => (∃ v, e = .returned v) ∧ RSt a b A2 c2 n2 A3 c3 n3 H G w (xs ++ lowBytes n wd.toNat) W' ∧ Below G W W' ∧ Lib.OthersKept 5 (some G) W W' :=
  (putR_calls G n wd xs W hp hwd h.hb (by omega) (by have := h.hs; omega)).mono fun e W' ⟨hv, h1, h2, h3⟩ => ⟨hv, h.put hH h1 h2 h3, h2, h3⟩

set_option maxHeartbeats 8000000 in
theorem rootE_yes (a b : Int) (A2 : Option Addr) (c2 : Nat) (d : List Int) (A3 : Option Addr) (c3 : Nat) (c : List Int) (w : World) (hC2 : Kd.C (Kd.int .u32) w A2 d.length d) (hc2 : d.length ≤ c2) (hC3 : Kd.C (Kd.int .u32) w A3 c.length c) (hc3 : c.length ≤ c3)
    (hr : rightV a b d c = true) (ha : 0 ≤ a) (hb : 0 ≤ b) :
    Calls Try.prog 19 #[.agg #[.int .u64 a, .int .u64 b, .slice A2 d.length c2, .slice A3 c.length c3]] w fun e w' => e = .returned (.tuple #[.string (rootB a b d c), .int .i64 0]) ∧ Below w.heap.size w w' := by
  have HC2 := Aside0.mk hC2
  have HC3 := Aside0.mk hC3
  have HR := Aside0.mk hr
  have HF := Aside0.mk (And.intro (And.intro ha hb) (right_facts hr))
  clear hC2 hC3 hr ha hb
  refine (callsIn_wide (n := 10)).1 ?_
  refine callsIn_of_wp_marks Try.func19 rfl trivial ?_ rfl
  simp only [Try.ntmps19, List.size_toArray, List.length_cons, List.length_nil, Nat.reduceAdd, Nat.reduceSub, Array.replicate_succ, Array.replicate_zero, List.push_toArray, List.append_toArray, List.nil_append, List.cons_append]
  gi_wp2_with fail
  refine ⟨trivial, (callsIn_wide.2 (root_Right.calls a b A2 c2 d A3 c3 c true _ (Kd.C_alloc HC2.out _) hc2 (Kd.C_alloc HC3.out _) hc3 (congrArg some HR.out))).mono ?_⟩
  rintro e w1 ⟨rfl, hb1⟩
  have hS : RSt a b A2 c2 d.length A3 c3 c.length w.heap.size w1.heap.size w [] ((w1.alloc (.cells #[.pointer none, .slice none 0 0] 117)).alloc (.cells #[.func (.func 59) #[] #[.pointer (some ⟨w1.heap.size, 0, none⟩)]] 131)) := by
    have hs1 := hb1.size
    rw [World.size_alloc] at hs1
    have hx : w1.heap[w.heap.size]? = some (.cells #[.int .u64 a, .int .u64 b, .slice A2 d.length c2, .slice A3 c.length c3] 55 (0, 0)) := (hb1.block _ (by simp)).trans (World.alloc_heap_new w _)
    refine ⟨?_, ?_, ?_, ?_, by simp⟩
    · exact (Lib.IsBuilderF.of (Lib.fresh_isBuilder 117 5 w1)).alloc _
    · rw [Below.heap_alloc _ _ _ (by simp; omega), Below.heap_alloc _ _ _ (by omega)]; exact hx
    · have := World.alloc_heap_new (w1.alloc (.cells #[.pointer none, .slice none 0 0] 117)) (.cells #[.func (.func 59) #[] #[.pointer (some ⟨w1.heap.size, 0, none⟩)]] 131)
      rwa [World.size_alloc] at this
    · exact (((((Below.refl w.heap.size w).alloc (Nat.le_refl _) _).trans (hb1.mono (by simp))).alloc (by omega) _).alloc (by simp; omega) _)
  have hHG : w.heap.size < w1.heap.size := by have := hb1.size; rw [World.size_alloc] at this; omega
  obtain ⟨f0, f1, f2, f3, fp⟩ := hS.field
  have HS := Aside0.mk hS
  clear hS hb1
  gi_wp2_with fail
  refine ⟨trivial, (callsIn_wide.2 (HS.out.put_calls hHG (n := a) (wd := 6) (putR_f (by decide) (by decide) (by have := HF.out; omega) (by have := HF.out; rw [show (256 : Int) ^ (6 : Int).toNat = 281474976710656 by decide]; omega) (by have := HF.out; omega)) (by decide) (by simp [lowBytes_length]))).mono ?_⟩
  rintro e w2 ⟨⟨v2, rfl⟩, hS, _, _⟩
  clear HS f0 f1 f2 f3 fp
  obtain ⟨f0, f1, f2, f3, fp⟩ := hS.field
  have HS := Aside0.mk hS
  clear hS
  gi_wp2_with fail
  refine ⟨trivial, (callsIn_wide.2 (HS.out.put_calls hHG (n := b) (wd := 6) (putR_f (by decide) (by decide) (by have := HF.out; omega) (by have := HF.out; rw [show (256 : Int) ^ (6 : Int).toNat = 281474976710656 by decide]; omega) (by have := HF.out; omega)) (by decide) (by simp [lowBytes_length]))).mono ?_⟩
  rintro e w3 ⟨⟨v3, rfl⟩, hS, _, _⟩
  clear HS f0 f1 f2 f3 fp
  obtain ⟨f0, f1, f2, f3, fp⟩ := hS.field
  have HS := Aside0.mk hS
  clear hS
  gi_wp2_with fail
  rw [IntWalk.u64_in (d.length : Int) (by have := HF.out; omega)]
  refine ⟨trivial, (callsIn_wide.2 (HS.out.put_calls hHG (n := d.length) (wd := 1) (putR_f (by decide) (by decide) (by have := HF.out; omega) (by have := HF.out; rw [show (256 : Int) ^ (1 : Int).toNat = 256 by decide]; omega) (by have := HF.out; omega)) (by decide) (by simp [lowBytes_length]))).mono ?_⟩
  rintro e w4 ⟨⟨v4, rfl⟩, hS, _, _⟩
  clear HS f0 f1 f2 f3 fp
  obtain ⟨f0, f1, f2, f3, fp⟩ := hS.field
  have HS := Aside0.mk hS
  clear hS
  gi_wp2_with fail
  rw [IntWalk.u64_in (c.length : Int) (by have := HF.out; omega)]
  refine ⟨trivial, (callsIn_wide.2 (HS.out.put_calls hHG (n := c.length) (wd := 1) (putR_f (by decide) (by decide) (by have := HF.out; omega) (by have := HF.out; rw [show (256 : Int) ^ (1 : Int).toNat = 256 by decide]; omega) (by have := HF.out; omega)) (by decide) (by simp [lowBytes_length]))).mono ?_⟩
  rintro e w5 ⟨⟨v5, rfl⟩, hS, _, _⟩
  clear HS f0 f1 f2 f3 fp
  obtain ⟨f0, f1, f2, f3, fp⟩ := hS.field
  have HS := Aside0.mk hS
  clear hS
  gi_wp2_with fail
  refine ⟨trivial, (callsIn_wide.2 (all_calls a b A2 d.length c2 A3 c.length c3 w5)).mono ?_⟩
  rintro e W6 ⟨rfl, hW6⟩
  obtain ⟨S, hS5⟩ : ∃ S, w5.heap.size = S := ⟨_, rfl⟩
  have hs6 : W6.heap.size = S + 1 := by rw [hW6]; simp [hS5]
  have x6 : W6.heap[S]? = some (.cells #[.int .u64 a, .int .u64 b, .slice A2 d.length c2, .slice A3 c.length c3] 55 (0, 0)) := by rw [hW6, ← hS5]; exact World.alloc_heap_new _ _
  have st6 : RSt a b A2 c2 d.length A3 c3 c.length w.heap.size w1.heap.size w (rootH a b d c ++ numsB ((d ++ c).take 0)) W6 := by
    have := HS.out.turn hHG (Nat.le_refl _) (own := fun _ => False) (W' := W6) (by rw [hW6]; exact Turn.alloc _ _) (fun _ h => h.elim)
    rw [show rootH a b d c ++ numsB ((d ++ c).take 0) = rootH a b d c from List.append_nil _]
    exact this
  rw [hS5]
  clear hW6 HS f0 f1 f2 f3 fp
  have hG6 := st6.hs
  have hw6 := st6.hw.size
  gi_wp2_with fail
  refine wpIn_rangeT rfl (by omega) (gf := 90) (lb := #[.pointer (some ⟨S, 0, none⟩)]) rfl trivial (enters_of Try.func90 (by kernel_rfl) rfl)
    (all_seq 9 (by omega) a b A2 c2 d A3 c3 c S w W6 st6.hw x6 HC2.out HC3.out (by have := HF.out; omega) (by have := HF.out; omega)) (Below.refl _ _) (fun _ => rfl) (fun h => h.elim) (fun h => h.elim) (fun L h => h.elim (fun h => by omega) (fun ⟨_, _, h⟩ => by cases h))
    (fun k W => RSt a b A2 c2 d.length A3 c3 c.length w.heap.size w1.heap.size w (rootH a b d c ++ numsB ((d ++ c).take k)) W)
    (fun _ _ _ => False)
    (fun k A B h ht => h.turn hHG (Nat.le_refl _) ht (by rintro j (h | h | h) <;> first | exact h.elim | omega))
    (fun _ _ _ _ h _ => h)
    st6
    (fun k => { tmps := #[.agg #[.int .u64 a, .int .u64 b, .slice A2 d.length c2, .slice A3 c.length c3], .pointer (some ⟨w.heap.size, 0, none⟩), .string ⟨#[]⟩, .int .i64 0, .pointer (some ⟨w1.heap.size, 0, none⟩), .pointer (some ⟨w1.heap.size + 1, 0, none⟩), .int .u32 ((d ++ c).getD k 0), .agg #[.int .u64 a, .int .u64 b, .slice A2 d.length c2, .slice A3 c.length c3], .bool true, .bool false, .func (.func 59) #[] #[.pointer (some ⟨w1.heap.size, 0, none⟩)], .func (.func 59) #[] #[.pointer (some ⟨w1.heap.size, 0, none⟩)], .pointer (some ⟨w.heap.size, 0, none⟩), .int .u64 a, v2, .func (.func 59) #[] #[.pointer (some ⟨w1.heap.size, 0, none⟩)], .pointer (some ⟨w.heap.size, 1, none⟩), .int .u64 b, v3, .func (.func 59) #[] #[.pointer (some ⟨w1.heap.size, 0, none⟩)], .pointer (some ⟨w.heap.size, 2, none⟩), .slice A2 d.length c2, .int .i64 d.length, .int .u64 d.length, v4, .func (.func 59) #[] #[.pointer (some ⟨w1.heap.size, 0, none⟩)], .pointer (some ⟨w.heap.size, 3, none⟩), .slice A3 c.length c3, .int .i64 c.length, .int .u64 c.length, v5, .agg #[.int .u64 a, .int .u64 b, .slice A2 d.length c2, .slice A3 c.length c3], .func (.func 90) #[] #[.pointer (some ⟨S, 0, none⟩)], .int .u32 ((d ++ c).getD k 0), undef, undef, undef, undef, undef, undef, undef, undef], defers := [] }) ?assign ?body ?done ?stop
  case assign =>
    intro lp k W K hK
    gi_wp2
    exact hK
  case body =>
    rintro lp k W hk hWs hst
    dsimp only
    have hlen : k < (d ++ c).length := by rw [List.length_append]; exact hk
    obtain ⟨u, hu⟩ : ∃ u, (d ++ c).getD k 0 = u := ⟨_, rfl⟩
    have hub : 16 ≤ u ∧ u < 4096 := by
      rw [← hu, List.getD_eq_getElem?_getD, List.getElem?_eq_getElem hlen]
      exact HF.out.2.2.2.2.2 _ (List.getElem_mem hlen)
    have htk := numsB_take (d ++ c) k hlen
    rw [hu] at htk
    have HT := Aside0.mk htk
    have HUB := Aside0.mk hub
    have hxl : (rootH a b d c ++ numsB ((d ++ c).take k)).length ≤ 1000 := by
      rw [List.length_append, rootH_len, numsB_len, List.length_take, List.length_append]
      have := HF.out; omega
    have HXL := Aside0.mk hxl
    simp only [hu]
    obtain ⟨f0, f1, f2, f3, fp⟩ := hst.field
    have HST := Aside0.mk hst
    clear htk hub hlen hu hk hxl hst
    gi_wp2_with fail
    rw [IntWalk.u64_in u (by have := HUB.out; omega)]
    refine ⟨trivial, (CallsIn.inRound lp (callsIn_wide.2 (HST.out.put_calls hHG (n := u) (wd := 4) (putR_f (by decide) (by decide) (by have := HUB.out; omega) (by have := HUB.out; rw [show (256 : Int) ^ (4 : Int).toNat = 4294967296 by decide]; omega) (by have := HUB.out; omega)) (by decide) HXL.out))).mono ?_⟩
    rintro e w7 ⟨⟨v7, rfl⟩, hst7, hb7, ho7⟩
    gi_wp2
    refine ⟨.of_others (kept_others ho7 (builder_block HST.out.hb) hb7.size), .of_same hb7.size (fun j o hj ho => ?_), ?_⟩
    · rcases hj with hj | ⟨cs, fz, rfl⟩
      · exact hb7.block j (by omega)
      · by_cases e : j = w1.heap.size
        · subst e
          obtain ⟨c', hc'⟩ := builder_block HST.out.hb
          rw [hc'] at ho; cases ho
        · exact kept_typ ho7 ho e (by decide)
    · show RSt a b A2 c2 d.length A3 c3 c.length w.heap.size w1.heap.size w (rootH a b d c ++ numsB ((d ++ c).take (k + 1))) w7
      rw [HT.out, ← List.append_assoc]; exact hst7
  case done =>
    rintro W hst hWs hDf
    rw [List.take_of_length_le (by rw [List.length_append]; omega)] at hst
    have HST := Aside0.mk hst
    have HFIT := Aside0.mk (fit_root a b d c (by have := HF.out; omega))
    have HDF := Aside0.mk hDf
    clear hst hDf
    gi_wp2_with fail
    refine ⟨trivial, (callsIn_wide.2 (b_String w1.heap.size w1.heap.size (rootL a b d c) W HST.out.hb (by have := HST.out.hs; omega))).mono ?_⟩
    rintro e w8 ⟨rfl, hB8, hbe8, ho8⟩
    have hDf8 := (kept_others ho8 (builder_block HST.out.hb) hbe8.size).same _ _ HDF.out rfl
    gi_wp2_with fail
    refine ⟨trivial, (callsIn_wide.2 (num_Fit.calls _ _ _ _ w8 HFIT.out)).mono ?_⟩
    rintro e w9 ⟨rfl, hb9⟩
    have hDf9 := (hb9.block _ (Array.getElem?_eq_some_iff.1 hDf8).1).trans hDf8
    rw [hs6] at hDf9
    have hs8 := hbe8.size
    have hs9 := hb9.size
    gi_wp2
    refine ⟨by simp, .inl ⟨_, _, rfl, run_takeDeferred hDf9, ?_⟩⟩
    refine ⟨_, results_tmp2 rfl _ _ _, ⟨rfl, ?_⟩⟩
    exact ((HST.out.hw.trans (hbe8.mono (by omega))).trans (hb9.mono (by omega))).trans (belowK_b (w := W6) (by omega) w9 _ _ _ (by omega) hDf9 rfl rfl)
  case stop =>
    rintro q k W hk h
    exact h.elim
set_option maxHeartbeats 4000000 in
theorem rootE_no (a b : Int) (A2 : Option Addr) (c2 : Nat) (d : List Int) (A3 : Option Addr) (c3 : Nat) (c : List Int) (w : World) (hC2 : Kd.C (Kd.int .u32) w A2 d.length d) (hc2 : d.length ≤ c2) (hC3 : Kd.C (Kd.int .u32) w A3 c.length c) (hc3 : c.length ≤ c3)
    (hr : rightV a b d c = false) :
    Calls Try.prog 19 #[.agg #[.int .u64 a, .int .u64 b, .slice A2 d.length c2, .slice A3 c.length c3]] w fun e w' => e = .returned (.tuple #[.string ⟨#[]⟩, .int .i64 153]) ∧ Below w.heap.size w w' := by
  go_enter Try.func19, Try.ntmps19
  go_wp2_with fail
  refine (root_Right.calls a b A2 c2 d A3 c3 c false _ (Kd.C_alloc hC2 _) hc2 (Kd.C_alloc hC3 _) hc3 (congrArg some hr)).mono ?_
  rintro e w1 ⟨rfl, hb1⟩
  go_wp2_with fail
  go_ret2
  exact ⟨rfl, ((Below.refl _ w).alloc (Nat.le_refl _) _).trans (hb1.mono (by simp))⟩
theorem root_Encode.calls (a b : Int) (A2 : Option Addr) (c2 : Nat) (d : List Int) (A3 : Option Addr) (c3 : Nat) (c : List Int) (r1 : ByteArray) (r2 : Int) (w : World) (hC2 : Kd.C (Kd.int .u32) w A2 d.length d) (hc2 : d.length ≤ c2) (hC3 : Kd.C (Kd.int .u32) w A3 c.length c) (hc3 : c.length ≤ c3) (h : root_Encode.f a b d c = some (r1, r2)) :
    Calls Try.prog 19 #[.agg #[.int .u64 a, .int .u64 b, .slice A2 d.length c2, .slice A3 c.length c3]] w fun e w' => e = .returned (.tuple #[.string r1, .int .i64 r2]) ∧ Below w.heap.size w w' := by
  unfold root_Encode.f at h
  by_cases hr : rightV a b d c = true
  · rw [if_pos hr] at h
    by_cases hab : 0 ≤ a ∧ 0 ≤ b
    · rw [if_pos hab] at h
      cases h
      exact rootE_yes a b A2 c2 d A3 c3 c w hC2 hc2 hC3 hc3 hr hab.1 hab.2
    · rw [if_neg hab] at h; cases h
  · rw [if_neg hr] at h
    cases h
    exact rootE_no a b A2 c2 d A3 c3 c w hC2 hc2 hC3 hc3 (by simpa using hr)
end Go.Proofs.Ythgefgjaihagoaa.Q
