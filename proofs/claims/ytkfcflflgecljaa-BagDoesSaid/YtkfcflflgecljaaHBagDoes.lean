/- nautiluslaw02.does: a call; both answer alike, and the list behind it is what stands there. -/
import Derived.Test.YtkfcflflgecljaaHBagAsk
set_option linter.unusedVariables false
set_option linter.unusedSimpArgs false
namespace Go.Proofs.Ytkfcflflgecljaa.H
open Go.RowKit Go.Proofs.YtkfcflflgecljaaW.PrintWords Go.Proofs.YtkfcflflgecljaaW.PrintLast
set_option maxRecDepth 100000
theorem yputS {base bb : Nat} {w0 w : World} {own : Own} {es : List EB} (h : FreshS base w0 w own bb es) (hl : es.length + 1 < 2 ^ 62) (at_ : Int) (v : ByteArray) :
    Calls Try.prog 27 #[.pointer (some ⟨bb, 0, none⟩), .int .i64 at_, .string v] w (fun e w' => ∃ own', e = .returned (.bool (getL at_ es).isSome) ∧ FreshS base w0 w' own' bb (insL at_ v es) ∧ FrB bb own own' w w') := by
  obtain ⟨H, d, t, hB, rfl⟩ := h.is
  refine (bputS.calls bb d t at_ v w hB hl).mono ?_
  rintro e w' ⟨own', H', d', t', rfl, hB', he, hF⟩
  exact ⟨own', rfl, h.next ⟨H', d', t', hB', he⟩ hF, hF⟩
theorem ydropS {base bb : Nat} {w0 w : World} {own : Own} {es : List EB} (h : FreshS base w0 w own bb es) (at_ : Int) :
    Calls Try.prog 28 #[.pointer (some ⟨bb, 0, none⟩), .int .i64 at_] w (fun e w' => ∃ own', e = .returned (.bool (getL at_ es).isSome) ∧ FreshS base w0 w' own' bb (delL at_ es) ∧ FrB bb own own' w w') := by
  obtain ⟨H, d, t, hB, rfl⟩ := h.is
  refine (bdropS.calls bb d t at_ w hB).mono ?_
  rintro e w' ⟨own', H', d', t', rfl, hB', he, hF⟩
  exact ⟨own', rfl, h.next ⟨H', d', t', hB', he⟩ hF, hF⟩
def DoesPost (base : Nat) (w0 : World) (bb n : Nat) (e : Ending) (w' : World) : Prop :=
  ∃ own' v' es', e = .returned (.tuple #[v', .bool true]) ∧ FreshS base w0 w' own' bb es' ∧ LisAt w' own' bb v' es' ∧ es'.length ≤ n + 1
set_option maxHeartbeats 8000000 in
theorem does.calls {base bb : Nat} {w0 : World} (w : World) {own : Own} {es : List EB} (h : FreshS base w0 w own bb es) (hl : es.length ≤ 900) (v : Value) (hL : LisAt w own bb v es) (k a b : Int) (s : ByteArray) (hk0 : -9223372036854775808 ≤ k) (hk1 : k < 9223372036854775808) :
    Calls Try.prog 22 #[.pointer (some ⟨bb, 0, none⟩), v, .agg #[.int .i64 k, .int .i64 a, .int .i64 b, .string s]] w (DoesPost base w0 bb es.length) := by
  obtain ⟨A, c, rfl, hc, hC⟩ := hL.reads
  obtain ⟨H, hH⟩ : ∃ H, w.heap.size = H := ⟨_, rfl⟩
  obtain ⟨Q, hQ⟩ : ∃ Q : Ending → World → Prop, DoesPost base w0 bb es.length = Q := ⟨_, rfl⟩
  rw [hQ]
  have HQ := Aside0.mk hQ
  obtain ⟨w1, hw1⟩ : ∃ w1, w.alloc (.cells #[.int .i64 k, .int .i64 a, .int .i64 b, .string s] 45) = w1 := ⟨_, rfl⟩
  have hb1 : Below H w w1 := by rw [← hw1]; exact (Below.refl H w).alloc (by omega) _
  have hbk : w1.heap[H]? = some (.cells #[.int .i64 k, .int .i64 a, .int .i64 b, .string s] 45 (0, 0)) := by
    rw [← hw1, ← hH]; show (w.heap.push _)[w.heap.size]? = _; exact Array.getElem?_push_size
  have c0 : w1.cell? ⟨H, 0, none⟩ = some (.int .i64 k) := by rw [Lib.cell_of_heap hbk]; rfl
  obtain ⟨r, hr, hr0, hr7⟩ := ref_pick k hk0 hk1
  have HP := Aside0.mk (nautiluslaw02_pick.calls k 7 r w1 hr)
  have HBK := Aside0.mk hbk
  have HF := Aside0.mk h
  have HLI := Aside0.mk hL
  have HB1 := Aside0.mk hb1
  have HL := Aside0.mk hl
  have HCC := Aside0.mk hc
  have HR := Aside0.mk (And.intro hr0 hr7)
  have HRI := Aside0.mk h.rise
  clear hQ h hL hC hb1 hbk hl hc hk0 hk1 hr hr0 hr7
  go_enter Try.func22, Try.ntmps22
  go_wp2_with fail
  refine HP.out.mono ?_
  rintro e w2 ⟨rfl, hdr⟩
  obtain ⟨qn, hqn⟩ := hdr.out
  have hbk2 : w2.heap[H]? = some (.cells #[.int .i64 k, .int .i64 a, .int .i64 b, .string s] 45 (0, 0)) := by rw [hqn]; exact HBK.out
  have d0 : w2.cell? ⟨H, 0, none⟩ = some (.int .i64 k) := by rw [Lib.cell_of_heap hbk2]; rfl
  have f0 : w2.frozen? ⟨H, 0, none⟩ = false := Lib.frozen_of_heap hbk2 0
  have hb2 : Below H w w2 := by rw [hqn]; exact pw_below_drewN HB1.out qn
  obtain ⟨w3, hw3⟩ : ∃ w3, w2.setCell ⟨H, 0, none⟩ (.int .i64 r) = w3 := ⟨_, rfl⟩
  have hbk3 : w3.heap[H]? = some (.cells #[.int .i64 r, .int .i64 a, .int .i64 b, .string s] 45 (0, 0)) := by
    rw [← hw3, setCell_eq_setRow w2 H 0 _ 45 (0, 0) _ hbk2]
    exact setRow_heap w2 H _ _ 45 _ hbk2
  have hb3 : Below H w w3 := by rw [← hw3]; exact hb2.setCell (p := ⟨H, 0, none⟩) (Nat.le_refl _) _
  have e0 : w3.cell? ⟨H, 0, none⟩ = some (.int .i64 r) := by rw [Lib.cell_of_heap hbk3]; rfl
  have e1 : w3.cell? ⟨H, 1, none⟩ = some (.int .i64 a) := by rw [Lib.cell_of_heap hbk3]; rfl
  have e2 : w3.cell? ⟨H, 2, none⟩ = some (.int .i64 b) := by rw [Lib.cell_of_heap hbk3]; rfl
  have e3 : w3.cell? ⟨H, 3, none⟩ = some (.string s) := by rw [Lib.cell_of_heap hbk3]; rfl
  have F3 := HF.out.still (by rw [hH]; exact hb3)
  have L3 := HLI.out.still (by rw [hH]; exact hb3)
  obtain ⟨A', c', he, hc', hC'⟩ := L3.reads
  injection he with he1 he2 he3
  subst he1; subst he3
  have HF3 := Aside0.mk F3
  have HL3 := Aside0.mk L3
  have HC3 := Aside0.mk hC'
  clear hdr hqn hbk2 hb2 hbk3 hb3 F3 L3 hC' hc' he2 HP HBK HF HLI HB1 c0
  by_cases hp : r = 0 ∨ r = 1
  · obtain ⟨K, hK⟩ := ref_put es (by have := HL.out; omega) HRI.out a s
    have HPU := Aside0.mk (nautilusref02_Put.calls K A c (toE es) a s _ _ w3 HC3.out HCC.out hK)
    clear hK
    have go2 : ∀ w4 v', Kd.R k88 88 w4 w3.heap.size (fun _ => True) v' (toE (insL a s es)) → Below w3.heap.size w3 w4 → Calls Try.prog 27 #[.pointer (some ⟨bb, 0, none⟩), .int .i64 a, .string s] w4 (fun e w' => e = .returned (.bool (getL a es).isSome) ∧ Q (.returned (.tuple #[v', .bool true])) w') := fun w4 v' hR hb4 => by
      have L4 := LisAt.fresh HF3.out hR
      refine (yputS (HF3.out.still hb4) (by have := HL.out; omega) a s).mono ?_
      rintro e w5 ⟨own5, rfl, F5, hFr⟩
      refine ⟨rfl, ?_⟩
      rw [← HQ.out]
      refine ⟨own5, v', insL a s es, rfl, F5, L4.frB hFr, ?_⟩
      rw [insL_length HRI.out]; split <;> omega
    have GO := Aside0.mk go2
    obtain ⟨met, hmet⟩ : ∃ met, (getL a es).isSome = met := ⟨_, rfl⟩
    rw [hmet] at HPU GO
    clear go2 hmet
    have hp01 : (r == 0) = true ∨ (r == 0) = false ∧ (r == 1) = true := by
      rcases hp with h | h <;> subst h <;> simp
    clear hp
    rcases hp01 with q0 | ⟨q0, q1⟩
    all_goals
      go_wp2_with fail
      refine HPU.out.mono ?_
      rintro e w4 ⟨v', rfl, hR, hb4⟩
      have g1 := cell_below e1 hb4
      have g3 := cell_below e3 hb4
      have HG := Aside0.mk (GO.out w4 v' hR hb4)
      clear hR hb4 HPU GO e0 e1 e2 e3
      go_wp2_with fail
      refine HG.out.mono ?_
      rintro e w5 ⟨rfl, hq⟩
      have HQ2 := Aside0.mk hq
      clear hq HG
      go_wp2_with fail
      first | exact HQ2.out | (go_ret2; exact HQ2.out) | (go_ret; exact HQ2.out)
  have n0 : (r == 0) = false := by simp; exact fun h => hp (.inl h)
  have n1 : (r == 1) = false := by simp; exact fun h => hp (.inr h)
  clear hp
  by_cases hd : r = 3 ∨ r = 4
  · obtain ⟨K, hK⟩ := ref_drop es (by have := HL.out; omega) HRI.out a
    have HPU := Aside0.mk (nautilusref02_Drop.calls K A c (toE es) a _ _ w3 HC3.out HCC.out hK)
    clear hK
    have go2 : ∀ w4 v', Kd.R k88 88 w4 w3.heap.size (fun _ => True) v' (toE (delL a es)) → Below w3.heap.size w3 w4 → Calls Try.prog 28 #[.pointer (some ⟨bb, 0, none⟩), .int .i64 a] w4 (fun e w' => e = .returned (.bool (getL a es).isSome) ∧ Q (.returned (.tuple #[v', .bool true])) w') := fun w4 v' hR hb4 => by
      have L4 := LisAt.fresh HF3.out hR
      refine (ydropS (HF3.out.still hb4) a).mono ?_
      rintro e w5 ⟨own5, rfl, F5, hFr⟩
      refine ⟨rfl, ?_⟩
      rw [← HQ.out]
      refine ⟨own5, v', delL a es, rfl, F5, L4.frB hFr, ?_⟩
      exact Nat.le_succ_of_le (List.length_filter_le _ _)
    have GO := Aside0.mk go2
    obtain ⟨met, hmet⟩ : ∃ met, (getL a es).isSome = met := ⟨_, rfl⟩
    rw [hmet] at HPU GO
    clear go2 hmet
    have hp01 : (r == 3) = true ∨ (r == 3) = false ∧ (r == 4) = true := by
      rcases hd with h | h <;> subst h <;> simp
    clear hd
    rcases hp01 with q0 | ⟨q0, q1⟩
    all_goals
      go_wp2_with fail
      refine HPU.out.mono ?_
      rintro e w4 ⟨v', rfl, hR, hb4⟩
      have g1 := cell_below e1 hb4
      have HG := Aside0.mk (GO.out w4 v' hR hb4)
      clear hR hb4 HPU GO e0 e1 e2 e3
      go_wp2_with fail
      refine HG.out.mono ?_
      rintro e w5 ⟨rfl, hq⟩
      have HQ2 := Aside0.mk hq
      clear hq HG
      go_wp2_with fail
      first | exact HQ2.out | (go_ret2; exact HQ2.out) | (go_ret; exact HQ2.out)
  have n3 : (r == 3) = false := by simp; exact fun h => hd (.inl h)
  have n4 : (r == 4) = false := by simp; exact fun h => hd (.inr h)
  clear hd
  have HA := Aside0.mk (asks.calls w3 HF3.out (by have := HL.out; omega) _ HL3.out r a b s)
  go_wp2_with fail
  refine HA.out.mono ?_
  rintro e w4 ⟨rfl, hb4⟩
  have hq : Q (.returned (.tuple #[.slice A (toE es).length c, .bool true])) w4 := by
    rw [← HQ.out]
    exact ⟨own, _, es, rfl, HF3.out.still hb4, HL3.out.still hb4, Nat.le_succ _⟩
  have HQ2 := Aside0.mk hq
  clear hq hb4 HA e0 e1 e2 e3
  go_wp2_with fail
  first | exact HQ2.out | (go_ret2; exact HQ2.out) | (go_ret; exact HQ2.out)
end Go.Proofs.Ytkfcflflgecljaa.H
