/- record.entries: its iterator. -/
import Derived.Test.YthgefgjaihagoaaQ11
import Derived.Test.YthgefgjaihagoaaHRecT
import Derived.Test.YthgefgjaihagoaaB1
import Derived.Test.YthgefgjaihagoaaHRW
import Derived.Test.YthgefgjaihagoaaPVal
import Derived.Test.YthgefgjaihagoaaHAnyM
set_option linter.unusedVariables false
set_option linter.unusedSimpArgs false
namespace Go.Proofs.Ythgefgjaihagoaa.Q
open Go.RowKit Go.Shelf Go.Proofs.Ythgefgjaihagoaa.H Go.Proofs.Ythgefgjaihagoaa.P Go.Proofs.YthgefgjaihagoaaW.PrintWords Go.Proofs.YthgefgjaihagoaaW.PrintLast Go.Proofs.YthgefgjaihagoaaW.PrintMore
attribute [local go_sem] Oper.semAt_some
set_option maxRecDepth 100000

/-- A number out of a record's bytes. -/
def tkV (b : ByteArray) (a w : Int) : Int := (takeV b a w).1
theorem tk_f {b : ByteArray} (hb : b.size = 512) {a w : Int} (h0 : 0 ≤ a) (h1 : a ≤ 100000) : record_take.f 12 b a w = some (tkV b a w) := by
  unfold record_take.f
  rw [take_f b a w (by omega) (by omega) (by omega) 12 (by omega)]; rfl
theorem tk_range (b : ByteArray) (a : Int) (w : Nat) : 0 ≤ tkV b a w ∧ tkV b a w < 256 ^ w := by
  have hp := pow256_pos w
  unfold tkV takeV
  split
  · rw [Int.toNat_natCast]; exact valB_range b a.toNat w
  · exact ⟨Int.le_refl _, by show (0 : Int) < _; exact hp⟩
def entAt (b : ByteArray) (k : Nat) : S43 := ⟨tkV b (17 + 13 * (k : Int)) 1, tkV b (17 + 13 * (k : Int) + 1) 4, tkV b (17 + 13 * (k : Int) + 5) 4, tkV b (17 + 13 * (k : Int) + 9) 4⟩
def entL (b : ByteArray) (k : Nat) : List (S43) := (List.range k).map (entAt b)
theorem entL_succ (b : ByteArray) (k : Nat) : entL b (k + 1) = entL b k ++ [entAt b k] := by simp [entL, List.range_succ]
theorem entL_len (b : ByteArray) (k : Nat) : (entL b k).length = k := by simp [entL]
def entN (b : ByteArray) : Nat := (tkV b 16 1).toNat
theorem entN_le (b : ByteArray) : entN b ≤ 255 := by
  have := tk_range b 16 1
  have e : (256 : Int) ^ 1 = 256 := by decide
  rw [e] at this
  unfold entN
  have h1 : tkV b 16 ((1 : Nat) : Int) = tkV b 16 1 := rfl
  rw [h1] at this
  omega
def enV (x : S43) : Value := .agg #[.int .i64 x.f0, .int .u32 x.f1, .int .u32 x.f2, .int .u32 x.f3]
theorem wE (a : Nat) (c : Int) (h : a ≤ 1000000) (h0 : 0 ≤ c) (h1 : c ≤ 60) : wrap64 ((a : Int) + c) = (a : Int) + c := IntWalk.wrap64_in _ (by omega)
theorem measE (N k : Nat) (h : k < N) (hN : N ≤ 255) : N - (intOf (.int .i64 (wrap64 ((k : Int) + 1)))).toNat < N - (intOf (.int .i64 (k : Int))).toNat := by
  rw [wE k 1 (by omega) (by decide) (by decide)]; show N - ((k : Int) + 1).toNat < N - (k : Int).toNat; omega
theorem tk_i64 (b : ByteArray) (a : Int) : IntKind.i64.wrap (tkV b a 1) = tkV b a 1 := by
  have h := tk_range b a 1
  have e : (256 : Int) ^ 1 = 256 := by decide
  rw [e] at h
  have h1 : tkV b a ((1 : Nat) : Int) = tkV b a 1 := rfl
  rw [h1] at h
  exact IntWalk.i64_in _ (by omega)
theorem tk_u32 (b : ByteArray) (a : Int) : IntKind.u32.wrap (tkV b a 4) = tkV b a 4 := by
  have h := tk_range b a 4
  have e : (256 : Int) ^ 4 = 4294967296 := by decide
  rw [e] at h
  have h1 : tkV b a ((4 : Nat) : Int) = tkV b a 4 := rfl
  rw [h1] at h
  exact IntWalk.u32_in _ (by omega)
section
variable {P : Program} {ops : Array Oper} {Q : Exit → Act → World → Prop} {md : Region.Mode} {ls : List Nat} {S : World → Prop}
/-- One of two that are ready comes up. -/
def StepL (P : Program) (md : Region.Mode) (ops : Array Oper) (Q : Exit → Act → World → Prop) (S : World → Prop) (ls : List Nat) (i : Nat) (fuel : Nat) (listed : Array Bool) (a : Act) (w : World) : Prop :=
  wpOp P ops Q i (fun a' w' => (i ∉ ls → (∀ l ∈ ls, listed.getD l true = false) → S w') ∧ WalkL P md ops Q S ls fuel (listed.setIfInBounds i true) a' w') a w
theorem twoL {i j fuel : Nat} {listed : Array Bool} {a : Act} {w : World} (hr : Region.ready md ops listed = [i, j]) (h1 : StepL P md ops Q S ls i fuel listed a w) (h2 : StepL P md ops Q S ls j fuel listed a w) : WalkL P md ops Q S ls (fuel + 1) listed a w := by
  refine ⟨fun h0 => (by rw [hr] at h0; cases h0), fun k hk => ?_⟩
  rw [hr] at hk
  rcases List.mem_cons.1 hk with rfl | hk
  · exact h1
  · obtain rfl := List.mem_singleton.1 hk
    exact h2
theorem coS (i : Nat) (d : Tmp) {oi : Oper} (f : FuncId) (args : Array Value) {R : Ending → World → Prop} {fuel : Nat} {listed : Array Bool} {a : Act} {w : World} (hR : Calls P f args w R) (hi : ops[i]? = some oi)
    (h : ∀ e w', R e w' → ∃ v, e = .returned v ∧ S w' ∧ WalkL P md ops Q S ls fuel (listed.setIfInBounds i true) (a.put (some d) v) w')
    (hv : (execOp a.eval oi).run P w = .ok (.enter f args) w := by go_simp)
    (hdst : oi.dst = some d := by rfl)
    (hw : Region.wanted oi (yielded ops a.tmps) = true := by kernel_rfl) : StepL P md ops Q S ls i fuel listed a w := by
  refine wpOp_step hi fun K' hK => ?_
  rw [if_pos hw]
  unfold Oper.wp
  rw [hv]
  refine hR.mono ?_
  rintro e w' he
  obtain ⟨v, rfl, hS, h⟩ := h e w' he
  rw [← hdst] at h
  exact hK _ _ ⟨fun _ _ => hS, h⟩
theorem alS (i : Nat) {oi : Oper} (v : Value) {fuel : Nat} {listed : Array Bool} {a a' : Act} {w : World} (w1 : World) (hi : ops[i]? = some oi) (hS : S w1)
    (h : WalkL P md ops Q S ls fuel (listed.setIfInBounds i true) a' w1)
    (hv : (execOp a.eval oi).run P w = .ok (.value v) w1 := by go_simp; first | done | rfl)
    (hw : Region.wanted oi (yielded ops a.tmps) = true := by kernel_rfl)
    (ha : a.put oi.dst v = a' := by (show Act.put _ (some _) _ = _; simp only [Act.put, List.setIfInBounds_toArray, List.set_cons_zero, List.set_cons_succ]; try rfl)) : StepL P md ops Q S ls i fuel listed a w := by
  refine wpOp_step hi fun K' hK => ?_
  rw [if_pos hw]
  unfold Oper.wp
  rw [hv]
  exact hK _ _ ⟨fun _ _ => hS, ha ▸ h⟩
end
/-- The block of an entry. -/
def entO : Obj := .cells #[.int .i64 0, .int .u32 0, .int .u32 0, .int .u32 0] 43
theorem draw_trans {A B C : World} (h : Drawn0 A B) (g : Drawn0 B C) : Drawn0 A C := by
  obtain ⟨n, rfl⟩ := g.out
  exact h.step n
theorem draw_cell {B C : World} {p : Addr} {v : Value} (h : B.cell? p = some v) (g : Drawn0 B C) : C.cell? p = some v := by
  obtain ⟨n, rfl⟩ := g.out
  exact h
theorem draw_size {A B : World} (g : Drawn0 A B) : B.heap.size = A.heap.size := by
  obtain ⟨n, rfl⟩ := g.out
  rfl
theorem draw_alloc {A B : World} (h : Drawn0 A B) (o : Obj) : Drawn0 (A.alloc o) (B.alloc o) := by
  obtain ⟨n, rfl⟩ := h.out
  exact ⟨⟨n, rfl⟩⟩
theorem ent_cell {w : World} {p : Addr} {v : Value} (h : w.cell? p = some v) (o : Obj) : (w.alloc o).cell? p = some v := (((Below.refl w.heap.size w).alloc (Nat.le_refl _) o).cell (World.block_lt_of_cell? w _ h)).trans h
def entW (w : World) (b : ByteArray) (a d : Nat) : World :=
  (((((w.alloc entO).drewN d).setCell ⟨w.heap.size, 0, none⟩ (.int .i64 (tkV b (a : Int) 1))).setCell ⟨w.heap.size, 1, none⟩ (.int .u32 (tkV b ((a : Int) + 1) 4))).setCell ⟨w.heap.size, 2, none⟩ (.int .u32 (tkV b ((a : Int) + 5) 4))).setCell ⟨w.heap.size, 3, none⟩ (.int .u32 (tkV b ((a : Int) + 9) 4))
theorem ent_new (w : World) : (w.alloc entO).heap[w.heap.size]? = some (.cells #[.int .i64 0, .int .u32 0, .int .u32 0, .int .u32 0] 43 (0, 0)) := World.alloc_heap_new w _
theorem ent_z (w : World) (j : Nat) : (w.alloc entO).frozen? ⟨w.heap.size, j, none⟩ = false := Lib.frozen_of_heap (ent_new w) j
theorem four_cells {W : World} {G : Nat} {t : TypeId} {o0 o1 o2 o3 : Value} (h : W.heap[G]? = some (.cells #[o0, o1, o2, o3] t (0, 0))) (v0 v1 v2 v3 : Value) :
    ((((W.setCell ⟨G, 0, none⟩ v0).setCell ⟨G, 1, none⟩ v1).setCell ⟨G, 2, none⟩ v2).setCell ⟨G, 3, none⟩ v3).heap[G]? = some (.cells #[v0, v1, v2, v3] t (0, 0)) := by
  simp [World.setCell, Array.getElem?_modify, h]
theorem four_below {w W : World} {n G : Nat} (h : Below n w W) (hn : n ≤ G) (v0 v1 v2 v3 : Value) :
    Below n w ((((W.setCell ⟨G, 0, none⟩ v0).setCell ⟨G, 1, none⟩ v1).setCell ⟨G, 2, none⟩ v2).setCell ⟨G, 3, none⟩ v3) :=
  (((h.setCell (p := ⟨G, 0, none⟩) hn v0).setCell (p := ⟨G, 1, none⟩) hn v1).setCell (p := ⟨G, 2, none⟩) hn v2).setCell (p := ⟨G, 3, none⟩) hn v3
theorem ent_fin (w : World) (b : ByteArray) (a d : Nat) : (entW w b a d).heap[w.heap.size]? = some (.cells #[.int .i64 (tkV b (a : Int) 1), .int .u32 (tkV b ((a : Int) + 1) 4), .int .u32 (tkV b ((a : Int) + 5) 4), .int .u32 (tkV b ((a : Int) + 9) 4)] 43 (0, 0)) :=
  four_cells (W := (w.alloc entO).drewN d) (ent_new w) _ _ _ _
theorem ent_below (w : World) (b : ByteArray) (a d : Nat) : Below w.heap.size w (entW w b a d) :=
  four_below (W := (w.alloc entO).drewN d) (pw_below_drewN ((Below.refl w.heap.size w).alloc (Nat.le_refl _) entO) d) (Nat.le_refl _) _ _ _ _
def EntDone (b : ByteArray) (a : Nat) (w W : World) : Prop := ∃ d, W = entW w b a d
def entQ (af : Act) (b : ByteArray) (a : Nat) (w : World) : Exit → Act → World → Prop
  | .normal, a', w' => a' = af ∧ EntDone b a w w'
  | _, _, _ => False
theorem entQ_done {af : Act} {b : ByteArray} {a : Nat} {w : World} (d : Nat) : entQ af b a w .normal af (entW w b a d) := ⟨rfl, d, rfl⟩
set_option maxHeartbeats 8000000 in
/-- The iterator of record.entries. -/
theorem entries_seq (nn : Nat) (h1n : 1 ≤ nn) (b : ByteArray) (hb : b.size = 512) (Bb : Nat) (w : World) (hBb : w.heap[Bb]? = some (.cells #[.string b] 9 (0, 0))) :
    SeqN Fence.wide nn Try.prog 105 #[.pointer (some ⟨Bb, 0, none⟩)] (fun k => #[enV (entAt b k)]) (fun _ => False) (fun _ => False) (fun j => j = Bb) (entN b) w := fun lp J Jx W hW hJ hJx hY h0 => by
  have hlb : Bb < w.heap.size := (Array.getElem?_eq_some_iff.1 hBb).1
  have hbk : W.heap[Bb]? = some (.cells #[.string b] 9 (0, 0)) := (hW.block Bb hlb).trans hBb
  clear hW hBb
  have HB := Aside0.mk hb
  clear hb
  have hcb : W.cell? ⟨Bb, 0, none⟩ = some (.string b) := by rw [Lib.cell_of_heap hbk]; rfl
  obtain ⟨N, hN⟩ : ∃ N, entN b = N := ⟨_, rfl⟩
  have hNle : N ≤ 255 := hN ▸ entN_le b
  have hNv : tkV b 16 1 = (N : Int) := by
    have h1 := (tk_range b 16 1).1
    have h2 : tkV b 16 ((1 : Nat) : Int) = tkV b 16 1 := rfl
    rw [h2] at h1
    unfold entN at hN; omega
  have hNw : IntKind.i64.wrap (N : Int) = (N : Int) := IntWalk.i64_in _ (by omega)
  have HT0 : Aside0 (record_take.f 12 b 16 1 = some (N : Int)) := Aside0.mk (by rw [tk_f HB.out (by decide) (by decide), hNv])
  rw [hN] at hY ⊢
  have HN := Aside0.mk hNle
  clear hN hNle hNv
  refine callsIn_of_wp Try.func105 rfl trivial ?_ rfl
  simp only [Try.ntmps105, List.size_toArray, List.length_cons, List.length_nil, Nat.reduceAdd, Nat.reduceSub, Array.replicate_succ, Array.replicate_zero, List.push_toArray, List.append_toArray, List.nil_append, List.cons_append]
  gi_wp2_with fail
  refine ⟨trivial, (callsIn_wide.2 (record_take.calls 12 b 16 1 _ _ HT0.out)).mono ?_⟩
  rintro e w0 ⟨rfl, hD0⟩
  have h00 : J 0 w0 := hJ 0 _ _ h0 (Turn.of_below hD0.below)
  have hbk0 : w0.heap[Bb]? = some (.cells #[.string b] 9 (0, 0)) := by obtain ⟨n1, rfl⟩ := hD0.out; exact hbk
  clear hbk hcb h0
  gi_wp2
  gi_loopw [11] (fun i wr => ∃ k : Nat, k ≤ N ∧ i = .int .i64 k ∧ J k wr ∧ wr.heap[Bb]? = some (.cells #[.string b] 9 (0, 0)))
    (fun i _ => N - (intOf i).toNat)
  case atStart => exact ⟨0, by omega, rfl, h00, hbk0⟩
  case round =>
    obtain ⟨k, hk, rfl, hJs, hbk⟩ := hrel
    have hcb : wr.cell? ⟨Bb, 0, none⟩ = some (.string b) := by rw [Lib.cell_of_heap hbk]; rfl
    by_cases hlt : k < N
    · have hkl : decide ((k : Int) < (N : Int)) = true := decide_eq_true (by omega)
      have hkl2 : decide (k < N) = true := decide_eq_true hlt
      obtain ⟨at', hat⟩ : ∃ a : Nat, 17 + 13 * k = a := ⟨_, rfl⟩
      have hat4 : at' ≤ 10000 := by have := HN.out; omega
      have e13 : wrap64 (13 * (k : Int)) = 13 * (k : Int) := IntWalk.wrap64_in _ (by omega)
      have e17 : wrap64 (17 + 13 * (k : Int)) = (at' : Int) := by rw [IntWalk.wrap64_in _ (by omega)]; omega
      have HAT := Aside0.mk hat
      have HK := Aside0.mk hlt
      have HA4 := Aside0.mk hat4
      have ek1 := wE k 1 (by have := HN.out; omega) (by decide) (by decide)
      have HE17 : Aside0 ((17 : Int) + 13 * (k : Int) = (at' : Int)) := Aside0.mk (by omega)
      have HM := Aside0.mk (measE N k hlt HN.out)
      have f1 := wE at' 1 (by omega) (by decide) (by decide)
      have f5 := wE at' 5 (by omega) (by decide) (by decide)
      have f9 := wE at' 9 (by omega) (by decide) (by decide)
      have HT1 : Aside0 (record_take.f 12 b (at' : Int) 1 = some (tkV b at' 1)) := Aside0.mk (tk_f HB.out (by omega) (by omega))
      have HT2 : Aside0 (record_take.f 12 b ((at' : Int) + 1) 4 = some (tkV b ((at' : Int) + 1) 4)) := Aside0.mk (tk_f HB.out (by omega) (by omega))
      have HT3 : Aside0 (record_take.f 12 b ((at' : Int) + 5) 4 = some (tkV b ((at' : Int) + 5) 4)) := Aside0.mk (tk_f HB.out (by omega) (by omega))
      have HT4 : Aside0 (record_take.f 12 b ((at' : Int) + 9) 4 = some (tkV b ((at' : Int) + 9) 4)) := Aside0.mk (tk_f HB.out (by omega) (by omega))
      have hw0 : IntKind.i64.wrap (tkV b at' 1) = tkV b at' 1 := tk_i64 b _
      have hw1 : IntKind.u32.wrap (tkV b ((at' : Int) + 1) 4) = tkV b ((at' : Int) + 1) 4 := tk_u32 b _
      have hw2 : IntKind.u32.wrap (tkV b ((at' : Int) + 5) 4) = tkV b ((at' : Int) + 5) 4 := tk_u32 b _
      have hw3 : IntKind.u32.wrap (tkV b ((at' : Int) + 9) 4) = tkV b ((at' : Int) + 9) 4 := tk_u32 b _
      clear hat hlt hk hat4
      gi_wp2_with fail
      simp only [e13, e17]
      have c0 : (wr.alloc entO).cell? ⟨wr.heap.size, 0, none⟩ = some (.int .i64 0) := by rw [Lib.cell_of_heap (ent_new wr)]; rfl
      have c1 : (wr.alloc entO).cell? ⟨wr.heap.size, 1, none⟩ = some (.int .u32 0) := by rw [Lib.cell_of_heap (ent_new wr)]; rfl
      have c2 : (wr.alloc entO).cell? ⟨wr.heap.size, 2, none⟩ = some (.int .u32 0) := by rw [Lib.cell_of_heap (ent_new wr)]; rfl
      have c3 : (wr.alloc entO).cell? ⟨wr.heap.size, 3, none⟩ = some (.int .u32 0) := by rw [Lib.cell_of_heap (ent_new wr)]; rfl
      have z0 := ent_z wr 0
      have z1 := ent_z wr 1
      have z2 := ent_z wr 2
      have z3 := ent_z wr 3
      -- REGION
      refine wpIn_mono (Q := entQ ?af b at' wr) (wpIn_wide.2 ?region) ?rest
      case region =>
        refine startL (fun W => W.cell? ⟨Bb, 0, none⟩ = some (.string b)) [21] (by kernel_rfl) ?_
        change WalkL _ _ _ _ _ _ 22 #[false, false, false, false, false, false, false, false, false, false, false, false, false, false, false, false, false, false, false, false, false, false] _ _
        have hS : (wr.drew).cell? ⟨Bb, 0, none⟩ = some (.string b) := hcb
        refine ld 0 (.string b) hS rfl ?_
        refine pu 1 (.int .i64 (at' : Int)) hS rfl ?_
        refine ld 4 (.string b) hS rfl ?_
        refine pu 5 (.int .i64 (at' : Int)) hS rfl ?_
        refine pu 6 (.int .i64 ((at' : Int) + 1)) hS rfl ?_ (hv := by intro W; go_simp; exact (i64_w _).trans f1)
        refine ld 9 (.string b) hS rfl ?_
        refine pu 10 (.int .i64 (at' : Int)) hS rfl ?_
        refine pu 11 (.int .i64 ((at' : Int) + 5)) hS rfl ?_ (hv := by intro W; go_simp; exact (i64_w _).trans f5)
        refine ld 14 (.string b) hS rfl ?_
        refine pu 15 (.int .i64 (at' : Int)) hS rfl ?_
        refine pu 16 (.int .i64 ((at' : Int) + 9)) hS rfl ?_ (hv := by intro W; go_simp; exact (i64_w _).trans f9)
        have hU0 : Drawn0 wr wr.drew := (Drawn0.refl _).step 1
        refine twoL (i := 2) (j := 20) (by kernel_rfl) ?_ ?_
        · refine coS 2 19 91 #[.string b, .int .i64 at', .int .i64 1] (record_take.calls 12 b _ _ _ _ HT1.out) rfl ?_
          rintro e W1 ⟨rfl, g1⟩
          have hs1 := draw_cell hS g1
          refine ⟨_, rfl, hs1, ?_⟩
          have hu1 := draw_trans hU0 g1
          refine pu 3 (.int .i64 (tkV b at' 1)) hs1 rfl ?_
          refine twoL (i := 7) (j := 20) (by kernel_rfl) ?_ ?_
          · refine coS 7 24 91 #[.string b, .int .i64 ((at' : Int) + 1), .int .i64 4] (record_take.calls 12 b _ _ _ _ HT2.out) rfl ?_
            rintro e W2 ⟨rfl, g2⟩
            have hs2 := draw_cell hs1 g2
            refine ⟨_, rfl, hs2, ?_⟩
            have hu2 := draw_trans hu1 g2
            refine pu 8 (.int .u32 (tkV b ((at' : Int) + 1) 4)) hs2 rfl ?_
            refine twoL (i := 12) (j := 20) (by kernel_rfl) ?_ ?_
            · refine coS 12 29 91 #[.string b, .int .i64 ((at' : Int) + 5), .int .i64 4] (record_take.calls 12 b _ _ _ _ HT3.out) rfl ?_
              rintro e W3 ⟨rfl, g3⟩
              have hs3 := draw_cell hs2 g3
              refine ⟨_, rfl, hs3, ?_⟩
              have hu3 := draw_trans hu2 g3
              refine pu 13 (.int .u32 (tkV b ((at' : Int) + 5) 4)) hs3 rfl ?_
              refine twoL (i := 17) (j := 20) (by kernel_rfl) ?_ ?_
              · refine coS 17 34 91 #[.string b, .int .i64 ((at' : Int) + 9), .int .i64 4] (record_take.calls 12 b _ _ _ _ HT4.out) rfl ?_
                rintro e W4 ⟨rfl, g4⟩
                have hs4 := draw_cell hs3 g4
                refine ⟨_, rfl, hs4, ?_⟩
                have hu4 := draw_trans hu3 g4
                refine pu 18 (.int .u32 (tkV b ((at' : Int) + 9) 4)) hs4 rfl ?_
                refine pu 19 (.agg #[.int .i64 (tkV b at' 1), .int .u32 (tkV b ((at' : Int) + 1) 4), .int .u32 (tkV b ((at' : Int) + 5) 4), .int .u32 (tkV b ((at' : Int) + 9) 4)]) hs4 rfl ?_
                refine al 20 (.pointer (some ⟨wr.heap.size, 0, none⟩)) (World.alloc W4 entO) (by kernel_rfl) rfl ?_ ?_ (hv := by go_simp; first | exact rfl | exact ⟨draw_size hu4, rfl⟩)
                · exact ent_cell hs4 entO
                · have hd := draw_alloc hu4 entO
                  obtain ⟨d, hd⟩ := hd.out
                  rw [hd]
                  refine st 21 (entW wr b at' d) (by kernel_rfl) rfl ?_ (hv := by go_simp; first | done | rfl)
                  exact doneL (by kernel_rfl) (entQ_done d) _
              · refine alS 20 (.pointer (some ⟨wr.heap.size, 0, none⟩)) (World.alloc W3 entO) rfl ?_ ?_ (hv := by go_simp; first | exact rfl | exact ⟨draw_size hu3, rfl⟩)
                · exact ent_cell hs3 entO
                · have hd := draw_alloc hu3 entO
                  have hsd := ent_cell hs3 entO
                  refine co 17 34 91 #[.string b, .int .i64 ((at' : Int) + 9), .int .i64 4] (record_take.calls 12 b _ _ _ _ HT4.out) (by kernel_rfl) rfl ?_
                  rintro e W4 ⟨rfl, g4⟩
                  have hs4 := draw_cell hsd g4
                  refine ⟨_, rfl, hs4, ?_⟩
                  have hd4 := draw_trans hd g4
                  refine pu 18 (.int .u32 (tkV b ((at' : Int) + 9) 4)) hs4 rfl ?_
                  refine pu 19 (.agg #[.int .i64 (tkV b at' 1), .int .u32 (tkV b ((at' : Int) + 1) 4), .int .u32 (tkV b ((at' : Int) + 5) 4), .int .u32 (tkV b ((at' : Int) + 9) 4)]) hs4 rfl ?_
                  obtain ⟨d, hd⟩ := hd4.out
                  rw [hd]
                  refine st 21 (entW wr b at' d) (by kernel_rfl) rfl ?_ (hv := by go_simp; first | done | rfl)
                  exact doneL (by kernel_rfl) (entQ_done d) _
            · refine alS 20 (.pointer (some ⟨wr.heap.size, 0, none⟩)) (World.alloc W2 entO) rfl ?_ ?_ (hv := by go_simp; first | exact rfl | exact ⟨draw_size hu2, rfl⟩)
              · exact ent_cell hs2 entO
              · have hd := draw_alloc hu2 entO
                have hsd := ent_cell hs2 entO
                refine co 12 29 91 #[.string b, .int .i64 ((at' : Int) + 5), .int .i64 4] (record_take.calls 12 b _ _ _ _ HT3.out) (by kernel_rfl) rfl ?_
                rintro e W3 ⟨rfl, g3⟩
                have hs3 := draw_cell hsd g3
                refine ⟨_, rfl, hs3, ?_⟩
                have hd3 := draw_trans hd g3
                refine pu 13 (.int .u32 (tkV b ((at' : Int) + 5) 4)) hs3 rfl ?_
                refine co 17 34 91 #[.string b, .int .i64 ((at' : Int) + 9), .int .i64 4] (record_take.calls 12 b _ _ _ _ HT4.out) (by kernel_rfl) rfl ?_
                rintro e W4 ⟨rfl, g4⟩
                have hs4 := draw_cell hs3 g4
                refine ⟨_, rfl, hs4, ?_⟩
                have hd4 := draw_trans hd3 g4
                refine pu 18 (.int .u32 (tkV b ((at' : Int) + 9) 4)) hs4 rfl ?_
                refine pu 19 (.agg #[.int .i64 (tkV b at' 1), .int .u32 (tkV b ((at' : Int) + 1) 4), .int .u32 (tkV b ((at' : Int) + 5) 4), .int .u32 (tkV b ((at' : Int) + 9) 4)]) hs4 rfl ?_
                obtain ⟨d, hd⟩ := hd4.out
                rw [hd]
                refine st 21 (entW wr b at' d) (by kernel_rfl) rfl ?_ (hv := by go_simp; first | done | rfl)
                exact doneL (by kernel_rfl) (entQ_done d) _
          · refine alS 20 (.pointer (some ⟨wr.heap.size, 0, none⟩)) (World.alloc W1 entO) rfl ?_ ?_ (hv := by go_simp; first | exact rfl | exact ⟨draw_size hu1, rfl⟩)
            · exact ent_cell hs1 entO
            · have hd := draw_alloc hu1 entO
              have hsd := ent_cell hs1 entO
              refine co 7 24 91 #[.string b, .int .i64 ((at' : Int) + 1), .int .i64 4] (record_take.calls 12 b _ _ _ _ HT2.out) (by kernel_rfl) rfl ?_
              rintro e W2 ⟨rfl, g2⟩
              have hs2 := draw_cell hsd g2
              refine ⟨_, rfl, hs2, ?_⟩
              have hd2 := draw_trans hd g2
              refine pu 8 (.int .u32 (tkV b ((at' : Int) + 1) 4)) hs2 rfl ?_
              refine co 12 29 91 #[.string b, .int .i64 ((at' : Int) + 5), .int .i64 4] (record_take.calls 12 b _ _ _ _ HT3.out) (by kernel_rfl) rfl ?_
              rintro e W3 ⟨rfl, g3⟩
              have hs3 := draw_cell hs2 g3
              refine ⟨_, rfl, hs3, ?_⟩
              have hd3 := draw_trans hd2 g3
              refine pu 13 (.int .u32 (tkV b ((at' : Int) + 5) 4)) hs3 rfl ?_
              refine co 17 34 91 #[.string b, .int .i64 ((at' : Int) + 9), .int .i64 4] (record_take.calls 12 b _ _ _ _ HT4.out) (by kernel_rfl) rfl ?_
              rintro e W4 ⟨rfl, g4⟩
              have hs4 := draw_cell hs3 g4
              refine ⟨_, rfl, hs4, ?_⟩
              have hd4 := draw_trans hd3 g4
              refine pu 18 (.int .u32 (tkV b ((at' : Int) + 9) 4)) hs4 rfl ?_
              refine pu 19 (.agg #[.int .i64 (tkV b at' 1), .int .u32 (tkV b ((at' : Int) + 1) 4), .int .u32 (tkV b ((at' : Int) + 5) 4), .int .u32 (tkV b ((at' : Int) + 9) 4)]) hs4 rfl ?_
              obtain ⟨d, hd⟩ := hd4.out
              rw [hd]
              refine st 21 (entW wr b at' d) (by kernel_rfl) rfl ?_ (hv := by go_simp; first | done | rfl)
              exact doneL (by kernel_rfl) (entQ_done d) _
        · refine alS 20 (.pointer (some ⟨wr.heap.size, 0, none⟩)) (World.alloc (World.drew wr) entO) rfl ?_ ?_ (hv := by go_simp; first | exact rfl | exact ⟨draw_size hU0, rfl⟩)
          · exact ent_cell hS entO
          · have hd := draw_alloc hU0 entO
            have hsd := ent_cell hS entO
            refine co 2 19 91 #[.string b, .int .i64 at', .int .i64 1] (record_take.calls 12 b _ _ _ _ HT1.out) (by kernel_rfl) rfl ?_
            rintro e W1 ⟨rfl, g1⟩
            have hs1 := draw_cell hsd g1
            refine ⟨_, rfl, hs1, ?_⟩
            have hd1 := draw_trans hd g1
            refine pu 3 (.int .i64 (tkV b at' 1)) hs1 rfl ?_
            refine co 7 24 91 #[.string b, .int .i64 ((at' : Int) + 1), .int .i64 4] (record_take.calls 12 b _ _ _ _ HT2.out) (by kernel_rfl) rfl ?_
            rintro e W2 ⟨rfl, g2⟩
            have hs2 := draw_cell hs1 g2
            refine ⟨_, rfl, hs2, ?_⟩
            have hd2 := draw_trans hd1 g2
            refine pu 8 (.int .u32 (tkV b ((at' : Int) + 1) 4)) hs2 rfl ?_
            refine co 12 29 91 #[.string b, .int .i64 ((at' : Int) + 5), .int .i64 4] (record_take.calls 12 b _ _ _ _ HT3.out) (by kernel_rfl) rfl ?_
            rintro e W3 ⟨rfl, g3⟩
            have hs3 := draw_cell hs2 g3
            refine ⟨_, rfl, hs3, ?_⟩
            have hd3 := draw_trans hd2 g3
            refine pu 13 (.int .u32 (tkV b ((at' : Int) + 5) 4)) hs3 rfl ?_
            refine co 17 34 91 #[.string b, .int .i64 ((at' : Int) + 9), .int .i64 4] (record_take.calls 12 b _ _ _ _ HT4.out) (by kernel_rfl) rfl ?_
            rintro e W4 ⟨rfl, g4⟩
            have hs4 := draw_cell hs3 g4
            refine ⟨_, rfl, hs4, ?_⟩
            have hd4 := draw_trans hd3 g4
            refine pu 18 (.int .u32 (tkV b ((at' : Int) + 9) 4)) hs4 rfl ?_
            refine pu 19 (.agg #[.int .i64 (tkV b at' 1), .int .u32 (tkV b ((at' : Int) + 1) 4), .int .u32 (tkV b ((at' : Int) + 5) 4), .int .u32 (tkV b ((at' : Int) + 9) 4)]) hs4 rfl ?_
            obtain ⟨d, hd⟩ := hd4.out
            rw [hd]
            refine st 21 (entW wr b at' d) (by kernel_rfl) rfl ?_ (hv := by go_simp; first | done | rfl)
            exact doneL (by kernel_rfl) (entQ_done d) _
      -- END REGION
      case rest =>
        intro e a W hq
        cases e with
        | normal =>
          obtain ⟨rfl, d, rfl⟩ := hq
          clear c0 c1 c2 c3 z0 z1 z2 z3 hcb
          have hf := ent_fin wr b at' d
          have hbl := ent_below wr b at' d
          have hbW : (entW wr b at' d).heap[Bb]? = some (.cells #[.string b] 9 (0, 0)) := (hbl.block Bb (Array.getElem?_eq_some_iff.1 hbk).1).trans hbk
          have hJW : J k (entW wr b at' d) := hJ k _ _ hJs (Turn.of_below hbl)
          generalize entW wr b at' d = W at hf hbW hJW ⊢
          have c0 : W.cell? ⟨wr.heap.size, 0, none⟩ = some (.int .i64 (tkV b (at' : Int) 1)) := by rw [Lib.cell_of_heap hf]; rfl
          have c1 : W.cell? ⟨wr.heap.size, 1, none⟩ = some (.int .u32 (tkV b ((at' : Int) + 1) 4)) := by rw [Lib.cell_of_heap hf]; rfl
          have c2 : W.cell? ⟨wr.heap.size, 2, none⟩ = some (.int .u32 (tkV b ((at' : Int) + 5) 4)) := by rw [Lib.cell_of_heap hf]; rfl
          have c3 : W.cell? ⟨wr.heap.size, 3, none⟩ = some (.int .u32 (tkV b ((at' : Int) + 9) 4)) := by rw [Lib.cell_of_heap hf]; rfl
          obtain ⟨fn, tmps, assign, body, hy, hR⟩ := hY k _ HK.out hJW
          unfold enV entAt at hy
          rw [HE17.out] at hy
          simp only [Act.put]
          gi_wp2_with fail
          refine hR.mono ?_
          rintro e W3 (⟨rfl, hJ4, hk4⟩ | ⟨rfl, hJx4⟩)
          · have hb4 : W3.heap[Bb]? = some (.cells #[.string b] 9 (0, 0)) := (hk4.same Bb rfl (Array.getElem?_eq_some_iff.1 hbW).1).trans hbW
            gi_wp2
            go_roundw
            case rel => exact ⟨k + 1, Nat.succ_le_of_lt HK.out, by simp [ek1], hJ4, hb4⟩
            case measure => exact HM.out
          · gi_wp2
            refine bodyPost_ret (results_none rfl _ _ _) rfl ?_
            exact ⟨⟨_, rfl⟩, .inr ⟨k + 1, Nat.succ_le_of_lt HK.out, hJx4⟩⟩
        | exit _ => exact hq.elim
        | goto _ => exact hq.elim
        | ret => exact hq.elim
        | panic _ => exact hq.elim
        | outgrown => exact hq.elim
    · have hkl : decide ((k : Int) < (N : Int)) = false := decide_eq_false (by omega)
      have hkl2 : decide (k < N) = false := decide_eq_false hlt
      have hkw : k = N := by omega
      gi_wp2
      go_end0
      exact ⟨⟨_, rfl⟩, .inl (hkw ▸ hJs)⟩
end Go.Proofs.Ythgefgjaihagoaa.Q

set_option linter.unusedVariables false
set_option linter.unusedSimpArgs false
namespace Go.Proofs.Ythgefgjaihagoaa.Q
open Go.RowKit Go.Shelf Go.Proofs.Ythgefgjaihagoaa.H Go.Proofs.Ythgefgjaihagoaa.P Go.Proofs.YthgefgjaihagoaaW.PrintWords Go.Proofs.YthgefgjaihagoaaW.PrintLast Go.Proofs.YthgefgjaihagoaaW.PrintMore
attribute [local go_sem] Oper.semAt_some
set_option maxRecDepth 100000
theorem sEntF : (Try.prog.info? 43).map (fun i => (i.zero, i.size, i.bytes)) = some (some (.agg #[.int .i64 0, .int .u32 0, .int .u32 0, .int .u32 0]), 4, 24) := by kernel_rfl
/-- A field of a block that a round appends to. -/
theorem field_appended {W w1 : World} {base n₀ B o : Nat} {t e : TypeId} {size : Nat} {cs : Array Value} {v v' : Value} {k m : Nat} {xs ys : List Value} {tmp : Obj}
    (hv : W.heap[B]? = some (.cells cs t (0, 0))) (hrow : W.ownsRow base e size v k xs) (hbase : base ≤ W.heap.size) (hB : B < base) (hn : n₀ ≤ B)
    (hown' : w1.ownsRow base e size v' m ys) (hgrow : (W.alloc tmp).grownBy w1 v.ownBlock) :
    w1.heap[B]? = some (.cells cs t (0, 0)) ∧ (w1.setCell ⟨B, o, none⟩ v').heap[B]? = some (.cells (cs.setIfInBounds o v') t (0, 0)) ∧ (w1.setCell ⟨B, o, none⟩ v').ownsRow base e size v' m ys ∧ KeepsOthers W (w1.setCell ⟨B, o, none⟩ v') ∧ Below n₀ W (w1.setCell ⟨B, o, none⟩ v') ∧
      ∀ j, j < base → j ≠ B → (w1.setCell ⟨B, o, none⟩ v').heap[j]? = W.heap[j]? := by
  have hnb : ∀ j, v.ownBlock = some j → base ≤ j := fun j ej => by
    rcases hrow.2 with ⟨rfl, _⟩ | ⟨g, cap, cur, rfl, hb, _, _⟩
    · simp [Value.ownBlock] at ej
    · obtain rfl : g = j := by simpa [Value.ownBlock] using ej
      exact hb
  have h1 : w1.heap[B]? = some (.cells cs t (0, 0)) := (hgrow.block B (by simp; omega) (fun e => absurd (hnb B e.symm) (by omega))).trans ((Below.heap_alloc _ _ _ (by omega)).trans hv)
  refine ⟨h1, by simp [World.setCell, Array.getElem?_modify, h1], ⟨hown'.1, ?_⟩, ?_, ?_, ?_⟩
  · rcases hown'.2 with hn | ⟨g, cap, cur, hv, hbg, hg, rest⟩
    · exact .inl hn
    · exact .inr ⟨g, cap, cur, hv, hbg, (Below.heap_setCell _ _ _ _ (by show g ≠ B; omega)).trans hg, rest⟩
  · refine ((KeepsOthers.alloc W tmp).trans (KeepsOthers.of_grownBy hgrow fun j o ej hj => ?_)).trans (KeepsOthers.setCell _ _ _)
    rcases (hrow.alloc tmp).2 with ⟨rfl, _⟩ | ⟨g, cap, cur, rfl, _, hgb, _⟩
    · simp [Value.ownBlock] at ej
    · obtain rfl : g = j := by simpa [Value.ownBlock] using ej
      rw [hgb] at hj; cases hj; rfl
  · exact (((Below.refl n₀ W).alloc (by omega) tmp).grown hgrow (by simp; omega) fun j ej => Nat.le_trans (by omega) (hnb j ej)).setCell (p := ⟨B, o, none⟩) hn v'
  · intro j hj hjB
    rw [Below.heap_setCell _ _ _ _ hjB, hgrow.block j (by simp; omega) (fun e => absurd (hnb j e.symm) (by omega)), Below.heap_alloc _ _ _ (by omega)]
theorem entries_calls (b : ByteArray) (w : World) : Calls Try.prog 92 #[.string b] w fun e w' =>
    e = .returned (.func (.func 105) #[] #[.pointer (some ⟨w.heap.size, 0, none⟩)]) ∧ w' = w.alloc (.cells #[.string b] 9) := by
  go_enter Try.func92, Try.ntmps92
  go_wp2
  go_ret
  exact ⟨rfl, rfl⟩
def enC (x : SEn) : List Value := [.int .i64 x.f0, .int .u32 x.f1, .int .u32 x.f2, .int .u32 x.f3]
def flatN (l : List SEn) : List Value := (l.map enC).flatten
theorem flatN_snoc (l : List SEn) (x : SEn) : flatN (l ++ [x]) = flatN l ++ enC x := by simp [flatN]
theorem flatN_len : ∀ l : List SEn, (flatN l).length = l.length * 4
  | [] => rfl
  | x :: xs => by
    have := flatN_len xs
    unfold flatN at this ⊢
    rw [List.map_cons, List.flatten_cons, List.length_append, this, List.length_cons]
    show 4 + _ = _
    omega
theorem flatN_at : ∀ (l : List SEn) (j : Nat) (p : SEn), l[j]? = some p → ((flatN l).drop (j * 4)).take 4 = enC p
  | [], j, p, h => by simp at h
  | x :: xs, 0, p, h => by
    simp at h; subst h
    simp [flatN, enC]
  | x :: xs, j + 1, p, h => by
    have e : flatN (x :: xs) = enC x ++ flatN xs := by simp [flatN]
    rw [e, show (j + 1) * 4 = 4 + j * 4 by omega, ← List.drop_drop]
    exact flatN_at xs j p (by simpa using h)
theorem N_of_flat {w : World} {base : Nat} {v : Value} {l : List SEn} (h : w.ownsRow base 43 4 v l.length (flatN l)) : Kd.R k43 43 w base (fun _ => True) v l :=
  ⟨fun _ _ => trivial, flatN l, h, flatN_len l, fun j p hj => by
    have := flatN_at l j p hj
    show k43.M _ _ _ p (((flatN l).drop (j * 4)).take 4)
    rw [this]
    exact k43_mkM _ _ _ p⟩
theorem stands_rowN {own : Nat → Prop} {T : TypeId → Prop} {base : Nat} {e : TypeId} {size n : Nat} {v : Value} {xs : List Value} (he : ¬ T e) : Stands own T (fun W => W.ownsRow base e size v n xs) := fun A C h hT => by
  refine ⟨h.1, ?_⟩
  rcases h.2 with hn | ⟨g, cap, cur, hv, hbg, hg, rest⟩
  · exact .inl hn
  · exact .inr ⟨g, cap, cur, hv, hbg, hT.same g _ hg (.inr ⟨_, _, _, rfl, he⟩), rest⟩
theorem rowN_slice {w : World} {base : Nat} {e : TypeId} {size n : Nat} {v : Value} {xs : List Value} (h : w.ownsRow base e size v n xs) : ∃ A c, v = .slice A n c := by
  rcases h.2 with ⟨rfl, rfl⟩ | ⟨g, cap, cur, rfl, _⟩
  · exact ⟨_, _, rfl⟩
  · exact ⟨_, _, rfl⟩
theorem cellsN_new (w : World) (cs : List Value) (t : TypeId) : ∀ j u, cs[j]? = some u → (w.alloc (.cells cs.toArray t)).cell? ((⟨w.heap.size, 0, none⟩ : Addr).add j) = some u := by
  intro j u h
  have hn := World.alloc_heap_new w (.cells cs.toArray t)
  have he : (⟨w.heap.size, 0, none⟩ : Addr).add j = ⟨w.heap.size, j, none⟩ := by unfold Addr.add; split <;> simp_all
  rw [he, Lib.cell_of_heap hn]
  simpa using h
theorem head_ne {s b : ByteArray} (hs : s.size = 512) (hb : b.size = 512) (h1 : s.data.toList.head? = some 82) (h2 : b.data.toList.head? ≠ some 82) : (!((s.extract 0 256).toList == (b.extract 0 256).toList)) = true := by
  have key : ∀ c : ByteArray, c.size = 512 → (c.extract 0 256).data.toList.head? = c.data.toList.head? := fun c hc => by
    have hl : c.data.toList.length = 512 := by rw [Array.length_toList]; exact hc
    simp [ByteArray.data_extract, List.head?_take]
  rw [show ((s.extract 0 256).toList == (b.extract 0 256).toList) = false from ?_]; rfl
  rw [beq_eq_false_iff_ne]
  intro e
  rw [ByteArray.toList_eq, ByteArray.toList_eq] at e
  have := key s hs
  rw [e, key b hb] at this
  exact h2 (this.trans h1)
/-- A record struck out. -/
def zs (W : World) (H : Nat) : World :=
  (((((W.setCell ⟨H, 0, none⟩ (.int .u64 0)).setCell ⟨H, 1, none⟩ (.int .u64 0)).setCell ⟨H, 2, none⟩ (.bool false)).setCell ⟨H, 3, none⟩ (.bool false)).setCell ⟨H, 4, none⟩ (.int .i64 0)).setCell ⟨H, 5, none⟩ (.slice none 0 0)
theorem zs_heap {W : World} {H : Nat} {t : TypeId} {o0 o1 o2 o3 o4 o5 : Value} (h : W.heap[H]? = some (.cells #[o0, o1, o2, o3, o4, o5] t (0, 0))) :
    (zs W H).heap[H]? = some (.cells #[.int .u64 0, .int .u64 0, .bool false, .bool false, .int .i64 0, .slice none 0 0] t (0, 0)) := by
  simp [zs, World.setCell, Array.getElem?_modify, h]
theorem zs_other (W : World) (H k : Nat) (hk : k ≠ H) : (zs W H).heap[k]? = W.heap[k]? := by
  simp [zs, World.setCell, Array.getElem?_modify, Ne.symm hk]
theorem zs_below {w W : World} {H : Nat} (h : Below H w W) : Below H w (zs W H) :=
  (((((h.setCell (p := ⟨H, 0, none⟩) (Nat.le_refl _) _).setCell (p := ⟨H, 1, none⟩) (Nat.le_refl _) _).setCell (p := ⟨H, 2, none⟩) (Nat.le_refl _) _).setCell (p := ⟨H, 3, none⟩) (Nat.le_refl _) _).setCell (p := ⟨H, 4, none⟩) (Nat.le_refl _) _).setCell (p := ⟨H, 5, none⟩) (Nat.le_refl _) _
def zst (W : World) (H : Nat) : World :=
  ((((((W.setCell ⟨H, 0, none⟩ (.int .u64 0)).setCell ⟨H, 1, none⟩ (.int .u64 0)).setCell ⟨H, 2, none⟩ (.bool false)).setCell ⟨H, 3, none⟩ (.bool false)).setCell ⟨H, 4, none⟩ (.int .i64 0)).setCell ⟨H, 5, none⟩ (.slice none 0 0)).drew
theorem zst_heap {W : World} {H : Nat} {t : TypeId} {o0 o1 o2 o3 o4 o5 : Value} (h : W.heap[H]? = some (.cells #[o0, o1, o2, o3, o4, o5] t (0, 0))) :
    (zst W H).heap[H]? = some (.cells #[.int .u64 0, .int .u64 0, .bool false, .bool false, .int .i64 0, .slice none 0 0] t (0, 0)) := by
  simp [zst, World.drew, World.setCell, Array.getElem?_modify, h]
theorem zst_other (W : World) (H k : Nat) (hk : k ≠ H) : (zst W H).heap[k]? = W.heap[k]? := by
  simp [zst, World.drew, World.setCell, Array.getElem?_modify, Ne.symm hk]
theorem zst_below {w W : World} {H : Nat} (h : Below H w W) : Below H w (zst W H) := (zs_below h).drew
/-- What a range over a record's entries finds. -/
structure RecAt (w : World) (H : Nat) (rec : Array Value) (b : ByteArray) (k : Nat) (W : World) : Prop where
  z : W.heap[H]? = some (.cells #[.int .u64 0, .int .u64 0, .bool false, .bool false, .int .i64 0, .slice none 0 0] 86 (0, 0))
  r : ∃ v, W.heap[H + 1]? = some (.cells (rec.push v) 86 (0, 0)) ∧ W.ownsRow (H + 3) 43 4 v k (flatN (entL b k))
  bl : Below H w W
set_option maxHeartbeats 8000000 in
theorem recDec_no (b : ByteArray) (hb : b.size = 512) (h82 : b.data.toList.head? ≠ some 82) (w : World) : Calls Try.prog 61 #[.string b] w fun e w' =>
    e = .returned (.tuple #[.agg #[.int .u64 0, .int .u64 0, .bool false, .bool false, .int .i64 0, .slice none 0 0], .int .i64 70]) ∧ Below w.heap.size w w' := by
  obtain ⟨i0, hi, hi0, hi1, hi2⟩ := info_parts sEntF
  have hbs : ((b.size : Int) != 512) = false := by simp; omega
  have HB := Aside0.mk hb
  have H82 := Aside0.mk h82
  clear hb h82
  have HT1 : Aside0 (record_take.f 12 b 13 1 = some (tkV b 13 1)) := Aside0.mk (tk_f HB.out (by omega) (by omega))
  have HT2 : Aside0 (record_take.f 12 b 1 6 = some (tkV b 1 6)) := Aside0.mk (tk_f HB.out (by omega) (by omega))
  have HT3 : Aside0 (record_take.f 12 b 7 6 = some (tkV b 7 6)) := Aside0.mk (tk_f HB.out (by omega) (by omega))
  have HT4 : Aside0 (record_take.f 12 b 14 2 = some (tkV b 14 2)) := Aside0.mk (tk_f HB.out (by omega) (by omega))
  obtain ⟨H, hH⟩ : ∃ H, w.heap.size = H := ⟨_, rfl⟩
  refine (callsIn_wide (n := 10)).1 ?_
  refine callsIn_of_wp_marks Try.func61 rfl trivial ?_ rfl
  simp only [Try.ntmps61, List.size_toArray, List.length_cons, List.length_nil, Nat.reduceAdd, Nat.reduceSub, Array.replicate_succ, Array.replicate_zero, List.push_toArray, List.append_toArray, List.nil_append, List.cons_append]
  gi_wp2_with fail
  refine wpIn_scope ?_
  gi_wp2_with fail
  obtain ⟨w0, hw0⟩ : ∃ w0, w.alloc (.cells #[.int .u64 0, .int .u64 0, .bool false, .bool false, .int .i64 0, .slice none 0 0] 86) = w0 := ⟨_, rfl⟩
  have hb0 : Below H w w0 := by rw [← hw0]; exact (Below.refl H w).alloc (by omega) _
  have hz0 : w0.heap[H]? = some (.cells #[.int .u64 0, .int .u64 0, .bool false, .bool false, .int .i64 0, .slice none 0 0] 86 (0, 0)) := by rw [← hw0, ← hH]; exact World.alloc_heap_new w _
  have hs0 : w0.heap.size = H + 1 := by rw [← hw0]; simp [hH]
  rw [hw0]
  clear hw0
  refine ⟨trivial, (callsIn_wide.2 (record_take.calls 12 b 13 1 _ _ HT1.out)).mono ?_⟩
  rintro e w1 ⟨rfl, g1⟩
  gi_wp2_with fail
  refine ⟨trivial, (callsIn_wide.2 (record_take.calls 12 b 1 6 _ _ HT2.out)).mono ?_⟩
  rintro e w2 ⟨rfl, g2⟩
  gi_wp2_with fail
  refine ⟨trivial, (callsIn_wide.2 (record_take.calls 12 b 7 6 _ _ HT3.out)).mono ?_⟩
  rintro e w3 ⟨rfl, g3⟩
  gi_wp2_with fail
  refine ⟨trivial, (callsIn_wide.2 (record_take.calls 12 b 14 2 _ _ HT4.out)).mono ?_⟩
  rintro e w4 ⟨rfl, g4⟩
  have g := draw_trans (draw_trans (draw_trans g1 g2) g3) g4
  have hs4 : w4.heap.size = H + 1 := (draw_size g).trans hs0
  obtain ⟨nd, rfl⟩ := g.out
  clear g1 g2 g3 g4 g
  have r0 := tk_range b 1 6
  have r1 := tk_range b 7 6
  have e6 : (256 : Int) ^ 6 = 281474976710656 := by decide
  rw [e6] at r0 r1
  obtain ⟨a0, ha0⟩ : ∃ x, tkV b 1 6 = x := ⟨_, rfl⟩
  obtain ⟨a1, ha1⟩ : ∃ x, tkV b 7 6 = x := ⟨_, rfl⟩
  obtain ⟨x3, hx3⟩ : ∃ x, tkV b 13 1 = x := ⟨_, rfl⟩
  obtain ⟨x4, hx4⟩ : ∃ x, tkV b 14 2 = x := ⟨_, rfl⟩
  obtain ⟨q1, hq1⟩ : ∃ q, (x3 == 1) = q := ⟨_, rfl⟩
  obtain ⟨q2, hq2⟩ : ∃ q, (x3 == 2) = q := ⟨_, rfl⟩
  obtain ⟨n4, hn4⟩ : ∃ q, wrap64 x4 = q := ⟨_, rfl⟩
  have HR0 : Aside0 (0 ≤ a0 ∧ a0 < 18446744073709551616) := Aside0.mk (by rw [← ha0]; exact ⟨r0.1, Int.lt_trans r0.2 (by decide)⟩)
  have HR1 : Aside0 (0 ≤ a1 ∧ a1 < 18446744073709551616) := Aside0.mk (by rw [← ha1]; exact ⟨r1.1, Int.lt_trans r1.2 (by decide)⟩)
  simp only [ha0, ha1, hx3, hx4]
  clear ha0 ha1 hx3 hx4 r0 r1 e6 HT1 HT2 HT3 HT4
  gi_wp2_with fail
  refine wpIn_label ?_
  gi_wp2_with fail
  simp only [hq1, hq2, hn4]
  clear hq1 hq2 hn4
  have hs4' : (w0.drewN nd).heap.size = H + 1 := hs4
  have hbw : Below H w (w0.drewN nd) := pw_below_drewN hb0 nd
  have hzw : (w0.drewN nd).heap[H]? = some (.cells #[.int .u64 0, .int .u64 0, .bool false, .bool false, .int .i64 0, .slice none 0 0] 86 (0, 0)) := hz0
  generalize w0.drewN nd = w5 at hs4' hbw hzw ⊢
  obtain ⟨w6, hw6⟩ : ∃ w6, w5.alloc (.cells #[.int .u64 a0, .int .u64 a1, .bool q1, .bool q2, .int .i64 n4, .slice none 0 0] 86) = w6 := ⟨_, rfl⟩
  have hb6 : Below H w w6 := by rw [← hw6]; exact hbw.alloc (by omega) _
  have hz6 : w6.heap[H]? = some (.cells #[.int .u64 0, .int .u64 0, .bool false, .bool false, .int .i64 0, .slice none 0 0] 86 (0, 0)) := by rw [← hw6]; exact (Below.heap_alloc _ _ _ (by omega)).trans hzw
  have hr6 : w6.heap[H + 1]? = some (.cells #[.int .u64 a0, .int .u64 a1, .bool q1, .bool q2, .int .i64 n4, .slice none 0 0] 86 (0, 0)) := by rw [← hw6, ← hs4']; exact World.alloc_heap_new w5 _
  have hs6 : w6.heap.size = H + 2 := by rw [← hw6]; simp [hs4']
  rw [hw6]
  clear hw6 hs4' hbw hzw hb0 hz0 hs0 hs4
  refine ⟨trivial, (callsIn_wide.2 (entries_calls b _)).mono ?_⟩
  rintro e w7 ⟨rfl, hw7⟩
  rw [hs6]
  have hb7 : Below H w w7 := by rw [hw7]; exact hb6.alloc (by omega) _
  have hz7 : w7.heap[H]? = some (.cells #[.int .u64 0, .int .u64 0, .bool false, .bool false, .int .i64 0, .slice none 0 0] 86 (0, 0)) := by rw [hw7]; exact (Below.heap_alloc _ _ _ (by omega)).trans hz6
  have hr7 : w7.heap[H + 1]? = some (.cells #[.int .u64 a0, .int .u64 a1, .bool q1, .bool q2, .int .i64 n4, .slice none 0 0] 86 (0, 0)) := by rw [hw7]; exact (Below.heap_alloc _ _ _ (by omega)).trans hr6
  have hs7 : w7.heap.size = H + 3 := by rw [hw7]; simp [hs6]
  have hbx : w7.heap[H + 2]? = some (.cells #[.string b] 9 (0, 0)) := by rw [hw7, ← hs6]; exact World.alloc_heap_new w6 _
  clear hw7 hb6 hz6 hr6 hs6
  gi_wp2_with fail
  have st : ∀ (k : Nat) (own : Nat → Prop), (∀ j, own j → H + 3 ≤ j) → Stands own (fun _ => False) (RecAt w H #[.int .u64 a0, .int .u64 a1, .bool q1, .bool q2, .int .i64 n4] b k) := fun k own ho A B h ht => by
    obtain ⟨v, h1, h2⟩ := h.r
    exact ⟨ht.same _ _ h.z (.inl fun e => by have := ho _ e; omega), ⟨v, ht.same _ _ h1 (.inl fun e => by have := ho _ e; omega), stands_rowN (fun h => h) A B h2 ht⟩, stands_below (by omega) (fun q h => by have := ho _ h; omega) A B h.bl ht⟩
  have ho : ∀ j, (False ∨ j = w7.heap.size ∨ j = w7.heap.size + 1) → H + 3 ≤ j := by
    rw [hs7]
    rintro j (h | h | h)
    · exact h.elim
    · omega
    · omega
  refine wpIn_rangeW rfl (by omega) (gf := 105) (lb := #[.pointer (some ⟨H + 2, 0, none⟩)]) rfl trivial (enters_of Try.func105 (by kernel_rfl) rfl)
    (entries_seq 9 (by omega) b HB.out (H + 2) w7 hbx) (Below.refl _ _) (fun _ => rfl) (fun h => h) (fun h => h) (by omega)
    (fun k W => RecAt w H #[.int .u64 a0, .int .u64 a1, .bool q1, .bool q2, .int .i64 n4] b k W ∧ W.heap[H + 2]? = some (.cells #[.string b] 9 (0, 0)) ∧ k ≤ 16)
    (fun c _ W => c = .exit 0 ∧ ∃ m, m ≤ 16 ∧ RecAt w H #[.int .u64 a0, .int .u64 a1, .bool q1, .bool q2, .int .i64 n4] b m W)
    (fun k => (st k _ ho).and ((stands_heap _ _ (fun h => by have := ho _ h; omega)).and (stands_pure _)))
    (fun c k => (stands_pure _).and (stands_ex fun m => (stands_pure _).and (st m _ ho)))
    ⟨⟨hz7, ⟨_, hr7, by simpa [entL, flatN] using World.ownsRow_nil _ _ _ _⟩, hb7⟩, hbx, by omega⟩
    (fun k V => { tmps := #[.string b, undef, .pointer (some ⟨H, 0, none⟩), .int .i64 0, .int .u64 x3, .pointer (some ⟨H + 1, 0, none⟩), .pointer (some ⟨V.heap.size, 0, none⟩), undef, undef, .string b, .int .i64 b.size, .bool false, undef, .string b, .int .u64 x3, .string b, .int .u64 a0, .string b, .int .u64 a1, .int .u64 x3, .bool q1, .int .u64 x3, .bool q2, .string b, .int .u64 x4, .int .i64 n4,
      .agg #[.int .u64 a0, .int .u64 a1, .bool q1, .bool q2, .int .i64 n4, .slice none 0 0], .string b, .func (.func 105) #[] #[.pointer (some ⟨H + 2, 0, none⟩)], enV (entAt b k), undef, undef, undef, undef, undef, undef, undef, undef, undef, undef, undef, undef, undef, undef, undef, undef, undef, undef, undef, undef, undef, undef, undef, undef, undef, undef], defers := [] })
    (fun k V => V.alloc (.cells (enC (entAt b k)).toArray 43))
    (fun k V => (Below.refl _ _).alloc (Nat.le_refl _) _) ?assign ?body ?done ?stop
  case assign =>
    intro lo k W K _ hK
    unfold enV
    unfold enV enC at hK
    gi_wp2
    exact hK
  case body =>
    rintro lo k V W hk hVs ⟨hR, hS, h16⟩ hsame hsz2
    have bs : W.heap[V.heap.size]? = some (.cells (enC (entAt b k)).toArray 43 (0, 0)) := (hsame _ (by omega)).trans (World.alloc_heap_new V _)
    obtain ⟨p, hp⟩ : ∃ p, V.heap.size = p := ⟨_, rfl⟩
    rw [hp] at bs
    have hsuc := entL_succ b k
    obtain ⟨x, hx⟩ : ∃ x, entAt b k = x := ⟨_, rfl⟩
    simp only [hx] at bs hsuc
    unfold enV
    simp only [hp, hx]
    unfold enC at bs
    have a0' : W.cell? ⟨p, 0, none⟩ = some (.int .i64 x.f0) := by rw [Lib.cell_of_heap bs]; rfl
    have a1' : W.cell? ⟨p, 1, none⟩ = some (.int .u32 x.f1) := by rw [Lib.cell_of_heap bs]; rfl
    have a2' : W.cell? ⟨p, 2, none⟩ = some (.int .u32 x.f2) := by rw [Lib.cell_of_heap bs]; rfl
    have a3' : W.cell? ⟨p, 3, none⟩ = some (.int .u32 x.f3) := by rw [Lib.cell_of_heap bs]; rfl
    obtain ⟨v, hv, hrow⟩ := hR.r
    obtain ⟨A, m, rfl⟩ := rowN_slice hrow
    have c5 : W.cell? ⟨H + 1, 5, none⟩ = some (.slice A k m) := by rw [Lib.cell_of_heap hv]; rfl
    have z5 : W.frozen? ⟨H + 1, 5, none⟩ = false := Lib.frozen_of_heap hv 5
    have hWs : H + 5 ≤ W.heap.size := by rw [hsz2]; simp; omega
    have HR := Aside0.mk hR
    clear hsame hsz2 hp bs hR
    by_cases h15 : k ≤ 15
    · have hd1 : decide ((15 : Int) < (k : Int)) = false := decide_eq_false (by omega)
      have hd2 : decide (15 < k) = false := decide_eq_false (by omega)
      have HROW := Aside0.mk hrow
      have HV := Aside0.mk hv
      clear h16 hrow hv
      gi_wp2_with (first | (gi_at_builtin; refine wpListIn_append_own _ rfl _ _ 84 rfl (H + 3) 43 i0 (.agg #[.int .i64 0, .int .u32 0, .int .u32 0, .int .u32 0]) 4 24 Try.underlying84 hi hi0 hi1 hi2 rfl (by decide) _ _ _ rfl (HROW.out.alloc _) ⟨W.heap.size, 0, none⟩ 1 1 (enC x) rfl rfl (cellsN_new _ _ _) (by unfold enC; simp [Value.oneCell']) (by unfold maxLen; omega) (by omega) (by simp; omega) ?_; intro v' w1 hown' hgrow _; obtain ⟨g', cap', rfl⟩ := ownsRow_succ hown'; obtain ⟨hv1, hv2, hr2, hk2, hb2, hsb⟩ := field_appended (n₀ := H) (o := 5) HV.out HROW.out (by omega) (by omega) (by omega) hown' hgrow; have hc1 : w1.cell? ⟨H + 1, 5, none⟩ = some (.slice A k m) := (by rw [Lib.cell_of_heap hv1]; rfl); have hf1 : w1.frozen? ⟨H + 1, 5, none⟩ = false := Lib.frozen_of_heap hv1 5))
      refine ⟨hk2, ⟨hb2.size, fun j hj hl => ?_⟩, ⟨(hsb H (by omega) (by omega)).trans HR.out.z, ⟨_, hv2, ?_⟩, HR.out.bl.trans hb2⟩, (hsb (H + 2) (by omega) (by omega)).trans hS, by omega⟩
      · subst hj; exact hsb _ (by omega) (by omega)
      · rw [hsuc, flatN_snoc]; exact hr2
    · have hd1 : decide ((15 : Int) < (k : Int)) = true := decide_eq_true (by omega)
      have hd2 : decide (15 < k) = true := decide_eq_true (by omega)
      clear hrow hv
      gi_wp2_with fail
      exact ⟨KeepsOthers.refl _, rfl, k, h16, HR.out⟩
  case done =>
    rintro W ⟨hR, hS, h16⟩ hWs hD
    rw [hs7] at hD hWs
    obtain ⟨v, hv, hrow⟩ := hR.r
    obtain ⟨A, c, rfl, hl, hC⟩ := Kd.R_reads (N_of_flat (by rw [entL_len]; exact hrow))
    rw [entL_len] at hv
    have c0 : W.cell? ⟨H + 1, 0, none⟩ = some (.int .u64 a0) := by rw [Lib.cell_of_heap hv]; rfl
    have c1 : W.cell? ⟨H + 1, 1, none⟩ = some (.int .u64 a1) := by rw [Lib.cell_of_heap hv]; rfl
    have c2 : W.cell? ⟨H + 1, 2, none⟩ = some (.bool q1) := by rw [Lib.cell_of_heap hv]; rfl
    have c3 : W.cell? ⟨H + 1, 3, none⟩ = some (.bool q2) := by rw [Lib.cell_of_heap hv]; rfl
    have c4 : W.cell? ⟨H + 1, 4, none⟩ = some (.int .i64 n4) := by rw [Lib.cell_of_heap hv]; rfl
    have c5 : W.cell? ⟨H + 1, 5, none⟩ = some (.slice A (entN b) c) := by rw [Lib.cell_of_heap hv]; rfl
    have HC := Aside0.mk hC
    have HL := Aside0.mk hl
    have HR := Aside0.mk hR
    have HD := Aside0.mk hD
    clear hv hrow hl hC hR hD
    gi_wp2_with fail
    have hCc := recE.calls a0 a1 q1 q2 n4 A c (entL b (entN b)) W HC.out HL.out HR0.out HR1.out
    rw [entL_len] at hCc
    refine ⟨trivial, (callsIn_wide.2 hCc).mono ?_⟩
    rintro e W2 ⟨⟨s, r, rfl, hs⟩, hb2⟩
    have hbs2 := HB.out
    have hz2 : W2.heap[H]? = some (.cells #[.int .u64 0, .int .u64 0, .bool false, .bool false, .int .i64 0, .slice none 0 0] 86 (0, 0)) := (hb2.block H (Array.getElem?_eq_some_iff.1 HR.out.z).1).trans HR.out.z
    have hD2 : W2.heap[H + 3]? = some (.deferred (some [])) := (hb2.block _ (Array.getElem?_eq_some_iff.1 HD.out).1).trans HD.out
    have HB2 : Aside0 (Below H w W2) := Aside0.mk (HR.out.bl.trans (hb2.mono (by omega)))
    have hD3 : (zst W2 H).heap[H + 3]? = some (.deferred (some [])) := (zst_other W2 H (H + 3) (by omega)).trans hD2
    have hZ3 : ((zst W2 H).putObj (H + 3) (.deferred none)).heap[H]? = some (.cells #[.int .u64 0, .int .u64 0, .bool false, .bool false, .int .i64 0, .slice none 0 0] 86 (0, 0)) := (World.putObj_heap_other (by omega)).trans (zst_heap hz2)
    have HB3 : Aside0 (Below w.heap.size w ((zst W2 H).putObj (H + 3) (.deferred none))) := Aside0.mk (by rw [hH]; exact (zst_below HB2.out).trans (belowK_b (w := w7) (by omega) (zst W2 H) _ _ _ (by omega) hD3 rfl rfl))
    have d0 : W2.cell? ⟨H, 0, none⟩ = some (.int .u64 0) := by rw [Lib.cell_of_heap hz2]; rfl
    have d1 : W2.cell? ⟨H, 1, none⟩ = some (.int .u64 0) := by rw [Lib.cell_of_heap hz2]; rfl
    have d2 : W2.cell? ⟨H, 2, none⟩ = some (.bool false) := by rw [Lib.cell_of_heap hz2]; rfl
    have d3 : W2.cell? ⟨H, 3, none⟩ = some (.bool false) := by rw [Lib.cell_of_heap hz2]; rfl
    have d4 : W2.cell? ⟨H, 4, none⟩ = some (.int .i64 0) := by rw [Lib.cell_of_heap hz2]; rfl
    have d5 : W2.cell? ⟨H, 5, none⟩ = some (.slice none 0 0) := by rw [Lib.cell_of_heap hz2]; rfl
    have f0 : W2.frozen? ⟨H, 0, none⟩ = false := Lib.frozen_of_heap hz2 0
    have f1 : W2.frozen? ⟨H, 1, none⟩ = false := Lib.frozen_of_heap hz2 1
    have f2 : W2.frozen? ⟨H, 2, none⟩ = false := Lib.frozen_of_heap hz2 2
    have f3 : W2.frozen? ⟨H, 3, none⟩ = false := Lib.frozen_of_heap hz2 3
    have f4 : W2.frozen? ⟨H, 4, none⟩ = false := Lib.frozen_of_heap hz2 4
    have f5 : W2.frozen? ⟨H, 5, none⟩ = false := Lib.frozen_of_heap hz2 5
    by_cases hr : r = 0
    · obtain ⟨hs1, hs2⟩ := hs hr
      subst hr
      have hne := head_ne hs1 hbs2 hs2 H82.out
      clear hs hs2
      gi_wp2_with fail
      gi_region
      gi_wp2_with fail
      refine ⟨by simp, .inl ⟨_, _, rfl, run_takeDeferred hD3, ?_⟩⟩
      refine ⟨_, results_ct rfl _ _ H 86 #[.int .u64 0, .int .u64 0, .bool false, .bool false, .int .i64 0, .slice none 0 0] (0, 0) _ rfl hZ3 Try.underlying86 rfl (by kernel_rfl), rfl, HB3.out⟩
    · have hr1 : (r != 0) = true := by simp [hr]
      clear hs hD3 hZ3 HB3 d0 d1 d2 d3 d4 d5 f0 f1 f2 f3 f4 f5
      gi_wp2_with fail
      refine wpIn_wide.2 ?_
      go_quiet (fail)
      have hz2' : (W2.drewN nq).heap[H]? = some (.cells #[.int .u64 0, .int .u64 0, .bool false, .bool false, .int .i64 0, .slice none 0 0] 86 (0, 0)) := hz2
      have hD2' : (W2.drewN nq).heap[H + 3]? = some (.deferred (some [])) := hD2
      have HB2' : Below H w (W2.drewN nq) := pw_below_drewN HB2.out nq
      clear hz2 hD2 HB2
      generalize W2.drewN nq = W3 at hz2' hD2' HB2' ⊢
      have hD3 : (zs W3 H).heap[H + 3]? = some (.deferred (some [])) := (zs_other W3 H (H + 3) (by omega)).trans hD2'
      have hZ3 : ((zs W3 H).putObj (H + 3) (.deferred none)).heap[H]? = some (.cells #[.int .u64 0, .int .u64 0, .bool false, .bool false, .int .i64 0, .slice none 0 0] 86 (0, 0)) := (World.putObj_heap_other (by omega)).trans (zs_heap hz2')
      have HB3 : Aside0 (Below w.heap.size w ((zs W3 H).putObj (H + 3) (.deferred none))) := Aside0.mk (by rw [hH]; exact (zs_below HB2').trans (belowK_b (w := w7) (by omega) (zs W3 H) _ _ _ (by omega) hD3 rfl rfl))
      have d0 : W3.cell? ⟨H, 0, none⟩ = some (.int .u64 0) := by rw [Lib.cell_of_heap hz2']; rfl
      have d1 : W3.cell? ⟨H, 1, none⟩ = some (.int .u64 0) := by rw [Lib.cell_of_heap hz2']; rfl
      have d2 : W3.cell? ⟨H, 2, none⟩ = some (.bool false) := by rw [Lib.cell_of_heap hz2']; rfl
      have d3 : W3.cell? ⟨H, 3, none⟩ = some (.bool false) := by rw [Lib.cell_of_heap hz2']; rfl
      have d4 : W3.cell? ⟨H, 4, none⟩ = some (.int .i64 0) := by rw [Lib.cell_of_heap hz2']; rfl
      have d5 : W3.cell? ⟨H, 5, none⟩ = some (.slice none 0 0) := by rw [Lib.cell_of_heap hz2']; rfl
      have f0 : W3.frozen? ⟨H, 0, none⟩ = false := Lib.frozen_of_heap hz2' 0
      have f1 : W3.frozen? ⟨H, 1, none⟩ = false := Lib.frozen_of_heap hz2' 1
      have f2 : W3.frozen? ⟨H, 2, none⟩ = false := Lib.frozen_of_heap hz2' 2
      have f3 : W3.frozen? ⟨H, 3, none⟩ = false := Lib.frozen_of_heap hz2' 3
      have f4 : W3.frozen? ⟨H, 4, none⟩ = false := Lib.frozen_of_heap hz2' 4
      have f5 : W3.frozen? ⟨H, 5, none⟩ = false := Lib.frozen_of_heap hz2' 5
      gi_wp2_with fail
      refine ⟨by simp, .inl ⟨_, _, rfl, run_takeDeferred hD3, ?_⟩⟩
      refine ⟨_, results_ct rfl _ _ H 86 #[.int .u64 0, .int .u64 0, .bool false, .bool false, .int .i64 0, .slice none 0 0] (0, 0) _ rfl hZ3 Try.underlying86 rfl (by kernel_rfl), rfl, HB3.out⟩

  case stop =>
    rintro cc k W hkN ⟨rfl, m, h16, hR⟩ hWs hD
    rw [hs7] at hD hWs
    refine wpIn_exit ?_
    obtain ⟨v, hv, hrow⟩ := hR.r
    obtain ⟨A, c, rfl, hl, hC⟩ := Kd.R_reads (N_of_flat (by rw [entL_len]; exact hrow))
    rw [entL_len] at hv
    have c0 : W.cell? ⟨H + 1, 0, none⟩ = some (.int .u64 a0) := by rw [Lib.cell_of_heap hv]; rfl
    have c1 : W.cell? ⟨H + 1, 1, none⟩ = some (.int .u64 a1) := by rw [Lib.cell_of_heap hv]; rfl
    have c2 : W.cell? ⟨H + 1, 2, none⟩ = some (.bool q1) := by rw [Lib.cell_of_heap hv]; rfl
    have c3 : W.cell? ⟨H + 1, 3, none⟩ = some (.bool q2) := by rw [Lib.cell_of_heap hv]; rfl
    have c4 : W.cell? ⟨H + 1, 4, none⟩ = some (.int .i64 n4) := by rw [Lib.cell_of_heap hv]; rfl
    have c5 : W.cell? ⟨H + 1, 5, none⟩ = some (.slice A m c) := by rw [Lib.cell_of_heap hv]; rfl
    have HC := Aside0.mk hC
    have HL := Aside0.mk hl
    have HR := Aside0.mk hR
    have HD := Aside0.mk hD
    clear hv hrow hl hC hR hD
    gi_wp2_with fail
    have hCc := recE.calls a0 a1 q1 q2 n4 A c (entL b m) W HC.out HL.out HR0.out HR1.out
    rw [entL_len] at hCc
    refine ⟨trivial, (callsIn_wide.2 hCc).mono ?_⟩
    rintro e W2 ⟨⟨s, r, rfl, hs⟩, hb2⟩
    have hbs2 := HB.out
    have hz2 : W2.heap[H]? = some (.cells #[.int .u64 0, .int .u64 0, .bool false, .bool false, .int .i64 0, .slice none 0 0] 86 (0, 0)) := (hb2.block H (Array.getElem?_eq_some_iff.1 HR.out.z).1).trans HR.out.z
    have hD2 : W2.heap[H + 3]? = some (.deferred (some [])) := (hb2.block _ (Array.getElem?_eq_some_iff.1 HD.out).1).trans HD.out
    have HB2 : Aside0 (Below H w W2) := Aside0.mk (HR.out.bl.trans (hb2.mono (by omega)))
    have hD3 : (zst W2 H).heap[H + 3]? = some (.deferred (some [])) := (zst_other W2 H (H + 3) (by omega)).trans hD2
    have hZ3 : ((zst W2 H).putObj (H + 3) (.deferred none)).heap[H]? = some (.cells #[.int .u64 0, .int .u64 0, .bool false, .bool false, .int .i64 0, .slice none 0 0] 86 (0, 0)) := (World.putObj_heap_other (by omega)).trans (zst_heap hz2)
    have HB3 : Aside0 (Below w.heap.size w ((zst W2 H).putObj (H + 3) (.deferred none))) := Aside0.mk (by rw [hH]; exact (zst_below HB2.out).trans (belowK_b (w := w7) (by omega) (zst W2 H) _ _ _ (by omega) hD3 rfl rfl))
    have d0 : W2.cell? ⟨H, 0, none⟩ = some (.int .u64 0) := by rw [Lib.cell_of_heap hz2]; rfl
    have d1 : W2.cell? ⟨H, 1, none⟩ = some (.int .u64 0) := by rw [Lib.cell_of_heap hz2]; rfl
    have d2 : W2.cell? ⟨H, 2, none⟩ = some (.bool false) := by rw [Lib.cell_of_heap hz2]; rfl
    have d3 : W2.cell? ⟨H, 3, none⟩ = some (.bool false) := by rw [Lib.cell_of_heap hz2]; rfl
    have d4 : W2.cell? ⟨H, 4, none⟩ = some (.int .i64 0) := by rw [Lib.cell_of_heap hz2]; rfl
    have d5 : W2.cell? ⟨H, 5, none⟩ = some (.slice none 0 0) := by rw [Lib.cell_of_heap hz2]; rfl
    have f0 : W2.frozen? ⟨H, 0, none⟩ = false := Lib.frozen_of_heap hz2 0
    have f1 : W2.frozen? ⟨H, 1, none⟩ = false := Lib.frozen_of_heap hz2 1
    have f2 : W2.frozen? ⟨H, 2, none⟩ = false := Lib.frozen_of_heap hz2 2
    have f3 : W2.frozen? ⟨H, 3, none⟩ = false := Lib.frozen_of_heap hz2 3
    have f4 : W2.frozen? ⟨H, 4, none⟩ = false := Lib.frozen_of_heap hz2 4
    have f5 : W2.frozen? ⟨H, 5, none⟩ = false := Lib.frozen_of_heap hz2 5
    by_cases hr : r = 0
    · obtain ⟨hs1, hs2⟩ := hs hr
      subst hr
      have hne := head_ne hs1 hbs2 hs2 H82.out
      clear hs hs2
      gi_wp2_with fail
      gi_region
      gi_wp2_with fail
      refine ⟨by simp, .inl ⟨_, _, rfl, run_takeDeferred hD3, ?_⟩⟩
      refine ⟨_, results_ct rfl _ _ H 86 #[.int .u64 0, .int .u64 0, .bool false, .bool false, .int .i64 0, .slice none 0 0] (0, 0) _ rfl hZ3 Try.underlying86 rfl (by kernel_rfl), rfl, HB3.out⟩
    · have hr1 : (r != 0) = true := by simp [hr]
      clear hs hD3 hZ3 HB3 d0 d1 d2 d3 d4 d5 f0 f1 f2 f3 f4 f5
      gi_wp2_with fail
      refine wpIn_wide.2 ?_
      go_quiet (fail)
      have hz2' : (W2.drewN nq).heap[H]? = some (.cells #[.int .u64 0, .int .u64 0, .bool false, .bool false, .int .i64 0, .slice none 0 0] 86 (0, 0)) := hz2
      have hD2' : (W2.drewN nq).heap[H + 3]? = some (.deferred (some [])) := hD2
      have HB2' : Below H w (W2.drewN nq) := pw_below_drewN HB2.out nq
      clear hz2 hD2 HB2
      generalize W2.drewN nq = W3 at hz2' hD2' HB2' ⊢
      have hD3 : (zs W3 H).heap[H + 3]? = some (.deferred (some [])) := (zs_other W3 H (H + 3) (by omega)).trans hD2'
      have hZ3 : ((zs W3 H).putObj (H + 3) (.deferred none)).heap[H]? = some (.cells #[.int .u64 0, .int .u64 0, .bool false, .bool false, .int .i64 0, .slice none 0 0] 86 (0, 0)) := (World.putObj_heap_other (by omega)).trans (zs_heap hz2')
      have HB3 : Aside0 (Below w.heap.size w ((zs W3 H).putObj (H + 3) (.deferred none))) := Aside0.mk (by rw [hH]; exact (zs_below HB2').trans (belowK_b (w := w7) (by omega) (zs W3 H) _ _ _ (by omega) hD3 rfl rfl))
      have d0 : W3.cell? ⟨H, 0, none⟩ = some (.int .u64 0) := by rw [Lib.cell_of_heap hz2']; rfl
      have d1 : W3.cell? ⟨H, 1, none⟩ = some (.int .u64 0) := by rw [Lib.cell_of_heap hz2']; rfl
      have d2 : W3.cell? ⟨H, 2, none⟩ = some (.bool false) := by rw [Lib.cell_of_heap hz2']; rfl
      have d3 : W3.cell? ⟨H, 3, none⟩ = some (.bool false) := by rw [Lib.cell_of_heap hz2']; rfl
      have d4 : W3.cell? ⟨H, 4, none⟩ = some (.int .i64 0) := by rw [Lib.cell_of_heap hz2']; rfl
      have d5 : W3.cell? ⟨H, 5, none⟩ = some (.slice none 0 0) := by rw [Lib.cell_of_heap hz2']; rfl
      have f0 : W3.frozen? ⟨H, 0, none⟩ = false := Lib.frozen_of_heap hz2' 0
      have f1 : W3.frozen? ⟨H, 1, none⟩ = false := Lib.frozen_of_heap hz2' 1
      have f2 : W3.frozen? ⟨H, 2, none⟩ = false := Lib.frozen_of_heap hz2' 2
      have f3 : W3.frozen? ⟨H, 3, none⟩ = false := Lib.frozen_of_heap hz2' 3
      have f4 : W3.frozen? ⟨H, 4, none⟩ = false := Lib.frozen_of_heap hz2' 4
      have f5 : W3.frozen? ⟨H, 5, none⟩ = false := Lib.frozen_of_heap hz2' 5
      gi_wp2_with fail
      refine ⟨by simp, .inl ⟨_, _, rfl, run_takeDeferred hD3, ?_⟩⟩
      refine ⟨_, results_ct rfl _ _ H 86 #[.int .u64 0, .int .u64 0, .bool false, .bool false, .int .i64 0, .slice none 0 0] (0, 0) _ rfl hZ3 Try.underlying86 rfl (by kernel_rfl), rfl, HB3.out⟩

end Go.Proofs.Ythgefgjaihagoaa.Q
