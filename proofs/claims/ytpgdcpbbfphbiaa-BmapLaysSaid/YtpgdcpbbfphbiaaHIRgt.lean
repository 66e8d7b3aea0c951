/- '==' of inodes and of their maps. -/
import Derived.Test.YtpgdcpbbfphbiaaQ0
import Derived.Test.YtpgdcpbbfphbiaaHMake
import Derived.Lib.Builder
import Derived.RegionTactic
import Derived.OrdersHeld
import Derived.Test.YtpgdcpbbfphbiaaQ3
import Derived.Test.YtpgdcpbbfphbiaaHIMap
import Derived.Lib.QuietBelow
set_option linter.unusedVariables false
namespace Go.Proofs.Ytpgdcpbbfphbiaa.H
open Go.RowKit Go.Proofs.YtpgdcpbbfphbiaaW.PrintWords Go.Proofs.YtpgdcpbbfphbiaaW.PrintLast Go.Proofs.YtpgdcpbbfphbiaaW.PrintMore
theorem inoEq6 (d : Nat) (w : World) (x0 y0 : Int) (x1 y1 : Int) (x2 y2 : Int) (x3 y3 : Int) (x4 y4 : Int) (x5 y5 : Int) :
    (Op.equalIn (d + 2) 32 (.agg #[.int .u32 x0, .int .u32 x1, .int .u32 x2, .int .u32 x3, .int .u32 x4, .int .u32 x5]) (.agg #[.int .u32 y0, .int .u32 y1, .int .u32 y2, .int .u32 y3, .int .u32 y4, .int .u32 y5])).run Try.prog w = .ok (x0 == y0 && (x1 == y1 && (x2 == y2 && (x3 == y3 && (x4 == y4 && (x5 == y5)))))) w := by
  refine eqR_of (n := 1) Try.underlying32 (by kernel_rfl) (by kernel_rfl) ?_
  show (Op.eqItems _ _ _ _ _ [0, 1, 2, 3, 4, 5]).run _ _ = _
  refine eqi_cons (by go_simp; rfl) (by go_simp; rfl) (by go_simp) ?_
  refine eqi_cons (by go_simp; rfl) (by go_simp; rfl) (by go_simp) ?_
  refine eqi_cons (by go_simp; rfl) (by go_simp; rfl) (by go_simp) ?_
  refine eqi_cons (by go_simp; rfl) (by go_simp; rfl) (by go_simp) ?_
  refine eqi_cons (by go_simp; rfl) (by go_simp; rfl) (by go_simp) ?_
  exact eqi_last (by go_simp; rfl) (by go_simp; rfl) (by go_simp)
theorem inoEq12 (d : Nat) (w : World) (x0 y0 : Int) (x1 y1 : Int) (x2 y2 : Int) (x3 y3 : Int) (x4 y4 : Int) (x5 y5 : Int) (x6 y6 : Int) (x7 y7 : Int) (x8 y8 : Int) (x9 y9 : Int) (x10 y10 : Int) (x11 y11 : Int) :
    (Op.equalIn (d + 3) 54 (.agg #[.int .i64 x0, .int .u16 x1, .int .u16 x2, .int .u32 x3, .int .u64 x4, .int .i64 x5, .int .u32 x6, .int .u32 x7, .int .u32 x8, .int .u32 x9, .int .u32 x10, .int .u32 x11]) (.agg #[.int .i64 y0, .int .u16 y1, .int .u16 y2, .int .u32 y3, .int .u64 y4, .int .i64 y5, .int .u32 y6, .int .u32 y7, .int .u32 y8, .int .u32 y9, .int .u32 y10, .int .u32 y11])).run Try.prog w = .ok (x0 == y0 && (x1 == y1 && (x2 == y2 && (x3 == y3 && (x4 == y4 && (x5 == y5 && ((x6 == y6 && (x7 == y7 && (x8 == y8 && (x9 == y9 && (x10 == y10 && (x11 == y11))))))))))))) w := by
  refine eqA_of Try.underlying54 (by kernel_rfl) ?_
  refine eqf_cons (by rfl) (by go_simp; rfl) (by go_simp; rfl) (by go_simp) ?_
  refine eqf_cons (by rfl) (by go_simp; rfl) (by go_simp; rfl) (by go_simp) ?_
  refine eqf_cons (by rfl) (by go_simp; rfl) (by go_simp; rfl) (by go_simp) ?_
  refine eqf_cons (by rfl) (by go_simp; rfl) (by go_simp; rfl) (by go_simp) ?_
  refine eqf_cons (by rfl) (by go_simp; rfl) (by go_simp; rfl) (by go_simp) ?_
  refine eqf_cons (by rfl) (by go_simp; rfl) (by go_simp; rfl) (by go_simp) ?_
  exact eqf_last (by rfl) (by go_simp) (by go_simp) (inoEq6 (d + 0) w _ _ _ _ _ _ _ _ _ _ _ _)
end Go.Proofs.Ytpgdcpbbfphbiaa.H

set_option linter.unusedVariables false
set_option linter.unusedSimpArgs false
namespace Go.Proofs.Ytpgdcpbbfphbiaa.Q
open Go.RowKit Go.Proofs.Ytpgdcpbbfphbiaa.H Go.Proofs.YtpgdcpbbfphbiaaW.PrintWords
set_option maxRecDepth 100000
theorem ino_cells {W : World} {H : Nat} {t : TypeId} {c0 c1 c2 c3 c4 c5 c6 c7 c8 c9 c10 c11 : Value} (h : W.heap[H]? = some (.cells #[c0, c1, c2, c3, c4, c5, c6, c7, c8, c9, c10, c11] t (0, 0))) :
    W.cell? ⟨H, 0, none⟩ = some c0 ∧ W.cell? ⟨H, 1, none⟩ = some c1 ∧ W.cell? ⟨H, 2, none⟩ = some c2 ∧ W.cell? ⟨H, 3, none⟩ = some c3 ∧ W.cell? ⟨H, 4, none⟩ = some c4 ∧ W.cell? ⟨H, 5, none⟩ = some c5 ∧
    W.cell? ⟨H, 6, none⟩ = some c6 ∧ W.cell? ⟨H, 7, none⟩ = some c7 ∧ W.cell? ⟨H, 8, none⟩ = some c8 ∧ W.cell? ⟨H, 9, none⟩ = some c9 ∧ W.cell? ⟨H, 10, none⟩ = some c10 ∧ W.cell? ⟨H, 11, none⟩ = some c11 := by
  refine ⟨?_, ?_, ?_, ?_, ?_, ?_, ?_, ?_, ?_, ?_, ?_, ?_⟩ <;> (rw [Lib.cell_of_heap h]; rfl)
theorem ino_free {W : World} {H : Nat} {t : TypeId} {cs : Array Value} (h : W.heap[H]? = some (.cells cs t (0, 0))) (i : Nat) : W.frozen? ⟨H, i, none⟩ = false := Lib.frozen_of_heap h i
def set12 (W : World) (G : Nat) (v0 v1 v2 v3 v4 v5 v6 v7 v8 v9 v10 v11 : Value) : World :=
  (((((((((((W.setCell ⟨G, 0, none⟩ v0).setCell ⟨G, 1, none⟩ v1).setCell ⟨G, 2, none⟩ v2).setCell ⟨G, 3, none⟩ v3).setCell ⟨G, 4, none⟩ v4).setCell ⟨G, 5, none⟩ v5).setCell ⟨G, 6, none⟩ v6).setCell ⟨G, 7, none⟩ v7).setCell ⟨G, 8, none⟩ v8).setCell ⟨G, 9, none⟩ v9).setCell ⟨G, 10, none⟩ v10).setCell ⟨G, 11, none⟩ v11
theorem set12_cells {W : World} {G : Nat} {t : TypeId} {c0 c1 c2 c3 c4 c5 c6 c7 c8 c9 c10 c11 : Value} (h : W.heap[G]? = some (.cells #[c0, c1, c2, c3, c4, c5, c6, c7, c8, c9, c10, c11] t (0, 0))) (v0 v1 v2 v3 v4 v5 v6 v7 v8 v9 v10 v11 : Value) :
    (set12 W G v0 v1 v2 v3 v4 v5 v6 v7 v8 v9 v10 v11).heap[G]? = some (.cells #[v0, v1, v2, v3, v4, v5, v6, v7, v8, v9, v10, v11] t (0, 0)) := by
  simp [set12, World.setCell, Array.getElem?_modify, h]
theorem set12_below {w W : World} {n G : Nat} (h : Below n w W) (hn : n ≤ G) (v0 v1 v2 v3 v4 v5 v6 v7 v8 v9 v10 v11 : Value) : Below n w (set12 W G v0 v1 v2 v3 v4 v5 v6 v7 v8 v9 v10 v11) := by
  unfold set12
  iterate 12 refine Below.setCell (p := ⟨G, _, none⟩) ?_ hn _
  exact h
theorem set12_size (W : World) (G : Nat) (v0 v1 v2 v3 v4 v5 v6 v7 v8 v9 v10 v11 : Value) : (set12 W G v0 v1 v2 v3 v4 v5 v6 v7 v8 v9 v10 v11).heap.size = W.heap.size := by
  simp [set12, World.setCell]
theorem set12_other (W : World) (G j : Nat) (hj : j ≠ G) (v0 v1 v2 v3 v4 v5 v6 v7 v8 v9 v10 v11 : Value) : (set12 W G v0 v1 v2 v3 v4 v5 v6 v7 v8 v9 v10 v11).heap[j]? = W.heap[j]? := by
  unfold set12
  iterate 12 rw [Below.heap_setCell _ _ _ _ hj]
end Go.Proofs.Ytpgdcpbbfphbiaa.Q

set_option linter.unusedVariables false
namespace Go.Proofs.Ytpgdcpbbfphbiaa.H
open Go.RowKit
variable {P : Program} {ops : Array Oper} {Q : Exit → Act → World → Prop} {md : Region.Mode} {S : World → Prop}
theorem takeH (i : Nat) {oi : Oper} {v : Value} {fuel : Nat} {listed l' : Array Bool} {a a' : Act} {w : World} (hi : ops[i]? = some oi) (hs : Region.noSelect ops = true)
    (hf : Region.free md ops listed i = true) (hr : (Region.ready md ops listed).contains i = true) (hQ : ∀ c a w, Q (.panic c) (a.put oi.dst v) w → Q (.panic c) a w)
    (hw : Region.wanted oi (yielded ops a.tmps) = true) (hv : ∀ w, S w → (execOp a.eval oi).run P w = .ok (.value v) w) (hS : S w) (ha : a.put oi.dst v = a') (hl : listed.setIfInBounds i true = l')
    (h : wpAnyH P md ops Q S fuel l' a' w) : wpAnyH P md ops Q S (fuel + 1) listed a w :=
  wpAnyH_take hi hs hf hr hQ (.inl ⟨hw, hv⟩) hS (ha ▸ hl ▸ h)
/-- Those that may come up. -/
def AllH (P : Program) (md : Region.Mode) (ops : Array Oper) (Q : Exit → Act → World → Prop) (S : World → Prop) (fuel : Nat) (listed : Array Bool) (a : Act) (w : World) (rs : List Nat) : Prop :=
  ∀ i ∈ rs, wpOp P ops Q i (fun a' w' => S w' ∧ wpAnyH P md ops Q S fuel (listed.setIfInBounds i true) a' w') a w
theorem AllH.nil {fuel : Nat} {listed : Array Bool} {a : Act} {w : World} : AllH P md ops Q S fuel listed a w [] := fun _ h => by cases h
theorem AllH.cons {fuel : Nat} {listed : Array Bool} {a : Act} {w : World} {i : Nat} {o : Oper} {rs : List Nat} (ho : ops[i]? = some o)
    (h : ∀ K' : Act → World → Prop, (∀ a w, (S w ∧ wpAnyH P md ops Q S fuel (listed.setIfInBounds i true) a w) → K' a w) → if Region.wanted o (yielded ops a.tmps) = true then Oper.wp P o a w K' Q else K' (a.put o.dst undef) w)
    (hs : AllH P md ops Q S fuel listed a w rs) : AllH P md ops Q S fuel listed a w (i :: rs) := fun j hj => by
  rcases List.mem_cons.1 hj with rfl | hj
  · exact wpOp_step ho h
  · exact hs j hj
theorem allH {rs : List Nat} {fuel : Nat} {listed : Array Bool} {a : Act} {w : World} (hr : Region.ready md ops listed = rs) (hne : rs ≠ []) (h : AllH P md ops Q S fuel listed a w rs) : wpAnyH P md ops Q S (fuel + 1) listed a w := wpAnyH_all hr hne h
theorem readyH (i : Nat) {oi : Oper} {v : Value} {fuel : Nat} {listed l' : Array Bool} {a a' : Act} {w w1 : World} {rs : List Nat} (hi : ops[i]? = some oi)
    (hw : Region.wanted oi (yielded ops a.tmps) = true) (hv : (execOp a.eval oi).run P w = .ok (.value v) w1) (ha : a.put oi.dst v = a') (hl : listed.setIfInBounds i true = l') (hS : S w1)
    (h : wpAnyH P md ops Q S fuel l' a' w1) (hs : AllH P md ops Q S fuel listed a w rs) : AllH P md ops Q S fuel listed a w (i :: rs) := by
  refine AllH.cons hi (fun K' hK => ?_) hs
  rw [if_pos hw]
  unfold Oper.wp
  rw [hv]
  exact hK _ _ ⟨hS, ha ▸ hl ▸ h⟩
theorem skipH (i : Nat) {oi : Oper} {fuel : Nat} {listed l' : Array Bool} {a a' : Act} {w w1 : World} {rs : List Nat} (hi : ops[i]? = some oi)
    (hw : Region.wanted oi (yielded ops a.tmps) = true) (hv : (execOp a.eval oi).run P w = .ok .skip w1) (ha : a.put oi.dst undef = a') (hl : listed.setIfInBounds i true = l') (hS : S w1)
    (h : wpAnyH P md ops Q S fuel l' a' w1) (hs : AllH P md ops Q S fuel listed a w rs) : AllH P md ops Q S fuel listed a w (i :: rs) := by
  refine AllH.cons hi (fun K' hK => ?_) hs
  rw [if_pos hw]
  unfold Oper.wp
  rw [hv]
  exact hK _ _ ⟨hS, ha ▸ hl ▸ h⟩
theorem enterH (i : Nat) (d : Tmp) {oi : Oper} {f : FuncId} {args : Array Value} {R : Ending → World → Prop} {fuel : Nat} {listed l' : Array Bool} {a : Act} {w : World} {rs : List Nat} (hi : ops[i]? = some oi) (hdst : oi.dst = some d)
    (hw : Region.wanted oi (yielded ops a.tmps) = true) (hv : (execOp a.eval oi).run P w = .ok (.enter f args) w) (hR : Calls P f args w R) (hl : listed.setIfInBounds i true = l')
    (h : ∀ e w', R e w' → ∃ v, e = .returned v ∧ S w' ∧ ∃ a', a.put (some d) v = a' ∧ wpAnyH P md ops Q S fuel l' a' w')
    (hs : AllH P md ops Q S fuel listed a w rs) : AllH P md ops Q S fuel listed a w (i :: rs) := by
  refine AllH.cons hi (fun K' hK => ?_) hs
  rw [if_pos hw]
  unfold Oper.wp
  rw [hv]
  refine hR.mono ?_
  rintro e w' he
  obtain ⟨v, rfl, hS, a', ha', h⟩ := h e w' he
  subst ha'
  subst hl
  rw [← hdst] at h
  exact hK _ _ ⟨hS, h⟩
theorem namedH {fuel : Nat} {listed : Array Bool} {a : Act} {w : World} (h : ∀ G : Nat → Array Bool → Act → World → Prop, G = (fun fuel listed a w => wpAnyH P md ops Q S fuel listed a w) → G fuel listed a w) : wpAnyH P md ops Q S fuel listed a w := h _ rfl
end Go.Proofs.Ytpgdcpbbfphbiaa.H

set_option linter.unusedVariables false
set_option linter.unusedSimpArgs false
namespace Go.Proofs.Ytpgdcpbbfphbiaa.Q
open Go.RowKit Go.Sort Go.Proofs.Ytpgdcpbbfphbiaa.H Go.Proofs.YtpgdcpbbfphbiaaW.PrintWords Go.Proofs.YtpgdcpbbfphbiaaW.PrintLast Go.Proofs.YtpgdcpbbfphbiaaW.PrintMore
attribute [local go_sem] Oper.semAt_some
attribute [local go_sem high] inoEq12
set_option maxRecDepth 100000

def inode_Right.f (a0 a1 a2 a3 a4 a5 a6 a7 a8 a9 a10 a11 : Int) : Option Bool := if (a0 == 0 && (a1 == 0 && (a2 == 0 && (a3 == 0 && (a4 == 0 && (a5 == 0 && ((a6 == 0 && (a7 == 0 && (a8 == 0 && (a9 == 0 && (a10 == 0 && (a11 == 0))))))))))))) = true then some true else if a0 < 1 then some false else if a0 > 3 then some false else if a1 > 4095 then some false else
  if a3 ≤ 8193532 then (if a4 < 281474976710656 then ((inode_Depth.f a3).bind fun t => if a5 = t then inode_isMap.f a6 a7 a8 a9 a10 a11 a3 else some false) else some false) else some false
set_option maxHeartbeats 4000000 in
theorem inode_Right.calls (a0 a1 a2 a3 a4 a5 a6 a7 a8 a9 a10 a11 : Int) (r : Bool) (w : World) (h : inode_Right.f a0 a1 a2 a3 a4 a5 a6 a7 a8 a9 a10 a11 = some r) :
    Calls Try.prog 32 #[.agg #[.int .i64 a0, .int .u16 a1, .int .u16 a2, .int .u32 a3, .int .u64 a4, .int .i64 a5, .int .u32 a6, .int .u32 a7, .int .u32 a8, .int .u32 a9, .int .u32 a10, .int .u32 a11]] w fun e w' => e = .returned (.bool r) ∧ Below w.heap.size w w' := by
  unfold inode_Right.f at h
  have HB := Aside0.mk ((Below.refl w.heap.size w).alloc (Nat.le_refl _) (.cells #[.int .i64 a0, .int .u16 a1, .int .u16 a2, .int .u32 a3, .int .u64 a4, .int .i64 a5, .int .u32 a6, .int .u32 a7, .int .u32 a8, .int .u32 a9, .int .u32 a10, .int .u32 a11] 54))
  by_cases cz : (a0 == 0 && (a1 == 0 && (a2 == 0 && (a3 == 0 && (a4 == 0 && (a5 == 0 && ((a6 == 0 && (a7 == 0 && (a8 == 0 && (a9 == 0 && (a10 == 0 && (a11 == 0))))))))))))) = true
  · rw [if_pos cz] at h
    obtain rfl := Option.some.inj h
    clear h
    go_enter Try.func32, Try.ntmps32
    go_wp2
    go_ret
    exact ⟨rfl, HB.out⟩
  · rw [if_neg cz] at h
    have dz : (a0 == 0 && (a1 == 0 && (a2 == 0 && (a3 == 0 && (a4 == 0 && (a5 == 0 && ((a6 == 0 && (a7 == 0 && (a8 == 0 && (a9 == 0 && (a10 == 0 && (a11 == 0))))))))))))) = false := by simpa using cz
    clear cz
    by_cases c1 : a0 < 1
    · have d1 : decide (a0 < 1) = true := decide_eq_true c1
      rw [if_pos c1] at h
      obtain rfl := Option.some.inj h
      clear h c1
      go_enter Try.func32, Try.ntmps32
      go_wp2
      go_ret
      exact ⟨rfl, HB.out⟩
    · have d1 : decide (a0 < 1) = false := decide_eq_false c1
      rw [if_neg c1] at h
      clear c1
      by_cases c2 : a0 > 3
      · have d2 : decide (3 < a0) = true := decide_eq_true c2
        rw [if_pos c2] at h
        obtain rfl := Option.some.inj h
        clear h c2
        go_enter Try.func32, Try.ntmps32
        go_wp2
        go_ret
        exact ⟨rfl, HB.out⟩
      · have d2 : decide (3 < a0) = false := decide_eq_false c2
        rw [if_neg c2] at h
        clear c2
        by_cases c3 : a1 > 4095
        · have d3 : decide (4095 < a1) = true := decide_eq_true c3
          rw [if_pos c3] at h
          obtain rfl := Option.some.inj h
          clear h c3
          go_enter Try.func32, Try.ntmps32
          go_wp2
          go_ret
          exact ⟨rfl, HB.out⟩
        · have d3 : decide (4095 < a1) = false := decide_eq_false c3
          rw [if_neg c3] at h
          clear c3 HB
          by_cases c4 : a3 ≤ 8193532
          · have d4 : decide (a3 ≤ 8193532) = true := decide_eq_true c4
            rw [if_pos c4] at h
            clear c4
            by_cases c5 : a4 < 281474976710656
            · have d5 : decide (a4 < 281474976710656) = true := decide_eq_true c5
              rw [if_pos c5] at h
              clear c5
              obtain ⟨t, ht, h⟩ := Option.bind_eq_some_iff.mp h
              have HT := Aside0.mk ht
              clear ht
              by_cases c6 : a5 = t
              · have d6 : (a5 == t) = true := beq_iff_eq.2 c6
                rw [if_pos c6] at h
                clear c6
                have HM := Aside0.mk h
                clear h
                go_enter Try.func32, Try.ntmps32
                go_wp2_with fail
                obtain ⟨W1, hW1⟩ : ∃ W1, w.alloc (.cells #[.int .i64 a0, .int .u16 a1, .int .u16 a2, .int .u32 a3, .int .u64 a4, .int .i64 a5, .int .u32 a6, .int .u32 a7, .int .u32 a8, .int .u32 a9, .int .u32 a10, .int .u32 a11] 54) = W1 := ⟨_, rfl⟩
                have hx : W1.heap[w.heap.size]? = some (.cells #[.int .i64 a0, .int .u16 a1, .int .u16 a2, .int .u32 a3, .int .u64 a4, .int .i64 a5, .int .u32 a6, .int .u32 a7, .int .u32 a8, .int .u32 a9, .int .u32 a10, .int .u32 a11] 54 (0, 0)) := by rw [← hW1]; exact World.alloc_heap_new w _
                have hB : Below w.heap.size w W1 := by rw [← hW1]; exact (Below.refl _ w).alloc (Nat.le_refl _) _
                rw [hW1]
                clear hW1
                have x3 : ∀ d os, (grow (redrawn W1 d) os).cell? ⟨w.heap.size, 3, none⟩ = some (.int .u32 a3) := fun d os => cell_regrown (by rw [Lib.cell_of_heap hx]; rfl) d os
                have x4 : ∀ d os, (grow (redrawn W1 d) os).cell? ⟨w.heap.size, 4, none⟩ = some (.int .u64 a4) := fun d os => cell_regrown (by rw [Lib.cell_of_heap hx]; rfl) d os
                have x5 : ∀ d os, (grow (redrawn W1 d) os).cell? ⟨w.heap.size, 5, none⟩ = some (.int .i64 a5) := fun d os => cell_regrown (by rw [Lib.cell_of_heap hx]; rfl) d os
                have x6 : ∀ d os, (grow (redrawn W1 d) os).cell? ⟨w.heap.size, 6, none⟩ = some (.int .u32 a6) := fun d os => cell_regrown (by rw [Lib.cell_of_heap hx]; rfl) d os
                have x7 : ∀ d os, (grow (redrawn W1 d) os).cell? ⟨w.heap.size, 7, none⟩ = some (.int .u32 a7) := fun d os => cell_regrown (by rw [Lib.cell_of_heap hx]; rfl) d os
                have x8 : ∀ d os, (grow (redrawn W1 d) os).cell? ⟨w.heap.size, 8, none⟩ = some (.int .u32 a8) := fun d os => cell_regrown (by rw [Lib.cell_of_heap hx]; rfl) d os
                have x9 : ∀ d os, (grow (redrawn W1 d) os).cell? ⟨w.heap.size, 9, none⟩ = some (.int .u32 a9) := fun d os => cell_regrown (by rw [Lib.cell_of_heap hx]; rfl) d os
                have x10 : ∀ d os, (grow (redrawn W1 d) os).cell? ⟨w.heap.size, 10, none⟩ = some (.int .u32 a10) := fun d os => cell_regrown (by rw [Lib.cell_of_heap hx]; rfl) d os
                have x11 : ∀ d os, (grow (redrawn W1 d) os).cell? ⟨w.heap.size, 11, none⟩ = some (.int .u32 a11) := fun d os => cell_regrown (by rw [Lib.cell_of_heap hx]; rfl) d os
                clear hx
                have kd : ∀ d os, Calls Try.prog 23 #[.int .u32 a3] (grow (redrawn W1 d) os) fun e w'' => e = .returned (.int .i64 t) ∧ ∃ p : Regrown, w'' = grow (redrawn W1 p.d) p.os := fun d os => Calls.regrown_of ((inode_Depth.calls a3 t _ HT.out).mono fun _ _ ⟨he, hd⟩ => ⟨he, hd.below⟩)
                have km : ∀ d os, Calls Try.prog 44 #[.agg #[.int .u32 a6, .int .u32 a7, .int .u32 a8, .int .u32 a9, .int .u32 a10, .int .u32 a11], .int .u32 a3] (grow (redrawn W1 d) os) fun e w'' => e = .returned (.bool r) ∧ ∃ p : Regrown, w'' = grow (redrawn W1 p.d) p.os := fun d os => Calls.regrown_of (inode_isMap.calls a6 a7 a8 a9 a10 a11 a3 r _ HM.out)
                refine wp_region_quiet_below (by rfl) (by kernel_rfl) ?_
                repeat (quiet_step (fail))
                quiet_step (exact kd _ _)
                repeat (quiet_step (fail))
                quiet_step (exact km _ _)
                repeat (quiet_step (fail))
                refine wpQuiet_nil ?_
                rintro _ ⟨⟨dq, osq⟩, rfl⟩
                go_wp2
                go_ret
                exact ⟨rfl, hB.trans ((below_regrown W1 dq osq).mono hB.size)⟩
              · have d6 : (a5 == t) = false := beq_false_of_ne c6
                rw [if_neg c6] at h
                clear c6
                obtain rfl := Option.some.inj h
                clear h
                go_enter Try.func32, Try.ntmps32
                go_wp2_with fail
                obtain ⟨W1, hW1⟩ : ∃ W1, w.alloc (.cells #[.int .i64 a0, .int .u16 a1, .int .u16 a2, .int .u32 a3, .int .u64 a4, .int .i64 a5, .int .u32 a6, .int .u32 a7, .int .u32 a8, .int .u32 a9, .int .u32 a10, .int .u32 a11] 54) = W1 := ⟨_, rfl⟩
                have hx : W1.heap[w.heap.size]? = some (.cells #[.int .i64 a0, .int .u16 a1, .int .u16 a2, .int .u32 a3, .int .u64 a4, .int .i64 a5, .int .u32 a6, .int .u32 a7, .int .u32 a8, .int .u32 a9, .int .u32 a10, .int .u32 a11] 54 (0, 0)) := by rw [← hW1]; exact World.alloc_heap_new w _
                have hB : Below w.heap.size w W1 := by rw [← hW1]; exact (Below.refl _ w).alloc (Nat.le_refl _) _
                rw [hW1]
                clear hW1
                have x3 : ∀ d os, (grow (redrawn W1 d) os).cell? ⟨w.heap.size, 3, none⟩ = some (.int .u32 a3) := fun d os => cell_regrown (by rw [Lib.cell_of_heap hx]; rfl) d os
                have x4 : ∀ d os, (grow (redrawn W1 d) os).cell? ⟨w.heap.size, 4, none⟩ = some (.int .u64 a4) := fun d os => cell_regrown (by rw [Lib.cell_of_heap hx]; rfl) d os
                have x5 : ∀ d os, (grow (redrawn W1 d) os).cell? ⟨w.heap.size, 5, none⟩ = some (.int .i64 a5) := fun d os => cell_regrown (by rw [Lib.cell_of_heap hx]; rfl) d os
                clear hx
                have kd : ∀ d os, Calls Try.prog 23 #[.int .u32 a3] (grow (redrawn W1 d) os) fun e w'' => e = .returned (.int .i64 t) ∧ ∃ p : Regrown, w'' = grow (redrawn W1 p.d) p.os := fun d os => Calls.regrown_of ((inode_Depth.calls a3 t _ HT.out).mono fun _ _ ⟨he, hd⟩ => ⟨he, hd.below⟩)
                refine wp_region_quiet_below (by rfl) (by kernel_rfl) ?_
                repeat (quiet_step (fail))
                quiet_step (exact kd _ _)
                repeat (quiet_step (fail))
                refine wpQuiet_nil ?_
                rintro _ ⟨⟨dq, osq⟩, rfl⟩
                go_wp2
                go_ret
                exact ⟨rfl, hB.trans ((below_regrown W1 dq osq).mono hB.size)⟩
            · have d5 : decide (a4 < 281474976710656) = false := decide_eq_false c5
              rw [if_neg c5] at h
              clear c5
              obtain rfl := Option.some.inj h
              clear h
              go_enter Try.func32, Try.ntmps32
              go_wp2_with fail
              obtain ⟨W1, hW1⟩ : ∃ W1, w.alloc (.cells #[.int .i64 a0, .int .u16 a1, .int .u16 a2, .int .u32 a3, .int .u64 a4, .int .i64 a5, .int .u32 a6, .int .u32 a7, .int .u32 a8, .int .u32 a9, .int .u32 a10, .int .u32 a11] 54) = W1 := ⟨_, rfl⟩
              have hx : W1.heap[w.heap.size]? = some (.cells #[.int .i64 a0, .int .u16 a1, .int .u16 a2, .int .u32 a3, .int .u64 a4, .int .i64 a5, .int .u32 a6, .int .u32 a7, .int .u32 a8, .int .u32 a9, .int .u32 a10, .int .u32 a11] 54 (0, 0)) := by rw [← hW1]; exact World.alloc_heap_new w _
              have hB : Below w.heap.size w W1 := by rw [← hW1]; exact (Below.refl _ w).alloc (Nat.le_refl _) _
              rw [hW1]
              clear hW1
              have x3 : ∀ d os, (grow (redrawn W1 d) os).cell? ⟨w.heap.size, 3, none⟩ = some (.int .u32 a3) := fun d os => cell_regrown (by rw [Lib.cell_of_heap hx]; rfl) d os
              have x4 : ∀ d os, (grow (redrawn W1 d) os).cell? ⟨w.heap.size, 4, none⟩ = some (.int .u64 a4) := fun d os => cell_regrown (by rw [Lib.cell_of_heap hx]; rfl) d os
              clear hx
              refine wp_region_quiet_below (by rfl) (by kernel_rfl) ?_
              repeat (quiet_step (fail))
              refine wpQuiet_nil ?_
              rintro _ ⟨⟨dq, osq⟩, rfl⟩
              go_wp2
              go_ret
              exact ⟨rfl, hB.trans ((below_regrown W1 dq osq).mono hB.size)⟩
          · have d4 : decide (a3 ≤ 8193532) = false := decide_eq_false c4
            rw [if_neg c4] at h
            clear c4
            obtain rfl := Option.some.inj h
            clear h
            go_enter Try.func32, Try.ntmps32
            go_wp2_with fail
            obtain ⟨W1, hW1⟩ : ∃ W1, w.alloc (.cells #[.int .i64 a0, .int .u16 a1, .int .u16 a2, .int .u32 a3, .int .u64 a4, .int .i64 a5, .int .u32 a6, .int .u32 a7, .int .u32 a8, .int .u32 a9, .int .u32 a10, .int .u32 a11] 54) = W1 := ⟨_, rfl⟩
            have hx : W1.heap[w.heap.size]? = some (.cells #[.int .i64 a0, .int .u16 a1, .int .u16 a2, .int .u32 a3, .int .u64 a4, .int .i64 a5, .int .u32 a6, .int .u32 a7, .int .u32 a8, .int .u32 a9, .int .u32 a10, .int .u32 a11] 54 (0, 0)) := by rw [← hW1]; exact World.alloc_heap_new w _
            have hB : Below w.heap.size w W1 := by rw [← hW1]; exact (Below.refl _ w).alloc (Nat.le_refl _) _
            rw [hW1]
            clear hW1
            have x3 : ∀ d os, (grow (redrawn W1 d) os).cell? ⟨w.heap.size, 3, none⟩ = some (.int .u32 a3) := fun d os => cell_regrown (by rw [Lib.cell_of_heap hx]; rfl) d os
            clear hx
            refine wp_region_quiet_below (by rfl) (by kernel_rfl) ?_
            repeat (quiet_step (fail))
            refine wpQuiet_nil ?_
            rintro _ ⟨⟨dq, osq⟩, rfl⟩
            go_wp2
            go_ret
            exact ⟨rfl, hB.trans ((below_regrown W1 dq osq).mono hB.size)⟩
end Go.Proofs.Ytpgdcpbbfphbiaa.Q
