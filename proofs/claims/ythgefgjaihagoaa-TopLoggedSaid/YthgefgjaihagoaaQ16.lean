/- Functions of the translation as plain Lean functions, and that the translation computes them: printed by this session's driver of the print. -/
import Derived.Test.YthgefgjaihagoaaQ0
namespace Go.Proofs.Ythgefgjaihagoaa.Q
open Go.Proofs.Ythgefgjaihagoaa.H
open Go.RowKit Go.Proofs.YthgefgjaihagoaaW.PrintWords Go.Proofs.YthgefgjaihagoaaW.PrintLast Go.Proofs.YthgefgjaihagoaaW.PrintMore
attribute [local go_sem] max2_int min2_int max_two min_two max_three min_three max_four min_four   -- for this text's walks alone
set_option linter.unusedVariables false
set_option linter.unusedSimpArgs false

/-! ### record_flag: function 75 -/
def record_flag.f (a0_0 : Int) (a0_1 : Int) (a0_2 : Bool) (a0_3 : Bool) (a0_4 : Int) (l0_5 : List (S43)) : Option (Int) := if a0_2 = true then (some 1) else (if a0_3 = true then (some 2) else (some 0))
set_option maxHeartbeats 8000000 in
set_option maxRecDepth 100000 in
theorem record_flag.calls (a0_0 : Int) (a0_1 : Int) (a0_2 : Bool) (a0_3 : Bool) (a0_4 : Int) (A0_5 : Option Addr) (c0_5 : Nat) (l0_5 : List (S43)) (r : Int) (w : World) (hr0_5 : Kd.C k43 w A0_5 l0_5.length l0_5) (hc0_5 : l0_5.length ≤ c0_5) (h : record_flag.f a0_0 a0_1 a0_2 a0_3 a0_4 l0_5 = some r) :
    Calls Try.prog 75 #[.agg #[.int .u64 a0_0, .int .u64 a0_1, .bool a0_2, .bool a0_3, .int .i64 a0_4, .slice A0_5 l0_5.length c0_5]] w fun e w' => e = .returned (.int .u64 r) ∧ Below w.heap.size w w' := by
  have hu86 := Try.underlying86
  have HR0_5 := Aside0.mk hr0_5
  have HC0_5 := Aside0.mk hc0_5
  clear hr0_5 hc0_5
  have HB := Aside0.mk (Below.refl w.heap.size w)
  have H : (if a0_2 = true then (some 1) else (if a0_3 = true then (some 2) else (some 0))) = some r := h
  clear h
  by_cases c2 : a0_2 = true
  · subst c2
    have H1 : (some 1) = some r := by rw [if_pos rfl] at H; exact H
    clear H
    have H := H1
    clear H1
    obtain rfl := Option.some.inj H
    go_enter Try.func75, Try.ntmps75
    go_wp2_with (first | ((with_reducible refine gate_dst (N := 1) rfl ?_); refine box_event ?hg (N := 1) ?hd (cs := #[.int .u64 a0_0, .int .u64 a0_1, .bool true, .bool a0_3, .int .i64 a0_4, .slice A0_5 l0_5.length c0_5]) (t := 86) ?hr ?_; (case hd => rfl); (case hg => rfl); (case hr => first | (go_simp; done) | (go_simp; rfl)); intro gb150 hg w3 hbox hb; have n0_ := Aside0.mk (below_step (by repeat (first | (with_reducible first | exact HB.out | apply below_alloc | apply pw_below_drewN | apply below_drew1) | exact HB.out)) hb); have n1_ := Aside0.mk (hbox); have n2_ := Aside0.mk ((by rw [hg]; exact (below_size (by repeat (first | (with_reducible first | exact HB.out | apply below_alloc | apply pw_below_drewN | apply below_drew1) | exact HB.out))) : w.heap.size ≤ gb150)); have n3_ := Aside0.mk ((by rw [hg]; exact (below_size (by repeat (first | (with_reducible first | exact HB.out | apply below_alloc | apply pw_below_drewN | apply below_drew1) | exact HB.out))) : w.heap.size ≤ gb150)); clear HB; have HB := n0_; have BK150 := n1_; have GW150 := n2_; have GE150 := n3_; clear n0_ n1_ n2_ n3_; clear hb hbox hg; have hcz4_0 : w3.cell? ⟨gb150, 0, none⟩ = some (.int .u64 a0_0) := (blk_cell BK150.out 0).trans rfl; have hcz4_1 : w3.cell? ⟨gb150, 1, none⟩ = some (.int .u64 a0_1) := (blk_cell BK150.out 1).trans rfl; have hcz4_2 : w3.cell? ⟨gb150, 2, none⟩ = some (.bool true) := (blk_cell BK150.out 2).trans rfl; have hcz4_3 : w3.cell? ⟨gb150, 3, none⟩ = some (.bool a0_3) := (blk_cell BK150.out 3).trans rfl; have hcz4_4 : w3.cell? ⟨gb150, 4, none⟩ = some (.int .i64 a0_4) := (blk_cell BK150.out 4).trans rfl; have hcz4_5 : w3.cell? ⟨gb150, 5, none⟩ = some (.slice A0_5 l0_5.length c0_5) := (blk_cell BK150.out 5).trans rfl; have hfz4_0 := blk_frozen BK150.out 0; have hfz4_1 := blk_frozen BK150.out 1; have hfz4_2 := blk_frozen BK150.out 2; have hfz4_3 := blk_frozen BK150.out 3; have hfz4_4 := blk_frozen BK150.out 4; have hfz4_5 := blk_frozen BK150.out 5))
    go_ret
    exact ⟨by first | rfl | (simp [errW_none, errW_some] <;> rfl) | (simp [*, errW_none, errW_some] <;> rfl) | (simp [show IntKind.u64.wrap 0 = 0 from rfl, Int.zero_tdiv]; done), by repeat (first | (with_reducible first | exact HB.out | apply below_alloc | apply pw_below_drewN | apply below_drew1 | refine below_set ?_ GE150.out) | exact HB.out)⟩
  · replace c2 := Bool.eq_false_iff.mpr c2
    subst c2
    have H1 : (if a0_3 = true then (some 2) else (some 0)) = some r := by rw [if_neg (show ¬ (false = true) by decide)] at H; exact H
    clear H
    have H := H1
    clear H1
    by_cases c5 : a0_3 = true
    · subst c5
      have H1 : (some 2) = some r := by rw [if_pos rfl] at H; exact H
      clear H
      have H := H1
      clear H1
      obtain rfl := Option.some.inj H
      go_enter Try.func75, Try.ntmps75
      go_wp2_with (first | ((with_reducible refine gate_dst (N := 1) rfl ?_); refine box_event ?hg (N := 1) ?hd (cs := #[.int .u64 a0_0, .int .u64 a0_1, .bool false, .bool true, .int .i64 a0_4, .slice A0_5 l0_5.length c0_5]) (t := 86) ?hr ?_; (case hd => rfl); (case hg => rfl); (case hr => first | (go_simp; done) | (go_simp; rfl)); intro gb150 hg w6 hbox hb; have n0_ := Aside0.mk (below_step (by repeat (first | (with_reducible first | exact HB.out | apply below_alloc | apply pw_below_drewN | apply below_drew1) | exact HB.out)) hb); have n1_ := Aside0.mk (hbox); have n2_ := Aside0.mk ((by rw [hg]; exact (below_size (by repeat (first | (with_reducible first | exact HB.out | apply below_alloc | apply pw_below_drewN | apply below_drew1) | exact HB.out))) : w.heap.size ≤ gb150)); have n3_ := Aside0.mk ((by rw [hg]; exact (below_size (by repeat (first | (with_reducible first | exact HB.out | apply below_alloc | apply pw_below_drewN | apply below_drew1) | exact HB.out))) : w.heap.size ≤ gb150)); clear HB; have HB := n0_; have BK150 := n1_; have GW150 := n2_; have GE150 := n3_; clear n0_ n1_ n2_ n3_; clear hb hbox hg; have hcz7_0 : w6.cell? ⟨gb150, 0, none⟩ = some (.int .u64 a0_0) := (blk_cell BK150.out 0).trans rfl; have hcz7_1 : w6.cell? ⟨gb150, 1, none⟩ = some (.int .u64 a0_1) := (blk_cell BK150.out 1).trans rfl; have hcz7_2 : w6.cell? ⟨gb150, 2, none⟩ = some (.bool false) := (blk_cell BK150.out 2).trans rfl; have hcz7_3 : w6.cell? ⟨gb150, 3, none⟩ = some (.bool true) := (blk_cell BK150.out 3).trans rfl; have hcz7_4 : w6.cell? ⟨gb150, 4, none⟩ = some (.int .i64 a0_4) := (blk_cell BK150.out 4).trans rfl; have hcz7_5 : w6.cell? ⟨gb150, 5, none⟩ = some (.slice A0_5 l0_5.length c0_5) := (blk_cell BK150.out 5).trans rfl; have hfz7_0 := blk_frozen BK150.out 0; have hfz7_1 := blk_frozen BK150.out 1; have hfz7_2 := blk_frozen BK150.out 2; have hfz7_3 := blk_frozen BK150.out 3; have hfz7_4 := blk_frozen BK150.out 4; have hfz7_5 := blk_frozen BK150.out 5))
      go_ret
      exact ⟨by first | rfl | (simp [errW_none, errW_some] <;> rfl) | (simp [*, errW_none, errW_some] <;> rfl) | (simp [show IntKind.u64.wrap 0 = 0 from rfl, Int.zero_tdiv]; done), by repeat (first | (with_reducible first | exact HB.out | apply below_alloc | apply pw_below_drewN | apply below_drew1 | refine below_set ?_ GE150.out) | exact HB.out)⟩
    · replace c5 := Bool.eq_false_iff.mpr c5
      subst c5
      have H1 : (some 0) = some r := by rw [if_neg (show ¬ (false = true) by decide)] at H; exact H
      clear H
      have H := H1
      clear H1
      obtain rfl := Option.some.inj H
      go_enter Try.func75, Try.ntmps75
      go_wp2_with (first | ((with_reducible refine gate_dst (N := 1) rfl ?_); refine box_event ?hg (N := 1) ?hd (cs := #[.int .u64 a0_0, .int .u64 a0_1, .bool false, .bool false, .int .i64 a0_4, .slice A0_5 l0_5.length c0_5]) (t := 86) ?hr ?_; (case hd => rfl); (case hg => rfl); (case hr => first | (go_simp; done) | (go_simp; rfl)); intro gb150 hg w8 hbox hb; have n0_ := Aside0.mk (below_step (by repeat (first | (with_reducible first | exact HB.out | apply below_alloc | apply pw_below_drewN | apply below_drew1) | exact HB.out)) hb); have n1_ := Aside0.mk (hbox); have n2_ := Aside0.mk ((by rw [hg]; exact (below_size (by repeat (first | (with_reducible first | exact HB.out | apply below_alloc | apply pw_below_drewN | apply below_drew1) | exact HB.out))) : w.heap.size ≤ gb150)); have n3_ := Aside0.mk ((by rw [hg]; exact (below_size (by repeat (first | (with_reducible first | exact HB.out | apply below_alloc | apply pw_below_drewN | apply below_drew1) | exact HB.out))) : w.heap.size ≤ gb150)); clear HB; have HB := n0_; have BK150 := n1_; have GW150 := n2_; have GE150 := n3_; clear n0_ n1_ n2_ n3_; clear hb hbox hg; have hcz9_0 : w8.cell? ⟨gb150, 0, none⟩ = some (.int .u64 a0_0) := (blk_cell BK150.out 0).trans rfl; have hcz9_1 : w8.cell? ⟨gb150, 1, none⟩ = some (.int .u64 a0_1) := (blk_cell BK150.out 1).trans rfl; have hcz9_2 : w8.cell? ⟨gb150, 2, none⟩ = some (.bool false) := (blk_cell BK150.out 2).trans rfl; have hcz9_3 : w8.cell? ⟨gb150, 3, none⟩ = some (.bool false) := (blk_cell BK150.out 3).trans rfl; have hcz9_4 : w8.cell? ⟨gb150, 4, none⟩ = some (.int .i64 a0_4) := (blk_cell BK150.out 4).trans rfl; have hcz9_5 : w8.cell? ⟨gb150, 5, none⟩ = some (.slice A0_5 l0_5.length c0_5) := (blk_cell BK150.out 5).trans rfl; have hfz9_0 := blk_frozen BK150.out 0; have hfz9_1 := blk_frozen BK150.out 1; have hfz9_2 := blk_frozen BK150.out 2; have hfz9_3 := blk_frozen BK150.out 3; have hfz9_4 := blk_frozen BK150.out 4; have hfz9_5 := blk_frozen BK150.out 5))
      go_ret
      exact ⟨by first | rfl | (simp [errW_none, errW_some] <;> rfl) | (simp [*, errW_none, errW_some] <;> rfl) | (simp [show IntKind.u64.wrap 0 = 0 from rfl, Int.zero_tdiv]; done), by repeat (first | (with_reducible first | exact HB.out | apply below_alloc | apply pw_below_drewN | apply below_drew1 | refine below_set ?_ GE150.out) | exact HB.out)⟩

-- NOT PRINTED: function 36 (record_Encode)

/-- A state of type 95 at block g of W; what its slices lead to came in by w0. -/
def IsS95 (w0 W : World) (g : Nat) (f0 : List ByteArray) (f1 : List ByteArray) (f2 : List (S100)) (f3 : Int) (f4 : Int) (f5 : Bool) : Prop := ∃ A0 c0, ∃ A1 c1, ∃ A2 c2, W.heap[g]? = some (.cells #[.slice A0 f0.length c0, .slice A1 f1.length c1, .slice A2 f2.length c2, .int .i64 f3, .int .i64 f4, .bool f5] 95 (0, 0)) ∧ w0.heap.size ≤ g ∧ Kd.C Kd.string w0 A0 f0.length f0 ∧ Kd.C Kd.string w0 A1 f1.length f1 ∧ Kd.C k100 w0 A2 f2.length f2
theorem IsS95.grown {w0 W : World} {g : Nat} {f0 : List ByteArray} {f1 : List ByteArray} {f2 : List (S100)} {f3 : Int} {f4 : Int} {f5 : Bool} {W1 : World} {row : Option Nat} (h : IsS95 w0 W g f0 f1 f2 f3 f4 f5) (hw : W.grownBy W1 row) (hne : some g ≠ row) : IsS95 w0 W1 g f0 f1 f2 f3 f4 f5 := by
  obtain ⟨A0, c0, A1, c1, A2, c2, hb, hg, hr0, hr1, hr2⟩ := h
  exact ⟨A0, c0, A1, c1, A2, c2, blk_grown hb hw hne, hg, hr0, hr1, hr2⟩
theorem IsS95.own_neN {w0 W : World} {g : Nat} {f0 : List ByteArray} {f1 : List ByteArray} {f2 : List (S100)} {f3 : Int} {f4 : Int} {f5 : Bool} {α : Type} {d : Kd α} {e : Nat} {base : Nat} {ok : Nat → Prop} {v : Value} {xs : List α} (h : IsS95 w0 W g f0 f1 f2 f3 f4 f5) (ho : Kd.N d e W base ok v xs) (ht : e ≠ 95) : some g ≠ v.ownBlock := by
  obtain ⟨A0, c0, A1, c1, A2, c2, hb, hg, hr0, hr1, hr2⟩ := h
  exact Kd.N_ne ho hb ht
theorem IsS95.fresh {w0 W : World} {g : Nat} {f0 : List ByteArray} {f1 : List ByteArray} {f2 : List (S100)} {f3 : Int} {f4 : Int} {f5 : Bool} (h : IsS95 w0 W g f0 f1 f2 f3 f4 f5) : ∀ k, W.heap.size ≤ k → k ≠ g := by
  obtain ⟨A0, c0, A1, c1, A2, c2, hb, hg, hr0, hr1, hr2⟩ := h
  exact Kd.freshB hb
theorem IsS95.kept {w0 W : World} {g : Nat} {f0 : List ByteArray} {f1 : List ByteArray} {f2 : List (S100)} {f3 : Int} {f4 : Int} {f5 : Bool} {W1 : World} {S : Nat → Prop} (h : IsS95 w0 W g f0 f1 f2 f3 f4 f5) (hk : Kept W W1 S) (hne : ¬ S g) : IsS95 w0 W1 g f0 f1 f2 f3 f4 f5 := by
  obtain ⟨A0, c0, A1, c1, A2, c2, hb, hg, hr0, hr1, hr2⟩ := h
  exact ⟨A0, c0, A1, c1, A2, c2, blk_kept hb hk hne, hg, hr0, hr1, hr2⟩
theorem IsS95.below {w0 W : World} {g : Nat} {f0 : List ByteArray} {f1 : List ByteArray} {f2 : List (S100)} {f3 : Int} {f4 : Int} {f5 : Bool} {W1 : World} (h : IsS95 w0 W g f0 f1 f2 f3 f4 f5) (hw : Below W.heap.size W W1) : IsS95 w0 W1 g f0 f1 f2 f3 f4 f5 := h.grown (grown_of_below hw none) (by simp)
theorem IsS95.alloc {w0 W : World} {g : Nat} {f0 : List ByteArray} {f1 : List ByteArray} {f2 : List (S100)} {f3 : Int} {f4 : Int} {f5 : Bool} (h : IsS95 w0 W g f0 f1 f2 f3 f4 f5) (o : Obj) : IsS95 w0 (W.alloc o) g f0 f1 f2 f3 f4 f5 := h.below (below_alloc (Below.refl _ _) o)
theorem IsS95.drewN {w0 W : World} {g : Nat} {f0 : List ByteArray} {f1 : List ByteArray} {f2 : List (S100)} {f3 : Int} {f4 : Int} {f5 : Bool} (h : IsS95 w0 W g f0 f1 f2 f3 f4 f5) (m : Nat) : IsS95 w0 (W.drewN m) g f0 f1 f2 f3 f4 f5 := h
theorem IsS95.drew {w0 W : World} {g : Nat} {f0 : List ByteArray} {f1 : List ByteArray} {f2 : List (S100)} {f3 : Int} {f4 : Int} {f5 : Bool} (h : IsS95 w0 W g f0 f1 f2 f3 f4 f5) : IsS95 w0 W.drew g f0 f1 f2 f3 f4 f5 := h
theorem IsS95.at_ {w0 W : World} {g : Nat} {f0 : List ByteArray} {f1 : List ByteArray} {f2 : List (S100)} {f3 : Int} {f4 : Int} {f5 : Bool} {w' : World} {m : Nat} (hq : W.drewN m = w') (h : IsS95 w0 W g f0 f1 f2 f3 f4 f5) : IsS95 w0 w' g f0 f1 f2 f3 f4 f5 := by subst hq; exact IsS95.drewN h m
theorem IsS95.apart {w0 W : World} {g : Nat} {f0 : List ByteArray} {f1 : List ByteArray} {f2 : List (S100)} {f3 : Int} {f4 : Int} {f5 : Bool} {α : Type} {d : Kd α} {e : Nat} {base : Nat} {ok : Nat → Prop} {v : Value} {xs : List α} (h : IsS95 w0 W g f0 f1 f2 f3 f4 f5) (ho : d.R e W base ok v xs) (ht : ∀ q, q ∈ e :: d.E → q ≠ 95) : d.R e W base (fun k => ok k ∧ k ≠ g) v xs := by
  obtain ⟨A0, c0, A1, c1, A2, c2, hb, hg, hr0, hr1, hr2⟩ := h
  exact Kd.R_types ho hb ht
theorem IsS95.own_ne {w0 W : World} {g : Nat} {f0 : List ByteArray} {f1 : List ByteArray} {f2 : List (S100)} {f3 : Int} {f4 : Int} {f5 : Bool} {α : Type} {d : Kd α} {e : Nat} {base : Nat} {ok : Nat → Prop} {v : Value} {xs : List α} (h : IsS95 w0 W g f0 f1 f2 f3 f4 f5) (ho : d.R e W base ok v xs) (ht : e ≠ 95) : some g ≠ v.ownBlock := by
  obtain ⟨A0, c0, A1, c1, A2, c2, hb, hg, hr0, hr1, hr2⟩ := h
  exact Kd.R_ne ho hb ht
theorem IsS95.apartQ {w0 W : World} {g : Nat} {f0 : List ByteArray} {f1 : List ByteArray} {f2 : List (S100)} {f3 : Int} {f4 : Int} {f5 : Bool} {α : Type} {d : Kd α} {e : Nat} {base : Nat} {ok : Nat → Prop} {v : Value} {xs : List α} (h : IsS95 w0 W g f0 f1 f2 f3 f4 f5) (ho : d.Q e W base ok v xs) (ht : ∀ q, q ∈ e :: d.E → q ≠ 95) : d.Q e W base (fun k => ok k ∧ k ≠ g) v xs := by
  obtain ⟨A0, c0, A1, c1, A2, c2, hb, hg, hr0, hr1, hr2⟩ := h
  exact Kd.Q_types ho hb ht
theorem IsS95.own_neQ {w0 W : World} {g : Nat} {f0 : List ByteArray} {f1 : List ByteArray} {f2 : List (S100)} {f3 : Int} {f4 : Int} {f5 : Bool} {α : Type} {d : Kd α} {e : Nat} {base : Nat} {ok : Nat → Prop} {v : Value} {xs : List α} (h : IsS95 w0 W g f0 f1 f2 f3 f4 f5) (ho : d.Q e W base ok v xs) (ht : e ≠ 95) : some g ≠ v.ownBlock := by
  obtain ⟨A0, c0, A1, c1, A2, c2, hb, hg, hr0, hr1, hr2⟩ := h
  exact Kd.Q_ne ho hb ht
theorem IsS95.apartS {w0 W : World} {g : Nat} {f0 : List ByteArray} {f1 : List ByteArray} {f2 : List (S100)} {f3 : Int} {f4 : Int} {f5 : Bool} {α : Type} {d : Kd α} {e : Nat} {base : Nat} {ok : Nat → Prop} {v : Value} {xs : List α} (h : IsS95 w0 W g f0 f1 f2 f3 f4 f5) (ho : d.S e W base ok v xs) (ht : ∀ q, q ∈ e :: d.E → q ≠ 95) : d.S e W base (fun k => ok k ∧ k ≠ g) v xs := by
  obtain ⟨A0, c0, A1, c1, A2, c2, hb, hg, hr0, hr1, hr2⟩ := h
  exact Kd.S_types ho hb ht
theorem IsS95.own_neS {w0 W : World} {g : Nat} {f0 : List ByteArray} {f1 : List ByteArray} {f2 : List (S100)} {f3 : Int} {f4 : Int} {f5 : Bool} {α : Type} {d : Kd α} {e : Nat} {base : Nat} {ok : Nat → Prop} {v : Value} {xs : List α} (h : IsS95 w0 W g f0 f1 f2 f3 f4 f5) (ho : d.S e W base ok v xs) (ht : e ≠ 95) : some g ≠ v.ownBlock := by
  obtain ⟨A0, c0, A1, c1, A2, c2, hb, hg, hr0, hr1, hr2⟩ := h
  exact Kd.S_ne ho hb ht
theorem IsS95.lt {w0 W : World} {g : Nat} {f0 : List ByteArray} {f1 : List ByteArray} {f2 : List (S100)} {f3 : Int} {f4 : Int} {f5 : Bool} (h : IsS95 w0 W g f0 f1 f2 f3 f4 f5) : g < W.heap.size := by
  obtain ⟨A0, c0, A1, c1, A2, c2, hb, hg, hr0, hr1, hr2⟩ := h
  exact blk_lt hb
theorem IsS95.ge {w0 W : World} {g : Nat} {f0 : List ByteArray} {f1 : List ByteArray} {f2 : List (S100)} {f3 : Int} {f4 : Int} {f5 : Bool} (h : IsS95 w0 W g f0 f1 f2 f3 f4 f5) : w0.heap.size ≤ g := by
  obtain ⟨A0, c0, A1, c1, A2, c2, hb, hg, hr0, hr1, hr2⟩ := h
  exact hg
theorem IsS95.ne_blk {w0 W : World} {g : Nat} {f0 : List ByteArray} {f1 : List ByteArray} {f2 : List (S100)} {f3 : Int} {f4 : Int} {f5 : Bool} {a : Nat} {cs : Array Value} {t : TypeId} {fr : Nat × Nat} (h : IsS95 w0 W g f0 f1 f2 f3 f4 f5) (hb2 : W.heap[a]? = some (.cells cs t fr)) (ht : t ≠ 95) : g ≠ a := by
  obtain ⟨A0, c0, A1, c1, A2, c2, hb, hg, hr0, hr1, hr2⟩ := h
  rintro rfl
  rw [hb] at hb2
  injection hb2 with hb2
  injection hb2 with _ ht2
  exact ht ht2.symm
theorem IsS95.far {w0 W : World} {g : Nat} {f0 : List ByteArray} {f1 : List ByteArray} {f2 : List (S100)} {f3 : Int} {f4 : Int} {f5 : Bool} {p : Addr} (h : IsS95 w0 W g f0 f1 f2 f3 f4 f5) (hne : g ≠ p.block) (u : Value) : IsS95 w0 (W.setCell p u) g f0 f1 f2 f3 f4 f5 := by
  obtain ⟨A0, c0, A1, c1, A2, c2, hb, hg, hr0, hr1, hr2⟩ := h
  exact ⟨A0, c0, A1, c1, A2, c2, blk_far hb hne u, hg, hr0, hr1, hr2⟩
theorem cellS95_0 {W : World} {g : Nat} {A0 : Option Addr} {c0 : Nat} {A1 : Option Addr} {c1 : Nat} {A2 : Option Addr} {c2 : Nat} {f0 : List ByteArray} {f1 : List ByteArray} {f2 : List (S100)} {f3 : Int} {f4 : Int} {f5 : Bool} (h : W.heap[g]? = some (.cells #[.slice A0 f0.length c0, .slice A1 f1.length c1, .slice A2 f2.length c2, .int .i64 f3, .int .i64 f4, .bool f5] 95 (0, 0))) : W.cell? ⟨g, 0, none⟩ = some (.slice A0 f0.length c0) := (blk_cell h 0).trans rfl
theorem cellS95_1 {W : World} {g : Nat} {A0 : Option Addr} {c0 : Nat} {A1 : Option Addr} {c1 : Nat} {A2 : Option Addr} {c2 : Nat} {f0 : List ByteArray} {f1 : List ByteArray} {f2 : List (S100)} {f3 : Int} {f4 : Int} {f5 : Bool} (h : W.heap[g]? = some (.cells #[.slice A0 f0.length c0, .slice A1 f1.length c1, .slice A2 f2.length c2, .int .i64 f3, .int .i64 f4, .bool f5] 95 (0, 0))) : W.cell? ⟨g, 1, none⟩ = some (.slice A1 f1.length c1) := (blk_cell h 1).trans rfl
theorem cellS95_2 {W : World} {g : Nat} {A0 : Option Addr} {c0 : Nat} {A1 : Option Addr} {c1 : Nat} {A2 : Option Addr} {c2 : Nat} {f0 : List ByteArray} {f1 : List ByteArray} {f2 : List (S100)} {f3 : Int} {f4 : Int} {f5 : Bool} (h : W.heap[g]? = some (.cells #[.slice A0 f0.length c0, .slice A1 f1.length c1, .slice A2 f2.length c2, .int .i64 f3, .int .i64 f4, .bool f5] 95 (0, 0))) : W.cell? ⟨g, 2, none⟩ = some (.slice A2 f2.length c2) := (blk_cell h 2).trans rfl
theorem cellS95_3 {W : World} {g : Nat} {A0 : Option Addr} {c0 : Nat} {A1 : Option Addr} {c1 : Nat} {A2 : Option Addr} {c2 : Nat} {f0 : List ByteArray} {f1 : List ByteArray} {f2 : List (S100)} {f3 : Int} {f4 : Int} {f5 : Bool} (h : W.heap[g]? = some (.cells #[.slice A0 f0.length c0, .slice A1 f1.length c1, .slice A2 f2.length c2, .int .i64 f3, .int .i64 f4, .bool f5] 95 (0, 0))) : W.cell? ⟨g, 3, none⟩ = some (.int .i64 f3) := (blk_cell h 3).trans rfl
theorem IsS95.set_3 {w0 W : World} {g : Nat} {f0 : List ByteArray} {f1 : List ByteArray} {f2 : List (S100)} {f3 : Int} {f4 : Int} {f5 : Bool} (h : IsS95 w0 W g f0 f1 f2 f3 f4 f5) (x : Int) : IsS95 w0 (W.setCell ⟨g, 3, none⟩ (.int .i64 x)) g f0 f1 f2 x f4 f5 := by
  obtain ⟨A0, c0, A1, c1, A2, c2, hb, hg, hr0, hr1, hr2⟩ := h
  exact ⟨A0, c0, A1, c1, A2, c2, by simpa using blk_set hb 3 (.int .i64 x), hg, hr0, hr1, hr2⟩
theorem cellS95_4 {W : World} {g : Nat} {A0 : Option Addr} {c0 : Nat} {A1 : Option Addr} {c1 : Nat} {A2 : Option Addr} {c2 : Nat} {f0 : List ByteArray} {f1 : List ByteArray} {f2 : List (S100)} {f3 : Int} {f4 : Int} {f5 : Bool} (h : W.heap[g]? = some (.cells #[.slice A0 f0.length c0, .slice A1 f1.length c1, .slice A2 f2.length c2, .int .i64 f3, .int .i64 f4, .bool f5] 95 (0, 0))) : W.cell? ⟨g, 4, none⟩ = some (.int .i64 f4) := (blk_cell h 4).trans rfl
theorem IsS95.set_4 {w0 W : World} {g : Nat} {f0 : List ByteArray} {f1 : List ByteArray} {f2 : List (S100)} {f3 : Int} {f4 : Int} {f5 : Bool} (h : IsS95 w0 W g f0 f1 f2 f3 f4 f5) (x : Int) : IsS95 w0 (W.setCell ⟨g, 4, none⟩ (.int .i64 x)) g f0 f1 f2 f3 x f5 := by
  obtain ⟨A0, c0, A1, c1, A2, c2, hb, hg, hr0, hr1, hr2⟩ := h
  exact ⟨A0, c0, A1, c1, A2, c2, by simpa using blk_set hb 4 (.int .i64 x), hg, hr0, hr1, hr2⟩
theorem cellS95_5 {W : World} {g : Nat} {A0 : Option Addr} {c0 : Nat} {A1 : Option Addr} {c1 : Nat} {A2 : Option Addr} {c2 : Nat} {f0 : List ByteArray} {f1 : List ByteArray} {f2 : List (S100)} {f3 : Int} {f4 : Int} {f5 : Bool} (h : W.heap[g]? = some (.cells #[.slice A0 f0.length c0, .slice A1 f1.length c1, .slice A2 f2.length c2, .int .i64 f3, .int .i64 f4, .bool f5] 95 (0, 0))) : W.cell? ⟨g, 5, none⟩ = some (.bool f5) := (blk_cell h 5).trans rfl
theorem IsS95.set_5 {w0 W : World} {g : Nat} {f0 : List ByteArray} {f1 : List ByteArray} {f2 : List (S100)} {f3 : Int} {f4 : Int} {f5 : Bool} (h : IsS95 w0 W g f0 f1 f2 f3 f4 f5) (x : Bool) : IsS95 w0 (W.setCell ⟨g, 5, none⟩ (.bool x)) g f0 f1 f2 f3 f4 x := by
  obtain ⟨A0, c0, A1, c1, A2, c2, hb, hg, hr0, hr1, hr2⟩ := h
  exact ⟨A0, c0, A1, c1, A2, c2, by simpa using blk_set hb 5 (.bool x), hg, hr0, hr1, hr2⟩
theorem IsS95.new (w0 W : World) (A0 : Option Addr) (c0 : Nat) (A1 : Option Addr) (c1 : Nat) (A2 : Option Addr) (c2 : Nat) (f0 : List ByteArray) (f1 : List ByteArray) (f2 : List (S100)) (f3 : Int) (f4 : Int) (f5 : Bool) (hB : Below w0.heap.size w0 W) (hr0 : Kd.C Kd.string w0 A0 f0.length f0) (hr1 : Kd.C Kd.string w0 A1 f1.length f1) (hr2 : Kd.C k100 w0 A2 f2.length f2) : IsS95 w0 (W.alloc (.cells #[.slice A0 f0.length c0, .slice A1 f1.length c1, .slice A2 f2.length c2, .int .i64 f3, .int .i64 f4, .bool f5] 95)) W.heap.size f0 f1 f2 f3 f4 f5 := ⟨A0, c0, A1, c1, A2, c2, by simpa using heap_alloc_new W _, hB.size, hr0, hr1, hr2⟩

/-! ### disk_Disk_off: function 76 -/
def disk_Disk_off.f (s0_0 : List ByteArray) (s0_1 : List ByteArray) (s0_2 : List (S100)) (s0_3 : Int) (s0_4 : Int) (s0_5 : Bool) : Option (Bool × Int × Int × Bool) := if s0_4 ≥ 0 then (if s0_3 ≥ s0_4 then (some (true, s0_3, s0_4, true)) else (some (s0_5, s0_3, s0_4, s0_5))) else (some (s0_5, s0_3, s0_4, s0_5))
set_option maxHeartbeats 8000000 in
set_option maxRecDepth 100000 in
theorem disk_Disk_off.calls (g : Nat) (s0_0 : List ByteArray) (s0_1 : List ByteArray) (s0_2 : List (S100)) (s0_3 : Int) (s0_4 : Int) (s0_5 : Bool) (r1 : Bool) (r2 : Int) (r3 : Int) (r4 : Bool) (w0 w : World) (hI : IsS95 w0 w g s0_0 s0_1 s0_2 s0_3 s0_4 s0_5) (hB : Below w0.heap.size w0 w) (h : disk_Disk_off.f s0_0 s0_1 s0_2 s0_3 s0_4 s0_5 = some (r1, r2, r3, r4)) :
    Calls Try.prog 76 #[.pointer (some ⟨g, 0, none⟩)] w fun e w' => e = .returned (.bool r1) ∧ IsS95 w0 w' g s0_0 s0_1 s0_2 r2 r3 r4 ∧ Below w0.heap.size w0 w' ∧ KeepBut w w' g none := by
  have HI0 := Aside0.mk hI
  have HK := Aside0.mk (KeepBut.refl w g none)
  have HL := Aside0.mk hB.size
  clear hI
  have HW0 := Aside0.mk hB.size
  have HB := Aside0.mk hB
  clear hB
  have H : (if s0_4 ≥ 0 then (if s0_3 ≥ s0_4 then (some (true, s0_3, s0_4, true)) else (some (s0_5, s0_3, s0_4, s0_5))) else (some (s0_5, s0_3, s0_4, s0_5))) = some (r1, r2, r3, r4) := h
  clear h
  by_cases c2 : s0_4 ≥ 0
  · rw [if_pos c2] at H
    have c2b0 : decide (0 ≤ s0_4) = true := decide_eq_true c2
    clear c2
    by_cases c3 : s0_3 ≥ s0_4
    · rw [if_pos c3] at H
      have c3b0 : decide (s0_4 ≤ s0_3) = true := decide_eq_true c3
      clear c3
      simp only [Option.some.injEq, Prod.mk.injEq] at H
      obtain ⟨rfl, rfl, rfl, rfl⟩ := H
      obtain ⟨ASz4_0, cSz4_0, ASz4_1, cSz4_1, ASz4_2, cSz4_2, HGz4, hgz4, HSz4_0, HSz4_1, HSz4_2⟩ := HI0.out
      have hcz4_0 := cellS95_0 HGz4
      have hcz4_1 := cellS95_1 HGz4
      have hcz4_2 := cellS95_2 HGz4
      have hcz4_3 := cellS95_3 HGz4
      have hcz4_4 := cellS95_4 HGz4
      have hcz4_5 := cellS95_5 HGz4
      have hfz4_3 := blk_frozen HGz4 3
      have hfz4_4 := blk_frozen HGz4 4
      have hfz4_5 := blk_frozen HGz4 5
      clear HGz4 hgz4
      go_enter Try.func76, Try.ntmps76
      go_wp2
      repeat (go_quiet (fail); try go_wp2)
      go_ret
      exact ⟨by first | rfl | (simp [errW_none, errW_some] <;> rfl) | (simp [*, errW_none, errW_some] <;> rfl) | (simp [show IntKind.u64.wrap 0 = 0 from rfl, Int.zero_tdiv]; done), by repeat (first | (with_reducible first | exact HI0.out | apply IsS95.alloc | apply IsS95.drewN | apply IsS95.drew | apply IsS95.set_3 | apply IsS95.set_4 | apply IsS95.set_5) | exact HI0.out), by repeat (first | (with_reducible first | exact HB.out | apply below_alloc | apply pw_below_drewN | apply below_drew1 | refine below_set ?_ (IsS95.ge HI0.out)) | exact HB.out), by repeat (first | (with_reducible first | exact HK.out | apply KeepBut.set_ | apply keep_drewN | apply keep_drew | apply keep_alloc) | exact HK.out)⟩
    · rw [if_neg c3] at H
      have c3b0 : decide (s0_4 ≤ s0_3) = false := decide_eq_false c3
      clear c3
      simp only [Option.some.injEq, Prod.mk.injEq] at H
      obtain ⟨rfl, rfl, rfl, rfl⟩ := H
      obtain ⟨ASz5_0, cSz5_0, ASz5_1, cSz5_1, ASz5_2, cSz5_2, HGz5, hgz5, HSz5_0, HSz5_1, HSz5_2⟩ := HI0.out
      have hcz5_0 := cellS95_0 HGz5
      have hcz5_1 := cellS95_1 HGz5
      have hcz5_2 := cellS95_2 HGz5
      have hcz5_3 := cellS95_3 HGz5
      have hcz5_4 := cellS95_4 HGz5
      have hcz5_5 := cellS95_5 HGz5
      have hfz5_3 := blk_frozen HGz5 3
      have hfz5_4 := blk_frozen HGz5 4
      have hfz5_5 := blk_frozen HGz5 5
      clear HGz5 hgz5
      go_enter Try.func76, Try.ntmps76
      go_wp2
      repeat (go_quiet (fail); try go_wp2)
      go_ret
      exact ⟨by first | rfl | (simp [errW_none, errW_some] <;> rfl) | (simp [*, errW_none, errW_some] <;> rfl) | (simp [show IntKind.u64.wrap 0 = 0 from rfl, Int.zero_tdiv]; done), by repeat (first | (with_reducible first | exact HI0.out | apply IsS95.alloc | apply IsS95.drewN | apply IsS95.drew | apply IsS95.set_3 | apply IsS95.set_4 | apply IsS95.set_5) | exact HI0.out), by repeat (first | (with_reducible first | exact HB.out | apply below_alloc | apply pw_below_drewN | apply below_drew1 | refine below_set ?_ (IsS95.ge HI0.out)) | exact HB.out), by repeat (first | (with_reducible first | exact HK.out | apply KeepBut.set_ | apply keep_drewN | apply keep_drew | apply keep_alloc) | exact HK.out)⟩
  · rw [if_neg c2] at H
    have c2b0 : decide (0 ≤ s0_4) = false := decide_eq_false c2
    clear c2
    simp only [Option.some.injEq, Prod.mk.injEq] at H
    obtain ⟨rfl, rfl, rfl, rfl⟩ := H
    obtain ⟨ASz6_0, cSz6_0, ASz6_1, cSz6_1, ASz6_2, cSz6_2, HGz6, hgz6, HSz6_0, HSz6_1, HSz6_2⟩ := HI0.out
    have hcz6_0 := cellS95_0 HGz6
    have hcz6_1 := cellS95_1 HGz6
    have hcz6_2 := cellS95_2 HGz6
    have hcz6_3 := cellS95_3 HGz6
    have hcz6_4 := cellS95_4 HGz6
    have hcz6_5 := cellS95_5 HGz6
    have hfz6_3 := blk_frozen HGz6 3
    have hfz6_4 := blk_frozen HGz6 4
    have hfz6_5 := blk_frozen HGz6 5
    clear HGz6 hgz6
    go_enter Try.func76, Try.ntmps76
    go_wp2
    repeat (go_quiet (fail); try go_wp2)
    go_ret
    exact ⟨by first | rfl | (simp [errW_none, errW_some] <;> rfl) | (simp [*, errW_none, errW_some] <;> rfl) | (simp [show IntKind.u64.wrap 0 = 0 from rfl, Int.zero_tdiv]; done), by repeat (first | (with_reducible first | exact HI0.out | apply IsS95.alloc | apply IsS95.drewN | apply IsS95.drew | apply IsS95.set_3 | apply IsS95.set_4 | apply IsS95.set_5) | exact HI0.out), by repeat (first | (with_reducible first | exact HB.out | apply below_alloc | apply pw_below_drewN | apply below_drew1 | refine below_set ?_ (IsS95.ge HI0.out)) | exact HB.out), by repeat (first | (with_reducible first | exact HK.out | apply KeepBut.set_ | apply keep_drewN | apply keep_drew | apply keep_alloc) | exact HK.out)⟩

-- NOT PRINTED: function 37 (disk_Disk_Write)

-- NOT PRINTED: function 38 (log_first)

-- NOT PRINTED: function 41 (log_Log_goes)

-- NOT PRINTED: function 11 (log_Log_Write)

-- NOT PRINTED: function 42 (slices_Clone_string_string_42)

-- NOT PRINTED: function 43 (disk_Disk_left)

-- NOT PRINTED: function 12 (disk_Disk_Crash)

-- NOT PRINTED: function 13 (disk_Disk_Read)

-- NOT PRINTED: function 3 (nautilustop_TopLogged)

end Go.Proofs.Ythgefgjaihagoaa.Q
