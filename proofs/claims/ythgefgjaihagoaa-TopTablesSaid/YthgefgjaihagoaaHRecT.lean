/- Functions of the translation as plain Lean functions, and that the translation computes them: printed by this session's driver of the print. -/
import Derived.Test.YthgefgjaihagoaaQ0
import Derived.Test.YthgefgjaihagoaaQ15
import Derived.Test.YthgefgjaihagoaaHRW
import Derived.Test.YthgefgjaihagoaaHNum
import Derived.Deep.QuietTactic
import Derived.BigQuiet
namespace Go.Proofs.Ythgefgjaihagoaa.Q
open Go.Proofs.Ythgefgjaihagoaa.H
open Go.RowKit Go.Proofs.YthgefgjaihagoaaW.PrintWords Go.Proofs.YthgefgjaihagoaaW.PrintLast Go.Proofs.YthgefgjaihagoaaW.PrintMore
attribute [local go_sem] max2_int min2_int max_two min_two max_three min_three max_four min_four   -- for this text's walks alone
set_option linter.unusedVariables false
set_option linter.unusedSimpArgs false

/-! ### record_flag: function 75 -/
def record_flag.f (a0_0 : Int) (a0_1 : Int) (a0_2 : Bool) (a0_3 : Bool) (a0_4 : Int) (l0_5 : List (S43)) : Option (Int) := if a0_2 = true then (some 1) else (if a0_3 = true then (some 2) else (some 0))
set_option maxHeartbeats 8000000 in
set_option maxRecDepth 100000 in
theorem record_flag.calls (a0_0 : Int) (a0_1 : Int) (a0_2 : Bool) (a0_3 : Bool) (a0_4 : Int) (A0_5 : Option Addr) (c0_5 : Nat) (l0_5 : List (S43)) (r : Int) (w : World) (hr0_5 : Kd.C k43 w A0_5 l0_5.length l0_5) (hc0_5 : l0_5.length ≤ c0_5) (h : record_flag.f a0_0 a0_1 a0_2 a0_3 a0_4 l0_5 = some r) :
    Calls Try.prog 75 #[.agg #[.int .u64 a0_0, .int .u64 a0_1, .bool a0_2, .bool a0_3, .int .i64 a0_4, .slice A0_5 l0_5.length c0_5]] w fun e w' => e = .returned (.int .u64 r) ∧ Below w.heap.size w w' := by
  have hu86 := Try.underlying86
  have HR0_5 := Aside0.mk hr0_5
  have HC0_5 := Aside0.mk hc0_5
  clear hr0_5 hc0_5
  have HB := Aside0.mk (Below.refl w.heap.size w)
  have H : (if a0_2 = true then (some 1) else (if a0_3 = true then (some 2) else (some 0))) = some r := h
  clear h
  by_cases c2 : a0_2 = true
  · subst c2
    have H1 : (some 1) = some r := by rw [if_pos rfl] at H; exact H
    clear H
    have H := H1
    clear H1
    obtain rfl := Option.some.inj H
    go_enter Try.func75, Try.ntmps75
    go_wp2_with (first | ((with_reducible refine gate_dst (N := 1) rfl ?_); refine box_event ?hg (N := 1) ?hd (cs := #[.int .u64 a0_0, .int .u64 a0_1, .bool true, .bool a0_3, .int .i64 a0_4, .slice A0_5 l0_5.length c0_5]) (t := 86) ?hr ?_; (case hd => rfl); (case hg => rfl); (case hr => first | (go_simp; done) | (go_simp; rfl)); intro gb150 hg w3 hbox hb; have n0_ := Aside0.mk (below_step (by repeat (first | (with_reducible first | exact HB.out | apply below_alloc | apply pw_below_drewN | apply below_drew1) | exact HB.out)) hb); have n1_ := Aside0.mk (hbox); have n2_ := Aside0.mk ((by rw [hg]; exact (below_size (by repeat (first | (with_reducible first | exact HB.out | apply below_alloc | apply pw_below_drewN | apply below_drew1) | exact HB.out))) : w.heap.size ≤ gb150)); have n3_ := Aside0.mk ((by rw [hg]; exact (below_size (by repeat (first | (with_reducible first | exact HB.out | apply below_alloc | apply pw_below_drewN | apply below_drew1) | exact HB.out))) : w.heap.size ≤ gb150)); clear HB; have HB := n0_; have BK150 := n1_; have GW150 := n2_; have GE150 := n3_; clear n0_ n1_ n2_ n3_; clear hb hbox hg; have hcz4_0 : w3.cell? ⟨gb150, 0, none⟩ = some (.int .u64 a0_0) := (blk_cell BK150.out 0).trans rfl; have hcz4_1 : w3.cell? ⟨gb150, 1, none⟩ = some (.int .u64 a0_1) := (blk_cell BK150.out 1).trans rfl; have hcz4_2 : w3.cell? ⟨gb150, 2, none⟩ = some (.bool true) := (blk_cell BK150.out 2).trans rfl; have hcz4_3 : w3.cell? ⟨gb150, 3, none⟩ = some (.bool a0_3) := (blk_cell BK150.out 3).trans rfl; have hcz4_4 : w3.cell? ⟨gb150, 4, none⟩ = some (.int .i64 a0_4) := (blk_cell BK150.out 4).trans rfl; have hcz4_5 : w3.cell? ⟨gb150, 5, none⟩ = some (.slice A0_5 l0_5.length c0_5) := (blk_cell BK150.out 5).trans rfl; have hfz4_0 := blk_frozen BK150.out 0; have hfz4_1 := blk_frozen BK150.out 1; have hfz4_2 := blk_frozen BK150.out 2; have hfz4_3 := blk_frozen BK150.out 3; have hfz4_4 := blk_frozen BK150.out 4; have hfz4_5 := blk_frozen BK150.out 5))
    go_ret
    exact ⟨by first | rfl | (simp [errW_none, errW_some] <;> rfl) | (simp [*, errW_none, errW_some] <;> rfl) | (simp [show IntKind.u64.wrap 0 = 0 from rfl, Int.zero_tdiv]; done), by repeat (first | (with_reducible first | exact HB.out | apply below_alloc | apply pw_below_drewN | apply below_drew1 | refine below_set ?_ GE150.out) | exact HB.out)⟩
  · replace c2 := Bool.eq_false_iff.mpr c2
    subst c2
    have H1 : (if a0_3 = true then (some 2) else (some 0)) = some r := by rw [if_neg (show ¬ (false = true) by decide)] at H; exact H
    clear H
    have H := H1
    clear H1
    by_cases c5 : a0_3 = true
    · subst c5
      have H1 : (some 2) = some r := by rw [if_pos rfl] at H; exact H
      clear H
      have H := H1
      clear H1
      obtain rfl := Option.some.inj H
      go_enter Try.func75, Try.ntmps75
      go_wp2_with (first | ((with_reducible refine gate_dst (N := 1) rfl ?_); refine box_event ?hg (N := 1) ?hd (cs := #[.int .u64 a0_0, .int .u64 a0_1, .bool false, .bool true, .int .i64 a0_4, .slice A0_5 l0_5.length c0_5]) (t := 86) ?hr ?_; (case hd => rfl); (case hg => rfl); (case hr => first | (go_simp; done) | (go_simp; rfl)); intro gb150 hg w6 hbox hb; have n0_ := Aside0.mk (below_step (by repeat (first | (with_reducible first | exact HB.out | apply below_alloc | apply pw_below_drewN | apply below_drew1) | exact HB.out)) hb); have n1_ := Aside0.mk (hbox); have n2_ := Aside0.mk ((by rw [hg]; exact (below_size (by repeat (first | (with_reducible first | exact HB.out | apply below_alloc | apply pw_below_drewN | apply below_drew1) | exact HB.out))) : w.heap.size ≤ gb150)); have n3_ := Aside0.mk ((by rw [hg]; exact (below_size (by repeat (first | (with_reducible first | exact HB.out | apply below_alloc | apply pw_below_drewN | apply below_drew1) | exact HB.out))) : w.heap.size ≤ gb150)); clear HB; have HB := n0_; have BK150 := n1_; have GW150 := n2_; have GE150 := n3_; clear n0_ n1_ n2_ n3_; clear hb hbox hg; have hcz7_0 : w6.cell? ⟨gb150, 0, none⟩ = some (.int .u64 a0_0) := (blk_cell BK150.out 0).trans rfl; have hcz7_1 : w6.cell? ⟨gb150, 1, none⟩ = some (.int .u64 a0_1) := (blk_cell BK150.out 1).trans rfl; have hcz7_2 : w6.cell? ⟨gb150, 2, none⟩ = some (.bool false) := (blk_cell BK150.out 2).trans rfl; have hcz7_3 : w6.cell? ⟨gb150, 3, none⟩ = some (.bool true) := (blk_cell BK150.out 3).trans rfl; have hcz7_4 : w6.cell? ⟨gb150, 4, none⟩ = some (.int .i64 a0_4) := (blk_cell BK150.out 4).trans rfl; have hcz7_5 : w6.cell? ⟨gb150, 5, none⟩ = some (.slice A0_5 l0_5.length c0_5) := (blk_cell BK150.out 5).trans rfl; have hfz7_0 := blk_frozen BK150.out 0; have hfz7_1 := blk_frozen BK150.out 1; have hfz7_2 := blk_frozen BK150.out 2; have hfz7_3 := blk_frozen BK150.out 3; have hfz7_4 := blk_frozen BK150.out 4; have hfz7_5 := blk_frozen BK150.out 5))
      go_ret
      exact ⟨by first | rfl | (simp [errW_none, errW_some] <;> rfl) | (simp [*, errW_none, errW_some] <;> rfl) | (simp [show IntKind.u64.wrap 0 = 0 from rfl, Int.zero_tdiv]; done), by repeat (first | (with_reducible first | exact HB.out | apply below_alloc | apply pw_below_drewN | apply below_drew1 | refine below_set ?_ GE150.out) | exact HB.out)⟩
    · replace c5 := Bool.eq_false_iff.mpr c5
      subst c5
      have H1 : (some 0) = some r := by rw [if_neg (show ¬ (false = true) by decide)] at H; exact H
      clear H
      have H := H1
      clear H1
      obtain rfl := Option.some.inj H
      go_enter Try.func75, Try.ntmps75
      go_wp2_with (first | ((with_reducible refine gate_dst (N := 1) rfl ?_); refine box_event ?hg (N := 1) ?hd (cs := #[.int .u64 a0_0, .int .u64 a0_1, .bool false, .bool false, .int .i64 a0_4, .slice A0_5 l0_5.length c0_5]) (t := 86) ?hr ?_; (case hd => rfl); (case hg => rfl); (case hr => first | (go_simp; done) | (go_simp; rfl)); intro gb150 hg w8 hbox hb; have n0_ := Aside0.mk (below_step (by repeat (first | (with_reducible first | exact HB.out | apply below_alloc | apply pw_below_drewN | apply below_drew1) | exact HB.out)) hb); have n1_ := Aside0.mk (hbox); have n2_ := Aside0.mk ((by rw [hg]; exact (below_size (by repeat (first | (with_reducible first | exact HB.out | apply below_alloc | apply pw_below_drewN | apply below_drew1) | exact HB.out))) : w.heap.size ≤ gb150)); have n3_ := Aside0.mk ((by rw [hg]; exact (below_size (by repeat (first | (with_reducible first | exact HB.out | apply below_alloc | apply pw_below_drewN | apply below_drew1) | exact HB.out))) : w.heap.size ≤ gb150)); clear HB; have HB := n0_; have BK150 := n1_; have GW150 := n2_; have GE150 := n3_; clear n0_ n1_ n2_ n3_; clear hb hbox hg; have hcz9_0 : w8.cell? ⟨gb150, 0, none⟩ = some (.int .u64 a0_0) := (blk_cell BK150.out 0).trans rfl; have hcz9_1 : w8.cell? ⟨gb150, 1, none⟩ = some (.int .u64 a0_1) := (blk_cell BK150.out 1).trans rfl; have hcz9_2 : w8.cell? ⟨gb150, 2, none⟩ = some (.bool false) := (blk_cell BK150.out 2).trans rfl; have hcz9_3 : w8.cell? ⟨gb150, 3, none⟩ = some (.bool false) := (blk_cell BK150.out 3).trans rfl; have hcz9_4 : w8.cell? ⟨gb150, 4, none⟩ = some (.int .i64 a0_4) := (blk_cell BK150.out 4).trans rfl; have hcz9_5 : w8.cell? ⟨gb150, 5, none⟩ = some (.slice A0_5 l0_5.length c0_5) := (blk_cell BK150.out 5).trans rfl; have hfz9_0 := blk_frozen BK150.out 0; have hfz9_1 := blk_frozen BK150.out 1; have hfz9_2 := blk_frozen BK150.out 2; have hfz9_3 := blk_frozen BK150.out 3; have hfz9_4 := blk_frozen BK150.out 4; have hfz9_5 := blk_frozen BK150.out 5))
      go_ret
      exact ⟨by first | rfl | (simp [errW_none, errW_some] <;> rfl) | (simp [*, errW_none, errW_some] <;> rfl) | (simp [show IntKind.u64.wrap 0 = 0 from rfl, Int.zero_tdiv]; done), by repeat (first | (with_reducible first | exact HB.out | apply below_alloc | apply pw_below_drewN | apply below_drew1 | refine below_set ?_ GE150.out) | exact HB.out)⟩

-- NOT PRINTED: function 36 (record_Encode)

/-- A state of type 95 at block g of W; what its slices lead to came in by w0. -/
def IsS95 (w0 W : World) (g : Nat) (f0 : List ByteArray) (f1 : List ByteArray) (f2 : List (S100)) (f3 : Int) (f4 : Int) (f5 : Bool) : Prop := ∃ A0 c0, ∃ A1 c1, ∃ A2 c2, W.heap[g]? = some (.cells #[.slice A0 f0.length c0, .slice A1 f1.length c1, .slice A2 f2.length c2, .int .i64 f3, .int .i64 f4, .bool f5] 95 (0, 0)) ∧ w0.heap.size ≤ g ∧ Kd.C Kd.string w0 A0 f0.length f0 ∧ Kd.C Kd.string w0 A1 f1.length f1 ∧ Kd.C k100 w0 A2 f2.length f2
theorem IsS95.grown {w0 W : World} {g : Nat} {f0 : List ByteArray} {f1 : List ByteArray} {f2 : List (S100)} {f3 : Int} {f4 : Int} {f5 : Bool} {W1 : World} {row : Option Nat} (h : IsS95 w0 W g f0 f1 f2 f3 f4 f5) (hw : W.grownBy W1 row) (hne : some g ≠ row) : IsS95 w0 W1 g f0 f1 f2 f3 f4 f5 := by
  obtain ⟨A0, c0, A1, c1, A2, c2, hb, hg, hr0, hr1, hr2⟩ := h
  exact ⟨A0, c0, A1, c1, A2, c2, blk_grown hb hw hne, hg, hr0, hr1, hr2⟩
theorem IsS95.kept {w0 W : World} {g : Nat} {f0 : List ByteArray} {f1 : List ByteArray} {f2 : List (S100)} {f3 : Int} {f4 : Int} {f5 : Bool} {W1 : World} {S : Nat → Prop} (h : IsS95 w0 W g f0 f1 f2 f3 f4 f5) (hk : Kept W W1 S) (hne : ¬ S g) : IsS95 w0 W1 g f0 f1 f2 f3 f4 f5 := by
  obtain ⟨A0, c0, A1, c1, A2, c2, hb, hg, hr0, hr1, hr2⟩ := h
  exact ⟨A0, c0, A1, c1, A2, c2, blk_kept hb hk hne, hg, hr0, hr1, hr2⟩
theorem IsS95.below {w0 W : World} {g : Nat} {f0 : List ByteArray} {f1 : List ByteArray} {f2 : List (S100)} {f3 : Int} {f4 : Int} {f5 : Bool} {W1 : World} (h : IsS95 w0 W g f0 f1 f2 f3 f4 f5) (hw : Below W.heap.size W W1) : IsS95 w0 W1 g f0 f1 f2 f3 f4 f5 := h.grown (grown_of_below hw none) (by simp)
theorem IsS95.alloc {w0 W : World} {g : Nat} {f0 : List ByteArray} {f1 : List ByteArray} {f2 : List (S100)} {f3 : Int} {f4 : Int} {f5 : Bool} (h : IsS95 w0 W g f0 f1 f2 f3 f4 f5) (o : Obj) : IsS95 w0 (W.alloc o) g f0 f1 f2 f3 f4 f5 := h.below (below_alloc (Below.refl _ _) o)
theorem IsS95.drewN {w0 W : World} {g : Nat} {f0 : List ByteArray} {f1 : List ByteArray} {f2 : List (S100)} {f3 : Int} {f4 : Int} {f5 : Bool} (h : IsS95 w0 W g f0 f1 f2 f3 f4 f5) (m : Nat) : IsS95 w0 (W.drewN m) g f0 f1 f2 f3 f4 f5 := h
theorem IsS95.drew {w0 W : World} {g : Nat} {f0 : List ByteArray} {f1 : List ByteArray} {f2 : List (S100)} {f3 : Int} {f4 : Int} {f5 : Bool} (h : IsS95 w0 W g f0 f1 f2 f3 f4 f5) : IsS95 w0 W.drew g f0 f1 f2 f3 f4 f5 := h
theorem IsS95.at_ {w0 W : World} {g : Nat} {f0 : List ByteArray} {f1 : List ByteArray} {f2 : List (S100)} {f3 : Int} {f4 : Int} {f5 : Bool} {w' : World} {m : Nat} (hq : W.drewN m = w') (h : IsS95 w0 W g f0 f1 f2 f3 f4 f5) : IsS95 w0 w' g f0 f1 f2 f3 f4 f5 := by subst hq; exact IsS95.drewN h m
theorem IsS95.apart {w0 W : World} {g : Nat} {f0 : List ByteArray} {f1 : List ByteArray} {f2 : List (S100)} {f3 : Int} {f4 : Int} {f5 : Bool} {α : Type} {d : Kd α} {e : Nat} {base : Nat} {ok : Nat → Prop} {v : Value} {xs : List α} (h : IsS95 w0 W g f0 f1 f2 f3 f4 f5) (ho : d.R e W base ok v xs) (ht : ∀ q, q ∈ e :: d.E → q ≠ 95) : d.R e W base (fun k => ok k ∧ k ≠ g) v xs := by
  obtain ⟨A0, c0, A1, c1, A2, c2, hb, hg, hr0, hr1, hr2⟩ := h
  exact Kd.R_types ho hb ht
theorem IsS95.own_ne {w0 W : World} {g : Nat} {f0 : List ByteArray} {f1 : List ByteArray} {f2 : List (S100)} {f3 : Int} {f4 : Int} {f5 : Bool} {α : Type} {d : Kd α} {e : Nat} {base : Nat} {ok : Nat → Prop} {v : Value} {xs : List α} (h : IsS95 w0 W g f0 f1 f2 f3 f4 f5) (ho : d.R e W base ok v xs) (ht : e ≠ 95) : some g ≠ v.ownBlock := by
  obtain ⟨A0, c0, A1, c1, A2, c2, hb, hg, hr0, hr1, hr2⟩ := h
  exact Kd.R_ne ho hb ht
theorem IsS95.lt {w0 W : World} {g : Nat} {f0 : List ByteArray} {f1 : List ByteArray} {f2 : List (S100)} {f3 : Int} {f4 : Int} {f5 : Bool} (h : IsS95 w0 W g f0 f1 f2 f3 f4 f5) : g < W.heap.size := by
  obtain ⟨A0, c0, A1, c1, A2, c2, hb, hg, hr0, hr1, hr2⟩ := h
  exact blk_lt hb
theorem IsS95.far {w0 W : World} {g : Nat} {f0 : List ByteArray} {f1 : List ByteArray} {f2 : List (S100)} {f3 : Int} {f4 : Int} {f5 : Bool} {p : Addr} (h : IsS95 w0 W g f0 f1 f2 f3 f4 f5) (hne : g ≠ p.block) (u : Value) : IsS95 w0 (W.setCell p u) g f0 f1 f2 f3 f4 f5 := by
  obtain ⟨A0, c0, A1, c1, A2, c2, hb, hg, hr0, hr1, hr2⟩ := h
  exact ⟨A0, c0, A1, c1, A2, c2, blk_far hb hne u, hg, hr0, hr1, hr2⟩
theorem IsS95.new (w0 W : World) (A0 : Option Addr) (c0 : Nat) (A1 : Option Addr) (c1 : Nat) (A2 : Option Addr) (c2 : Nat) (f0 : List ByteArray) (f1 : List ByteArray) (f2 : List (S100)) (f3 : Int) (f4 : Int) (f5 : Bool) (hB : Below w0.heap.size w0 W) (hr0 : Kd.C Kd.string w0 A0 f0.length f0) (hr1 : Kd.C Kd.string w0 A1 f1.length f1) (hr2 : Kd.C k100 w0 A2 f2.length f2) : IsS95 w0 (W.alloc (.cells #[.slice A0 f0.length c0, .slice A1 f1.length c1, .slice A2 f2.length c2, .int .i64 f3, .int .i64 f4, .bool f5] 95)) W.heap.size f0 f1 f2 f3 f4 f5 := ⟨A0, c0, A1, c1, A2, c2, by simpa using heap_alloc_new W _, hB.size, hr0, hr1, hr2⟩

/-! ### disk_Disk_off: function 76 -/
end Go.Proofs.Ythgefgjaihagoaa.Q

set_option linter.unusedVariables false
set_option linter.unusedSimpArgs false
namespace Go.Proofs.Ythgefgjaihagoaa.Q
open Go.RowKit Go.Shelf Go.Proofs.Ythgefgjaihagoaa.H Go.Proofs.YthgefgjaihagoaaW.PrintWords Go.Proofs.YthgefgjaihagoaaW.PrintLast Go.Proofs.YthgefgjaihagoaaW.PrintMore
set_option maxRecDepth 100000
abbrev SEn := S43
theorem putE_some (n wd : Int) (h0 : 0 ≤ n) (h1 : n < 18446744073709551616) (hw : 1 ≤ wd ∧ wd ≤ 8) : ∃ s e, num_Put.f n wd = some (s, e) ∧ s.size ≤ wd.toNat := by
  unfold num_Put.f
  rw [if_pos ⟨h0, h1⟩, if_pos hw]
  split
  · exact ⟨_, _, rfl, by show (lowBytes n wd.toNat).toArray.size ≤ _; rw [List.size_toArray, lowBytes_length]; exact Nat.le_refl _⟩
  · exact ⟨_, _, rfl, Nat.zero_le _⟩
theorem keptE_below {e : TypeId} {b : Nat} {W W' : World} (h : Below W.heap.size W W') : Lib.OthersKept e (some b) W W' := fun k o hk _ _ => (h.block k (Array.getElem?_eq_some_iff.1 hk).1).trans hk
theorem keptE_trans {e : TypeId} {b : Nat} {A B C : World} (h : Lib.OthersKept e (some b) A B) (k : Lib.OthersKept e (some b) B C) : Lib.OthersKept e (some b) A C := fun i o hi hb ho => k i o (h i o hi hb ho) hb ho
set_option maxHeartbeats 4000000 in
theorem putE_calls (B : Nat) (n wd : Int) (xs : List UInt8) (w : World) (h0 : 0 ≤ n) (h1 : n < 18446744073709551616) (hwd : 1 ≤ wd ∧ wd ≤ 8) (hB : Lib.IsBuilderF 117 5 B B (Lib.byteCells xs) w) (hx : xs.length ≤ 100000) (hBw : B < w.heap.size) :
    Calls Try.prog 74 #[.int .u64 n, .int .i64 wd, .pointer (some ⟨B, 0, none⟩)] w fun e w' => (∃ v, e = .returned v) ∧ ∃ ys : List UInt8, ys.length ≤ wd.toNat ∧ Lib.IsBuilderF 117 5 B B (Lib.byteCells (xs ++ ys)) w' ∧ Below B w w' ∧ Lib.OthersKept 5 (some B) w w' := by
  obtain ⟨s, er, hp, hs⟩ := putE_some n wd h0 h1 hwd
  go_enter Try.func74, Try.ntmps74
  go_wp2_with fail
  refine (num_Put.calls _ _ _ _ _ hp).mono ?_
  rintro e w1 ⟨rfl, hb1⟩
  have hB1 := (Turn.of_below (own := fun _ => False) (T := fun _ => False) hb1).builder hB (fun h => h) (fun h => h)
  have hs1 := hb1.size
  go_wp2_with fail
  refine (b_WriteString B B _ s w1 hB1 (by rw [Lib.byteCells_length]; omega) (by omega)).mono ?_
  rintro e w2 ⟨rfl, hB2, hbe2, ho2⟩
  go_wp2
  go_end0
  refine ⟨⟨_, rfl⟩, s.data.toList, by (have h := hs; unfold ByteArray.size at h; rw [Array.length_toList]; exact h), ?_, (hb1.mono (by omega)).trans hbe2, keptE_trans (keptE_below hb1) ho2⟩
  rw [Lib.byteCells_append]
  exact .inr hB2
/-- How the world stands behind a put: the record in H, the builder in G. -/
structure ESt (rec : Array Value) (H G : Nat) (w : World) (n : Nat) (W : World) : Prop where
  hb : ∃ xs : List UInt8, Lib.IsBuilderF 117 5 G G (Lib.byteCells (82 :: xs)) W ∧ xs.length ≤ n
  hr : W.heap[H]? = some (.cells rec 86 (0, 0))
  hw : Below H w W
  hs : G + 1 ≤ W.heap.size
theorem ESt.put {rec : Array Value} {H G n : Nat} {w W : World} (h : ESt rec H G w n W) (hH : H < G) (m wd : Int) (h0 : 0 ≤ m) (h1 : m < 18446744073709551616) (hwd : 1 ≤ wd ∧ wd ≤ 8) (hn : n ≤ 1000) :
    Calls Try.prog 74 #[.int .u64 m, .int .i64 wd, .pointer (some ⟨G, 0, none⟩)] W fun e W' => (∃ v, e = .returned v) ∧ ESt rec H G w (n + wd.toNat) W' ∧ Lib.OthersKept 5 (some G) W W' ∧ W.heap.size ≤ W'.heap.size := by
  obtain ⟨xs, hB, hx⟩ := h.hb
  refine (putE_calls G m wd (82 :: xs) W h0 h1 hwd hB (by simp; omega) (by have := h.hs; omega)).mono ?_
  rintro e W' ⟨hv, ys, hy, hB', hbe, ho⟩
  refine ⟨hv, ⟨⟨xs ++ ys, by simpa using hB', by simp; omega⟩, (kept_typ ho h.hr (by omega) (by decide)).trans h.hr, h.hw.trans (hbe.mono (by omega)), Nat.le_trans h.hs hbe.size⟩, ho, hbe.size⟩
theorem ESt.below {rec : Array Value} {H G n : Nat} {w W W' : World} (h : ESt rec H G w n W) (hb : Below W.heap.size W W') (hHW : H ≤ W.heap.size) (hHG : H < G) : ESt rec H G w n W' := by
  obtain ⟨xs, hB, hx⟩ := h.hb
  exact ⟨⟨xs, (Turn.of_below (own := fun _ => False) (T := fun _ => False) hb).builder hB (fun h => h) (fun h => h), hx⟩, (hb.block H (Array.getElem?_eq_some_iff.1 h.hr).1).trans h.hr, h.hw.trans (hb.mono hHW), Nat.le_trans h.hs hb.size⟩
theorem ESt.grow {rec : Array Value} {H G n m : Nat} {w W : World} (h : ESt rec H G w n W) (hm : n ≤ m) : ESt rec H G w m W := by
  obtain ⟨xs, hB, hx⟩ := h.hb
  exact ⟨⟨xs, hB, by omega⟩, h.hr, h.hw, h.hs⟩
theorem fitE (xs : List UInt8) (h : xs.length ≤ 500) : ∃ s : ByteArray, num_Fit.f ⟨((82 : UInt8) :: xs).toArray⟩ 512 = some (s, 0) ∧ s.size = 512 ∧ s.data.toList.head? = some 82 := by
  have hs : (⟨((82 : UInt8) :: xs).toArray⟩ : ByteArray).size = xs.length + 1 := by simp [ByteArray.size]
  unfold num_Fit.f
  rw [if_neg (by omega), if_neg (by omega), if_neg (by omega)]
  refine ⟨_, rfl, ?_, ?_⟩
  · rw [ByteArray.size_append, hs]
    show xs.length + 1 + (List.replicate _ (0 : UInt8)).toArray.size = 512
    rw [List.size_toArray, List.length_replicate]; omega
  · simp
/-- What Encode answers: a block that begins with R, or none. -/
def EncPost (w : World) (e : Ending) (w' : World) : Prop := (∃ s r, e = .returned (.tuple #[.string s, .int .i64 r]) ∧ (r = 0 → s.size = 512 ∧ s.data.toList.head? = some 82)) ∧ Below w.heap.size w w'
theorem u64_any (x : Int) : 0 ≤ IntKind.u64.wrap x ∧ IntKind.u64.wrap x < 18446744073709551616 := by
  rw [IntKind.wrap_u64]; omega
theorem right_len {K : Nat} {a0 a1 : Int} {a2 a3 : Bool} {a4 : Int} {l : List SEn} (h : record_Right.f K a0 a1 a2 a3 a4 l = some true) : l.length ≤ 15 := by
  refine Classical.byContradiction fun hn => ?_
  have hj : ∀ K, record_Right.j0 K true a0 a1 a2 a3 a4 l ≠ some true := fun K h => by
    cases K with
    | zero => simp [record_Right.j0] at h
    | succ K => rw [record_Right.j0, if_pos rfl] at h; cases h
  unfold record_Right.f at h
  obtain ⟨b0, _, h⟩ := Option.bind_eq_some_iff.mp h
  split at h
  · obtain ⟨b1, _, h⟩ := Option.bind_eq_some_iff.mp h
    split at h
    · split at h
      · exact hj _ h
      · split at h
        · exact hj _ h
        · split at h
          · exact hj _ h
          · rw [if_pos (by omega)] at h
            exact hj _ h
    · exact hj _ h
  · exact hj _ h
set_option maxHeartbeats 8000000 in
theorem recE_no (K : Nat) (a0 a1 : Int) (a2 a3 : Bool) (a4 : Int) (A : Option Addr) (c : Nat) (l : List SEn) (w : World) (hC : Kd.C k43 w A l.length l) (hc : l.length ≤ c) (hr : record_Right.f K a0 a1 a2 a3 a4 l = some false) :
    Calls Try.prog 36 #[.agg #[.int .u64 a0, .int .u64 a1, .bool a2, .bool a3, .int .i64 a4, .slice A l.length c]] w (EncPost w) := by
  have HR := Aside0.mk (record_Right.calls K a0 a1 a2 a3 a4 A c l false (w.alloc (.cells #[.int .u64 a0, .int .u64 a1, .bool a2, .bool a3, .int .i64 a4, .slice A l.length c] 86)) (Kd.C_alloc hC _) hc hr)
  have HB := Aside0.mk ((Below.refl w.heap.size w).alloc (Nat.le_refl _) (.cells #[.int .u64 a0, .int .u64 a1, .bool a2, .bool a3, .int .i64 a4, .slice A l.length c] 86))
  clear hC hr
  go_enter Try.func36, Try.ntmps36
  go_wp2_with fail
  refine HR.out.mono ?_
  rintro e w1 ⟨rfl, hb1⟩
  have hfin := HB.out.trans (hb1.mono (by simp))
  have FIN := Aside0.mk hfin
  clear hb1 hfin HB HR
  go_wp2_with fail
  first | go_ret2 | skip
  exact ⟨⟨_, _, rfl, fun h => by cases h⟩, FIN.out⟩
set_option maxHeartbeats 16000000 in
theorem recE_yes (K : Nat) (a0 a1 : Int) (a2 a3 : Bool) (a4 : Int) (A : Option Addr) (c : Nat) (l : List SEn) (w : World) (hC : Kd.C k43 w A l.length l) (hc : l.length ≤ c) (h0 : 0 ≤ a0 ∧ a0 < 18446744073709551616) (h1 : 0 ≤ a1 ∧ a1 < 18446744073709551616) (hr : record_Right.f K a0 a1 a2 a3 a4 l = some true) :
    Calls Try.prog 36 #[.agg #[.int .u64 a0, .int .u64 a1, .bool a2, .bool a3, .int .i64 a4, .slice A l.length c]] w (EncPost w) := by
  have hl15 := right_len hr
  obtain ⟨H, hH⟩ : ∃ H, w.heap.size = H := ⟨_, rfl⟩
  obtain ⟨Q, hQ⟩ : ∃ Q : Ending → World → Prop, EncPost w = Q := ⟨_, rfl⟩
  rw [hQ]
  obtain ⟨w0, hw0⟩ : ∃ w0, w.alloc (.cells #[.int .u64 a0, .int .u64 a1, .bool a2, .bool a3, .int .i64 a4, .slice A l.length c] 86) = w0 := ⟨_, rfl⟩
  obtain ⟨rec, hrec⟩ : ∃ rec : Array Value, #[.int .u64 a0, .int .u64 a1, .bool a2, .bool a3, .int .i64 a4, .slice A l.length c] = rec := ⟨_, rfl⟩
  have hb0 : Below H w w0 := by rw [← hw0]; exact (Below.refl H w).alloc (by omega) _
  have hr0 : w0.heap[H]? = some (.cells rec 86 (0, 0)) := by
    rw [← hw0, ← hH, ← hrec]; show (w.heap.push _)[w.heap.size]? = _; exact Array.getElem?_push_size
  have hs0 : w0.heap.size = H + 1 := by rw [← hw0]; simp [hH]
  have HR := Aside0.mk (record_Right.calls K a0 a1 a2 a3 a4 A c l true w0 (Kd.C_below hC (by rw [hH]; exact hb0)) hc hr)
  have HC := Aside0.mk hC
  have HQ := Aside0.mk hQ
  have HCC := Aside0.mk hc
  have HREC := Aside0.mk hrec
  have cells : Aside0 (∀ W : World, W.heap[H]? = some (.cells rec 86 (0, 0)) → W.cell? ⟨H, 0, none⟩ = some (.int .u64 a0) ∧ W.cell? ⟨H, 1, none⟩ = some (.int .u64 a1) ∧ W.cell? ⟨H, 2, none⟩ = some (.bool a2) ∧ W.cell? ⟨H, 3, none⟩ = some (.bool a3) ∧ W.cell? ⟨H, 4, none⟩ = some (.int .i64 a4) ∧ W.cell? ⟨H, 5, none⟩ = some (.slice A l.length c)) := ⟨fun W h => by
    rw [← hrec] at h
    refine ⟨?_, ?_, ?_, ?_, ?_, ?_⟩ <;> (rw [Lib.cell_of_heap h]; rfl)⟩
  obtain ⟨c0, c1, c2, c3, c4, c5⟩ := cells.out w0 hr0
  have B0 := Aside0.mk (And.intro hb0 (And.intro hr0 hs0))
  have hu := Try.underlying86
  clear hC hr hc hQ hrec hb0 hr0 hs0
  go_enter Try.func36, Try.ntmps36
  go_wp2_with fail
  refine HR.out.mono ?_
  rintro e w1 ⟨rfl, hb1⟩
  obtain ⟨G, hG⟩ : ∃ G, w1.heap.size = G := ⟨_, rfl⟩
  obtain ⟨w2, hw2⟩ : ∃ w2, w1.alloc (.cells #[.pointer none, .slice none 0 0] 117) = w2 := ⟨_, rfl⟩
  have hHG : H < G := by have := hb1.size; have := B0.out.2.2; omega
  have hb12 : Below w1.heap.size w1 w2 := by rw [← hw2]; exact (Below.refl _ w1).alloc (Nat.le_refl _) _
  have hr1 := (hb1.block H (Array.getElem?_eq_some_iff.1 B0.out.2.1).1).trans B0.out.2.1
  have hr2 := (hb12.block H (Array.getElem?_eq_some_iff.1 hr1).1).trans hr1
  have hB2 : Lib.IsBuilderF 117 5 G G [] w2 := by rw [← hw2, ← hG]; exact Lib.IsBuilderF.of (Lib.fresh_isBuilder 117 5 w1)
  have hbel2 : Below H w w2 := (B0.out.1.trans (hb1.mono (by have := B0.out.2.2; omega))).trans (hb12.mono (by omega))
  have hs2 : w2.heap.size = G + 1 := by rw [← hw2]; simp [hG]
  have HWS := Aside0.mk (b_WriteString G G [] ⟨#[82]⟩ w2 hB2 (by decide) (by omega))
  have N2 := Aside0.mk (And.intro hr2 (And.intro hbel2 hs2))
  clear HR hb1 hb12 hr1 hr2 hB2 hbel2 hs2 c0 c1 c2 c3 c4 c5
  go_wp2_with fail
  refine HWS.out.mono ?_
  rintro e w3 ⟨rfl, hB3, hbe3, ho3⟩
  have st3 : ESt rec H G w 0 w3 := by
    refine ⟨⟨[], .inr hB3, Nat.le_refl _⟩, (kept_typ ho3 N2.out.1 (by omega) (by decide)).trans N2.out.1, N2.out.2.1.trans (hbe3.mono (by omega)), by have := hbe3.size; have := N2.out.2.2; omega⟩
  obtain ⟨c0, c1, c2, c3, c4, c5⟩ := cells.out w3 st3.hr
  have P6 := Aside0.mk (st3.put hHG a0 6 h0.1 h0.2 (by decide) (by decide))
  clear HWS hB3 hbe3 ho3 N2 st3
  go_wp2_with fail
  refine P6.out.mono ?_
  rintro e w4 ⟨⟨v4, rfl⟩, st4, _, _⟩
  clear c0 c1 c2 c3 c4 c5
  obtain ⟨c0, c1, c2, c3, c4, c5⟩ := cells.out w4 st4.hr
  have P7 := Aside0.mk (st4.put hHG a1 6 h1.1 h1.2 (by decide) (by decide))
  clear P6 st4
  go_wp2_with fail
  refine P7.out.mono ?_
  rintro e w5 ⟨⟨v5, rfl⟩, st5, _, _⟩
  clear c0 c1 c2 c3 c4 c5
  obtain ⟨c0, c1, c2, c3, c4, c5⟩ := cells.out w5 st5.hr
  obtain ⟨fl, hfl, hf0, hf2⟩ : ∃ fl, record_flag.f a0 a1 a2 a3 a4 l = some fl ∧ 0 ≤ fl ∧ fl ≤ 2 := by
    unfold record_flag.f
    split
    · exact ⟨_, rfl, by decide, by decide⟩
    · split
      · exact ⟨_, rfl, by decide, by decide⟩
      · exact ⟨_, rfl, by decide, by decide⟩
  have PF := Aside0.mk (record_flag.calls a0 a1 a2 a3 a4 A c l fl w5 (Kd.C_below HC.out (by rw [hH]; exact st5.hw)) HCC.out hfl)
  have ST5 := Aside0.mk st5
  clear P7 st5 hfl
  go_wp2_with fail
  refine PF.out.mono ?_
  rintro e w6 ⟨rfl, hb6⟩
  have st6 := ST5.out.below (W' := w6) (by first | exact hb6 | (obtain ⟨q, hq⟩ := hb6.out; rw [hq]; exact pw_below_drewN (Below.refl _ w5) q)) (by have := ST5.out.hs; omega) hHG
  clear c0 c1 c2 c3 c4 c5
  obtain ⟨c0, c1, c2, c3, c4, c5⟩ := cells.out w6 st6.hr
  have P8 := Aside0.mk (st6.put hHG fl 1 hf0 (by omega) (by decide) (by decide))
  clear PF hb6 ST5 st6
  go_wp2_with fail
  refine P8.out.mono ?_
  rintro e w7 ⟨⟨v7, rfl⟩, st7, _, _⟩
  clear c0 c1 c2 c3 c4 c5
  obtain ⟨c0, c1, c2, c3, c4, c5⟩ := cells.out w7 st7.hr
  obtain ⟨ga, gb⟩ := u64_any a4
  have P9 := Aside0.mk (st7.put hHG (IntKind.u64.wrap a4) 2 ga gb (by decide) (by decide))
  clear P8 st7 ga gb
  go_wp2_with fail
  refine P9.out.mono ?_
  rintro e w8 ⟨⟨v8, rfl⟩, st8, _, _⟩
  clear c0 c1 c2 c3 c4 c5
  obtain ⟨c0, c1, c2, c3, c4, c5⟩ := cells.out w8 st8.hr
  have P10 := Aside0.mk (st8.put hHG (l.length : Int) 1 (by omega) (by omega) (by decide) (by decide))
  clear P9 st8
  go_wp2_with fail
  refine P10.out.mono ?_
  rintro e w9 ⟨⟨v9, rfl⟩, st9, _, _⟩
  clear c0 c1 c2 c3 c4 c5
  obtain ⟨c0, c1, c2, c3, c4, c5⟩ := cells.out w9 st9.hr
  have ST9 := Aside0.mk st9
  obtain ⟨n, hn⟩ : ∃ n, l.length = n := ⟨_, rfl⟩
  have HN := Aside0.mk hn
  clear P10 st9
  rw [hn] at c5 hl15 ⊢
  go_wp2_with fail
  go_loopg [39] n (fun gg s39 wr => ∃ j : Nat, s39 = .int .i64 (j : Int) ∧ j + gg = n ∧ Aside0 (ESt rec H G w (16 + 13 * j) wr))
  case atStart => exact ⟨0, rfl, by omega, ⟨ST9.out.grow (by decide)⟩⟩
  case round =>
    clear c0 c1 c2 c3 c4 c5
    obtain ⟨j, rfl, hj, U⟩ := hrel
    obtain ⟨c0, c1, c2, c3, c4, c5⟩ := cells.out wr U.out.hr
    rw [HN.out] at c5
    by_cases hlt : j < n
    · have hd : decide (j < n) = true := decide_eq_true hlt
      have hd' : decide ((j : Int) < (n : Int)) = true := decide_eq_true (by omega)
      have hbw : Below w.heap.size w wr := by rw [hH]; exact U.out.hw
      obtain ⟨ad, e0, x0, x1, x2, x3⟩ := at_T43 (Kd.C_below HC.out hbw) (j : Int) (by omega) (by omega)
      subst e0
      obtain ⟨x, hx⟩ : ∃ x, rd_T43 l (j : Int) = x := ⟨_, rfl⟩
      rw [hx, Int.toNat_natCast] at x0 x1 x2 x3
      have hj0 : (0 : Int) ≤ (j : Int) := by omega
      have hj1 : (j : Int) < (n : Int) := by omega
      obtain ⟨X, hX⟩ : ∃ X, wr.heap.size = X := ⟨_, rfl⟩
      obtain ⟨v5_, hv5⟩ : ∃ v5_, wr.alloc (.cells #[.int .i64 x.f0, .int .u32 x.f1, .int .u32 x.f2, .int .u32 x.f3] 43) = v5_ := ⟨_, rfl⟩
      have hbX : v5_.heap[X]? = some (.cells #[.int .i64 x.f0, .int .u32 x.f1, .int .u32 x.f2, .int .u32 x.f3] 43 (0, 0)) := by
        rw [← hv5, ← hX]; show (wr.heap.push _)[wr.heap.size]? = _; exact Array.getElem?_push_size
      have hu2 := Try.underlying43
      have hGX : G < X := by have := U.out.hs; omega
      have bX : Below wr.heap.size wr v5_ := by rw [← hv5]; exact (Below.refl _ wr).alloc (Nat.le_refl _) _
      have stX := U.out.below bX (by omega) hHG
      have cellsX : ∀ W : World, W.heap[X]? = some (.cells #[.int .i64 x.f0, .int .u32 x.f1, .int .u32 x.f2, .int .u32 x.f3] 43 (0, 0)) → W.cell? ⟨X, 0, none⟩ = some (.int .i64 x.f0) ∧ W.cell? ⟨X, 1, none⟩ = some (.int .u32 x.f1) ∧ W.cell? ⟨X, 2, none⟩ = some (.int .u32 x.f2) ∧ W.cell? ⟨X, 3, none⟩ = some (.int .u32 x.f3) := fun W h => by
        refine ⟨?_, ?_, ?_, ?_⟩ <;> (rw [Lib.cell_of_heap h]; rfl)
      obtain ⟨d0, d1, d2, d3⟩ := cellsX v5_ hbX
      have ew : IntKind.i64.wrap ((j : Int) + 1) = (j : Int) + 1 := by rw [IntKind.wrap_i64]; omega
      clear hbw bX
      go_wp2_with fail
      refine (stX.put hHG _ 1 (u64_any _).1 (u64_any _).2 (by decide) (by omega)).mono ?_
      rintro e z1 ⟨⟨y1, rfl⟩, stA, ho1, _⟩
      have hbA := (kept_typ ho1 hbX (by omega) (by decide)).trans hbX
      clear d0 d1 d2 d3 ho1 hbX stX
      obtain ⟨d0, d1, d2, d3⟩ := cellsX z1 hbA
      go_wp2_with fail
      refine (stA.put hHG _ 4 (u64_any _).1 (u64_any _).2 (by decide) (by omega)).mono ?_
      rintro e z2 ⟨⟨y2, rfl⟩, stB, ho2, _⟩
      have hbB := (kept_typ ho2 hbA (by omega) (by decide)).trans hbA
      clear d0 d1 d2 d3 ho2 hbA stA
      obtain ⟨d0, d1, d2, d3⟩ := cellsX z2 hbB
      go_wp2_with fail
      refine (stB.put hHG _ 4 (u64_any _).1 (u64_any _).2 (by decide) (by omega)).mono ?_
      rintro e z3 ⟨⟨y3, rfl⟩, stC, ho3, _⟩
      have hbC := (kept_typ ho3 hbB (by omega) (by decide)).trans hbB
      clear d0 d1 d2 d3 ho3 hbB stB
      obtain ⟨d0, d1, d2, d3⟩ := cellsX z3 hbC
      go_wp2_with fail
      refine (stC.put hHG _ 4 (u64_any _).1 (u64_any _).2 (by decide) (by omega)).mono ?_
      rintro e z4 ⟨⟨y4, rfl⟩, stD, ho4, _⟩
      have hbD := (kept_typ ho4 hbC (by omega) (by decide)).trans hbC
      clear d0 d1 d2 d3 ho4 hbC stC
      obtain ⟨d0, d1, d2, d3⟩ := cellsX z4 hbD
      have STD := Aside0.mk stD
      clear d0 d1 d2 d3 hbD stD x0 x1 x2 x3 c0 c1 c2 c3 c4 c5 U
      go_wp2_with fail
      go_roundg (n - (j + 1))
      case rel => exact ⟨j + 1, by first | rfl | (rw [ew]; rfl), by omega, ⟨STD.out.grow (by show 16 + 13 * j + 1 + 4 + 4 + 4 ≤ 16 + 13 * (j + 1); omega)⟩⟩
      case measure => omega
    · have hd : decide (j < n) = false := decide_eq_false hlt
      have hd' : decide ((j : Int) < (n : Int)) = false := decide_eq_false (by omega)
      obtain ⟨xs, hB, hx⟩ := U.out.hb
      obtain ⟨s, hfit, hs, hh⟩ := fitE xs (by omega)
      have HST := Aside0.mk (b_String G G (82 :: xs) wr hB (by have := U.out.hs; omega))
      have HFIT := Aside0.mk hfit
      have HS := Aside0.mk (And.intro hs hh)
      clear c0 c1 c2 c3 c4 c5 hB hx hfit hs hh
      go_wp2_with fail
      refine HST.out.mono ?_
      rintro e w10 ⟨rfl, hB4, hbe4, ho4⟩
      have HFC := Aside0.mk (num_Fit.calls _ _ _ _ w10 HFIT.out)
      have hbx : Below H w w10 := U.out.hw.trans (hbe4.mono (by omega))
      have HBX := Aside0.mk (And.intro hbx (show H ≤ w10.heap.size by have := hbe4.size; have := U.out.hs; omega))
      clear hB4 hbe4 ho4 hbx HST HFIT
      go_wp2_with fail
      refine HFC.out.mono ?_
      rintro e w11 ⟨rfl, hb11⟩
      have hq : Q (.returned (.tuple #[.string s, .int .i64 0])) w11 := by
        rw [← HQ.out]
        exact ⟨⟨s, 0, rfl, fun _ => HS.out⟩, by rw [hH]; exact HBX.out.1.trans (hb11.mono HBX.out.2)⟩
      have HQ2 := Aside0.mk hq
      clear hq hb11 HFC
      go_wp2_with fail
      first | exact HQ2.out | (go_ret2; exact HQ2.out)
end Go.Proofs.Ythgefgjaihagoaa.Q

set_option linter.unusedVariables false
set_option linter.unusedSimpArgs false
namespace Go.Proofs.Ythgefgjaihagoaa.Q
open Go.RowKit Go.Proofs.Ythgefgjaihagoaa.H Go.Proofs.YthgefgjaihagoaaW.PrintWords Go.Proofs.YthgefgjaihagoaaW.PrintLast
set_option maxRecDepth 100000
theorem isE_total (k : Nat) (a b c d : Int) : ∃ r, record_isEntry.f (k + 1) a b c d = some r := by
  simp only [record_isEntry.f, record_isEntry.j0]
  repeat (first | exact ⟨_, rfl⟩ | split)
theorem rl0_total (l : List SEn) (hl : l.length ≤ 15) (x3 : Int) (a0 a1 : Int) (a2 a3 : Bool) (a4 : Int) : ∀ (d j K : Nat), j + d = l.length → d + 2 ≤ K → ∃ b, record_Right.l0 K x3 l (l.length : Int) (j : Int) a0 a1 a2 a3 a4 l = some b
  | 0, j, K + 1, hj, _ => ⟨true, by rw [record_Right.l0, if_neg (by omega)]⟩
  | d + 1, j, K + 2, hj, hK => by
    obtain ⟨b, hb⟩ := rl0_total l hl x3 a0 a1 a2 a3 a4 d (j + 1) (K + 1) (by omega) (by omega)
    obtain ⟨t, ht⟩ := isE_total K (rd_T43 l (j : Int)).f0 (rd_T43 l (j : Int)).f1 (rd_T43 l (j : Int)).f2 (rd_T43 l (j : Int)).f3
    have e : wrap64 ((j : Int) + 1) = ((j + 1 : Nat) : Int) := by
      unfold wrap64; omega
    rw [record_Right.l0, if_pos (by omega), if_pos (by omega), if_pos (by omega), ht, Option.bind_some, e]
    repeat (first | exact ⟨b, hb⟩ | exact ⟨_, rfl⟩ | split)
theorem rj0_total (l : List SEn) (b : Bool) (hl : b = false → l.length ≤ 15) (a0 a1 : Int) (a2 a3 : Bool) (a4 : Int) : ∃ r, record_Right.j0 20 b a0 a1 a2 a3 a4 l = some r := by
  rw [record_Right.j0]
  split
  · exact ⟨_, rfl⟩
  · have hl' := hl (by simpa using ‹¬b = true›)
    exact rl0_total l hl' _ a0 a1 a2 a3 a4 l.length 0 19 (by omega) (by omega)
theorem right_total (a0 a1 : Int) (a2 a3 : Bool) (a4 : Int) (l : List SEn) : ∃ b, record_Right.f 20 a0 a1 a2 a3 a4 l = some b := by
  have t : ∃ r, record_Right.j0 20 true a0 a1 a2 a3 a4 l = some r := rj0_total l true (by simp) a0 a1 a2 a3 a4
  simp only [record_Right.f, record_isNumber.f]
  by_cases h15 : l.length ≤ 15
  · have f : ∀ b, ∃ r, record_Right.j0 20 b a0 a1 a2 a3 a4 l = some r := fun b => rj0_total l b (fun _ => h15) a0 a1 a2 a3 a4
    repeat (first | exact f _ | (simp only [Option.bind_some]) | split)
  · have h : (l.length : Int) > 15 := by omega
    simp only [h, if_true]
    repeat (first | exact t | (simp only [Option.bind_some]) | split)
/-- record.Encode, whatever the record is. -/
theorem recE.calls (a0 a1 : Int) (a2 a3 : Bool) (a4 : Int) (A : Option Addr) (c : Nat) (l : List SEn) (w : World) (hC : Kd.C k43 w A l.length l) (hc : l.length ≤ c) (h0 : 0 ≤ a0 ∧ a0 < 18446744073709551616) (h1 : 0 ≤ a1 ∧ a1 < 18446744073709551616) :
    Calls Try.prog 36 #[.agg #[.int .u64 a0, .int .u64 a1, .bool a2, .bool a3, .int .i64 a4, .slice A l.length c]] w (EncPost w) := by
  obtain ⟨b, hb⟩ := right_total a0 a1 a2 a3 a4 l
  cases b with
  | false => exact recE_no 20 a0 a1 a2 a3 a4 A c l w hC hc hb
  | true => exact recE_yes 20 a0 a1 a2 a3 a4 A c l w hC hc h0 h1 hb
end Go.Proofs.Ythgefgjaihagoaa.Q
