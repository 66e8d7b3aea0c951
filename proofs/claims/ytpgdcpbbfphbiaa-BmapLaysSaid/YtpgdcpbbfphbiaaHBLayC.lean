/- A region that draws its order, inside a round of a range over a function: walked once, its callees ending in 'Below'. -/
import Derived.Lib.QuietBelowIn
import Derived.OrdersIn
import Derived.RangeFuncCalls
import Derived.Test.YtpgdcpbbfphbiaaHBLay
import Derived.Test.YtpgdcpbbfphbiaaHIMap
set_option linter.unusedVariables false
namespace Go.Proofs.Ytpgdcpbbfphbiaa.H
open Go Go.Sort Go.RowKit
variable {F : Fence} {n : Nat} {P : Program} {ops : Array Oper}

def noDefer (o : Oper) : Bool := match o.op with | .defer _ => false | _ => true
theorem noDefer_spec {o : Oper} (h : noDefer o = true) : ∀ c, o.op ≠ .defer c := fun c e => by unfold noDefer at h; rw [e] at h; cases h

theorem wpOpIn_round {l i : Nat} {Q : Exit → Act → World → Prop} {K : Act → World → Prop} {a : Act} {w : World} (hro : F.round = none) (hd : ops.all noDefer = true)
    (h : wpOpIn F n P ops Q i K a w) : wpOpIn (F.inRound l) n P ops Q i K a w := by
  unfold wpOpIn at *
  cases ho : ops[i]? with
  | none => rw [ho] at h; exact h
  | some o =>
    rw [ho] at h
    have hdo := noDefer_spec (Array.all_eq_true_iff_forall_mem.1 hd o (Array.mem_of_getElem? ho))
    simp only at h ⊢
    split
    · rename_i hw
      rw [if_pos hw] at h
      unfold Oper.wpIn at *
      rw [Oper.semAt_eq _ _ _ hdo] at h ⊢
      exact ⟨h.1, h.2⟩
    · rename_i hw
      rw [if_neg hw] at h
      exact h

theorem wpAnyIn_round {l : Nat} {md : Region.Mode} {Q : Exit → Act → World → Prop} (hro : F.round = none) (hd : ops.all noDefer = true) :
    ∀ (fuel : Nat) (listed : Array Bool) (a : Act) (w : World), wpAnyIn F n P md ops Q fuel listed a w → wpAnyIn (F.inRound l) n P md ops Q fuel listed a w
  | 0, _, _, _, h => h
  | fuel + 1, _, _, _, h => ⟨h.1, fun i hi => wpOpIn_round hro hd (wpOpIn_mono (fun a w => wpAnyIn_round hro hd fuel _ a w) (h.2 i hi))⟩

theorem wpIn_quiet_round {id l0 : Nat} {Q : Exit → Act → World → Prop} {a : Act} {w : World} {l : List Oper} (hro : F.round = none) (hm : P.follows .mixedOrders = true) (hB : Region.lexB .any l.toArray = true) (hd : l.toArray.all noDefer = true)
    (h : wpQuietIn F n P l.toArray (fun w' => ∃ p : Regrown, w' = grow (redrawn w p.d) p.os) (fun a' => ∀ w', (∃ p : Regrown, w' = grow (redrawn w p.d) p.os) → Q .normal a' w') l a) : (Code.region id l.toArray true).wpIn (F.inRound l0) n P Q a w := by
  simp only [Region.lexB, Bool.and_eq_true] at hB
  refine wpIn_region_any hm (wpAnyIn_round hro hd _ _ _ _ (wpAnyIn_of_quiet (C := fun w' => ∃ p : Regrown, w' = grow (redrawn w p.d) p.os) (Q := fun a' => ∀ w', (∃ p : Regrown, w' = grow (redrawn w p.d) p.os) → Q .normal a' w') hro (fun _ w' hw' h => h w' hw') _ _ _ _ ⟨⟨w.drawn + 1, #[]⟩, by rw [grow_empty]; rfl⟩ ?_))
  have := wpAnyQIn_lex (F := F) (n := n) (C := fun w' => ∃ p : Regrown, w' = grow (redrawn w p.d) p.os) (md := .any) hB.1 l 0 (Array.replicate l.toArray.size false) a (by simp) (by simpa using hB.2) h
  simpa using this
end Go.Proofs.Ytpgdcpbbfphbiaa.H

set_option linter.unusedVariables false
set_option linter.unusedSimpArgs false
namespace Go.Proofs.Ytpgdcpbbfphbiaa.Q
open Go.RowKit Go.Shelf Go.Proofs.Ytpgdcpbbfphbiaa.H Go.Proofs.YtpgdcpbbfphbiaaW.PrintWords Go.Proofs.YtpgdcpbbfphbiaaW.PrintLast Go.Proofs.YtpgdcpbbfphbiaaW.PrintMore
attribute [local go_sem] Oper.semAt_some
set_option maxRecDepth 100000

section
variable {F : Fence} {n : Nat} {P : Program} {ops : Array Oper} {Q : Exit → Act → World → Prop} {md : Region.Mode}
/-- An operation of a region that draws comes up: it leaves its value, in a world that may be another one. -/
theorem readyIn1 (i : Nat) {oi : Oper} {v : Value} {fuel : Nat} {listed : Array Bool} {a a' : Act} {w w1 : World} {rs : List Nat} (hi : ops[i]? = some oi) (hro : F.round = none)
    (hw : Region.wanted oi (yielded ops a.tmps) = true) (hv : (execOp a.eval oi).run P w = .ok (.value v) w1) (hab : oi.about P w a.eval = none) (ha : a.put oi.dst v = a')
    (h : wpAnyIn F n P md ops Q fuel (listed.setIfInBounds i true) a' w1) (hs : AllReadyIn F n P md ops Q fuel listed a w rs) : AllReadyIn F n P md ops Q fuel listed a w (i :: rs) := by
  refine AllReadyIn.cons hi (fun K' hK => ?_) hs
  rw [if_pos hw]
  unfold Oper.wpIn
  refine ⟨fun f hf => (by rw [hab] at hf; cases hf), ?_⟩
  rw [hro, Oper.semAt_none, hv]
  exact hK _ _ (ha ▸ h)
/-- One that leaves no value. -/
theorem skipIn1 (i : Nat) {oi : Oper} {fuel : Nat} {listed : Array Bool} {a a' : Act} {w w1 : World} {rs : List Nat} (hi : ops[i]? = some oi) (hro : F.round = none)
    (hw : Region.wanted oi (yielded ops a.tmps) = true) (hv : (execOp a.eval oi).run P w = .ok .skip w1) (hab : oi.about P w a.eval = none) (ha : a.put oi.dst undef = a')
    (h : wpAnyIn F n P md ops Q fuel (listed.setIfInBounds i true) a' w1) (hs : AllReadyIn F n P md ops Q fuel listed a w rs) : AllReadyIn F n P md ops Q fuel listed a w (i :: rs) := by
  refine AllReadyIn.cons hi (fun K' hK => ?_) hs
  rw [if_pos hw]
  unfold Oper.wpIn
  refine ⟨fun f hf => (by rw [hab] at hf; cases hf), ?_⟩
  rw [hro, Oper.semAt_none, hv]
  exact hK _ _ (ha ▸ h)
end
theorem info_str : (Try.prog.info? 9).map (fun i => (i.zero, i.size, i.bytes)) = some (some (.string ⟨#[]⟩), 1, 16) := by kernel_rfl
def topB (l2 : List Int) : List ByteArray := if 1 < l2.length then [blkB (l2.drop 1)] else []
def layN (l1 l2 : List Int) (k : Nat) : List ByteArray := topB l2 ++ (List.range k).map fun j => blkB (partL 127 l1 j)
theorem layN_succ (l1 l2 : List Int) (k : Nat) : layN l1 l2 (k + 1) = layN l1 l2 k ++ [blkB (partL 127 l1 k)] := by simp [layN, List.range_succ]
theorem layN_len (l1 l2 : List Int) (k : Nat) : (layN l1 l2 k).length = (topB l2).length + k := by simp [layN]
theorem topB_len (l2 : List Int) : (topB l2).length ≤ 1 := by unfold topB; split <;> simp
theorem row_below {W W' : World} {base : Nat} {e : TypeId} {size n : Nat} {v : Value} {xs : List Value} (h : W.ownsRow base e size v n xs) (hb : Below W.heap.size W W') : W'.ownsRow base e size v n xs := by
  refine ⟨h.1, ?_⟩
  rcases h.2 with hn | ⟨g, cap, cur, hv, hbg, hg, rest⟩
  · exact .inl hn
  · exact .inr ⟨g, cap, cur, hv, hbg, (hb.block g (Array.getElem?_eq_some_iff.1 hg).1).trans hg, rest⟩
theorem others_below {W W' : World} (hb : Below W.heap.size W W') : KeepsOthers W W' :=
  ⟨hb.size, fun k o hk _ => (hb.block k (Array.getElem?_eq_some_iff.1 hk).1).trans hk⟩

theorem stands_blk {own : Nat → Prop} {T : TypeId → Prop} {k : Nat} {o : Obj} (hk : ¬ own k) : Stands own T (fun W => W.heap[k]? = some o) := fun _ _ h ht => ht.same k _ h (.inl hk)
theorem stands_row2 {own : Nat → Prop} {T : TypeId → Prop} {base : Nat} {e : TypeId} {size n : Nat} {v : Value} {xs : List Value} (hT : ∀ t, ¬ T t) : Stands own T (fun W => W.ownsRow base e size v n xs) := fun A C h ht => by
  refine ⟨h.1, ?_⟩
  rcases h.2 with hn | ⟨g, cap, cur, hv, hbg, hg, rest⟩
  · exact .inl hn
  · exact .inr ⟨g, cap, cur, hv, hbg, ht.same g _ hg (.inr ⟨_, _, _, rfl, hT _⟩), rest⟩
theorem row_putObj {W : World} {base : Nat} {e : TypeId} {size n : Nat} {v : Value} {xs : List Value} (h : W.ownsRow base e size v n xs) (l : Nat) {o o' : Obj} (hl : W.heap[l]? = some o) (ho : o.isCells = false) : (W.putObj l o').ownsRow base e size v n xs := by
  refine ⟨h.1, ?_⟩
  rcases h.2 with hn | ⟨g, cap, cur, hv, hbg, hg, rest⟩
  · exact .inl hn
  · exact .inr ⟨g, cap, cur, hv, hbg, (World.putObj_heap_other (fun e => by subst e; rw [hl] at hg; cases hg; cases ho)).trans hg, rest⟩
theorem run_app {P : Program} {a : Act} {o : Oper} {s x : Operand} {t ty : TypeId} {v xv v' : Value} {w w1 : World} (ho : o.op = .call { callee := .builtin .append, args := #[s, x], argTypes := #[t, t] }) (hty : o.type = ty) (hs : a.eval s = v) (hx : a.eval x = xv)
    (hrun : (Builtin.append_ #[t, t] ty #[v, xv]).run P w = .ok v' w1) : (execOp a.eval o).run P w = .ok (.value v') w1 := by
  subst hty
  simp [execOp, ho, resolve, invoke, builtin, hs, hx, hrun, Result.andThen]
theorem row_same {W W' : World} {base : Nat} {e : TypeId} {size n : Nat} {v : Value} {xs : List Value} (h : W.ownsRow base e size v n xs) (hs : ∀ j, base ≤ j → W'.heap[j]? = W.heap[j]?) : W'.ownsRow base e size v n xs := by
  refine ⟨h.1, ?_⟩
  rcases h.2 with hn | ⟨g, cap, cur, hv, hbg, hg, rest⟩
  · exact .inl hn
  · exact .inr ⟨g, cap, cur, hv, hbg, (hs g hbg).trans hg, rest⟩
/-- A text is put behind a list of texts that lies in a variable: what there is then. -/
theorem push_text (W : World) (H : Nat) (v : Value) (k : Nat) (xs : List Value) (s : ByteArray) (hv : Boxed W (H + 2) 33 v) (hrow : W.ownsRow (H + 3) 9 1 v k xs) (hk : k ≤ 1000000) (hs : H + 3 ≤ W.heap.size) :
    ∃ g cap w1, (Builtin.append_ #[33, 33] 33 #[v, .slice (some ⟨W.heap.size, 0, none⟩) 1 1]).run Try.prog (W.alloc (.cells #[.string s] 9)) = .ok (.slice (some ⟨g, 0, none⟩) (k + 1) cap) w1 ∧
      w1.cell? ⟨H + 2, 0, none⟩ = some v ∧ w1.frozen? ⟨H + 2, 0, none⟩ = false ∧ Boxed (w1.setCell ⟨H + 2, 0, none⟩ (.slice (some ⟨g, 0, none⟩) (k + 1) cap)) (H + 2) 33 (.slice (some ⟨g, 0, none⟩) (k + 1) cap) ∧ (w1.setCell ⟨H + 2, 0, none⟩ (.slice (some ⟨g, 0, none⟩) (k + 1) cap)).ownsRow (H + 3) 9 1 (.slice (some ⟨g, 0, none⟩) (k + 1) cap) (k + 1) (xs ++ [.string s]) ∧
      KeepsOthers W (w1.setCell ⟨H + 2, 0, none⟩ (.slice (some ⟨g, 0, none⟩) (k + 1) cap)) ∧ Below H W (w1.setCell ⟨H + 2, 0, none⟩ (.slice (some ⟨g, 0, none⟩) (k + 1) cap)) ∧
      (∀ j c t fz, j ≠ H + 2 → W.heap[j]? = some (.cells c t fz) → (j < H + 3 ∨ t ≠ 9) → (w1.setCell ⟨H + 2, 0, none⟩ (.slice (some ⟨g, 0, none⟩) (k + 1) cap)).heap[j]? = some (.cells c t fz)) := by
  obtain ⟨i0, hi, hz0, hz1, hz2⟩ := info_parts info_str
  obtain ⟨v', w1, hrun, hown', hgrow, _⟩ := run_append_own (P := Try.prog) (W.alloc (.cells #[.string s] 9)) (H + 3) 33 33 9 i0 (.string ⟨#[]⟩) 1 16 Try.underlying33 hi hz0 hz1 hz2 rfl (by decide) v k xs (hrow.alloc _) ⟨W.heap.size, 0, none⟩ 1 1 [.string s] rfl (cell_one_new _ _ _) (by simp [Value.oneCell']) (by unfold maxLen; omega) (by omega) (by simp; omega)
  obtain ⟨g, cap, rfl⟩ := ownsRow_succ hown'
  obtain ⟨hv1, hv2, hr2, hk2, hb2, hj2⟩ := box_appended (n₀ := H) hv hrow hs (by omega) (by omega) hown' hgrow
  refine ⟨g, cap, w1, hrun, hv1.cell, hv1.frozen, hv2, hr2, hk2, hb2, ?_⟩
  intro j c t fz hj hjc hor
  have hjl := (Array.getElem?_eq_some_iff.1 hjc).1
  rcases hor with h | h
  · exact (hj2 j h hj).trans hjc
  · have hne : some j ≠ v.ownBlock := by
      intro e
      rcases hrow.2 with ⟨rfl, _⟩ | ⟨g0, cap0, cur, rfl, _, hg, _⟩
      · simp [Value.ownBlock] at e
      · obtain rfl : j = g0 := by simpa [Value.ownBlock] using e
        rw [hg] at hjc; cases hjc; exact h rfl
    rw [Below.heap_setCell _ _ _ _ hj, hgrow.block j (by simp; omega) hne, Below.heap_alloc _ _ _ (by omega)]
    exact hjc

set_option maxHeartbeats 8000000 in
theorem lay_one (size : Int) (A1 : Option Addr) (c1 : Nat) (l1 : List Int) (A2 : Option Addr) (c2 : Nat) (l2 : List Int) (w : World) (hC1 : Kd.C (Kd.int .u32) w A1 l1.length l1) (hc1 : l1.length ≤ c1) (hC2 : Kd.C (Kd.int .u32) w A2 l2.length l2) (hc2 : l2.length ≤ c2) (hz : decide (8193532 < size) = false)
    (hbl : inode_Blocks.f size = some (l1.length : Int)) (hct : bmap_Count.f size = some (l2.length : Int)) (hzz : hasZ l2 = some false) (hl1 : l1.length ≤ 1000000) (h20 : l2.length = 1) (hl2 : l2.length ≤ 128) (hr1 : ∀ x ∈ l1, 0 ≤ x ∧ x < 4294967296) (hr2 : ∀ x ∈ l2, 0 ≤ x ∧ x < 4294967296) :
    Calls Try.prog 15 #[.int .u32 size, .slice A1 l1.length c1, .slice A2 l2.length c2] w fun e w' => (∃ v, e = .returned (.tuple #[.agg #[.int .u32 (l2.getD 0 0), .int .u32 0, .int .u32 0, .int .u32 0, .int .u32 0, .int .u32 0], v, .int .i64 0]) ∧ w'.ownsRow w.heap.size 9 1 v (layN l1 l2 (partN 127 l1)).length ((layN l1 l2 (partN 127 l1)).map Value.string)) ∧ Below w.heap.size w w' := by
  obtain ⟨i0, hi, hz0, hz1, hz2⟩ := info_parts info_str
  have HC1 := Aside0.mk hC1
  have HC2 := Aside0.mk hC2
  have HR1 := Aside0.mk hr1
  have HR2 := Aside0.mk hr2
  have HZZ := Aside0.mk hzz
  obtain ⟨ad, ea, ga⟩ := Kd.at_int hC2 0 (by omega) (by omega)
  obtain ⟨x, hx⟩ : ∃ x, l2.getD 0 0 = x := ⟨_, rfl⟩
  rw [show rd l2 0 = x by rw [← hx]; rfl] at ga
  rw [hx]
  subst ea
  simp only [Int.toNat_zero] at ga
  have hll0 : ((l2.length : Int) == 0) = false := beq_eq_false_iff_ne.mpr (by omega)
  have hll1 : decide (1 < (l2.length : Int)) = false := decide_eq_false (by omega)
  have hb0 : (0 : Int) < (l2.length : Int) := by omega
  have HGA := Aside0.mk ga
  have H20 := Aside0.mk h20
  clear hC1 hC2 hr1 hr2 hzz hx ga h20
  refine (callsIn_wide (n := 10)).1 ?_
  refine callsIn_of_wp_marks Try.func15 rfl trivial ?_ rfl
  simp only [Try.ntmps15, List.size_toArray, List.length_cons, List.length_nil, Nat.reduceAdd, Nat.reduceSub, Array.replicate_succ, Array.replicate_zero, List.push_toArray, List.append_toArray, List.nil_append, List.cons_append]
  gi_wp2_with fail
  refine ⟨trivial, (callsIn_wide.2 (inode_Blocks.calls size _ _ hbl)).mono ?_⟩
  rintro e w1 ⟨rfl, m1, rfl⟩
  gi_wp2_with fail
  refine ⟨trivial, (callsIn_wide.2 (bmap_Count.calls size _ _ hct)).mono ?_⟩
  rintro e w2 ⟨rfl, m2, rfl⟩
  gi_wp2_with fail
  refine ⟨trivial, (callsIn_wide.2 (slices_Contains_uint32_uint32_28.calls _ (some ad) c2 l2 0 false _ (Kd.C_drewN (Kd.C_alloc (Kd.C_alloc HC2.out _) _) _) hc2 HZZ.out)).mono ?_⟩
  rintro e w3 ⟨rfl, hd⟩
  obtain ⟨r0, r1, hB, hsz⟩ := lay_boxes w
  replace r0 : w3.heap[w.heap.size]? = some (.cells z6 32 (0, 0)) := by obtain ⟨n, rfl⟩ := hd; exact r0
  replace r1 : w3.heap[w.heap.size + 1]? = some (.cells z6 32 (0, 0)) := by obtain ⟨n, rfl⟩ := hd; exact r1
  replace hsz : w3.heap.size = w.heap.size + 2 := by obtain ⟨n, rfl⟩ := hd; exact hsz
  replace hB : Below w.heap.size w w3 := by obtain ⟨n, rfl⟩ := hd; exact pw_below_drewN (pw_below_drewN hB _) n
  clear hd
  obtain ⟨H, hH⟩ : ∃ H, w.heap.size = H := ⟨_, rfl⟩
  have ga3 : w3.cell? (ad.add 0) = some (.int .u32 x) := (hB.cell (World.block_lt_of_cell? w _ HGA.out)).trans HGA.out
  replace ga3 : w3.cell? ad = some (.int .u32 x) := by rwa [show ad.add 0 = ad by obtain ⟨b, o, s⟩ := ad; cases s <;> simp [Addr.add]] at ga3
  simp only [hH] at r0 r1 hsz hB ⊢
  obtain ⟨⟨u0, u1, u2, u3, u4, u5⟩, f0, f1, f2, f3, f4, f5⟩ := arr_facts r1
  have R0 := Aside0.mk r0
  have R1 := Aside0.mk r1
  have HB3 := Aside0.mk hB
  clear r0 r1 hB HGA
  have hxB : ((w3.setCell ⟨H + 1, 0, none⟩ (.int .u32 x)).alloc (.cells #[.slice none 0 0] 33)).heap[H + 1]? = some (.cells #[.int .u32 x, .int .u32 0, .int .u32 0, .int .u32 0, .int .u32 0, .int .u32 0] 32 (0, 0)) := by
    rw [Below.heap_alloc _ _ _ (by simp [World.setCell]; omega)]; simp [World.setCell, Array.getElem?_modify, R1.out]
  have hxA : ((w3.setCell ⟨H + 1, 0, none⟩ (.int .u32 x)).alloc (.cells #[.slice none 0 0] 33)).heap[H]? = some (.cells z6 32 (0, 0)) := by
    rw [Below.heap_alloc _ _ _ (by simp [World.setCell]; omega), Below.heap_setCell _ _ _ _ (Nat.ne_of_lt (Nat.lt_succ_self H))]; exact R0.out
  have hxv : Boxed ((w3.setCell ⟨H + 1, 0, none⟩ (.int .u32 x)).alloc (.cells #[.slice none 0 0] 33)) (H + 2) 33 (.slice none 0 0) := by
    have := Boxed.new (w3.setCell ⟨H + 1, 0, none⟩ (.int .u32 x)) 33 (.slice none 0 0)
    rwa [show (w3.setCell ⟨H + 1, 0, none⟩ (.int .u32 x)).heap.size = H + 2 by simp [World.setCell]; exact hsz] at this
  have hxr : ((w3.setCell ⟨H + 1, 0, none⟩ (.int .u32 x)).alloc (.cells #[.slice none 0 0] 33)).ownsRow (H + 3) 9 1 (.slice none 0 0) (topB l2).length ((topB l2).map Value.string) := by
    rw [show topB l2 = [] from by unfold topB; rw [if_neg (by have := H20.out; omega)]]; exact World.ownsRow_nil _ _ _ _
  have hxb : Below H w ((w3.setCell ⟨H + 1, 0, none⟩ (.int .u32 x)).alloc (.cells #[.slice none 0 0] 33)) := (HB3.out.setCell (p := ⟨H + 1, 0, none⟩) (Nat.le_succ H) _).alloc (by simp [World.setCell]; omega) _
  have hxs : H + 3 ≤ ((w3.setCell ⟨H + 1, 0, none⟩ (.int .u32 x)).alloc (.cells #[.slice none 0 0] 33)).heap.size := by simp [World.setCell, hsz]
  have HX := Aside0.mk (And.intro hxA (And.intro hxB (And.intro hxv (And.intro hxr (And.intro hxb hxs)))))
  clear hxA hxB hxv hxr hxb hxs
  gi_wp2_with fail
  refine ⟨trivial, (callsIn_wide.2 (chunk_calls _ _ _ 127 (by omega) _)).mono ?_⟩
  rintro e W0 ⟨rfl, hW0⟩
  obtain ⟨S, hS⟩ : ∃ S, ((w3.setCell ⟨H + 1, 0, none⟩ (.int .u32 x)).alloc (.cells #[.slice none 0 0] 33)).heap.size = S := ⟨_, rfl⟩
  have hs0 : W0.heap.size = S + 2 := by rw [hW0]; simp [hS]
  have hHS : H + 3 ≤ S := by rw [← hS]; exact HX.out.2.2.2.2.2
  have h1 : W0.heap[S]? = some (.cells #[.slice A1 l1.length c1] 31 (0, 0)) := by rw [hW0, Below.heap_alloc _ _ _ (by rw [World.size_alloc, hS]; omega), ← hS]; exact World.alloc_heap_new _ _
  have h2 : W0.heap[S + 1]? = some (.cells #[.int .i64 127] 3 (0, 0)) := by rw [hW0]; have := World.alloc_heap_new (((w3.setCell ⟨H + 1, 0, none⟩ (.int .u32 x)).alloc (.cells #[.slice none 0 0] 33)).alloc (.cells #[.slice A1 l1.length c1] 31)) (.cells #[.int .i64 127] 3); rwa [World.size_alloc, hS] at this
  have hv0 : Boxed W0 (H + 2) 33 (.slice none 0 0) := by rw [hW0]; exact (HX.out.2.2.1.alloc _).alloc _
  have hrow0 : W0.ownsRow (H + 3) 9 1 (.slice none 0 0) (layN l1 l2 0).length ((layN l1 l2 0).map Value.string) := by rw [hW0, show layN l1 l2 0 = topB l2 from List.append_nil _]; exact (HX.out.2.2.2.1.alloc _).alloc _
  have rA0 : W0.heap[H]? = some (.cells z6 32 (0, 0)) := by rw [hW0, Below.heap_alloc _ _ _ (by simp; omega), Below.heap_alloc _ _ _ (by omega)]; exact HX.out.1
  have rB0 : W0.heap[H + 1]? = some (.cells #[.int .u32 x, .int .u32 0, .int .u32 0, .int .u32 0, .int .u32 0, .int .u32 0] 32 (0, 0)) := by rw [hW0, Below.heap_alloc _ _ _ (by simp; omega), Below.heap_alloc _ _ _ (by omega)]; exact HX.out.2.1
  have hB0 : Below H w W0 := by rw [hW0]; exact (HX.out.2.2.2.2.1.alloc (by omega) _).alloc (by simp; omega) _
  simp only [hS]
  clear hW0
  gi_wp2
  refine wpIn_rangeN rfl (by omega) (gf := 42) (lb := #[.pointer (some ⟨S, 0, none⟩), .pointer (some ⟨S + 1, 0, none⟩)]) rfl trivial (enters_of Try.func42 (by kernel_rfl) rfl)
    (chunk_seq 9 (by omega) A1 c1 l1 127 (by omega) (by omega) (by omega) hc1 S (S + 1) W0 h1 h2) (Below.refl _ _) (fun _ => rfl) (fun h => h.elim) (fun h => h.elim) (by omega)
    (fun k W => (∃ v, Boxed W (H + 2) 33 v ∧ W.ownsRow (H + 3) 9 1 v (layN l1 l2 k).length ((layN l1 l2 k).map Value.string)) ∧ W.heap[S]? = some (.cells #[.slice A1 l1.length c1] 31 (0, 0)) ∧ W.heap[S + 1]? = some (.cells #[.int .i64 127] 3 (0, 0)) ∧ W.heap[H]? = some (.cells z6 32 (0, 0)) ∧ W.heap[H + 1]? = some (.cells #[.int .u32 x, .int .u32 0, .int .u32 0, .int .u32 0, .int .u32 0, .int .u32 0] 32 (0, 0)) ∧ Below H w W)
    (fun _ _ _ => False)
    (fun k => (stands_ex fun v => (stands_box _ _ _ (by rintro (h | h | h) <;> first | exact h.elim | omega)).and (stands_row2 (fun _ h => h))).and ((stands_blk (by rintro (h | h | h) <;> first | exact h.elim | omega)).and ((stands_blk (by rintro (h | h | h) <;> first | exact h.elim | omega)).and ((stands_blk (by rintro (h | h | h) <;> first | exact h.elim | omega)).and ((stands_blk (by rintro (h | h | h) <;> first | exact h.elim | omega)).and (stands_below (by omega) (by rintro j (h | h | h) <;> first | exact h.elim | omega)))))))
    (fun _ _ _ _ h _ => h)
    ⟨⟨_, hv0, hrow0⟩, h1, h2, rA0, rB0, hB0⟩
    (fun k => { tmps := #[.int .u32 size, .slice A1 l1.length c1, .slice (some ad) l2.length c2, undef, undef, undef, .pointer (some ⟨H, 0, none⟩), .slice none 0 0, .int .i64 0, .pointer (some ⟨H + 1, 0, none⟩), .pointer (some ⟨H + 2, 0, none⟩), .slice (partA 127 (Kd.sz (Kd.int .u32)) A1 k) (partL 127 l1 k).length (partL 127 l1 k).length, .int .u32 size, .bool false, .bool false, .slice A1 l1.length c1, .int .i64 l1.length, .int .u32 size, .int .i64 l1.length, .bool false, .bool false, .bool false, .slice (some ad) l2.length c2, .int .i64 l2.length, .int .u32 size, .int .i64 l2.length, .bool false, .bool false, .bool false, .slice (some ad) l2.length c2, .bool false, .bool false, undef, .slice (some ad) l2.length c2, .int .i64 l2.length, .bool false, undef, undef, undef, undef, .slice (some ad) l2.length c2, .pointer (some ad), .int .u32 x, .pointer (some ⟨H + 1, 0, none⟩), .slice (some ad) l2.length c2, .int .i64 l2.length, .bool false, undef, undef, undef, undef, undef, undef, .slice A1 l1.length c1, .func (.func 42) #[] #[.pointer (some ⟨S, 0, none⟩), .pointer (some ⟨S + 1, 0, none⟩)], .slice (partA 127 (Kd.sz (Kd.int .u32)) A1 k) (partL 127 l1 k).length (partL 127 l1 k).length, undef, undef, undef, undef, undef, undef, undef], defers := [] }) ?assign ?body ?done ?stop
  case assign =>
    intro lp k W K hK
    gi_wp2
    exact hK
  case body =>
    rintro lp k W hk hWs ⟨⟨v, hv, hrow⟩, b1, b2, rA, rB, hB⟩
    have hkl : 127 * k < l1.length := (partN_lt (by omega) l1 k).1 hk
    obtain ⟨p, hp⟩ : ∃ p, partL 127 l1 k = p := ⟨_, rfl⟩
    obtain ⟨pa, hpa⟩ : ∃ pa, partA 127 (Kd.sz (Kd.int .u32)) A1 k = pa := ⟨_, rfl⟩
    have hBw : Below w.heap.size w W := by rw [hH]; exact hB
    have hpC : Kd.C (Kd.int .u32) W.drew pa p.length p := by rw [← hp, ← hpa]; exact Kd.C_drew (part_C (Kd.C_below HC1.out hBw) (by omega) hkl hc1)
    have hp9 : p.length ≤ 127 := by rw [← hp, partL_len]; omega
    have hpr : ∀ y ∈ p, 0 ≤ y ∧ y < 4294967296 := fun y hy => HR1.out y (by rw [← hp] at hy; exact List.mem_of_mem_take (List.mem_of_mem_drop hy))
    have hnum : (layN l1 l2 k).length ≤ 1000000 := by rw [layN_len]; have := topB_len l2; omega
    have hfin : ∀ w4, Below W.heap.size W w4 → ∃ g cap w5, (Builtin.append_ #[33, 33] 33 #[v, .slice (some ⟨w4.heap.size, 0, none⟩) 1 1]).run Try.prog (w4.alloc (.cells #[.string (blkB p)] 9)) = .ok (.slice (some ⟨g, 0, none⟩) ((layN l1 l2 k).length + 1) cap) w5 ∧ w5.cell? ⟨H + 2, 0, none⟩ = some v ∧ w5.frozen? ⟨H + 2, 0, none⟩ = false ∧ w4.cell? ⟨H + 2, 0, none⟩ = some v ∧ Aside0 (KeepsOthers W (w5.setCell ⟨H + 2, 0, none⟩ (.slice (some ⟨g, 0, none⟩) ((layN l1 l2 k).length + 1) cap)) ∧ KeepAt (fun j => j = S ∨ j = S + 1) W (w5.setCell ⟨H + 2, 0, none⟩ (.slice (some ⟨g, 0, none⟩) ((layN l1 l2 k).length + 1) cap)) ∧ (∃ v, Boxed (w5.setCell ⟨H + 2, 0, none⟩ (.slice (some ⟨g, 0, none⟩) ((layN l1 l2 k).length + 1) cap)) (H + 2) 33 v ∧ (w5.setCell ⟨H + 2, 0, none⟩ (.slice (some ⟨g, 0, none⟩) ((layN l1 l2 k).length + 1) cap)).ownsRow (H + 3) 9 1 v (layN l1 l2 (k + 1)).length ((layN l1 l2 (k + 1)).map Value.string)) ∧ (w5.setCell ⟨H + 2, 0, none⟩ (.slice (some ⟨g, 0, none⟩) ((layN l1 l2 k).length + 1) cap)).heap[S]? = some (.cells #[.slice A1 l1.length c1] 31 (0, 0)) ∧ (w5.setCell ⟨H + 2, 0, none⟩ (.slice (some ⟨g, 0, none⟩) ((layN l1 l2 k).length + 1) cap)).heap[S + 1]? = some (.cells #[.int .i64 127] 3 (0, 0)) ∧ (w5.setCell ⟨H + 2, 0, none⟩ (.slice (some ⟨g, 0, none⟩) ((layN l1 l2 k).length + 1) cap)).heap[H]? = some (.cells z6 32 (0, 0)) ∧ (w5.setCell ⟨H + 2, 0, none⟩ (.slice (some ⟨g, 0, none⟩) ((layN l1 l2 k).length + 1) cap)).heap[H + 1]? = some (.cells #[.int .u32 x, .int .u32 0, .int .u32 0, .int .u32 0, .int .u32 0, .int .u32 0] 32 (0, 0)) ∧ Below H w (w5.setCell ⟨H + 2, 0, none⟩ (.slice (some ⟨g, 0, none⟩) ((layN l1 l2 k).length + 1) cap))) := by
      intro w4 hb4
      have hl : ∀ {j : Nat} {o : Obj}, W.heap[j]? = some o → w4.heap[j]? = some o := fun h => (hb4.block _ (Array.getElem?_eq_some_iff.1 h).1).trans h
      obtain ⟨g, cap, w5, hrun, c1', f1', hv2, hr2, hk2, hb2, hj2⟩ := push_text w4 H v (layN l1 l2 k).length ((layN l1 l2 k).map Value.string) (blkB p) (hl hv) (row_below hrow hb4) hnum (by have := hb4.size; omega)
      have e1 := hj2 S _ _ _ (by omega) (hl b1) (.inr (by decide))
      have e2 := hj2 (S + 1) _ _ _ (by omega) (hl b2) (.inr (by decide))
      refine ⟨g, cap, w5, hrun, c1', f1', Boxed.cell (hl hv), ⟨(others_below hb4).trans hk2, ⟨by have := hb4.size; have := hb2.size; omega, ?_⟩, ⟨_, hv2, ?_⟩, e1, e2, hj2 H _ _ _ (by omega) (hl rA) (.inl (by omega)), hj2 (H + 1) _ _ _ (by omega) (hl rB) (.inl (by omega)), (hB.trans (hb4.mono (by omega))).trans hb2⟩⟩
      · rintro j (rfl | rfl) hlt
        · exact e1.trans b1.symm
        · exact e2.trans b2.symm
      · rw [layN_succ, hp, List.length_append, List.map_append]; exact hr2
    have hc0 : W.drew.cell? ⟨H + 2, 0, none⟩ = some v := hv.cell
    have HPC := Aside0.mk hpC
    have HPR := Aside0.mk hpr
    have HFN := Aside0.mk hfin
    have hbd : Below W.heap.size W W.drew := below_drew1 (Below.refl _ W)
    have HBD := Aside0.mk hbd
    clear hpC hpr hfin hv hrow b1 b2 rA rB hB hBw hnum hbd
    simp only [hp, hpa]
    gi_wp2_with fail
    refine wpIn_region_any (by kernel_rfl) ?_
    refine wpAnyIn_round rfl (by kernel_rfl) _ _ _ _ ?_
    change wpAnyIn _ _ _ _ _ _ _ _ _ W.drew
    refine takeIn 1 (v := .slice pa p.length p.length) rfl rfl (by kernel_rfl) (by kernel_rfl) (by kernel_rfl) (fun _ _ _ h => h) (by kernel_rfl) (fun w => by go_simp) (fun w => by rfl) (by show Act.put _ (some 57) _ = _; simp only [Act.put, List.setIfInBounds_toArray, List.set_cons_zero, List.set_cons_succ]; rfl) ?_
    refine wpAnyIn_ready (rs := [0, 2]) (by kernel_rfl) (by decide) (readyIn 0 (v := v) rfl rfl (by kernel_rfl) (by go_simp) (by rfl) (by show Act.put _ (some 56) _ = _; simp only [Act.put, List.setIfInBounds_toArray, List.set_cons_zero, List.set_cons_succ]; rfl) ?_ (enterIn 2 58 (f := 29) (args := #[.slice pa p.length p.length]) rfl rfl rfl (by kernel_rfl) (by go_simp) (fun _ _ => trivial) (by intro h; cases h) (callsIn_wide.2 (block_calls pa p.length p W.drew HPC.out hp9 HPR.out)) ?_ AllReadyIn.nil))
    · refine wpAnyIn_ready (rs := [2]) (by kernel_rfl) (by decide) (enterIn 2 58 (f := 29) (args := #[.slice pa p.length p.length]) rfl rfl rfl (by kernel_rfl) (by go_simp) (fun _ _ => trivial) (by intro h; cases h) (callsIn_wide.2 (block_calls pa p.length p W.drew HPC.out hp9 HPR.out)) ?_ AllReadyIn.nil)
      rintro e w4 ⟨rfl, hb4⟩
      obtain ⟨g, cap, w5, hrun, c5, f5, c4, hfin⟩ := HFN.out w4 (HBD.out.trans hb4)
      have HRUN := Aside0.mk hrun
      have HFIN := hfin
      clear hrun hfin
      refine ⟨_, rfl, ?_⟩
      refine wpAnyIn_ready (rs := [3]) (by kernel_rfl) (by decide) (readyIn1 3 (v := .slice (some ⟨w4.heap.size, 0, none⟩) 1 1) (w1 := w4.alloc (.cells #[.string (blkB p)] 9)) rfl rfl (by kernel_rfl) (by go_simp) (by rfl) (by show Act.put _ (some 59) _ = _; simp only [Act.put, List.setIfInBounds_toArray, List.set_cons_zero, List.set_cons_succ]; rfl) ?_ AllReadyIn.nil)
      refine wpAnyIn_ready (rs := [4]) (by kernel_rfl) (by decide) (readyIn1 4 (v := (.slice (some ⟨g, 0, none⟩) ((layN l1 l2 k).length + 1) cap)) (w1 := w5) rfl rfl (by kernel_rfl) (run_app rfl rfl rfl rfl HRUN.out) (by rfl) (by show Act.put _ (some 60) _ = _; simp only [Act.put, List.setIfInBounds_toArray, List.set_cons_zero, List.set_cons_succ]; rfl) ?_ AllReadyIn.nil)
      refine wpAnyIn_ready (rs := [5]) (by kernel_rfl) (by decide) (skipIn1 5 (w1 := w5.setCell ⟨H + 2, 0, none⟩ (.slice (some ⟨g, 0, none⟩) ((layN l1 l2 k).length + 1) cap)) rfl rfl (by kernel_rfl) (by go_simp) (by rfl) rfl ?_ AllReadyIn.nil)
      refine wpAnyIn_done (by kernel_rfl) ?_ _
      exact HFIN.out
    · rintro e w4 ⟨rfl, hb4⟩
      obtain ⟨g, cap, w5, hrun, c5, f5, c4, hfin⟩ := HFN.out w4 (HBD.out.trans hb4)
      have HRUN := Aside0.mk hrun
      have HFIN := hfin
      clear hrun hfin
      refine ⟨_, rfl, ?_⟩
      refine wpAnyIn_ready (rs := [0, 3]) (by kernel_rfl) (by decide) (readyIn 0 (v := v) rfl rfl (by kernel_rfl) (by go_simp) (by rfl) (by show Act.put _ (some 56) _ = _; simp only [Act.put, List.setIfInBounds_toArray, List.set_cons_zero, List.set_cons_succ]; rfl) ?_ (readyIn1 3 (v := .slice (some ⟨w4.heap.size, 0, none⟩) 1 1) (w1 := w4.alloc (.cells #[.string (blkB p)] 9)) rfl rfl (by kernel_rfl) (by go_simp) (by rfl) (by show Act.put _ (some 59) _ = _; simp only [Act.put, List.setIfInBounds_toArray, List.set_cons_zero, List.set_cons_succ]; rfl) ?_ AllReadyIn.nil))
      · refine wpAnyIn_ready (rs := [3]) (by kernel_rfl) (by decide) (readyIn1 3 (v := .slice (some ⟨w4.heap.size, 0, none⟩) 1 1) (w1 := w4.alloc (.cells #[.string (blkB p)] 9)) rfl rfl (by kernel_rfl) (by go_simp) (by rfl) (by show Act.put _ (some 59) _ = _; simp only [Act.put, List.setIfInBounds_toArray, List.set_cons_zero, List.set_cons_succ]; rfl) ?_ AllReadyIn.nil)
        refine wpAnyIn_ready (rs := [4]) (by kernel_rfl) (by decide) (readyIn1 4 (v := (.slice (some ⟨g, 0, none⟩) ((layN l1 l2 k).length + 1) cap)) (w1 := w5) rfl rfl (by kernel_rfl) (run_app rfl rfl rfl rfl HRUN.out) (by rfl) (by show Act.put _ (some 60) _ = _; simp only [Act.put, List.setIfInBounds_toArray, List.set_cons_zero, List.set_cons_succ]; rfl) ?_ AllReadyIn.nil)
        refine wpAnyIn_ready (rs := [5]) (by kernel_rfl) (by decide) (skipIn1 5 (w1 := w5.setCell ⟨H + 2, 0, none⟩ (.slice (some ⟨g, 0, none⟩) ((layN l1 l2 k).length + 1) cap)) rfl rfl (by kernel_rfl) (by go_simp) (by rfl) rfl ?_ AllReadyIn.nil)
        refine wpAnyIn_done (by kernel_rfl) ?_ _
        exact HFIN.out
      · have c6 : (w4.alloc (.cells #[.string (blkB p)] 9)).cell? ⟨H + 2, 0, none⟩ = some v := (((Below.refl w4.heap.size w4).alloc (Nat.le_refl _) _).cell (World.block_lt_of_cell? w4 _ c4)).trans c4
        refine wpAnyIn_ready (rs := [0]) (by kernel_rfl) (by decide) (readyIn 0 (v := v) rfl rfl (by kernel_rfl) (by go_simp) (by rfl) (by show Act.put _ (some 56) _ = _; simp only [Act.put, List.setIfInBounds_toArray, List.set_cons_zero, List.set_cons_succ]; rfl) ?_ AllReadyIn.nil)
        refine wpAnyIn_ready (rs := [4]) (by kernel_rfl) (by decide) (readyIn1 4 (v := (.slice (some ⟨g, 0, none⟩) ((layN l1 l2 k).length + 1) cap)) (w1 := w5) rfl rfl (by kernel_rfl) (run_app rfl rfl rfl rfl HRUN.out) (by rfl) (by show Act.put _ (some 60) _ = _; simp only [Act.put, List.setIfInBounds_toArray, List.set_cons_zero, List.set_cons_succ]; rfl) ?_ AllReadyIn.nil)
        refine wpAnyIn_ready (rs := [5]) (by kernel_rfl) (by decide) (skipIn1 5 (w1 := w5.setCell ⟨H + 2, 0, none⟩ (.slice (some ⟨g, 0, none⟩) ((layN l1 l2 k).length + 1) cap)) rfl rfl (by kernel_rfl) (by go_simp) (by rfl) rfl ?_ AllReadyIn.nil)
        refine wpAnyIn_done (by kernel_rfl) ?_ _
        exact HFIN.out
  case done =>
    rintro W ⟨⟨v, hv, hrow⟩, b1, b2, rA, rB, hB⟩ hWs hD
    obtain ⟨⟨q0, q1, q2, q3, q4, q5⟩, f0, f1, f2, f3, f4, f5⟩ := arr_facts rA
    obtain ⟨⟨u0, u1, u2, u3, u4, u5⟩, _⟩ := arr_facts rB
    have hc0 := hv.cell
    have RA := Aside0.mk rA
    have HROW := Aside0.mk hrow
    have HB := Aside0.mk hB
    clear b1 b2 rA rB hrow hB
    have HD := Aside0.mk hD
    clear hD
    gi_wp2
    gi_region
    gi_wp2
    have y1 : ((((((W.setCell ⟨H, 0, none⟩ (.int .u32 x)).setCell ⟨H, 1, none⟩ (.int .u32 0)).setCell ⟨H, 2, none⟩ (.int .u32 0)).setCell ⟨H, 3, none⟩ (.int .u32 0)).setCell ⟨H, 4, none⟩ (.int .u32 0)).setCell ⟨H, 5, none⟩ (.int .u32 0)).heap[W0.heap.size]? = some (.deferred (some [])) := (six_other (by omega) _ _ _ _ _ _).trans HD.out
    have y2 := six_cells RA.out (.int .u32 x) (.int .u32 0) (.int .u32 0) (.int .u32 0) (.int .u32 0) (.int .u32 0)
    have y3 := six_below HB.out (Nat.le_refl H) (.int .u32 x) (.int .u32 0) (.int .u32 0) (.int .u32 0) (.int .u32 0) (.int .u32 0)
    have y4 : ((((((W.setCell ⟨H, 0, none⟩ (.int .u32 x)).setCell ⟨H, 1, none⟩ (.int .u32 0)).setCell ⟨H, 2, none⟩ (.int .u32 0)).setCell ⟨H, 3, none⟩ (.int .u32 0)).setCell ⟨H, 4, none⟩ (.int .u32 0)).setCell ⟨H, 5, none⟩ (.int .u32 0)).ownsRow (H + 3) 9 1 v (layN l1 l2 (partN 127 l1)).length ((layN l1 l2 (partN 127 l1)).map Value.string) := row_same HROW.out (fun j hj => six_other (by omega) _ _ _ _ _ _)
    generalize ((((((W.setCell ⟨H, 0, none⟩ (.int .u32 x)).setCell ⟨H, 1, none⟩ (.int .u32 0)).setCell ⟨H, 2, none⟩ (.int .u32 0)).setCell ⟨H, 3, none⟩ (.int .u32 0)).setCell ⟨H, 4, none⟩ (.int .u32 0)).setCell ⟨H, 5, none⟩ (.int .u32 0)) = WX at y1 y2 y3 y4 ⊢
    have z1 : WX.drew.heap[W0.heap.size]? = some (.deferred (some [])) := y1
    have z2 : WX.drew.heap[H]? = some (.cells #[.int .u32 x, .int .u32 0, .int .u32 0, .int .u32 0, .int .u32 0, .int .u32 0] 32 (0, 0)) := y2
    have z3 : Below H w WX.drew := below_drew1 y3
    have z4 := row_same (W' := WX.drew) y4 (fun _ _ => rfl)
    clear y1 y2 y3 y4
    generalize WX.drew = WX at z1 z2 z3 z4 ⊢
    have x4 : (WX.putObj W0.heap.size (.deferred none)).heap[H]? = some (.cells #[.int .u32 x, .int .u32 0, .int .u32 0, .int .u32 0, .int .u32 0, .int .u32 0] 32 (0, 0)) := (World.putObj_heap_other (by omega)).trans z2
    refine ⟨by simp, .inl ⟨_, _, rfl, run_takeDeferred z1, ?_⟩⟩
    refine ⟨_, results_ctt rfl _ _ H 32 #[.int .u32 x, .int .u32 0, .int .u32 0, .int .u32 0, .int .u32 0, .int .u32 0] (0, 0) _ rfl x4 Try.underlying32 rfl (by kernel_rfl), ⟨⟨_, rfl, ?_⟩, ?_⟩⟩
    · exact row_putObj (row_lower z4 (by omega)) _ z1 rfl
    · rw [hH]; exact z3.trans (belowK_b (w := W0) (by omega) WX _ _ _ (by omega) z1 rfl rfl)
  case stop =>
    intro c k W _ h
    exact h.elim

set_option maxHeartbeats 8000000 in
theorem lay_more (size : Int) (A1 : Option Addr) (c1 : Nat) (l1 : List Int) (A2 : Option Addr) (c2 : Nat) (l2 : List Int) (w : World) (hC1 : Kd.C (Kd.int .u32) w A1 l1.length l1) (hc1 : l1.length ≤ c1) (hC2 : Kd.C (Kd.int .u32) w A2 l2.length l2) (hc2 : l2.length ≤ c2) (hz : decide (8193532 < size) = false)
    (hbl : inode_Blocks.f size = some (l1.length : Int)) (hct : bmap_Count.f size = some (l2.length : Int)) (hzz : hasZ l2 = some false) (hl1 : l1.length ≤ 1000000) (h20 : 1 < l2.length) (hl2 : l2.length ≤ 128) (hr1 : ∀ x ∈ l1, 0 ≤ x ∧ x < 4294967296) (hr2 : ∀ x ∈ l2, 0 ≤ x ∧ x < 4294967296) :
    Calls Try.prog 15 #[.int .u32 size, .slice A1 l1.length c1, .slice A2 l2.length c2] w fun e w' => (∃ v, e = .returned (.tuple #[.agg #[.int .u32 (l2.getD 0 0), .int .u32 0, .int .u32 0, .int .u32 0, .int .u32 0, .int .u32 0], v, .int .i64 0]) ∧ w'.ownsRow w.heap.size 9 1 v (layN l1 l2 (partN 127 l1)).length ((layN l1 l2 (partN 127 l1)).map Value.string)) ∧ Below w.heap.size w w' := by
  obtain ⟨i0, hi, hz0, hz1, hz2⟩ := info_parts info_str
  have HC1 := Aside0.mk hC1
  have HC2 := Aside0.mk hC2
  have HR1 := Aside0.mk hr1
  have HR2 := Aside0.mk hr2
  have HZZ := Aside0.mk hzz
  obtain ⟨ad, ea, ga⟩ := Kd.at_int hC2 0 (by omega) (by omega)
  obtain ⟨x, hx⟩ : ∃ x, l2.getD 0 0 = x := ⟨_, rfl⟩
  rw [show rd l2 0 = x by rw [← hx]; rfl] at ga
  rw [hx]
  subst ea
  simp only [Int.toNat_zero] at ga
  have hll0 : ((l2.length : Int) == 0) = false := beq_eq_false_iff_ne.mpr (by omega)
  have hll1 : decide (1 < (l2.length : Int)) = true := decide_eq_true (by omega)
  have hb0 : (0 : Int) < (l2.length : Int) := by omega
  have HGA := Aside0.mk ga
  have H20 := Aside0.mk h20
  clear hC1 hC2 hr1 hr2 hzz hx ga h20
  refine (callsIn_wide (n := 10)).1 ?_
  refine callsIn_of_wp_marks Try.func15 rfl trivial ?_ rfl
  simp only [Try.ntmps15, List.size_toArray, List.length_cons, List.length_nil, Nat.reduceAdd, Nat.reduceSub, Array.replicate_succ, Array.replicate_zero, List.push_toArray, List.append_toArray, List.nil_append, List.cons_append]
  gi_wp2_with fail
  refine ⟨trivial, (callsIn_wide.2 (inode_Blocks.calls size _ _ hbl)).mono ?_⟩
  rintro e w1 ⟨rfl, m1, rfl⟩
  gi_wp2_with fail
  refine ⟨trivial, (callsIn_wide.2 (bmap_Count.calls size _ _ hct)).mono ?_⟩
  rintro e w2 ⟨rfl, m2, rfl⟩
  gi_wp2_with fail
  refine ⟨trivial, (callsIn_wide.2 (slices_Contains_uint32_uint32_28.calls _ (some ad) c2 l2 0 false _ (Kd.C_drewN (Kd.C_alloc (Kd.C_alloc HC2.out _) _) _) hc2 HZZ.out)).mono ?_⟩
  rintro e w3 ⟨rfl, hd⟩
  obtain ⟨r0, r1, hB, hsz⟩ := lay_boxes w
  replace r0 : w3.heap[w.heap.size]? = some (.cells z6 32 (0, 0)) := by obtain ⟨n, rfl⟩ := hd; exact r0
  replace r1 : w3.heap[w.heap.size + 1]? = some (.cells z6 32 (0, 0)) := by obtain ⟨n, rfl⟩ := hd; exact r1
  replace hsz : w3.heap.size = w.heap.size + 2 := by obtain ⟨n, rfl⟩ := hd; exact hsz
  replace hB : Below w.heap.size w w3 := by obtain ⟨n, rfl⟩ := hd; exact pw_below_drewN (pw_below_drewN hB _) n
  clear hd
  obtain ⟨H, hH⟩ : ∃ H, w.heap.size = H := ⟨_, rfl⟩
  have ga3 : w3.cell? (ad.add 0) = some (.int .u32 x) := (hB.cell (World.block_lt_of_cell? w _ HGA.out)).trans HGA.out
  replace ga3 : w3.cell? ad = some (.int .u32 x) := by rwa [show ad.add 0 = ad by obtain ⟨b, o, s⟩ := ad; cases s <;> simp [Addr.add]] at ga3
  simp only [hH] at r0 r1 hsz hB ⊢
  obtain ⟨⟨u0, u1, u2, u3, u4, u5⟩, f0, f1, f2, f3, f4, f5⟩ := arr_facts r1
  have R0 := Aside0.mk r0
  have R1 := Aside0.mk r1
  have HB3 := Aside0.mk hB
  clear r0 r1 hB HGA
  obtain ⟨t, ht⟩ : ∃ t, l2.drop 1 = t := ⟨_, rfl⟩
  have htl : t.length = l2.length - 1 := by rw [← ht, List.length_drop]
  obtain ⟨tA, htA⟩ : ∃ tA : Option Addr, (if c2 = 1 then some ad else (some ad).map (·.add (1 * 1))) = tA := ⟨_, rfl⟩
  obtain ⟨iu, hiu, _, hsu, _⟩ := info_parts info_u32
  have hcut : ∀ W : World, (Instr.slice 31 (.slice (some ad) l2.length c2) (some (.int .i64 1)) none none).run Try.prog W = .ok (.slice tA t.length (c2 - 1)) W := by
    have := cut_from (P := Try.prog) 31 22 .i64 Try.underlying31 hiu _ hsu (some ad) l2.length c2 1 (by omega) (by have := H20.out; omega)
    rw [htl, ← htA]; exact this
  have hCt : Kd.C (Kd.int .u32) w tA t.length t := by
    have := Kd.C_drop (m := 1) HC2.out (by have := H20.out; omega) hc2
    rw [ht] at this; rw [← htA]; exact this
  have ht9 : t.length ≤ 127 := by omega
  have htr : ∀ y ∈ t, 0 ≤ y ∧ y < 4294967296 := fun y hy => HR2.out y (by rw [← ht] at hy; exact List.mem_of_mem_drop hy)
  have htop : topB l2 = [blkB t] := by unfold topB; rw [if_pos H20.out, ht]
  have HX : Aside0 (((w3.setCell ⟨H + 1, 0, none⟩ (.int .u32 x)).alloc (.cells #[.slice none 0 0] 33)).heap[H]? = some (.cells z6 32 (0, 0)) ∧ ((w3.setCell ⟨H + 1, 0, none⟩ (.int .u32 x)).alloc (.cells #[.slice none 0 0] 33)).heap[H + 1]? = some (.cells #[.int .u32 x, .int .u32 0, .int .u32 0, .int .u32 0, .int .u32 0, .int .u32 0] 32 (0, 0)) ∧ Boxed ((w3.setCell ⟨H + 1, 0, none⟩ (.int .u32 x)).alloc (.cells #[.slice none 0 0] 33)) (H + 2) 33 (.slice none 0 0) ∧ Below H w ((w3.setCell ⟨H + 1, 0, none⟩ (.int .u32 x)).alloc (.cells #[.slice none 0 0] 33)) ∧ H + 3 ≤ ((w3.setCell ⟨H + 1, 0, none⟩ (.int .u32 x)).alloc (.cells #[.slice none 0 0] 33)).heap.size) := by
    refine ⟨?_, ?_, ?_, (HB3.out.setCell (p := ⟨H + 1, 0, none⟩) (Nat.le_succ H) _).alloc (by simp [World.setCell]; omega) _, by simp [World.setCell, hsz]⟩
    · rw [Below.heap_alloc _ _ _ (by simp [World.setCell]; omega), Below.heap_setCell _ _ _ _ (Nat.ne_of_lt (Nat.lt_succ_self H))]; exact R0.out
    · rw [Below.heap_alloc _ _ _ (by simp [World.setCell]; omega)]; simp [World.setCell, Array.getElem?_modify, R1.out]
    · have := Boxed.new (w3.setCell ⟨H + 1, 0, none⟩ (.int .u32 x)) 33 (.slice none 0 0)
      rwa [show (w3.setCell ⟨H + 1, 0, none⟩ (.int .u32 x)).heap.size = H + 2 by simp [World.setCell]; exact hsz] at this
  have HTR := Aside0.mk htr
  have HCT := Aside0.mk hCt
  clear htr hCt ht htA hiu hsu htl
  gi_wp2_with fail
  generalize ((w3.setCell ⟨H + 1, 0, none⟩ (.int .u32 x)).alloc (.cells #[.slice none 0 0] 33)) = Y at HX ⊢
  have hfin : ∀ w4, Below Y.heap.size Y w4 → ∃ g cap w5, (Builtin.append_ #[33, 33] 33 #[.slice none 0 0, .slice (some ⟨w4.heap.size, 0, none⟩) 1 1]).run Try.prog (w4.alloc (.cells #[.string (blkB t)] 9)) = .ok (.slice (some ⟨g, 0, none⟩) (0 + 1) cap) w5 ∧ w5.cell? ⟨H + 2, 0, none⟩ = some (.slice none 0 0) ∧ w5.frozen? ⟨H + 2, 0, none⟩ = false ∧ w4.cell? ⟨H + 2, 0, none⟩ = some (.slice none 0 0) ∧ Aside0 ((w5.setCell ⟨H + 2, 0, none⟩ (.slice (some ⟨g, 0, none⟩) (0 + 1) cap)).heap[H]? = some (.cells z6 32 (0, 0)) ∧ (w5.setCell ⟨H + 2, 0, none⟩ (.slice (some ⟨g, 0, none⟩) (0 + 1) cap)).heap[H + 1]? = some (.cells #[.int .u32 x, .int .u32 0, .int .u32 0, .int .u32 0, .int .u32 0, .int .u32 0] 32 (0, 0)) ∧ Boxed (w5.setCell ⟨H + 2, 0, none⟩ (.slice (some ⟨g, 0, none⟩) (0 + 1) cap)) (H + 2) 33 (.slice (some ⟨g, 0, none⟩) (0 + 1) cap) ∧ (w5.setCell ⟨H + 2, 0, none⟩ (.slice (some ⟨g, 0, none⟩) (0 + 1) cap)).ownsRow (H + 3) 9 1 (.slice (some ⟨g, 0, none⟩) (0 + 1) cap) (topB l2).length ((topB l2).map Value.string) ∧ Below H w (w5.setCell ⟨H + 2, 0, none⟩ (.slice (some ⟨g, 0, none⟩) (0 + 1) cap)) ∧ H + 3 ≤ (w5.setCell ⟨H + 2, 0, none⟩ (.slice (some ⟨g, 0, none⟩) (0 + 1) cap)).heap.size) := by
    intro w4 hb4
    obtain ⟨rA, rB, hv, hB, hWs⟩ := HX.out
    have hl : ∀ {j : Nat} {o : Obj}, Y.heap[j]? = some o → w4.heap[j]? = some o := fun h => (hb4.block _ (Array.getElem?_eq_some_iff.1 h).1).trans h
    obtain ⟨g, cap, w5, hrun, c1', f1', hv2, hr2, hk2, hb2, hj2⟩ := push_text w4 H (.slice none 0 0) 0 [] (blkB t) (hl hv) (World.ownsRow_nil _ _ _ _) (by omega) (by have := hb4.size; omega)
    refine ⟨g, cap, w5, hrun, c1', f1', Boxed.cell (hl hv), hj2 H _ _ _ (by omega) (hl rA) (.inl (by omega)), hj2 (H + 1) _ _ _ (by omega) (hl rB) (.inl (by omega)), hv2, ?_, (hB.trans (hb4.mono (by omega))).trans hb2, by have := hb4.size; have := hb2.size; omega⟩
    rw [htop]; exact hr2
  have hc0 : Y.drew.cell? ⟨H + 2, 0, none⟩ = some (.slice none 0 0) := HX.out.2.2.1.cell
  have hpC : Kd.C (Kd.int .u32) Y.drew tA t.length t := Kd.C_drew (Kd.C_below HCT.out (by rw [hH]; exact HX.out.2.2.2.1))
  have hbd : Below Y.heap.size Y Y.drew := below_drew1 (Below.refl _ Y)
  have HPC := Aside0.mk hpC
  have HPR := HTR
  have HFN := Aside0.mk hfin
  have HBD := Aside0.mk hbd
  clear hpC hfin hbd HX
  refine wpIn_region_any (by kernel_rfl) ?_
  change wpAnyIn _ _ _ _ _ _ _ _ _ Y.drew
  refine wpAnyIn_ready (rs := [0, 1]) (by kernel_rfl) (by decide) (readyIn 0 (v := .slice none 0 0) rfl rfl (by kernel_rfl) (by go_simp) (by rfl) (by show Act.put _ (some 47) _ = _; simp only [Act.put, List.setIfInBounds_toArray, List.set_cons_zero, List.set_cons_succ]; rfl) ?_ (readyIn 1 (v := .slice (some ad) l2.length c2) rfl rfl (by kernel_rfl) (by go_simp) (by rfl) (by show Act.put _ (some 48) _ = _; simp only [Act.put, List.setIfInBounds_toArray, List.set_cons_zero, List.set_cons_succ]; rfl) ?_ AllReadyIn.nil))
  · refine wpAnyIn_ready (rs := [1]) (by kernel_rfl) (by decide) (readyIn 1 (v := .slice (some ad) l2.length c2) rfl rfl (by kernel_rfl) (by go_simp) (by rfl) (by show Act.put _ (some 48) _ = _; simp only [Act.put, List.setIfInBounds_toArray, List.set_cons_zero, List.set_cons_succ]; rfl) ?_ AllReadyIn.nil)
    refine wpAnyIn_ready (rs := [2]) (by kernel_rfl) (by decide) (readyIn 2 (v := .slice tA t.length (c2 - 1)) rfl rfl (by kernel_rfl) (by first | (go_simp; done) | (go_simp; rw [hcut]; rfl)) (by rfl) (by show Act.put _ (some 49) _ = _; simp only [Act.put, List.setIfInBounds_toArray, List.set_cons_zero, List.set_cons_succ]; rfl) ?_ AllReadyIn.nil)
    refine wpAnyIn_ready (rs := [3]) (by kernel_rfl) (by decide) (enterIn 3 50 (f := 29) (args := #[.slice tA t.length (c2 - 1)]) rfl rfl rfl (by kernel_rfl) (by go_simp) (fun _ _ => trivial) (by intro h; cases h) (callsIn_wide.2 (block_calls tA (c2 - 1) t Y.drew HPC.out ht9 HPR.out)) ?_ AllReadyIn.nil)
    rintro e w4 ⟨rfl, hb4⟩
    obtain ⟨g, cap, w5, hrun, c5, f5, c4, hfin⟩ := HFN.out w4 (HBD.out.trans hb4)
    have HRUN := Aside0.mk hrun
    have HFIN := hfin
    clear hrun hfin
    refine ⟨_, rfl, ?_⟩
    refine wpAnyIn_ready (rs := [4]) (by kernel_rfl) (by decide) (readyIn1 4 (v := .slice (some ⟨w4.heap.size, 0, none⟩) 1 1) (w1 := w4.alloc (.cells #[.string (blkB t)] 9)) rfl rfl (by kernel_rfl) (by go_simp) (by rfl) (by show Act.put _ (some 51) _ = _; simp only [Act.put, List.setIfInBounds_toArray, List.set_cons_zero, List.set_cons_succ]; rfl) ?_ AllReadyIn.nil)
    refine wpAnyIn_ready (rs := [5]) (by kernel_rfl) (by decide) (readyIn1 5 (v := (.slice (some ⟨g, 0, none⟩) (0 + 1) cap)) (w1 := w5) rfl rfl (by kernel_rfl) (run_app rfl rfl rfl rfl HRUN.out) (by rfl) (by show Act.put _ (some 52) _ = _; simp only [Act.put, List.setIfInBounds_toArray, List.set_cons_zero, List.set_cons_succ]; rfl) ?_ AllReadyIn.nil)
    refine wpAnyIn_ready (rs := [6]) (by kernel_rfl) (by decide) (skipIn1 6 (w1 := (w5.setCell ⟨H + 2, 0, none⟩ (.slice (some ⟨g, 0, none⟩) (0 + 1) cap))) rfl rfl (by kernel_rfl) (by go_simp) (by rfl) rfl ?_ AllReadyIn.nil)
    refine wpAnyIn_done (by kernel_rfl) ?_ _
    clear HRUN c5 f5 c4 hb4
    generalize (w5.setCell ⟨H + 2, 0, none⟩ (.slice (some ⟨g, 0, none⟩) (0 + 1) cap)) = W6 at HFIN ⊢
    simp only [Nat.zero_add] at HFIN ⊢
    gi_wp2_with fail
    refine ⟨trivial, (callsIn_wide.2 (chunk_calls _ _ _ 127 (by omega) _)).mono ?_⟩
    rintro e W0 ⟨rfl, hW0⟩
    obtain ⟨S, hS⟩ : ∃ S, W6.heap.size = S := ⟨_, rfl⟩
    have hs0 : W0.heap.size = S + 2 := by rw [hW0]; simp [hS]
    have hHS : H + 3 ≤ S := by rw [← hS]; exact HFIN.out.2.2.2.2.2
    have h1 : W0.heap[S]? = some (.cells #[.slice A1 l1.length c1] 31 (0, 0)) := by rw [hW0, Below.heap_alloc _ _ _ (by rw [World.size_alloc, hS]; omega), ← hS]; exact World.alloc_heap_new _ _
    have h2 : W0.heap[S + 1]? = some (.cells #[.int .i64 127] 3 (0, 0)) := by rw [hW0]; have := World.alloc_heap_new (W6.alloc (.cells #[.slice A1 l1.length c1] 31)) (.cells #[.int .i64 127] 3); rwa [World.size_alloc, hS] at this
    have hv0 : Boxed W0 (H + 2) 33 (.slice (some ⟨g, 0, none⟩) 1 cap) := by rw [hW0]; exact (HFIN.out.2.2.1.alloc _).alloc _
    have hrow0 : W0.ownsRow (H + 3) 9 1 (.slice (some ⟨g, 0, none⟩) 1 cap) (layN l1 l2 0).length ((layN l1 l2 0).map Value.string) := by rw [hW0, show layN l1 l2 0 = topB l2 from List.append_nil _]; exact (HFIN.out.2.2.2.1.alloc _).alloc _
    have rA0 : W0.heap[H]? = some (.cells z6 32 (0, 0)) := by rw [hW0, Below.heap_alloc _ _ _ (by simp; omega), Below.heap_alloc _ _ _ (by omega)]; exact HFIN.out.1
    have rB0 : W0.heap[H + 1]? = some (.cells #[.int .u32 x, .int .u32 0, .int .u32 0, .int .u32 0, .int .u32 0, .int .u32 0] 32 (0, 0)) := by rw [hW0, Below.heap_alloc _ _ _ (by simp; omega), Below.heap_alloc _ _ _ (by omega)]; exact HFIN.out.2.1
    have hB0 : Below H w W0 := by rw [hW0]; exact (HFIN.out.2.2.2.2.1.alloc (by omega) _).alloc (by simp; omega) _
    simp only [hS]
    clear hW0
    gi_wp2
    refine wpIn_rangeN rfl (by omega) (gf := 42) (lb := #[.pointer (some ⟨S, 0, none⟩), .pointer (some ⟨S + 1, 0, none⟩)]) rfl trivial (enters_of Try.func42 (by kernel_rfl) rfl)
      (chunk_seq 9 (by omega) A1 c1 l1 127 (by omega) (by omega) (by omega) hc1 S (S + 1) W0 h1 h2) (Below.refl _ _) (fun _ => rfl) (fun h => h.elim) (fun h => h.elim) (by omega)
      (fun k W => (∃ v, Boxed W (H + 2) 33 v ∧ W.ownsRow (H + 3) 9 1 v (layN l1 l2 k).length ((layN l1 l2 k).map Value.string)) ∧ W.heap[S]? = some (.cells #[.slice A1 l1.length c1] 31 (0, 0)) ∧ W.heap[S + 1]? = some (.cells #[.int .i64 127] 3 (0, 0)) ∧ W.heap[H]? = some (.cells z6 32 (0, 0)) ∧ W.heap[H + 1]? = some (.cells #[.int .u32 x, .int .u32 0, .int .u32 0, .int .u32 0, .int .u32 0, .int .u32 0] 32 (0, 0)) ∧ Below H w W)
      (fun _ _ _ => False)
      (fun k => (stands_ex fun v => (stands_box _ _ _ (by rintro (h | h | h) <;> first | exact h.elim | omega)).and (stands_row2 (fun _ h => h))).and ((stands_blk (by rintro (h | h | h) <;> first | exact h.elim | omega)).and ((stands_blk (by rintro (h | h | h) <;> first | exact h.elim | omega)).and ((stands_blk (by rintro (h | h | h) <;> first | exact h.elim | omega)).and ((stands_blk (by rintro (h | h | h) <;> first | exact h.elim | omega)).and (stands_below (by omega) (by rintro j (h | h | h) <;> first | exact h.elim | omega)))))))
      (fun _ _ _ _ h _ => h)
      ⟨⟨_, hv0, hrow0⟩, h1, h2, rA0, rB0, hB0⟩
      (fun k => { tmps := #[.int .u32 size, .slice A1 l1.length c1, .slice (some ad) l2.length c2, undef, undef, undef, .pointer (some ⟨H, 0, none⟩), .slice none 0 0, .int .i64 0, .pointer (some ⟨H + 1, 0, none⟩), .pointer (some ⟨H + 2, 0, none⟩), .slice (partA 127 (Kd.sz (Kd.int .u32)) A1 k) (partL 127 l1 k).length (partL 127 l1 k).length, .int .u32 size, .bool false, .bool false, .slice A1 l1.length c1, .int .i64 l1.length, .int .u32 size, .int .i64 l1.length, .bool false, .bool false, .bool false, .slice (some ad) l2.length c2, .int .i64 l2.length, .int .u32 size, .int .i64 l2.length, .bool false, .bool false, .bool false, .slice (some ad) l2.length c2, .bool false, .bool false, undef, .slice (some ad) l2.length c2, .int .i64 l2.length, .bool false, undef, undef, undef, undef, .slice (some ad) l2.length c2, .pointer (some ad), .int .u32 x, .pointer (some ⟨H + 1, 0, none⟩), .slice (some ad) l2.length c2, .int .i64 l2.length, .bool true, .slice none 0 0, .slice (some ad) l2.length c2, .slice tA t.length (c2 - 1), .string (blkB t), .slice (some ⟨w4.heap.size, 0, none⟩) 1 1, .slice (some ⟨g, 0, none⟩) 1 cap, .slice A1 l1.length c1, .func (.func 42) #[] #[.pointer (some ⟨S, 0, none⟩), .pointer (some ⟨S + 1, 0, none⟩)], .slice (partA 127 (Kd.sz (Kd.int .u32)) A1 k) (partL 127 l1 k).length (partL 127 l1 k).length, undef, undef, undef, undef, undef, undef, undef], defers := [] }) ?assign ?body ?done ?stop
    case assign =>
      intro lp k W K hK
      gi_wp2
      exact hK
    case body =>
      rintro lp k W hk hWs ⟨⟨v, hv, hrow⟩, b1, b2, rA, rB, hB⟩
      have hkl : 127 * k < l1.length := (partN_lt (by omega) l1 k).1 hk
      obtain ⟨p, hp⟩ : ∃ p, partL 127 l1 k = p := ⟨_, rfl⟩
      obtain ⟨pa, hpa⟩ : ∃ pa, partA 127 (Kd.sz (Kd.int .u32)) A1 k = pa := ⟨_, rfl⟩
      have hBw : Below w.heap.size w W := by rw [hH]; exact hB
      have hpC : Kd.C (Kd.int .u32) W.drew pa p.length p := by rw [← hp, ← hpa]; exact Kd.C_drew (part_C (Kd.C_below HC1.out hBw) (by omega) hkl hc1)
      have hp9 : p.length ≤ 127 := by rw [← hp, partL_len]; omega
      have hpr : ∀ y ∈ p, 0 ≤ y ∧ y < 4294967296 := fun y hy => HR1.out y (by rw [← hp] at hy; exact List.mem_of_mem_take (List.mem_of_mem_drop hy))
      have hnum : (layN l1 l2 k).length ≤ 1000000 := by rw [layN_len]; have := topB_len l2; omega
      have hfin : ∀ w4, Below W.heap.size W w4 → ∃ g cap w5, (Builtin.append_ #[33, 33] 33 #[v, .slice (some ⟨w4.heap.size, 0, none⟩) 1 1]).run Try.prog (w4.alloc (.cells #[.string (blkB p)] 9)) = .ok (.slice (some ⟨g, 0, none⟩) ((layN l1 l2 k).length + 1) cap) w5 ∧ w5.cell? ⟨H + 2, 0, none⟩ = some v ∧ w5.frozen? ⟨H + 2, 0, none⟩ = false ∧ w4.cell? ⟨H + 2, 0, none⟩ = some v ∧ Aside0 (KeepsOthers W (w5.setCell ⟨H + 2, 0, none⟩ (.slice (some ⟨g, 0, none⟩) ((layN l1 l2 k).length + 1) cap)) ∧ KeepAt (fun j => j = S ∨ j = S + 1) W (w5.setCell ⟨H + 2, 0, none⟩ (.slice (some ⟨g, 0, none⟩) ((layN l1 l2 k).length + 1) cap)) ∧ (∃ v, Boxed (w5.setCell ⟨H + 2, 0, none⟩ (.slice (some ⟨g, 0, none⟩) ((layN l1 l2 k).length + 1) cap)) (H + 2) 33 v ∧ (w5.setCell ⟨H + 2, 0, none⟩ (.slice (some ⟨g, 0, none⟩) ((layN l1 l2 k).length + 1) cap)).ownsRow (H + 3) 9 1 v (layN l1 l2 (k + 1)).length ((layN l1 l2 (k + 1)).map Value.string)) ∧ (w5.setCell ⟨H + 2, 0, none⟩ (.slice (some ⟨g, 0, none⟩) ((layN l1 l2 k).length + 1) cap)).heap[S]? = some (.cells #[.slice A1 l1.length c1] 31 (0, 0)) ∧ (w5.setCell ⟨H + 2, 0, none⟩ (.slice (some ⟨g, 0, none⟩) ((layN l1 l2 k).length + 1) cap)).heap[S + 1]? = some (.cells #[.int .i64 127] 3 (0, 0)) ∧ (w5.setCell ⟨H + 2, 0, none⟩ (.slice (some ⟨g, 0, none⟩) ((layN l1 l2 k).length + 1) cap)).heap[H]? = some (.cells z6 32 (0, 0)) ∧ (w5.setCell ⟨H + 2, 0, none⟩ (.slice (some ⟨g, 0, none⟩) ((layN l1 l2 k).length + 1) cap)).heap[H + 1]? = some (.cells #[.int .u32 x, .int .u32 0, .int .u32 0, .int .u32 0, .int .u32 0, .int .u32 0] 32 (0, 0)) ∧ Below H w (w5.setCell ⟨H + 2, 0, none⟩ (.slice (some ⟨g, 0, none⟩) ((layN l1 l2 k).length + 1) cap))) := by
        intro w4 hb4
        have hl : ∀ {j : Nat} {o : Obj}, W.heap[j]? = some o → w4.heap[j]? = some o := fun h => (hb4.block _ (Array.getElem?_eq_some_iff.1 h).1).trans h
        obtain ⟨g, cap, w5, hrun, c1', f1', hv2, hr2, hk2, hb2, hj2⟩ := push_text w4 H v (layN l1 l2 k).length ((layN l1 l2 k).map Value.string) (blkB p) (hl hv) (row_below hrow hb4) hnum (by have := hb4.size; omega)
        have e1 := hj2 S _ _ _ (by omega) (hl b1) (.inr (by decide))
        have e2 := hj2 (S + 1) _ _ _ (by omega) (hl b2) (.inr (by decide))
        refine ⟨g, cap, w5, hrun, c1', f1', Boxed.cell (hl hv), ⟨(others_below hb4).trans hk2, ⟨by have := hb4.size; have := hb2.size; omega, ?_⟩, ⟨_, hv2, ?_⟩, e1, e2, hj2 H _ _ _ (by omega) (hl rA) (.inl (by omega)), hj2 (H + 1) _ _ _ (by omega) (hl rB) (.inl (by omega)), (hB.trans (hb4.mono (by omega))).trans hb2⟩⟩
        · rintro j (rfl | rfl) hlt
          · exact e1.trans b1.symm
          · exact e2.trans b2.symm
        · rw [layN_succ, hp, List.length_append, List.map_append]; exact hr2
      have hc0 : W.drew.cell? ⟨H + 2, 0, none⟩ = some v := hv.cell
      have HPC := Aside0.mk hpC
      have HPR := Aside0.mk hpr
      have HFN := Aside0.mk hfin
      have hbd : Below W.heap.size W W.drew := below_drew1 (Below.refl _ W)
      have HBD := Aside0.mk hbd
      clear hpC hpr hfin hv hrow b1 b2 rA rB hB hBw hnum hbd
      simp only [hp, hpa]
      gi_wp2_with fail
      refine wpIn_region_any (by kernel_rfl) ?_
      refine wpAnyIn_round rfl (by kernel_rfl) _ _ _ _ ?_
      change wpAnyIn _ _ _ _ _ _ _ _ _ W.drew
      refine takeIn 1 (v := .slice pa p.length p.length) rfl rfl (by kernel_rfl) (by kernel_rfl) (by kernel_rfl) (fun _ _ _ h => h) (by kernel_rfl) (fun w => by go_simp) (fun w => by rfl) (by show Act.put _ (some 57) _ = _; simp only [Act.put, List.setIfInBounds_toArray, List.set_cons_zero, List.set_cons_succ]; rfl) ?_
      refine wpAnyIn_ready (rs := [0, 2]) (by kernel_rfl) (by decide) (readyIn 0 (v := v) rfl rfl (by kernel_rfl) (by go_simp) (by rfl) (by show Act.put _ (some 56) _ = _; simp only [Act.put, List.setIfInBounds_toArray, List.set_cons_zero, List.set_cons_succ]; rfl) ?_ (enterIn 2 58 (f := 29) (args := #[.slice pa p.length p.length]) rfl rfl rfl (by kernel_rfl) (by go_simp) (fun _ _ => trivial) (by intro h; cases h) (callsIn_wide.2 (block_calls pa p.length p W.drew HPC.out hp9 HPR.out)) ?_ AllReadyIn.nil))
      · refine wpAnyIn_ready (rs := [2]) (by kernel_rfl) (by decide) (enterIn 2 58 (f := 29) (args := #[.slice pa p.length p.length]) rfl rfl rfl (by kernel_rfl) (by go_simp) (fun _ _ => trivial) (by intro h; cases h) (callsIn_wide.2 (block_calls pa p.length p W.drew HPC.out hp9 HPR.out)) ?_ AllReadyIn.nil)
        rintro e w4 ⟨rfl, hb4⟩
        obtain ⟨g, cap, w5, hrun, c5, f5, c4, hfin⟩ := HFN.out w4 (HBD.out.trans hb4)
        have HRUN := Aside0.mk hrun
        have HFIN := hfin
        clear hrun hfin
        refine ⟨_, rfl, ?_⟩
        refine wpAnyIn_ready (rs := [3]) (by kernel_rfl) (by decide) (readyIn1 3 (v := .slice (some ⟨w4.heap.size, 0, none⟩) 1 1) (w1 := w4.alloc (.cells #[.string (blkB p)] 9)) rfl rfl (by kernel_rfl) (by go_simp) (by rfl) (by show Act.put _ (some 59) _ = _; simp only [Act.put, List.setIfInBounds_toArray, List.set_cons_zero, List.set_cons_succ]; rfl) ?_ AllReadyIn.nil)
        refine wpAnyIn_ready (rs := [4]) (by kernel_rfl) (by decide) (readyIn1 4 (v := (.slice (some ⟨g, 0, none⟩) ((layN l1 l2 k).length + 1) cap)) (w1 := w5) rfl rfl (by kernel_rfl) (run_app rfl rfl rfl rfl HRUN.out) (by rfl) (by show Act.put _ (some 60) _ = _; simp only [Act.put, List.setIfInBounds_toArray, List.set_cons_zero, List.set_cons_succ]; rfl) ?_ AllReadyIn.nil)
        refine wpAnyIn_ready (rs := [5]) (by kernel_rfl) (by decide) (skipIn1 5 (w1 := w5.setCell ⟨H + 2, 0, none⟩ (.slice (some ⟨g, 0, none⟩) ((layN l1 l2 k).length + 1) cap)) rfl rfl (by kernel_rfl) (by go_simp) (by rfl) rfl ?_ AllReadyIn.nil)
        refine wpAnyIn_done (by kernel_rfl) ?_ _
        exact HFIN.out
      · rintro e w4 ⟨rfl, hb4⟩
        obtain ⟨g, cap, w5, hrun, c5, f5, c4, hfin⟩ := HFN.out w4 (HBD.out.trans hb4)
        have HRUN := Aside0.mk hrun
        have HFIN := hfin
        clear hrun hfin
        refine ⟨_, rfl, ?_⟩
        refine wpAnyIn_ready (rs := [0, 3]) (by kernel_rfl) (by decide) (readyIn 0 (v := v) rfl rfl (by kernel_rfl) (by go_simp) (by rfl) (by show Act.put _ (some 56) _ = _; simp only [Act.put, List.setIfInBounds_toArray, List.set_cons_zero, List.set_cons_succ]; rfl) ?_ (readyIn1 3 (v := .slice (some ⟨w4.heap.size, 0, none⟩) 1 1) (w1 := w4.alloc (.cells #[.string (blkB p)] 9)) rfl rfl (by kernel_rfl) (by go_simp) (by rfl) (by show Act.put _ (some 59) _ = _; simp only [Act.put, List.setIfInBounds_toArray, List.set_cons_zero, List.set_cons_succ]; rfl) ?_ AllReadyIn.nil))
        · refine wpAnyIn_ready (rs := [3]) (by kernel_rfl) (by decide) (readyIn1 3 (v := .slice (some ⟨w4.heap.size, 0, none⟩) 1 1) (w1 := w4.alloc (.cells #[.string (blkB p)] 9)) rfl rfl (by kernel_rfl) (by go_simp) (by rfl) (by show Act.put _ (some 59) _ = _; simp only [Act.put, List.setIfInBounds_toArray, List.set_cons_zero, List.set_cons_succ]; rfl) ?_ AllReadyIn.nil)
          refine wpAnyIn_ready (rs := [4]) (by kernel_rfl) (by decide) (readyIn1 4 (v := (.slice (some ⟨g, 0, none⟩) ((layN l1 l2 k).length + 1) cap)) (w1 := w5) rfl rfl (by kernel_rfl) (run_app rfl rfl rfl rfl HRUN.out) (by rfl) (by show Act.put _ (some 60) _ = _; simp only [Act.put, List.setIfInBounds_toArray, List.set_cons_zero, List.set_cons_succ]; rfl) ?_ AllReadyIn.nil)
          refine wpAnyIn_ready (rs := [5]) (by kernel_rfl) (by decide) (skipIn1 5 (w1 := w5.setCell ⟨H + 2, 0, none⟩ (.slice (some ⟨g, 0, none⟩) ((layN l1 l2 k).length + 1) cap)) rfl rfl (by kernel_rfl) (by go_simp) (by rfl) rfl ?_ AllReadyIn.nil)
          refine wpAnyIn_done (by kernel_rfl) ?_ _
          exact HFIN.out
        · have c6 : (w4.alloc (.cells #[.string (blkB p)] 9)).cell? ⟨H + 2, 0, none⟩ = some v := (((Below.refl w4.heap.size w4).alloc (Nat.le_refl _) _).cell (World.block_lt_of_cell? w4 _ c4)).trans c4
          refine wpAnyIn_ready (rs := [0]) (by kernel_rfl) (by decide) (readyIn 0 (v := v) rfl rfl (by kernel_rfl) (by go_simp) (by rfl) (by show Act.put _ (some 56) _ = _; simp only [Act.put, List.setIfInBounds_toArray, List.set_cons_zero, List.set_cons_succ]; rfl) ?_ AllReadyIn.nil)
          refine wpAnyIn_ready (rs := [4]) (by kernel_rfl) (by decide) (readyIn1 4 (v := (.slice (some ⟨g, 0, none⟩) ((layN l1 l2 k).length + 1) cap)) (w1 := w5) rfl rfl (by kernel_rfl) (run_app rfl rfl rfl rfl HRUN.out) (by rfl) (by show Act.put _ (some 60) _ = _; simp only [Act.put, List.setIfInBounds_toArray, List.set_cons_zero, List.set_cons_succ]; rfl) ?_ AllReadyIn.nil)
          refine wpAnyIn_ready (rs := [5]) (by kernel_rfl) (by decide) (skipIn1 5 (w1 := w5.setCell ⟨H + 2, 0, none⟩ (.slice (some ⟨g, 0, none⟩) ((layN l1 l2 k).length + 1) cap)) rfl rfl (by kernel_rfl) (by go_simp) (by rfl) rfl ?_ AllReadyIn.nil)
          refine wpAnyIn_done (by kernel_rfl) ?_ _
          exact HFIN.out
    case done =>
      rintro W ⟨⟨v, hv, hrow⟩, b1, b2, rA, rB, hB⟩ hWs hD
      obtain ⟨⟨q0, q1, q2, q3, q4, q5⟩, f0, f1, f2, f3, f4, f5⟩ := arr_facts rA
      obtain ⟨⟨u0, u1, u2, u3, u4, u5⟩, _⟩ := arr_facts rB
      have hc0 := hv.cell
      have RA := Aside0.mk rA
      have HROW := Aside0.mk hrow
      have HB := Aside0.mk hB
      clear b1 b2 rA rB hrow hB
      have HD := Aside0.mk hD
      clear hD
      gi_wp2
      gi_region
      gi_wp2
      have y1 : ((((((W.setCell ⟨H, 0, none⟩ (.int .u32 x)).setCell ⟨H, 1, none⟩ (.int .u32 0)).setCell ⟨H, 2, none⟩ (.int .u32 0)).setCell ⟨H, 3, none⟩ (.int .u32 0)).setCell ⟨H, 4, none⟩ (.int .u32 0)).setCell ⟨H, 5, none⟩ (.int .u32 0)).heap[W0.heap.size]? = some (.deferred (some [])) := (six_other (by omega) _ _ _ _ _ _).trans HD.out
      have y2 := six_cells RA.out (.int .u32 x) (.int .u32 0) (.int .u32 0) (.int .u32 0) (.int .u32 0) (.int .u32 0)
      have y3 := six_below HB.out (Nat.le_refl H) (.int .u32 x) (.int .u32 0) (.int .u32 0) (.int .u32 0) (.int .u32 0) (.int .u32 0)
      have y4 : ((((((W.setCell ⟨H, 0, none⟩ (.int .u32 x)).setCell ⟨H, 1, none⟩ (.int .u32 0)).setCell ⟨H, 2, none⟩ (.int .u32 0)).setCell ⟨H, 3, none⟩ (.int .u32 0)).setCell ⟨H, 4, none⟩ (.int .u32 0)).setCell ⟨H, 5, none⟩ (.int .u32 0)).ownsRow (H + 3) 9 1 v (layN l1 l2 (partN 127 l1)).length ((layN l1 l2 (partN 127 l1)).map Value.string) := row_same HROW.out (fun j hj => six_other (by omega) _ _ _ _ _ _)
      generalize ((((((W.setCell ⟨H, 0, none⟩ (.int .u32 x)).setCell ⟨H, 1, none⟩ (.int .u32 0)).setCell ⟨H, 2, none⟩ (.int .u32 0)).setCell ⟨H, 3, none⟩ (.int .u32 0)).setCell ⟨H, 4, none⟩ (.int .u32 0)).setCell ⟨H, 5, none⟩ (.int .u32 0)) = WX at y1 y2 y3 y4 ⊢
      have z1 : WX.drew.heap[W0.heap.size]? = some (.deferred (some [])) := y1
      have z2 : WX.drew.heap[H]? = some (.cells #[.int .u32 x, .int .u32 0, .int .u32 0, .int .u32 0, .int .u32 0, .int .u32 0] 32 (0, 0)) := y2
      have z3 : Below H w WX.drew := below_drew1 y3
      have z4 := row_same (W' := WX.drew) y4 (fun _ _ => rfl)
      clear y1 y2 y3 y4
      generalize WX.drew = WX at z1 z2 z3 z4 ⊢
      have x4 : (WX.putObj W0.heap.size (.deferred none)).heap[H]? = some (.cells #[.int .u32 x, .int .u32 0, .int .u32 0, .int .u32 0, .int .u32 0, .int .u32 0] 32 (0, 0)) := (World.putObj_heap_other (by omega)).trans z2
      refine ⟨by simp, .inl ⟨_, _, rfl, run_takeDeferred z1, ?_⟩⟩
      refine ⟨_, results_ctt rfl _ _ H 32 #[.int .u32 x, .int .u32 0, .int .u32 0, .int .u32 0, .int .u32 0, .int .u32 0] (0, 0) _ rfl x4 Try.underlying32 rfl (by kernel_rfl), ⟨⟨_, rfl, ?_⟩, ?_⟩⟩
      · exact row_putObj (row_lower z4 (by omega)) _ z1 rfl
      · rw [hH]; exact z3.trans (belowK_b (w := W0) (by omega) WX _ _ _ (by omega) z1 rfl rfl)
    case stop =>
      intro c k W _ h
      exact h.elim
  · refine wpAnyIn_ready (rs := [0, 2]) (by kernel_rfl) (by decide) (readyIn 0 (v := .slice none 0 0) rfl rfl (by kernel_rfl) (by go_simp) (by rfl) (by show Act.put _ (some 47) _ = _; simp only [Act.put, List.setIfInBounds_toArray, List.set_cons_zero, List.set_cons_succ]; rfl) ?_ (readyIn 2 (v := .slice tA t.length (c2 - 1)) rfl rfl (by kernel_rfl) (by first | (go_simp; done) | (go_simp; rw [hcut]; rfl)) (by rfl) (by show Act.put _ (some 49) _ = _; simp only [Act.put, List.setIfInBounds_toArray, List.set_cons_zero, List.set_cons_succ]; rfl) ?_ AllReadyIn.nil))
    · refine wpAnyIn_ready (rs := [2]) (by kernel_rfl) (by decide) (readyIn 2 (v := .slice tA t.length (c2 - 1)) rfl rfl (by kernel_rfl) (by first | (go_simp; done) | (go_simp; rw [hcut]; rfl)) (by rfl) (by show Act.put _ (some 49) _ = _; simp only [Act.put, List.setIfInBounds_toArray, List.set_cons_zero, List.set_cons_succ]; rfl) ?_ AllReadyIn.nil)
      refine wpAnyIn_ready (rs := [3]) (by kernel_rfl) (by decide) (enterIn 3 50 (f := 29) (args := #[.slice tA t.length (c2 - 1)]) rfl rfl rfl (by kernel_rfl) (by go_simp) (fun _ _ => trivial) (by intro h; cases h) (callsIn_wide.2 (block_calls tA (c2 - 1) t Y.drew HPC.out ht9 HPR.out)) ?_ AllReadyIn.nil)
      rintro e w4 ⟨rfl, hb4⟩
      obtain ⟨g, cap, w5, hrun, c5, f5, c4, hfin⟩ := HFN.out w4 (HBD.out.trans hb4)
      have HRUN := Aside0.mk hrun
      have HFIN := hfin
      clear hrun hfin
      refine ⟨_, rfl, ?_⟩
      refine wpAnyIn_ready (rs := [4]) (by kernel_rfl) (by decide) (readyIn1 4 (v := .slice (some ⟨w4.heap.size, 0, none⟩) 1 1) (w1 := w4.alloc (.cells #[.string (blkB t)] 9)) rfl rfl (by kernel_rfl) (by go_simp) (by rfl) (by show Act.put _ (some 51) _ = _; simp only [Act.put, List.setIfInBounds_toArray, List.set_cons_zero, List.set_cons_succ]; rfl) ?_ AllReadyIn.nil)
      refine wpAnyIn_ready (rs := [5]) (by kernel_rfl) (by decide) (readyIn1 5 (v := (.slice (some ⟨g, 0, none⟩) (0 + 1) cap)) (w1 := w5) rfl rfl (by kernel_rfl) (run_app rfl rfl rfl rfl HRUN.out) (by rfl) (by show Act.put _ (some 52) _ = _; simp only [Act.put, List.setIfInBounds_toArray, List.set_cons_zero, List.set_cons_succ]; rfl) ?_ AllReadyIn.nil)
      refine wpAnyIn_ready (rs := [6]) (by kernel_rfl) (by decide) (skipIn1 6 (w1 := (w5.setCell ⟨H + 2, 0, none⟩ (.slice (some ⟨g, 0, none⟩) (0 + 1) cap))) rfl rfl (by kernel_rfl) (by go_simp) (by rfl) rfl ?_ AllReadyIn.nil)
      refine wpAnyIn_done (by kernel_rfl) ?_ _
      clear HRUN c5 f5 c4 hb4
      generalize (w5.setCell ⟨H + 2, 0, none⟩ (.slice (some ⟨g, 0, none⟩) (0 + 1) cap)) = W6 at HFIN ⊢
      simp only [Nat.zero_add] at HFIN ⊢
      gi_wp2_with fail
      refine ⟨trivial, (callsIn_wide.2 (chunk_calls _ _ _ 127 (by omega) _)).mono ?_⟩
      rintro e W0 ⟨rfl, hW0⟩
      obtain ⟨S, hS⟩ : ∃ S, W6.heap.size = S := ⟨_, rfl⟩
      have hs0 : W0.heap.size = S + 2 := by rw [hW0]; simp [hS]
      have hHS : H + 3 ≤ S := by rw [← hS]; exact HFIN.out.2.2.2.2.2
      have h1 : W0.heap[S]? = some (.cells #[.slice A1 l1.length c1] 31 (0, 0)) := by rw [hW0, Below.heap_alloc _ _ _ (by rw [World.size_alloc, hS]; omega), ← hS]; exact World.alloc_heap_new _ _
      have h2 : W0.heap[S + 1]? = some (.cells #[.int .i64 127] 3 (0, 0)) := by rw [hW0]; have := World.alloc_heap_new (W6.alloc (.cells #[.slice A1 l1.length c1] 31)) (.cells #[.int .i64 127] 3); rwa [World.size_alloc, hS] at this
      have hv0 : Boxed W0 (H + 2) 33 (.slice (some ⟨g, 0, none⟩) 1 cap) := by rw [hW0]; exact (HFIN.out.2.2.1.alloc _).alloc _
      have hrow0 : W0.ownsRow (H + 3) 9 1 (.slice (some ⟨g, 0, none⟩) 1 cap) (layN l1 l2 0).length ((layN l1 l2 0).map Value.string) := by rw [hW0, show layN l1 l2 0 = topB l2 from List.append_nil _]; exact (HFIN.out.2.2.2.1.alloc _).alloc _
      have rA0 : W0.heap[H]? = some (.cells z6 32 (0, 0)) := by rw [hW0, Below.heap_alloc _ _ _ (by simp; omega), Below.heap_alloc _ _ _ (by omega)]; exact HFIN.out.1
      have rB0 : W0.heap[H + 1]? = some (.cells #[.int .u32 x, .int .u32 0, .int .u32 0, .int .u32 0, .int .u32 0, .int .u32 0] 32 (0, 0)) := by rw [hW0, Below.heap_alloc _ _ _ (by simp; omega), Below.heap_alloc _ _ _ (by omega)]; exact HFIN.out.2.1
      have hB0 : Below H w W0 := by rw [hW0]; exact (HFIN.out.2.2.2.2.1.alloc (by omega) _).alloc (by simp; omega) _
      simp only [hS]
      clear hW0
      gi_wp2
      refine wpIn_rangeN rfl (by omega) (gf := 42) (lb := #[.pointer (some ⟨S, 0, none⟩), .pointer (some ⟨S + 1, 0, none⟩)]) rfl trivial (enters_of Try.func42 (by kernel_rfl) rfl)
        (chunk_seq 9 (by omega) A1 c1 l1 127 (by omega) (by omega) (by omega) hc1 S (S + 1) W0 h1 h2) (Below.refl _ _) (fun _ => rfl) (fun h => h.elim) (fun h => h.elim) (by omega)
        (fun k W => (∃ v, Boxed W (H + 2) 33 v ∧ W.ownsRow (H + 3) 9 1 v (layN l1 l2 k).length ((layN l1 l2 k).map Value.string)) ∧ W.heap[S]? = some (.cells #[.slice A1 l1.length c1] 31 (0, 0)) ∧ W.heap[S + 1]? = some (.cells #[.int .i64 127] 3 (0, 0)) ∧ W.heap[H]? = some (.cells z6 32 (0, 0)) ∧ W.heap[H + 1]? = some (.cells #[.int .u32 x, .int .u32 0, .int .u32 0, .int .u32 0, .int .u32 0, .int .u32 0] 32 (0, 0)) ∧ Below H w W)
        (fun _ _ _ => False)
        (fun k => (stands_ex fun v => (stands_box _ _ _ (by rintro (h | h | h) <;> first | exact h.elim | omega)).and (stands_row2 (fun _ h => h))).and ((stands_blk (by rintro (h | h | h) <;> first | exact h.elim | omega)).and ((stands_blk (by rintro (h | h | h) <;> first | exact h.elim | omega)).and ((stands_blk (by rintro (h | h | h) <;> first | exact h.elim | omega)).and ((stands_blk (by rintro (h | h | h) <;> first | exact h.elim | omega)).and (stands_below (by omega) (by rintro j (h | h | h) <;> first | exact h.elim | omega)))))))
        (fun _ _ _ _ h _ => h)
        ⟨⟨_, hv0, hrow0⟩, h1, h2, rA0, rB0, hB0⟩
        (fun k => { tmps := #[.int .u32 size, .slice A1 l1.length c1, .slice (some ad) l2.length c2, undef, undef, undef, .pointer (some ⟨H, 0, none⟩), .slice none 0 0, .int .i64 0, .pointer (some ⟨H + 1, 0, none⟩), .pointer (some ⟨H + 2, 0, none⟩), .slice (partA 127 (Kd.sz (Kd.int .u32)) A1 k) (partL 127 l1 k).length (partL 127 l1 k).length, .int .u32 size, .bool false, .bool false, .slice A1 l1.length c1, .int .i64 l1.length, .int .u32 size, .int .i64 l1.length, .bool false, .bool false, .bool false, .slice (some ad) l2.length c2, .int .i64 l2.length, .int .u32 size, .int .i64 l2.length, .bool false, .bool false, .bool false, .slice (some ad) l2.length c2, .bool false, .bool false, undef, .slice (some ad) l2.length c2, .int .i64 l2.length, .bool false, undef, undef, undef, undef, .slice (some ad) l2.length c2, .pointer (some ad), .int .u32 x, .pointer (some ⟨H + 1, 0, none⟩), .slice (some ad) l2.length c2, .int .i64 l2.length, .bool true, .slice none 0 0, .slice (some ad) l2.length c2, .slice tA t.length (c2 - 1), .string (blkB t), .slice (some ⟨w4.heap.size, 0, none⟩) 1 1, .slice (some ⟨g, 0, none⟩) 1 cap, .slice A1 l1.length c1, .func (.func 42) #[] #[.pointer (some ⟨S, 0, none⟩), .pointer (some ⟨S + 1, 0, none⟩)], .slice (partA 127 (Kd.sz (Kd.int .u32)) A1 k) (partL 127 l1 k).length (partL 127 l1 k).length, undef, undef, undef, undef, undef, undef, undef], defers := [] }) ?assign ?body ?done ?stop
      case assign =>
        intro lp k W K hK
        gi_wp2
        exact hK
      case body =>
        rintro lp k W hk hWs ⟨⟨v, hv, hrow⟩, b1, b2, rA, rB, hB⟩
        have hkl : 127 * k < l1.length := (partN_lt (by omega) l1 k).1 hk
        obtain ⟨p, hp⟩ : ∃ p, partL 127 l1 k = p := ⟨_, rfl⟩
        obtain ⟨pa, hpa⟩ : ∃ pa, partA 127 (Kd.sz (Kd.int .u32)) A1 k = pa := ⟨_, rfl⟩
        have hBw : Below w.heap.size w W := by rw [hH]; exact hB
        have hpC : Kd.C (Kd.int .u32) W.drew pa p.length p := by rw [← hp, ← hpa]; exact Kd.C_drew (part_C (Kd.C_below HC1.out hBw) (by omega) hkl hc1)
        have hp9 : p.length ≤ 127 := by rw [← hp, partL_len]; omega
        have hpr : ∀ y ∈ p, 0 ≤ y ∧ y < 4294967296 := fun y hy => HR1.out y (by rw [← hp] at hy; exact List.mem_of_mem_take (List.mem_of_mem_drop hy))
        have hnum : (layN l1 l2 k).length ≤ 1000000 := by rw [layN_len]; have := topB_len l2; omega
        have hfin : ∀ w4, Below W.heap.size W w4 → ∃ g cap w5, (Builtin.append_ #[33, 33] 33 #[v, .slice (some ⟨w4.heap.size, 0, none⟩) 1 1]).run Try.prog (w4.alloc (.cells #[.string (blkB p)] 9)) = .ok (.slice (some ⟨g, 0, none⟩) ((layN l1 l2 k).length + 1) cap) w5 ∧ w5.cell? ⟨H + 2, 0, none⟩ = some v ∧ w5.frozen? ⟨H + 2, 0, none⟩ = false ∧ w4.cell? ⟨H + 2, 0, none⟩ = some v ∧ Aside0 (KeepsOthers W (w5.setCell ⟨H + 2, 0, none⟩ (.slice (some ⟨g, 0, none⟩) ((layN l1 l2 k).length + 1) cap)) ∧ KeepAt (fun j => j = S ∨ j = S + 1) W (w5.setCell ⟨H + 2, 0, none⟩ (.slice (some ⟨g, 0, none⟩) ((layN l1 l2 k).length + 1) cap)) ∧ (∃ v, Boxed (w5.setCell ⟨H + 2, 0, none⟩ (.slice (some ⟨g, 0, none⟩) ((layN l1 l2 k).length + 1) cap)) (H + 2) 33 v ∧ (w5.setCell ⟨H + 2, 0, none⟩ (.slice (some ⟨g, 0, none⟩) ((layN l1 l2 k).length + 1) cap)).ownsRow (H + 3) 9 1 v (layN l1 l2 (k + 1)).length ((layN l1 l2 (k + 1)).map Value.string)) ∧ (w5.setCell ⟨H + 2, 0, none⟩ (.slice (some ⟨g, 0, none⟩) ((layN l1 l2 k).length + 1) cap)).heap[S]? = some (.cells #[.slice A1 l1.length c1] 31 (0, 0)) ∧ (w5.setCell ⟨H + 2, 0, none⟩ (.slice (some ⟨g, 0, none⟩) ((layN l1 l2 k).length + 1) cap)).heap[S + 1]? = some (.cells #[.int .i64 127] 3 (0, 0)) ∧ (w5.setCell ⟨H + 2, 0, none⟩ (.slice (some ⟨g, 0, none⟩) ((layN l1 l2 k).length + 1) cap)).heap[H]? = some (.cells z6 32 (0, 0)) ∧ (w5.setCell ⟨H + 2, 0, none⟩ (.slice (some ⟨g, 0, none⟩) ((layN l1 l2 k).length + 1) cap)).heap[H + 1]? = some (.cells #[.int .u32 x, .int .u32 0, .int .u32 0, .int .u32 0, .int .u32 0, .int .u32 0] 32 (0, 0)) ∧ Below H w (w5.setCell ⟨H + 2, 0, none⟩ (.slice (some ⟨g, 0, none⟩) ((layN l1 l2 k).length + 1) cap))) := by
          intro w4 hb4
          have hl : ∀ {j : Nat} {o : Obj}, W.heap[j]? = some o → w4.heap[j]? = some o := fun h => (hb4.block _ (Array.getElem?_eq_some_iff.1 h).1).trans h
          obtain ⟨g, cap, w5, hrun, c1', f1', hv2, hr2, hk2, hb2, hj2⟩ := push_text w4 H v (layN l1 l2 k).length ((layN l1 l2 k).map Value.string) (blkB p) (hl hv) (row_below hrow hb4) hnum (by have := hb4.size; omega)
          have e1 := hj2 S _ _ _ (by omega) (hl b1) (.inr (by decide))
          have e2 := hj2 (S + 1) _ _ _ (by omega) (hl b2) (.inr (by decide))
          refine ⟨g, cap, w5, hrun, c1', f1', Boxed.cell (hl hv), ⟨(others_below hb4).trans hk2, ⟨by have := hb4.size; have := hb2.size; omega, ?_⟩, ⟨_, hv2, ?_⟩, e1, e2, hj2 H _ _ _ (by omega) (hl rA) (.inl (by omega)), hj2 (H + 1) _ _ _ (by omega) (hl rB) (.inl (by omega)), (hB.trans (hb4.mono (by omega))).trans hb2⟩⟩
          · rintro j (rfl | rfl) hlt
            · exact e1.trans b1.symm
            · exact e2.trans b2.symm
          · rw [layN_succ, hp, List.length_append, List.map_append]; exact hr2
        have hc0 : W.drew.cell? ⟨H + 2, 0, none⟩ = some v := hv.cell
        have HPC := Aside0.mk hpC
        have HPR := Aside0.mk hpr
        have HFN := Aside0.mk hfin
        have hbd : Below W.heap.size W W.drew := below_drew1 (Below.refl _ W)
        have HBD := Aside0.mk hbd
        clear hpC hpr hfin hv hrow b1 b2 rA rB hB hBw hnum hbd
        simp only [hp, hpa]
        gi_wp2_with fail
        refine wpIn_region_any (by kernel_rfl) ?_
        refine wpAnyIn_round rfl (by kernel_rfl) _ _ _ _ ?_
        change wpAnyIn _ _ _ _ _ _ _ _ _ W.drew
        refine takeIn 1 (v := .slice pa p.length p.length) rfl rfl (by kernel_rfl) (by kernel_rfl) (by kernel_rfl) (fun _ _ _ h => h) (by kernel_rfl) (fun w => by go_simp) (fun w => by rfl) (by show Act.put _ (some 57) _ = _; simp only [Act.put, List.setIfInBounds_toArray, List.set_cons_zero, List.set_cons_succ]; rfl) ?_
        refine wpAnyIn_ready (rs := [0, 2]) (by kernel_rfl) (by decide) (readyIn 0 (v := v) rfl rfl (by kernel_rfl) (by go_simp) (by rfl) (by show Act.put _ (some 56) _ = _; simp only [Act.put, List.setIfInBounds_toArray, List.set_cons_zero, List.set_cons_succ]; rfl) ?_ (enterIn 2 58 (f := 29) (args := #[.slice pa p.length p.length]) rfl rfl rfl (by kernel_rfl) (by go_simp) (fun _ _ => trivial) (by intro h; cases h) (callsIn_wide.2 (block_calls pa p.length p W.drew HPC.out hp9 HPR.out)) ?_ AllReadyIn.nil))
        · refine wpAnyIn_ready (rs := [2]) (by kernel_rfl) (by decide) (enterIn 2 58 (f := 29) (args := #[.slice pa p.length p.length]) rfl rfl rfl (by kernel_rfl) (by go_simp) (fun _ _ => trivial) (by intro h; cases h) (callsIn_wide.2 (block_calls pa p.length p W.drew HPC.out hp9 HPR.out)) ?_ AllReadyIn.nil)
          rintro e w4 ⟨rfl, hb4⟩
          obtain ⟨g, cap, w5, hrun, c5, f5, c4, hfin⟩ := HFN.out w4 (HBD.out.trans hb4)
          have HRUN := Aside0.mk hrun
          have HFIN := hfin
          clear hrun hfin
          refine ⟨_, rfl, ?_⟩
          refine wpAnyIn_ready (rs := [3]) (by kernel_rfl) (by decide) (readyIn1 3 (v := .slice (some ⟨w4.heap.size, 0, none⟩) 1 1) (w1 := w4.alloc (.cells #[.string (blkB p)] 9)) rfl rfl (by kernel_rfl) (by go_simp) (by rfl) (by show Act.put _ (some 59) _ = _; simp only [Act.put, List.setIfInBounds_toArray, List.set_cons_zero, List.set_cons_succ]; rfl) ?_ AllReadyIn.nil)
          refine wpAnyIn_ready (rs := [4]) (by kernel_rfl) (by decide) (readyIn1 4 (v := (.slice (some ⟨g, 0, none⟩) ((layN l1 l2 k).length + 1) cap)) (w1 := w5) rfl rfl (by kernel_rfl) (run_app rfl rfl rfl rfl HRUN.out) (by rfl) (by show Act.put _ (some 60) _ = _; simp only [Act.put, List.setIfInBounds_toArray, List.set_cons_zero, List.set_cons_succ]; rfl) ?_ AllReadyIn.nil)
          refine wpAnyIn_ready (rs := [5]) (by kernel_rfl) (by decide) (skipIn1 5 (w1 := w5.setCell ⟨H + 2, 0, none⟩ (.slice (some ⟨g, 0, none⟩) ((layN l1 l2 k).length + 1) cap)) rfl rfl (by kernel_rfl) (by go_simp) (by rfl) rfl ?_ AllReadyIn.nil)
          refine wpAnyIn_done (by kernel_rfl) ?_ _
          exact HFIN.out
        · rintro e w4 ⟨rfl, hb4⟩
          obtain ⟨g, cap, w5, hrun, c5, f5, c4, hfin⟩ := HFN.out w4 (HBD.out.trans hb4)
          have HRUN := Aside0.mk hrun
          have HFIN := hfin
          clear hrun hfin
          refine ⟨_, rfl, ?_⟩
          refine wpAnyIn_ready (rs := [0, 3]) (by kernel_rfl) (by decide) (readyIn 0 (v := v) rfl rfl (by kernel_rfl) (by go_simp) (by rfl) (by show Act.put _ (some 56) _ = _; simp only [Act.put, List.setIfInBounds_toArray, List.set_cons_zero, List.set_cons_succ]; rfl) ?_ (readyIn1 3 (v := .slice (some ⟨w4.heap.size, 0, none⟩) 1 1) (w1 := w4.alloc (.cells #[.string (blkB p)] 9)) rfl rfl (by kernel_rfl) (by go_simp) (by rfl) (by show Act.put _ (some 59) _ = _; simp only [Act.put, List.setIfInBounds_toArray, List.set_cons_zero, List.set_cons_succ]; rfl) ?_ AllReadyIn.nil))
          · refine wpAnyIn_ready (rs := [3]) (by kernel_rfl) (by decide) (readyIn1 3 (v := .slice (some ⟨w4.heap.size, 0, none⟩) 1 1) (w1 := w4.alloc (.cells #[.string (blkB p)] 9)) rfl rfl (by kernel_rfl) (by go_simp) (by rfl) (by show Act.put _ (some 59) _ = _; simp only [Act.put, List.setIfInBounds_toArray, List.set_cons_zero, List.set_cons_succ]; rfl) ?_ AllReadyIn.nil)
            refine wpAnyIn_ready (rs := [4]) (by kernel_rfl) (by decide) (readyIn1 4 (v := (.slice (some ⟨g, 0, none⟩) ((layN l1 l2 k).length + 1) cap)) (w1 := w5) rfl rfl (by kernel_rfl) (run_app rfl rfl rfl rfl HRUN.out) (by rfl) (by show Act.put _ (some 60) _ = _; simp only [Act.put, List.setIfInBounds_toArray, List.set_cons_zero, List.set_cons_succ]; rfl) ?_ AllReadyIn.nil)
            refine wpAnyIn_ready (rs := [5]) (by kernel_rfl) (by decide) (skipIn1 5 (w1 := w5.setCell ⟨H + 2, 0, none⟩ (.slice (some ⟨g, 0, none⟩) ((layN l1 l2 k).length + 1) cap)) rfl rfl (by kernel_rfl) (by go_simp) (by rfl) rfl ?_ AllReadyIn.nil)
            refine wpAnyIn_done (by kernel_rfl) ?_ _
            exact HFIN.out
          · have c6 : (w4.alloc (.cells #[.string (blkB p)] 9)).cell? ⟨H + 2, 0, none⟩ = some v := (((Below.refl w4.heap.size w4).alloc (Nat.le_refl _) _).cell (World.block_lt_of_cell? w4 _ c4)).trans c4
            refine wpAnyIn_ready (rs := [0]) (by kernel_rfl) (by decide) (readyIn 0 (v := v) rfl rfl (by kernel_rfl) (by go_simp) (by rfl) (by show Act.put _ (some 56) _ = _; simp only [Act.put, List.setIfInBounds_toArray, List.set_cons_zero, List.set_cons_succ]; rfl) ?_ AllReadyIn.nil)
            refine wpAnyIn_ready (rs := [4]) (by kernel_rfl) (by decide) (readyIn1 4 (v := (.slice (some ⟨g, 0, none⟩) ((layN l1 l2 k).length + 1) cap)) (w1 := w5) rfl rfl (by kernel_rfl) (run_app rfl rfl rfl rfl HRUN.out) (by rfl) (by show Act.put _ (some 60) _ = _; simp only [Act.put, List.setIfInBounds_toArray, List.set_cons_zero, List.set_cons_succ]; rfl) ?_ AllReadyIn.nil)
            refine wpAnyIn_ready (rs := [5]) (by kernel_rfl) (by decide) (skipIn1 5 (w1 := w5.setCell ⟨H + 2, 0, none⟩ (.slice (some ⟨g, 0, none⟩) ((layN l1 l2 k).length + 1) cap)) rfl rfl (by kernel_rfl) (by go_simp) (by rfl) rfl ?_ AllReadyIn.nil)
            refine wpAnyIn_done (by kernel_rfl) ?_ _
            exact HFIN.out
      case done =>
        rintro W ⟨⟨v, hv, hrow⟩, b1, b2, rA, rB, hB⟩ hWs hD
        obtain ⟨⟨q0, q1, q2, q3, q4, q5⟩, f0, f1, f2, f3, f4, f5⟩ := arr_facts rA
        obtain ⟨⟨u0, u1, u2, u3, u4, u5⟩, _⟩ := arr_facts rB
        have hc0 := hv.cell
        have RA := Aside0.mk rA
        have HROW := Aside0.mk hrow
        have HB := Aside0.mk hB
        clear b1 b2 rA rB hrow hB
        have HD := Aside0.mk hD
        clear hD
        gi_wp2
        gi_region
        gi_wp2
        have y1 : ((((((W.setCell ⟨H, 0, none⟩ (.int .u32 x)).setCell ⟨H, 1, none⟩ (.int .u32 0)).setCell ⟨H, 2, none⟩ (.int .u32 0)).setCell ⟨H, 3, none⟩ (.int .u32 0)).setCell ⟨H, 4, none⟩ (.int .u32 0)).setCell ⟨H, 5, none⟩ (.int .u32 0)).heap[W0.heap.size]? = some (.deferred (some [])) := (six_other (by omega) _ _ _ _ _ _).trans HD.out
        have y2 := six_cells RA.out (.int .u32 x) (.int .u32 0) (.int .u32 0) (.int .u32 0) (.int .u32 0) (.int .u32 0)
        have y3 := six_below HB.out (Nat.le_refl H) (.int .u32 x) (.int .u32 0) (.int .u32 0) (.int .u32 0) (.int .u32 0) (.int .u32 0)
        have y4 : ((((((W.setCell ⟨H, 0, none⟩ (.int .u32 x)).setCell ⟨H, 1, none⟩ (.int .u32 0)).setCell ⟨H, 2, none⟩ (.int .u32 0)).setCell ⟨H, 3, none⟩ (.int .u32 0)).setCell ⟨H, 4, none⟩ (.int .u32 0)).setCell ⟨H, 5, none⟩ (.int .u32 0)).ownsRow (H + 3) 9 1 v (layN l1 l2 (partN 127 l1)).length ((layN l1 l2 (partN 127 l1)).map Value.string) := row_same HROW.out (fun j hj => six_other (by omega) _ _ _ _ _ _)
        generalize ((((((W.setCell ⟨H, 0, none⟩ (.int .u32 x)).setCell ⟨H, 1, none⟩ (.int .u32 0)).setCell ⟨H, 2, none⟩ (.int .u32 0)).setCell ⟨H, 3, none⟩ (.int .u32 0)).setCell ⟨H, 4, none⟩ (.int .u32 0)).setCell ⟨H, 5, none⟩ (.int .u32 0)) = WX at y1 y2 y3 y4 ⊢
        have z1 : WX.drew.heap[W0.heap.size]? = some (.deferred (some [])) := y1
        have z2 : WX.drew.heap[H]? = some (.cells #[.int .u32 x, .int .u32 0, .int .u32 0, .int .u32 0, .int .u32 0, .int .u32 0] 32 (0, 0)) := y2
        have z3 : Below H w WX.drew := below_drew1 y3
        have z4 := row_same (W' := WX.drew) y4 (fun _ _ => rfl)
        clear y1 y2 y3 y4
        generalize WX.drew = WX at z1 z2 z3 z4 ⊢
        have x4 : (WX.putObj W0.heap.size (.deferred none)).heap[H]? = some (.cells #[.int .u32 x, .int .u32 0, .int .u32 0, .int .u32 0, .int .u32 0, .int .u32 0] 32 (0, 0)) := (World.putObj_heap_other (by omega)).trans z2
        refine ⟨by simp, .inl ⟨_, _, rfl, run_takeDeferred z1, ?_⟩⟩
        refine ⟨_, results_ctt rfl _ _ H 32 #[.int .u32 x, .int .u32 0, .int .u32 0, .int .u32 0, .int .u32 0, .int .u32 0] (0, 0) _ rfl x4 Try.underlying32 rfl (by kernel_rfl), ⟨⟨_, rfl, ?_⟩, ?_⟩⟩
        · exact row_putObj (row_lower z4 (by omega)) _ z1 rfl
        · rw [hH]; exact z3.trans (belowK_b (w := W0) (by omega) WX _ _ _ (by omega) z1 rfl rfl)
      case stop =>
        intro c k W _ h
        exact h.elim
    · refine wpAnyIn_ready (rs := [0, 3]) (by kernel_rfl) (by decide) (readyIn 0 (v := .slice none 0 0) rfl rfl (by kernel_rfl) (by go_simp) (by rfl) (by show Act.put _ (some 47) _ = _; simp only [Act.put, List.setIfInBounds_toArray, List.set_cons_zero, List.set_cons_succ]; rfl) ?_ (enterIn 3 50 (f := 29) (args := #[.slice tA t.length (c2 - 1)]) rfl rfl rfl (by kernel_rfl) (by go_simp) (fun _ _ => trivial) (by intro h; cases h) (callsIn_wide.2 (block_calls tA (c2 - 1) t Y.drew HPC.out ht9 HPR.out)) ?_ AllReadyIn.nil))
      · refine wpAnyIn_ready (rs := [3]) (by kernel_rfl) (by decide) (enterIn 3 50 (f := 29) (args := #[.slice tA t.length (c2 - 1)]) rfl rfl rfl (by kernel_rfl) (by go_simp) (fun _ _ => trivial) (by intro h; cases h) (callsIn_wide.2 (block_calls tA (c2 - 1) t Y.drew HPC.out ht9 HPR.out)) ?_ AllReadyIn.nil)
        rintro e w4 ⟨rfl, hb4⟩
        obtain ⟨g, cap, w5, hrun, c5, f5, c4, hfin⟩ := HFN.out w4 (HBD.out.trans hb4)
        have HRUN := Aside0.mk hrun
        have HFIN := hfin
        clear hrun hfin
        refine ⟨_, rfl, ?_⟩
        refine wpAnyIn_ready (rs := [4]) (by kernel_rfl) (by decide) (readyIn1 4 (v := .slice (some ⟨w4.heap.size, 0, none⟩) 1 1) (w1 := w4.alloc (.cells #[.string (blkB t)] 9)) rfl rfl (by kernel_rfl) (by go_simp) (by rfl) (by show Act.put _ (some 51) _ = _; simp only [Act.put, List.setIfInBounds_toArray, List.set_cons_zero, List.set_cons_succ]; rfl) ?_ AllReadyIn.nil)
        refine wpAnyIn_ready (rs := [5]) (by kernel_rfl) (by decide) (readyIn1 5 (v := (.slice (some ⟨g, 0, none⟩) (0 + 1) cap)) (w1 := w5) rfl rfl (by kernel_rfl) (run_app rfl rfl rfl rfl HRUN.out) (by rfl) (by show Act.put _ (some 52) _ = _; simp only [Act.put, List.setIfInBounds_toArray, List.set_cons_zero, List.set_cons_succ]; rfl) ?_ AllReadyIn.nil)
        refine wpAnyIn_ready (rs := [6]) (by kernel_rfl) (by decide) (skipIn1 6 (w1 := (w5.setCell ⟨H + 2, 0, none⟩ (.slice (some ⟨g, 0, none⟩) (0 + 1) cap))) rfl rfl (by kernel_rfl) (by go_simp) (by rfl) rfl ?_ AllReadyIn.nil)
        refine wpAnyIn_done (by kernel_rfl) ?_ _
        clear HRUN c5 f5 c4 hb4
        generalize (w5.setCell ⟨H + 2, 0, none⟩ (.slice (some ⟨g, 0, none⟩) (0 + 1) cap)) = W6 at HFIN ⊢
        simp only [Nat.zero_add] at HFIN ⊢
        gi_wp2_with fail
        refine ⟨trivial, (callsIn_wide.2 (chunk_calls _ _ _ 127 (by omega) _)).mono ?_⟩
        rintro e W0 ⟨rfl, hW0⟩
        obtain ⟨S, hS⟩ : ∃ S, W6.heap.size = S := ⟨_, rfl⟩
        have hs0 : W0.heap.size = S + 2 := by rw [hW0]; simp [hS]
        have hHS : H + 3 ≤ S := by rw [← hS]; exact HFIN.out.2.2.2.2.2
        have h1 : W0.heap[S]? = some (.cells #[.slice A1 l1.length c1] 31 (0, 0)) := by rw [hW0, Below.heap_alloc _ _ _ (by rw [World.size_alloc, hS]; omega), ← hS]; exact World.alloc_heap_new _ _
        have h2 : W0.heap[S + 1]? = some (.cells #[.int .i64 127] 3 (0, 0)) := by rw [hW0]; have := World.alloc_heap_new (W6.alloc (.cells #[.slice A1 l1.length c1] 31)) (.cells #[.int .i64 127] 3); rwa [World.size_alloc, hS] at this
        have hv0 : Boxed W0 (H + 2) 33 (.slice (some ⟨g, 0, none⟩) 1 cap) := by rw [hW0]; exact (HFIN.out.2.2.1.alloc _).alloc _
        have hrow0 : W0.ownsRow (H + 3) 9 1 (.slice (some ⟨g, 0, none⟩) 1 cap) (layN l1 l2 0).length ((layN l1 l2 0).map Value.string) := by rw [hW0, show layN l1 l2 0 = topB l2 from List.append_nil _]; exact (HFIN.out.2.2.2.1.alloc _).alloc _
        have rA0 : W0.heap[H]? = some (.cells z6 32 (0, 0)) := by rw [hW0, Below.heap_alloc _ _ _ (by simp; omega), Below.heap_alloc _ _ _ (by omega)]; exact HFIN.out.1
        have rB0 : W0.heap[H + 1]? = some (.cells #[.int .u32 x, .int .u32 0, .int .u32 0, .int .u32 0, .int .u32 0, .int .u32 0] 32 (0, 0)) := by rw [hW0, Below.heap_alloc _ _ _ (by simp; omega), Below.heap_alloc _ _ _ (by omega)]; exact HFIN.out.2.1
        have hB0 : Below H w W0 := by rw [hW0]; exact (HFIN.out.2.2.2.2.1.alloc (by omega) _).alloc (by simp; omega) _
        simp only [hS]
        clear hW0
        gi_wp2
        refine wpIn_rangeN rfl (by omega) (gf := 42) (lb := #[.pointer (some ⟨S, 0, none⟩), .pointer (some ⟨S + 1, 0, none⟩)]) rfl trivial (enters_of Try.func42 (by kernel_rfl) rfl)
          (chunk_seq 9 (by omega) A1 c1 l1 127 (by omega) (by omega) (by omega) hc1 S (S + 1) W0 h1 h2) (Below.refl _ _) (fun _ => rfl) (fun h => h.elim) (fun h => h.elim) (by omega)
          (fun k W => (∃ v, Boxed W (H + 2) 33 v ∧ W.ownsRow (H + 3) 9 1 v (layN l1 l2 k).length ((layN l1 l2 k).map Value.string)) ∧ W.heap[S]? = some (.cells #[.slice A1 l1.length c1] 31 (0, 0)) ∧ W.heap[S + 1]? = some (.cells #[.int .i64 127] 3 (0, 0)) ∧ W.heap[H]? = some (.cells z6 32 (0, 0)) ∧ W.heap[H + 1]? = some (.cells #[.int .u32 x, .int .u32 0, .int .u32 0, .int .u32 0, .int .u32 0, .int .u32 0] 32 (0, 0)) ∧ Below H w W)
          (fun _ _ _ => False)
          (fun k => (stands_ex fun v => (stands_box _ _ _ (by rintro (h | h | h) <;> first | exact h.elim | omega)).and (stands_row2 (fun _ h => h))).and ((stands_blk (by rintro (h | h | h) <;> first | exact h.elim | omega)).and ((stands_blk (by rintro (h | h | h) <;> first | exact h.elim | omega)).and ((stands_blk (by rintro (h | h | h) <;> first | exact h.elim | omega)).and ((stands_blk (by rintro (h | h | h) <;> first | exact h.elim | omega)).and (stands_below (by omega) (by rintro j (h | h | h) <;> first | exact h.elim | omega)))))))
          (fun _ _ _ _ h _ => h)
          ⟨⟨_, hv0, hrow0⟩, h1, h2, rA0, rB0, hB0⟩
          (fun k => { tmps := #[.int .u32 size, .slice A1 l1.length c1, .slice (some ad) l2.length c2, undef, undef, undef, .pointer (some ⟨H, 0, none⟩), .slice none 0 0, .int .i64 0, .pointer (some ⟨H + 1, 0, none⟩), .pointer (some ⟨H + 2, 0, none⟩), .slice (partA 127 (Kd.sz (Kd.int .u32)) A1 k) (partL 127 l1 k).length (partL 127 l1 k).length, .int .u32 size, .bool false, .bool false, .slice A1 l1.length c1, .int .i64 l1.length, .int .u32 size, .int .i64 l1.length, .bool false, .bool false, .bool false, .slice (some ad) l2.length c2, .int .i64 l2.length, .int .u32 size, .int .i64 l2.length, .bool false, .bool false, .bool false, .slice (some ad) l2.length c2, .bool false, .bool false, undef, .slice (some ad) l2.length c2, .int .i64 l2.length, .bool false, undef, undef, undef, undef, .slice (some ad) l2.length c2, .pointer (some ad), .int .u32 x, .pointer (some ⟨H + 1, 0, none⟩), .slice (some ad) l2.length c2, .int .i64 l2.length, .bool true, .slice none 0 0, .slice (some ad) l2.length c2, .slice tA t.length (c2 - 1), .string (blkB t), .slice (some ⟨w4.heap.size, 0, none⟩) 1 1, .slice (some ⟨g, 0, none⟩) 1 cap, .slice A1 l1.length c1, .func (.func 42) #[] #[.pointer (some ⟨S, 0, none⟩), .pointer (some ⟨S + 1, 0, none⟩)], .slice (partA 127 (Kd.sz (Kd.int .u32)) A1 k) (partL 127 l1 k).length (partL 127 l1 k).length, undef, undef, undef, undef, undef, undef, undef], defers := [] }) ?assign ?body ?done ?stop
        case assign =>
          intro lp k W K hK
          gi_wp2
          exact hK
        case body =>
          rintro lp k W hk hWs ⟨⟨v, hv, hrow⟩, b1, b2, rA, rB, hB⟩
          have hkl : 127 * k < l1.length := (partN_lt (by omega) l1 k).1 hk
          obtain ⟨p, hp⟩ : ∃ p, partL 127 l1 k = p := ⟨_, rfl⟩
          obtain ⟨pa, hpa⟩ : ∃ pa, partA 127 (Kd.sz (Kd.int .u32)) A1 k = pa := ⟨_, rfl⟩
          have hBw : Below w.heap.size w W := by rw [hH]; exact hB
          have hpC : Kd.C (Kd.int .u32) W.drew pa p.length p := by rw [← hp, ← hpa]; exact Kd.C_drew (part_C (Kd.C_below HC1.out hBw) (by omega) hkl hc1)
          have hp9 : p.length ≤ 127 := by rw [← hp, partL_len]; omega
          have hpr : ∀ y ∈ p, 0 ≤ y ∧ y < 4294967296 := fun y hy => HR1.out y (by rw [← hp] at hy; exact List.mem_of_mem_take (List.mem_of_mem_drop hy))
          have hnum : (layN l1 l2 k).length ≤ 1000000 := by rw [layN_len]; have := topB_len l2; omega
          have hfin : ∀ w4, Below W.heap.size W w4 → ∃ g cap w5, (Builtin.append_ #[33, 33] 33 #[v, .slice (some ⟨w4.heap.size, 0, none⟩) 1 1]).run Try.prog (w4.alloc (.cells #[.string (blkB p)] 9)) = .ok (.slice (some ⟨g, 0, none⟩) ((layN l1 l2 k).length + 1) cap) w5 ∧ w5.cell? ⟨H + 2, 0, none⟩ = some v ∧ w5.frozen? ⟨H + 2, 0, none⟩ = false ∧ w4.cell? ⟨H + 2, 0, none⟩ = some v ∧ Aside0 (KeepsOthers W (w5.setCell ⟨H + 2, 0, none⟩ (.slice (some ⟨g, 0, none⟩) ((layN l1 l2 k).length + 1) cap)) ∧ KeepAt (fun j => j = S ∨ j = S + 1) W (w5.setCell ⟨H + 2, 0, none⟩ (.slice (some ⟨g, 0, none⟩) ((layN l1 l2 k).length + 1) cap)) ∧ (∃ v, Boxed (w5.setCell ⟨H + 2, 0, none⟩ (.slice (some ⟨g, 0, none⟩) ((layN l1 l2 k).length + 1) cap)) (H + 2) 33 v ∧ (w5.setCell ⟨H + 2, 0, none⟩ (.slice (some ⟨g, 0, none⟩) ((layN l1 l2 k).length + 1) cap)).ownsRow (H + 3) 9 1 v (layN l1 l2 (k + 1)).length ((layN l1 l2 (k + 1)).map Value.string)) ∧ (w5.setCell ⟨H + 2, 0, none⟩ (.slice (some ⟨g, 0, none⟩) ((layN l1 l2 k).length + 1) cap)).heap[S]? = some (.cells #[.slice A1 l1.length c1] 31 (0, 0)) ∧ (w5.setCell ⟨H + 2, 0, none⟩ (.slice (some ⟨g, 0, none⟩) ((layN l1 l2 k).length + 1) cap)).heap[S + 1]? = some (.cells #[.int .i64 127] 3 (0, 0)) ∧ (w5.setCell ⟨H + 2, 0, none⟩ (.slice (some ⟨g, 0, none⟩) ((layN l1 l2 k).length + 1) cap)).heap[H]? = some (.cells z6 32 (0, 0)) ∧ (w5.setCell ⟨H + 2, 0, none⟩ (.slice (some ⟨g, 0, none⟩) ((layN l1 l2 k).length + 1) cap)).heap[H + 1]? = some (.cells #[.int .u32 x, .int .u32 0, .int .u32 0, .int .u32 0, .int .u32 0, .int .u32 0] 32 (0, 0)) ∧ Below H w (w5.setCell ⟨H + 2, 0, none⟩ (.slice (some ⟨g, 0, none⟩) ((layN l1 l2 k).length + 1) cap))) := by
            intro w4 hb4
            have hl : ∀ {j : Nat} {o : Obj}, W.heap[j]? = some o → w4.heap[j]? = some o := fun h => (hb4.block _ (Array.getElem?_eq_some_iff.1 h).1).trans h
            obtain ⟨g, cap, w5, hrun, c1', f1', hv2, hr2, hk2, hb2, hj2⟩ := push_text w4 H v (layN l1 l2 k).length ((layN l1 l2 k).map Value.string) (blkB p) (hl hv) (row_below hrow hb4) hnum (by have := hb4.size; omega)
            have e1 := hj2 S _ _ _ (by omega) (hl b1) (.inr (by decide))
            have e2 := hj2 (S + 1) _ _ _ (by omega) (hl b2) (.inr (by decide))
            refine ⟨g, cap, w5, hrun, c1', f1', Boxed.cell (hl hv), ⟨(others_below hb4).trans hk2, ⟨by have := hb4.size; have := hb2.size; omega, ?_⟩, ⟨_, hv2, ?_⟩, e1, e2, hj2 H _ _ _ (by omega) (hl rA) (.inl (by omega)), hj2 (H + 1) _ _ _ (by omega) (hl rB) (.inl (by omega)), (hB.trans (hb4.mono (by omega))).trans hb2⟩⟩
            · rintro j (rfl | rfl) hlt
              · exact e1.trans b1.symm
              · exact e2.trans b2.symm
            · rw [layN_succ, hp, List.length_append, List.map_append]; exact hr2
          have hc0 : W.drew.cell? ⟨H + 2, 0, none⟩ = some v := hv.cell
          have HPC := Aside0.mk hpC
          have HPR := Aside0.mk hpr
          have HFN := Aside0.mk hfin
          have hbd : Below W.heap.size W W.drew := below_drew1 (Below.refl _ W)
          have HBD := Aside0.mk hbd
          clear hpC hpr hfin hv hrow b1 b2 rA rB hB hBw hnum hbd
          simp only [hp, hpa]
          gi_wp2_with fail
          refine wpIn_region_any (by kernel_rfl) ?_
          refine wpAnyIn_round rfl (by kernel_rfl) _ _ _ _ ?_
          change wpAnyIn _ _ _ _ _ _ _ _ _ W.drew
          refine takeIn 1 (v := .slice pa p.length p.length) rfl rfl (by kernel_rfl) (by kernel_rfl) (by kernel_rfl) (fun _ _ _ h => h) (by kernel_rfl) (fun w => by go_simp) (fun w => by rfl) (by show Act.put _ (some 57) _ = _; simp only [Act.put, List.setIfInBounds_toArray, List.set_cons_zero, List.set_cons_succ]; rfl) ?_
          refine wpAnyIn_ready (rs := [0, 2]) (by kernel_rfl) (by decide) (readyIn 0 (v := v) rfl rfl (by kernel_rfl) (by go_simp) (by rfl) (by show Act.put _ (some 56) _ = _; simp only [Act.put, List.setIfInBounds_toArray, List.set_cons_zero, List.set_cons_succ]; rfl) ?_ (enterIn 2 58 (f := 29) (args := #[.slice pa p.length p.length]) rfl rfl rfl (by kernel_rfl) (by go_simp) (fun _ _ => trivial) (by intro h; cases h) (callsIn_wide.2 (block_calls pa p.length p W.drew HPC.out hp9 HPR.out)) ?_ AllReadyIn.nil))
          · refine wpAnyIn_ready (rs := [2]) (by kernel_rfl) (by decide) (enterIn 2 58 (f := 29) (args := #[.slice pa p.length p.length]) rfl rfl rfl (by kernel_rfl) (by go_simp) (fun _ _ => trivial) (by intro h; cases h) (callsIn_wide.2 (block_calls pa p.length p W.drew HPC.out hp9 HPR.out)) ?_ AllReadyIn.nil)
            rintro e w4 ⟨rfl, hb4⟩
            obtain ⟨g, cap, w5, hrun, c5, f5, c4, hfin⟩ := HFN.out w4 (HBD.out.trans hb4)
            have HRUN := Aside0.mk hrun
            have HFIN := hfin
            clear hrun hfin
            refine ⟨_, rfl, ?_⟩
            refine wpAnyIn_ready (rs := [3]) (by kernel_rfl) (by decide) (readyIn1 3 (v := .slice (some ⟨w4.heap.size, 0, none⟩) 1 1) (w1 := w4.alloc (.cells #[.string (blkB p)] 9)) rfl rfl (by kernel_rfl) (by go_simp) (by rfl) (by show Act.put _ (some 59) _ = _; simp only [Act.put, List.setIfInBounds_toArray, List.set_cons_zero, List.set_cons_succ]; rfl) ?_ AllReadyIn.nil)
            refine wpAnyIn_ready (rs := [4]) (by kernel_rfl) (by decide) (readyIn1 4 (v := (.slice (some ⟨g, 0, none⟩) ((layN l1 l2 k).length + 1) cap)) (w1 := w5) rfl rfl (by kernel_rfl) (run_app rfl rfl rfl rfl HRUN.out) (by rfl) (by show Act.put _ (some 60) _ = _; simp only [Act.put, List.setIfInBounds_toArray, List.set_cons_zero, List.set_cons_succ]; rfl) ?_ AllReadyIn.nil)
            refine wpAnyIn_ready (rs := [5]) (by kernel_rfl) (by decide) (skipIn1 5 (w1 := w5.setCell ⟨H + 2, 0, none⟩ (.slice (some ⟨g, 0, none⟩) ((layN l1 l2 k).length + 1) cap)) rfl rfl (by kernel_rfl) (by go_simp) (by rfl) rfl ?_ AllReadyIn.nil)
            refine wpAnyIn_done (by kernel_rfl) ?_ _
            exact HFIN.out
          · rintro e w4 ⟨rfl, hb4⟩
            obtain ⟨g, cap, w5, hrun, c5, f5, c4, hfin⟩ := HFN.out w4 (HBD.out.trans hb4)
            have HRUN := Aside0.mk hrun
            have HFIN := hfin
            clear hrun hfin
            refine ⟨_, rfl, ?_⟩
            refine wpAnyIn_ready (rs := [0, 3]) (by kernel_rfl) (by decide) (readyIn 0 (v := v) rfl rfl (by kernel_rfl) (by go_simp) (by rfl) (by show Act.put _ (some 56) _ = _; simp only [Act.put, List.setIfInBounds_toArray, List.set_cons_zero, List.set_cons_succ]; rfl) ?_ (readyIn1 3 (v := .slice (some ⟨w4.heap.size, 0, none⟩) 1 1) (w1 := w4.alloc (.cells #[.string (blkB p)] 9)) rfl rfl (by kernel_rfl) (by go_simp) (by rfl) (by show Act.put _ (some 59) _ = _; simp only [Act.put, List.setIfInBounds_toArray, List.set_cons_zero, List.set_cons_succ]; rfl) ?_ AllReadyIn.nil))
            · refine wpAnyIn_ready (rs := [3]) (by kernel_rfl) (by decide) (readyIn1 3 (v := .slice (some ⟨w4.heap.size, 0, none⟩) 1 1) (w1 := w4.alloc (.cells #[.string (blkB p)] 9)) rfl rfl (by kernel_rfl) (by go_simp) (by rfl) (by show Act.put _ (some 59) _ = _; simp only [Act.put, List.setIfInBounds_toArray, List.set_cons_zero, List.set_cons_succ]; rfl) ?_ AllReadyIn.nil)
              refine wpAnyIn_ready (rs := [4]) (by kernel_rfl) (by decide) (readyIn1 4 (v := (.slice (some ⟨g, 0, none⟩) ((layN l1 l2 k).length + 1) cap)) (w1 := w5) rfl rfl (by kernel_rfl) (run_app rfl rfl rfl rfl HRUN.out) (by rfl) (by show Act.put _ (some 60) _ = _; simp only [Act.put, List.setIfInBounds_toArray, List.set_cons_zero, List.set_cons_succ]; rfl) ?_ AllReadyIn.nil)
              refine wpAnyIn_ready (rs := [5]) (by kernel_rfl) (by decide) (skipIn1 5 (w1 := w5.setCell ⟨H + 2, 0, none⟩ (.slice (some ⟨g, 0, none⟩) ((layN l1 l2 k).length + 1) cap)) rfl rfl (by kernel_rfl) (by go_simp) (by rfl) rfl ?_ AllReadyIn.nil)
              refine wpAnyIn_done (by kernel_rfl) ?_ _
              exact HFIN.out
            · have c6 : (w4.alloc (.cells #[.string (blkB p)] 9)).cell? ⟨H + 2, 0, none⟩ = some v := (((Below.refl w4.heap.size w4).alloc (Nat.le_refl _) _).cell (World.block_lt_of_cell? w4 _ c4)).trans c4
              refine wpAnyIn_ready (rs := [0]) (by kernel_rfl) (by decide) (readyIn 0 (v := v) rfl rfl (by kernel_rfl) (by go_simp) (by rfl) (by show Act.put _ (some 56) _ = _; simp only [Act.put, List.setIfInBounds_toArray, List.set_cons_zero, List.set_cons_succ]; rfl) ?_ AllReadyIn.nil)
              refine wpAnyIn_ready (rs := [4]) (by kernel_rfl) (by decide) (readyIn1 4 (v := (.slice (some ⟨g, 0, none⟩) ((layN l1 l2 k).length + 1) cap)) (w1 := w5) rfl rfl (by kernel_rfl) (run_app rfl rfl rfl rfl HRUN.out) (by rfl) (by show Act.put _ (some 60) _ = _; simp only [Act.put, List.setIfInBounds_toArray, List.set_cons_zero, List.set_cons_succ]; rfl) ?_ AllReadyIn.nil)
              refine wpAnyIn_ready (rs := [5]) (by kernel_rfl) (by decide) (skipIn1 5 (w1 := w5.setCell ⟨H + 2, 0, none⟩ (.slice (some ⟨g, 0, none⟩) ((layN l1 l2 k).length + 1) cap)) rfl rfl (by kernel_rfl) (by go_simp) (by rfl) rfl ?_ AllReadyIn.nil)
              refine wpAnyIn_done (by kernel_rfl) ?_ _
              exact HFIN.out
        case done =>
          rintro W ⟨⟨v, hv, hrow⟩, b1, b2, rA, rB, hB⟩ hWs hD
          obtain ⟨⟨q0, q1, q2, q3, q4, q5⟩, f0, f1, f2, f3, f4, f5⟩ := arr_facts rA
          obtain ⟨⟨u0, u1, u2, u3, u4, u5⟩, _⟩ := arr_facts rB
          have hc0 := hv.cell
          have RA := Aside0.mk rA
          have HROW := Aside0.mk hrow
          have HB := Aside0.mk hB
          clear b1 b2 rA rB hrow hB
          have HD := Aside0.mk hD
          clear hD
          gi_wp2
          gi_region
          gi_wp2
          have y1 : ((((((W.setCell ⟨H, 0, none⟩ (.int .u32 x)).setCell ⟨H, 1, none⟩ (.int .u32 0)).setCell ⟨H, 2, none⟩ (.int .u32 0)).setCell ⟨H, 3, none⟩ (.int .u32 0)).setCell ⟨H, 4, none⟩ (.int .u32 0)).setCell ⟨H, 5, none⟩ (.int .u32 0)).heap[W0.heap.size]? = some (.deferred (some [])) := (six_other (by omega) _ _ _ _ _ _).trans HD.out
          have y2 := six_cells RA.out (.int .u32 x) (.int .u32 0) (.int .u32 0) (.int .u32 0) (.int .u32 0) (.int .u32 0)
          have y3 := six_below HB.out (Nat.le_refl H) (.int .u32 x) (.int .u32 0) (.int .u32 0) (.int .u32 0) (.int .u32 0) (.int .u32 0)
          have y4 : ((((((W.setCell ⟨H, 0, none⟩ (.int .u32 x)).setCell ⟨H, 1, none⟩ (.int .u32 0)).setCell ⟨H, 2, none⟩ (.int .u32 0)).setCell ⟨H, 3, none⟩ (.int .u32 0)).setCell ⟨H, 4, none⟩ (.int .u32 0)).setCell ⟨H, 5, none⟩ (.int .u32 0)).ownsRow (H + 3) 9 1 v (layN l1 l2 (partN 127 l1)).length ((layN l1 l2 (partN 127 l1)).map Value.string) := row_same HROW.out (fun j hj => six_other (by omega) _ _ _ _ _ _)
          generalize ((((((W.setCell ⟨H, 0, none⟩ (.int .u32 x)).setCell ⟨H, 1, none⟩ (.int .u32 0)).setCell ⟨H, 2, none⟩ (.int .u32 0)).setCell ⟨H, 3, none⟩ (.int .u32 0)).setCell ⟨H, 4, none⟩ (.int .u32 0)).setCell ⟨H, 5, none⟩ (.int .u32 0)) = WX at y1 y2 y3 y4 ⊢
          have z1 : WX.drew.heap[W0.heap.size]? = some (.deferred (some [])) := y1
          have z2 : WX.drew.heap[H]? = some (.cells #[.int .u32 x, .int .u32 0, .int .u32 0, .int .u32 0, .int .u32 0, .int .u32 0] 32 (0, 0)) := y2
          have z3 : Below H w WX.drew := below_drew1 y3
          have z4 := row_same (W' := WX.drew) y4 (fun _ _ => rfl)
          clear y1 y2 y3 y4
          generalize WX.drew = WX at z1 z2 z3 z4 ⊢
          have x4 : (WX.putObj W0.heap.size (.deferred none)).heap[H]? = some (.cells #[.int .u32 x, .int .u32 0, .int .u32 0, .int .u32 0, .int .u32 0, .int .u32 0] 32 (0, 0)) := (World.putObj_heap_other (by omega)).trans z2
          refine ⟨by simp, .inl ⟨_, _, rfl, run_takeDeferred z1, ?_⟩⟩
          refine ⟨_, results_ctt rfl _ _ H 32 #[.int .u32 x, .int .u32 0, .int .u32 0, .int .u32 0, .int .u32 0, .int .u32 0] (0, 0) _ rfl x4 Try.underlying32 rfl (by kernel_rfl), ⟨⟨_, rfl, ?_⟩, ?_⟩⟩
          · exact row_putObj (row_lower z4 (by omega)) _ z1 rfl
          · rw [hH]; exact z3.trans (belowK_b (w := W0) (by omega) WX _ _ _ (by omega) z1 rfl rfl)
        case stop =>
          intro c k W _ h
          exact h.elim
      · rintro e w4 ⟨rfl, hb4⟩
        obtain ⟨g, cap, w5, hrun, c5, f5, c4, hfin⟩ := HFN.out w4 (HBD.out.trans hb4)
        have HRUN := Aside0.mk hrun
        have HFIN := hfin
        clear hrun hfin
        refine ⟨_, rfl, ?_⟩
        refine wpAnyIn_ready (rs := [0, 4]) (by kernel_rfl) (by decide) (readyIn 0 (v := .slice none 0 0) rfl rfl (by kernel_rfl) (by go_simp) (by rfl) (by show Act.put _ (some 47) _ = _; simp only [Act.put, List.setIfInBounds_toArray, List.set_cons_zero, List.set_cons_succ]; rfl) ?_ (readyIn1 4 (v := .slice (some ⟨w4.heap.size, 0, none⟩) 1 1) (w1 := w4.alloc (.cells #[.string (blkB t)] 9)) rfl rfl (by kernel_rfl) (by go_simp) (by rfl) (by show Act.put _ (some 51) _ = _; simp only [Act.put, List.setIfInBounds_toArray, List.set_cons_zero, List.set_cons_succ]; rfl) ?_ AllReadyIn.nil))
        · refine wpAnyIn_ready (rs := [4]) (by kernel_rfl) (by decide) (readyIn1 4 (v := .slice (some ⟨w4.heap.size, 0, none⟩) 1 1) (w1 := w4.alloc (.cells #[.string (blkB t)] 9)) rfl rfl (by kernel_rfl) (by go_simp) (by rfl) (by show Act.put _ (some 51) _ = _; simp only [Act.put, List.setIfInBounds_toArray, List.set_cons_zero, List.set_cons_succ]; rfl) ?_ AllReadyIn.nil)
          refine wpAnyIn_ready (rs := [5]) (by kernel_rfl) (by decide) (readyIn1 5 (v := (.slice (some ⟨g, 0, none⟩) (0 + 1) cap)) (w1 := w5) rfl rfl (by kernel_rfl) (run_app rfl rfl rfl rfl HRUN.out) (by rfl) (by show Act.put _ (some 52) _ = _; simp only [Act.put, List.setIfInBounds_toArray, List.set_cons_zero, List.set_cons_succ]; rfl) ?_ AllReadyIn.nil)
          refine wpAnyIn_ready (rs := [6]) (by kernel_rfl) (by decide) (skipIn1 6 (w1 := (w5.setCell ⟨H + 2, 0, none⟩ (.slice (some ⟨g, 0, none⟩) (0 + 1) cap))) rfl rfl (by kernel_rfl) (by go_simp) (by rfl) rfl ?_ AllReadyIn.nil)
          refine wpAnyIn_done (by kernel_rfl) ?_ _
          clear HRUN c5 f5 c4 hb4
          generalize (w5.setCell ⟨H + 2, 0, none⟩ (.slice (some ⟨g, 0, none⟩) (0 + 1) cap)) = W6 at HFIN ⊢
          simp only [Nat.zero_add] at HFIN ⊢
          gi_wp2_with fail
          refine ⟨trivial, (callsIn_wide.2 (chunk_calls _ _ _ 127 (by omega) _)).mono ?_⟩
          rintro e W0 ⟨rfl, hW0⟩
          obtain ⟨S, hS⟩ : ∃ S, W6.heap.size = S := ⟨_, rfl⟩
          have hs0 : W0.heap.size = S + 2 := by rw [hW0]; simp [hS]
          have hHS : H + 3 ≤ S := by rw [← hS]; exact HFIN.out.2.2.2.2.2
          have h1 : W0.heap[S]? = some (.cells #[.slice A1 l1.length c1] 31 (0, 0)) := by rw [hW0, Below.heap_alloc _ _ _ (by rw [World.size_alloc, hS]; omega), ← hS]; exact World.alloc_heap_new _ _
          have h2 : W0.heap[S + 1]? = some (.cells #[.int .i64 127] 3 (0, 0)) := by rw [hW0]; have := World.alloc_heap_new (W6.alloc (.cells #[.slice A1 l1.length c1] 31)) (.cells #[.int .i64 127] 3); rwa [World.size_alloc, hS] at this
          have hv0 : Boxed W0 (H + 2) 33 (.slice (some ⟨g, 0, none⟩) 1 cap) := by rw [hW0]; exact (HFIN.out.2.2.1.alloc _).alloc _
          have hrow0 : W0.ownsRow (H + 3) 9 1 (.slice (some ⟨g, 0, none⟩) 1 cap) (layN l1 l2 0).length ((layN l1 l2 0).map Value.string) := by rw [hW0, show layN l1 l2 0 = topB l2 from List.append_nil _]; exact (HFIN.out.2.2.2.1.alloc _).alloc _
          have rA0 : W0.heap[H]? = some (.cells z6 32 (0, 0)) := by rw [hW0, Below.heap_alloc _ _ _ (by simp; omega), Below.heap_alloc _ _ _ (by omega)]; exact HFIN.out.1
          have rB0 : W0.heap[H + 1]? = some (.cells #[.int .u32 x, .int .u32 0, .int .u32 0, .int .u32 0, .int .u32 0, .int .u32 0] 32 (0, 0)) := by rw [hW0, Below.heap_alloc _ _ _ (by simp; omega), Below.heap_alloc _ _ _ (by omega)]; exact HFIN.out.2.1
          have hB0 : Below H w W0 := by rw [hW0]; exact (HFIN.out.2.2.2.2.1.alloc (by omega) _).alloc (by simp; omega) _
          simp only [hS]
          clear hW0
          gi_wp2
          refine wpIn_rangeN rfl (by omega) (gf := 42) (lb := #[.pointer (some ⟨S, 0, none⟩), .pointer (some ⟨S + 1, 0, none⟩)]) rfl trivial (enters_of Try.func42 (by kernel_rfl) rfl)
            (chunk_seq 9 (by omega) A1 c1 l1 127 (by omega) (by omega) (by omega) hc1 S (S + 1) W0 h1 h2) (Below.refl _ _) (fun _ => rfl) (fun h => h.elim) (fun h => h.elim) (by omega)
            (fun k W => (∃ v, Boxed W (H + 2) 33 v ∧ W.ownsRow (H + 3) 9 1 v (layN l1 l2 k).length ((layN l1 l2 k).map Value.string)) ∧ W.heap[S]? = some (.cells #[.slice A1 l1.length c1] 31 (0, 0)) ∧ W.heap[S + 1]? = some (.cells #[.int .i64 127] 3 (0, 0)) ∧ W.heap[H]? = some (.cells z6 32 (0, 0)) ∧ W.heap[H + 1]? = some (.cells #[.int .u32 x, .int .u32 0, .int .u32 0, .int .u32 0, .int .u32 0, .int .u32 0] 32 (0, 0)) ∧ Below H w W)
            (fun _ _ _ => False)
            (fun k => (stands_ex fun v => (stands_box _ _ _ (by rintro (h | h | h) <;> first | exact h.elim | omega)).and (stands_row2 (fun _ h => h))).and ((stands_blk (by rintro (h | h | h) <;> first | exact h.elim | omega)).and ((stands_blk (by rintro (h | h | h) <;> first | exact h.elim | omega)).and ((stands_blk (by rintro (h | h | h) <;> first | exact h.elim | omega)).and ((stands_blk (by rintro (h | h | h) <;> first | exact h.elim | omega)).and (stands_below (by omega) (by rintro j (h | h | h) <;> first | exact h.elim | omega)))))))
            (fun _ _ _ _ h _ => h)
            ⟨⟨_, hv0, hrow0⟩, h1, h2, rA0, rB0, hB0⟩
            (fun k => { tmps := #[.int .u32 size, .slice A1 l1.length c1, .slice (some ad) l2.length c2, undef, undef, undef, .pointer (some ⟨H, 0, none⟩), .slice none 0 0, .int .i64 0, .pointer (some ⟨H + 1, 0, none⟩), .pointer (some ⟨H + 2, 0, none⟩), .slice (partA 127 (Kd.sz (Kd.int .u32)) A1 k) (partL 127 l1 k).length (partL 127 l1 k).length, .int .u32 size, .bool false, .bool false, .slice A1 l1.length c1, .int .i64 l1.length, .int .u32 size, .int .i64 l1.length, .bool false, .bool false, .bool false, .slice (some ad) l2.length c2, .int .i64 l2.length, .int .u32 size, .int .i64 l2.length, .bool false, .bool false, .bool false, .slice (some ad) l2.length c2, .bool false, .bool false, undef, .slice (some ad) l2.length c2, .int .i64 l2.length, .bool false, undef, undef, undef, undef, .slice (some ad) l2.length c2, .pointer (some ad), .int .u32 x, .pointer (some ⟨H + 1, 0, none⟩), .slice (some ad) l2.length c2, .int .i64 l2.length, .bool true, .slice none 0 0, .slice (some ad) l2.length c2, .slice tA t.length (c2 - 1), .string (blkB t), .slice (some ⟨w4.heap.size, 0, none⟩) 1 1, .slice (some ⟨g, 0, none⟩) 1 cap, .slice A1 l1.length c1, .func (.func 42) #[] #[.pointer (some ⟨S, 0, none⟩), .pointer (some ⟨S + 1, 0, none⟩)], .slice (partA 127 (Kd.sz (Kd.int .u32)) A1 k) (partL 127 l1 k).length (partL 127 l1 k).length, undef, undef, undef, undef, undef, undef, undef], defers := [] }) ?assign ?body ?done ?stop
          case assign =>
            intro lp k W K hK
            gi_wp2
            exact hK
          case body =>
            rintro lp k W hk hWs ⟨⟨v, hv, hrow⟩, b1, b2, rA, rB, hB⟩
            have hkl : 127 * k < l1.length := (partN_lt (by omega) l1 k).1 hk
            obtain ⟨p, hp⟩ : ∃ p, partL 127 l1 k = p := ⟨_, rfl⟩
            obtain ⟨pa, hpa⟩ : ∃ pa, partA 127 (Kd.sz (Kd.int .u32)) A1 k = pa := ⟨_, rfl⟩
            have hBw : Below w.heap.size w W := by rw [hH]; exact hB
            have hpC : Kd.C (Kd.int .u32) W.drew pa p.length p := by rw [← hp, ← hpa]; exact Kd.C_drew (part_C (Kd.C_below HC1.out hBw) (by omega) hkl hc1)
            have hp9 : p.length ≤ 127 := by rw [← hp, partL_len]; omega
            have hpr : ∀ y ∈ p, 0 ≤ y ∧ y < 4294967296 := fun y hy => HR1.out y (by rw [← hp] at hy; exact List.mem_of_mem_take (List.mem_of_mem_drop hy))
            have hnum : (layN l1 l2 k).length ≤ 1000000 := by rw [layN_len]; have := topB_len l2; omega
            have hfin : ∀ w4, Below W.heap.size W w4 → ∃ g cap w5, (Builtin.append_ #[33, 33] 33 #[v, .slice (some ⟨w4.heap.size, 0, none⟩) 1 1]).run Try.prog (w4.alloc (.cells #[.string (blkB p)] 9)) = .ok (.slice (some ⟨g, 0, none⟩) ((layN l1 l2 k).length + 1) cap) w5 ∧ w5.cell? ⟨H + 2, 0, none⟩ = some v ∧ w5.frozen? ⟨H + 2, 0, none⟩ = false ∧ w4.cell? ⟨H + 2, 0, none⟩ = some v ∧ Aside0 (KeepsOthers W (w5.setCell ⟨H + 2, 0, none⟩ (.slice (some ⟨g, 0, none⟩) ((layN l1 l2 k).length + 1) cap)) ∧ KeepAt (fun j => j = S ∨ j = S + 1) W (w5.setCell ⟨H + 2, 0, none⟩ (.slice (some ⟨g, 0, none⟩) ((layN l1 l2 k).length + 1) cap)) ∧ (∃ v, Boxed (w5.setCell ⟨H + 2, 0, none⟩ (.slice (some ⟨g, 0, none⟩) ((layN l1 l2 k).length + 1) cap)) (H + 2) 33 v ∧ (w5.setCell ⟨H + 2, 0, none⟩ (.slice (some ⟨g, 0, none⟩) ((layN l1 l2 k).length + 1) cap)).ownsRow (H + 3) 9 1 v (layN l1 l2 (k + 1)).length ((layN l1 l2 (k + 1)).map Value.string)) ∧ (w5.setCell ⟨H + 2, 0, none⟩ (.slice (some ⟨g, 0, none⟩) ((layN l1 l2 k).length + 1) cap)).heap[S]? = some (.cells #[.slice A1 l1.length c1] 31 (0, 0)) ∧ (w5.setCell ⟨H + 2, 0, none⟩ (.slice (some ⟨g, 0, none⟩) ((layN l1 l2 k).length + 1) cap)).heap[S + 1]? = some (.cells #[.int .i64 127] 3 (0, 0)) ∧ (w5.setCell ⟨H + 2, 0, none⟩ (.slice (some ⟨g, 0, none⟩) ((layN l1 l2 k).length + 1) cap)).heap[H]? = some (.cells z6 32 (0, 0)) ∧ (w5.setCell ⟨H + 2, 0, none⟩ (.slice (some ⟨g, 0, none⟩) ((layN l1 l2 k).length + 1) cap)).heap[H + 1]? = some (.cells #[.int .u32 x, .int .u32 0, .int .u32 0, .int .u32 0, .int .u32 0, .int .u32 0] 32 (0, 0)) ∧ Below H w (w5.setCell ⟨H + 2, 0, none⟩ (.slice (some ⟨g, 0, none⟩) ((layN l1 l2 k).length + 1) cap))) := by
              intro w4 hb4
              have hl : ∀ {j : Nat} {o : Obj}, W.heap[j]? = some o → w4.heap[j]? = some o := fun h => (hb4.block _ (Array.getElem?_eq_some_iff.1 h).1).trans h
              obtain ⟨g, cap, w5, hrun, c1', f1', hv2, hr2, hk2, hb2, hj2⟩ := push_text w4 H v (layN l1 l2 k).length ((layN l1 l2 k).map Value.string) (blkB p) (hl hv) (row_below hrow hb4) hnum (by have := hb4.size; omega)
              have e1 := hj2 S _ _ _ (by omega) (hl b1) (.inr (by decide))
              have e2 := hj2 (S + 1) _ _ _ (by omega) (hl b2) (.inr (by decide))
              refine ⟨g, cap, w5, hrun, c1', f1', Boxed.cell (hl hv), ⟨(others_below hb4).trans hk2, ⟨by have := hb4.size; have := hb2.size; omega, ?_⟩, ⟨_, hv2, ?_⟩, e1, e2, hj2 H _ _ _ (by omega) (hl rA) (.inl (by omega)), hj2 (H + 1) _ _ _ (by omega) (hl rB) (.inl (by omega)), (hB.trans (hb4.mono (by omega))).trans hb2⟩⟩
              · rintro j (rfl | rfl) hlt
                · exact e1.trans b1.symm
                · exact e2.trans b2.symm
              · rw [layN_succ, hp, List.length_append, List.map_append]; exact hr2
            have hc0 : W.drew.cell? ⟨H + 2, 0, none⟩ = some v := hv.cell
            have HPC := Aside0.mk hpC
            have HPR := Aside0.mk hpr
            have HFN := Aside0.mk hfin
            have hbd : Below W.heap.size W W.drew := below_drew1 (Below.refl _ W)
            have HBD := Aside0.mk hbd
            clear hpC hpr hfin hv hrow b1 b2 rA rB hB hBw hnum hbd
            simp only [hp, hpa]
            gi_wp2_with fail
            refine wpIn_region_any (by kernel_rfl) ?_
            refine wpAnyIn_round rfl (by kernel_rfl) _ _ _ _ ?_
            change wpAnyIn _ _ _ _ _ _ _ _ _ W.drew
            refine takeIn 1 (v := .slice pa p.length p.length) rfl rfl (by kernel_rfl) (by kernel_rfl) (by kernel_rfl) (fun _ _ _ h => h) (by kernel_rfl) (fun w => by go_simp) (fun w => by rfl) (by show Act.put _ (some 57) _ = _; simp only [Act.put, List.setIfInBounds_toArray, List.set_cons_zero, List.set_cons_succ]; rfl) ?_
            refine wpAnyIn_ready (rs := [0, 2]) (by kernel_rfl) (by decide) (readyIn 0 (v := v) rfl rfl (by kernel_rfl) (by go_simp) (by rfl) (by show Act.put _ (some 56) _ = _; simp only [Act.put, List.setIfInBounds_toArray, List.set_cons_zero, List.set_cons_succ]; rfl) ?_ (enterIn 2 58 (f := 29) (args := #[.slice pa p.length p.length]) rfl rfl rfl (by kernel_rfl) (by go_simp) (fun _ _ => trivial) (by intro h; cases h) (callsIn_wide.2 (block_calls pa p.length p W.drew HPC.out hp9 HPR.out)) ?_ AllReadyIn.nil))
            · refine wpAnyIn_ready (rs := [2]) (by kernel_rfl) (by decide) (enterIn 2 58 (f := 29) (args := #[.slice pa p.length p.length]) rfl rfl rfl (by kernel_rfl) (by go_simp) (fun _ _ => trivial) (by intro h; cases h) (callsIn_wide.2 (block_calls pa p.length p W.drew HPC.out hp9 HPR.out)) ?_ AllReadyIn.nil)
              rintro e w4 ⟨rfl, hb4⟩
              obtain ⟨g, cap, w5, hrun, c5, f5, c4, hfin⟩ := HFN.out w4 (HBD.out.trans hb4)
              have HRUN := Aside0.mk hrun
              have HFIN := hfin
              clear hrun hfin
              refine ⟨_, rfl, ?_⟩
              refine wpAnyIn_ready (rs := [3]) (by kernel_rfl) (by decide) (readyIn1 3 (v := .slice (some ⟨w4.heap.size, 0, none⟩) 1 1) (w1 := w4.alloc (.cells #[.string (blkB p)] 9)) rfl rfl (by kernel_rfl) (by go_simp) (by rfl) (by show Act.put _ (some 59) _ = _; simp only [Act.put, List.setIfInBounds_toArray, List.set_cons_zero, List.set_cons_succ]; rfl) ?_ AllReadyIn.nil)
              refine wpAnyIn_ready (rs := [4]) (by kernel_rfl) (by decide) (readyIn1 4 (v := (.slice (some ⟨g, 0, none⟩) ((layN l1 l2 k).length + 1) cap)) (w1 := w5) rfl rfl (by kernel_rfl) (run_app rfl rfl rfl rfl HRUN.out) (by rfl) (by show Act.put _ (some 60) _ = _; simp only [Act.put, List.setIfInBounds_toArray, List.set_cons_zero, List.set_cons_succ]; rfl) ?_ AllReadyIn.nil)
              refine wpAnyIn_ready (rs := [5]) (by kernel_rfl) (by decide) (skipIn1 5 (w1 := w5.setCell ⟨H + 2, 0, none⟩ (.slice (some ⟨g, 0, none⟩) ((layN l1 l2 k).length + 1) cap)) rfl rfl (by kernel_rfl) (by go_simp) (by rfl) rfl ?_ AllReadyIn.nil)
              refine wpAnyIn_done (by kernel_rfl) ?_ _
              exact HFIN.out
            · rintro e w4 ⟨rfl, hb4⟩
              obtain ⟨g, cap, w5, hrun, c5, f5, c4, hfin⟩ := HFN.out w4 (HBD.out.trans hb4)
              have HRUN := Aside0.mk hrun
              have HFIN := hfin
              clear hrun hfin
              refine ⟨_, rfl, ?_⟩
              refine wpAnyIn_ready (rs := [0, 3]) (by kernel_rfl) (by decide) (readyIn 0 (v := v) rfl rfl (by kernel_rfl) (by go_simp) (by rfl) (by show Act.put _ (some 56) _ = _; simp only [Act.put, List.setIfInBounds_toArray, List.set_cons_zero, List.set_cons_succ]; rfl) ?_ (readyIn1 3 (v := .slice (some ⟨w4.heap.size, 0, none⟩) 1 1) (w1 := w4.alloc (.cells #[.string (blkB p)] 9)) rfl rfl (by kernel_rfl) (by go_simp) (by rfl) (by show Act.put _ (some 59) _ = _; simp only [Act.put, List.setIfInBounds_toArray, List.set_cons_zero, List.set_cons_succ]; rfl) ?_ AllReadyIn.nil))
              · refine wpAnyIn_ready (rs := [3]) (by kernel_rfl) (by decide) (readyIn1 3 (v := .slice (some ⟨w4.heap.size, 0, none⟩) 1 1) (w1 := w4.alloc (.cells #[.string (blkB p)] 9)) rfl rfl (by kernel_rfl) (by go_simp) (by rfl) (by show Act.put _ (some 59) _ = _; simp only [Act.put, List.setIfInBounds_toArray, List.set_cons_zero, List.set_cons_succ]; rfl) ?_ AllReadyIn.nil)
                refine wpAnyIn_ready (rs := [4]) (by kernel_rfl) (by decide) (readyIn1 4 (v := (.slice (some ⟨g, 0, none⟩) ((layN l1 l2 k).length + 1) cap)) (w1 := w5) rfl rfl (by kernel_rfl) (run_app rfl rfl rfl rfl HRUN.out) (by rfl) (by show Act.put _ (some 60) _ = _; simp only [Act.put, List.setIfInBounds_toArray, List.set_cons_zero, List.set_cons_succ]; rfl) ?_ AllReadyIn.nil)
                refine wpAnyIn_ready (rs := [5]) (by kernel_rfl) (by decide) (skipIn1 5 (w1 := w5.setCell ⟨H + 2, 0, none⟩ (.slice (some ⟨g, 0, none⟩) ((layN l1 l2 k).length + 1) cap)) rfl rfl (by kernel_rfl) (by go_simp) (by rfl) rfl ?_ AllReadyIn.nil)
                refine wpAnyIn_done (by kernel_rfl) ?_ _
                exact HFIN.out
              · have c6 : (w4.alloc (.cells #[.string (blkB p)] 9)).cell? ⟨H + 2, 0, none⟩ = some v := (((Below.refl w4.heap.size w4).alloc (Nat.le_refl _) _).cell (World.block_lt_of_cell? w4 _ c4)).trans c4
                refine wpAnyIn_ready (rs := [0]) (by kernel_rfl) (by decide) (readyIn 0 (v := v) rfl rfl (by kernel_rfl) (by go_simp) (by rfl) (by show Act.put _ (some 56) _ = _; simp only [Act.put, List.setIfInBounds_toArray, List.set_cons_zero, List.set_cons_succ]; rfl) ?_ AllReadyIn.nil)
                refine wpAnyIn_ready (rs := [4]) (by kernel_rfl) (by decide) (readyIn1 4 (v := (.slice (some ⟨g, 0, none⟩) ((layN l1 l2 k).length + 1) cap)) (w1 := w5) rfl rfl (by kernel_rfl) (run_app rfl rfl rfl rfl HRUN.out) (by rfl) (by show Act.put _ (some 60) _ = _; simp only [Act.put, List.setIfInBounds_toArray, List.set_cons_zero, List.set_cons_succ]; rfl) ?_ AllReadyIn.nil)
                refine wpAnyIn_ready (rs := [5]) (by kernel_rfl) (by decide) (skipIn1 5 (w1 := w5.setCell ⟨H + 2, 0, none⟩ (.slice (some ⟨g, 0, none⟩) ((layN l1 l2 k).length + 1) cap)) rfl rfl (by kernel_rfl) (by go_simp) (by rfl) rfl ?_ AllReadyIn.nil)
                refine wpAnyIn_done (by kernel_rfl) ?_ _
                exact HFIN.out
          case done =>
            rintro W ⟨⟨v, hv, hrow⟩, b1, b2, rA, rB, hB⟩ hWs hD
            obtain ⟨⟨q0, q1, q2, q3, q4, q5⟩, f0, f1, f2, f3, f4, f5⟩ := arr_facts rA
            obtain ⟨⟨u0, u1, u2, u3, u4, u5⟩, _⟩ := arr_facts rB
            have hc0 := hv.cell
            have RA := Aside0.mk rA
            have HROW := Aside0.mk hrow
            have HB := Aside0.mk hB
            clear b1 b2 rA rB hrow hB
            have HD := Aside0.mk hD
            clear hD
            gi_wp2
            gi_region
            gi_wp2
            have y1 : ((((((W.setCell ⟨H, 0, none⟩ (.int .u32 x)).setCell ⟨H, 1, none⟩ (.int .u32 0)).setCell ⟨H, 2, none⟩ (.int .u32 0)).setCell ⟨H, 3, none⟩ (.int .u32 0)).setCell ⟨H, 4, none⟩ (.int .u32 0)).setCell ⟨H, 5, none⟩ (.int .u32 0)).heap[W0.heap.size]? = some (.deferred (some [])) := (six_other (by omega) _ _ _ _ _ _).trans HD.out
            have y2 := six_cells RA.out (.int .u32 x) (.int .u32 0) (.int .u32 0) (.int .u32 0) (.int .u32 0) (.int .u32 0)
            have y3 := six_below HB.out (Nat.le_refl H) (.int .u32 x) (.int .u32 0) (.int .u32 0) (.int .u32 0) (.int .u32 0) (.int .u32 0)
            have y4 : ((((((W.setCell ⟨H, 0, none⟩ (.int .u32 x)).setCell ⟨H, 1, none⟩ (.int .u32 0)).setCell ⟨H, 2, none⟩ (.int .u32 0)).setCell ⟨H, 3, none⟩ (.int .u32 0)).setCell ⟨H, 4, none⟩ (.int .u32 0)).setCell ⟨H, 5, none⟩ (.int .u32 0)).ownsRow (H + 3) 9 1 v (layN l1 l2 (partN 127 l1)).length ((layN l1 l2 (partN 127 l1)).map Value.string) := row_same HROW.out (fun j hj => six_other (by omega) _ _ _ _ _ _)
            generalize ((((((W.setCell ⟨H, 0, none⟩ (.int .u32 x)).setCell ⟨H, 1, none⟩ (.int .u32 0)).setCell ⟨H, 2, none⟩ (.int .u32 0)).setCell ⟨H, 3, none⟩ (.int .u32 0)).setCell ⟨H, 4, none⟩ (.int .u32 0)).setCell ⟨H, 5, none⟩ (.int .u32 0)) = WX at y1 y2 y3 y4 ⊢
            have z1 : WX.drew.heap[W0.heap.size]? = some (.deferred (some [])) := y1
            have z2 : WX.drew.heap[H]? = some (.cells #[.int .u32 x, .int .u32 0, .int .u32 0, .int .u32 0, .int .u32 0, .int .u32 0] 32 (0, 0)) := y2
            have z3 : Below H w WX.drew := below_drew1 y3
            have z4 := row_same (W' := WX.drew) y4 (fun _ _ => rfl)
            clear y1 y2 y3 y4
            generalize WX.drew = WX at z1 z2 z3 z4 ⊢
            have x4 : (WX.putObj W0.heap.size (.deferred none)).heap[H]? = some (.cells #[.int .u32 x, .int .u32 0, .int .u32 0, .int .u32 0, .int .u32 0, .int .u32 0] 32 (0, 0)) := (World.putObj_heap_other (by omega)).trans z2
            refine ⟨by simp, .inl ⟨_, _, rfl, run_takeDeferred z1, ?_⟩⟩
            refine ⟨_, results_ctt rfl _ _ H 32 #[.int .u32 x, .int .u32 0, .int .u32 0, .int .u32 0, .int .u32 0, .int .u32 0] (0, 0) _ rfl x4 Try.underlying32 rfl (by kernel_rfl), ⟨⟨_, rfl, ?_⟩, ?_⟩⟩
            · exact row_putObj (row_lower z4 (by omega)) _ z1 rfl
            · rw [hH]; exact z3.trans (belowK_b (w := W0) (by omega) WX _ _ _ (by omega) z1 rfl rfl)
          case stop =>
            intro c k W _ h
            exact h.elim
        · have c6 : (w4.alloc (.cells #[.string (blkB t)] 9)).cell? ⟨H + 2, 0, none⟩ = some (.slice none 0 0) := (((Below.refl w4.heap.size w4).alloc (Nat.le_refl _) _).cell (World.block_lt_of_cell? w4 _ c4)).trans c4
          refine wpAnyIn_ready (rs := [0]) (by kernel_rfl) (by decide) (readyIn 0 (v := .slice none 0 0) rfl rfl (by kernel_rfl) (by go_simp) (by rfl) (by show Act.put _ (some 47) _ = _; simp only [Act.put, List.setIfInBounds_toArray, List.set_cons_zero, List.set_cons_succ]; rfl) ?_ AllReadyIn.nil)
          refine wpAnyIn_ready (rs := [5]) (by kernel_rfl) (by decide) (readyIn1 5 (v := (.slice (some ⟨g, 0, none⟩) (0 + 1) cap)) (w1 := w5) rfl rfl (by kernel_rfl) (run_app rfl rfl rfl rfl HRUN.out) (by rfl) (by show Act.put _ (some 52) _ = _; simp only [Act.put, List.setIfInBounds_toArray, List.set_cons_zero, List.set_cons_succ]; rfl) ?_ AllReadyIn.nil)
          refine wpAnyIn_ready (rs := [6]) (by kernel_rfl) (by decide) (skipIn1 6 (w1 := (w5.setCell ⟨H + 2, 0, none⟩ (.slice (some ⟨g, 0, none⟩) (0 + 1) cap))) rfl rfl (by kernel_rfl) (by go_simp) (by rfl) rfl ?_ AllReadyIn.nil)
          refine wpAnyIn_done (by kernel_rfl) ?_ _
          clear HRUN c5 f5 c4 hb4
          generalize (w5.setCell ⟨H + 2, 0, none⟩ (.slice (some ⟨g, 0, none⟩) (0 + 1) cap)) = W6 at HFIN ⊢
          simp only [Nat.zero_add] at HFIN ⊢
          gi_wp2_with fail
          refine ⟨trivial, (callsIn_wide.2 (chunk_calls _ _ _ 127 (by omega) _)).mono ?_⟩
          rintro e W0 ⟨rfl, hW0⟩
          obtain ⟨S, hS⟩ : ∃ S, W6.heap.size = S := ⟨_, rfl⟩
          have hs0 : W0.heap.size = S + 2 := by rw [hW0]; simp [hS]
          have hHS : H + 3 ≤ S := by rw [← hS]; exact HFIN.out.2.2.2.2.2
          have h1 : W0.heap[S]? = some (.cells #[.slice A1 l1.length c1] 31 (0, 0)) := by rw [hW0, Below.heap_alloc _ _ _ (by rw [World.size_alloc, hS]; omega), ← hS]; exact World.alloc_heap_new _ _
          have h2 : W0.heap[S + 1]? = some (.cells #[.int .i64 127] 3 (0, 0)) := by rw [hW0]; have := World.alloc_heap_new (W6.alloc (.cells #[.slice A1 l1.length c1] 31)) (.cells #[.int .i64 127] 3); rwa [World.size_alloc, hS] at this
          have hv0 : Boxed W0 (H + 2) 33 (.slice (some ⟨g, 0, none⟩) 1 cap) := by rw [hW0]; exact (HFIN.out.2.2.1.alloc _).alloc _
          have hrow0 : W0.ownsRow (H + 3) 9 1 (.slice (some ⟨g, 0, none⟩) 1 cap) (layN l1 l2 0).length ((layN l1 l2 0).map Value.string) := by rw [hW0, show layN l1 l2 0 = topB l2 from List.append_nil _]; exact (HFIN.out.2.2.2.1.alloc _).alloc _
          have rA0 : W0.heap[H]? = some (.cells z6 32 (0, 0)) := by rw [hW0, Below.heap_alloc _ _ _ (by simp; omega), Below.heap_alloc _ _ _ (by omega)]; exact HFIN.out.1
          have rB0 : W0.heap[H + 1]? = some (.cells #[.int .u32 x, .int .u32 0, .int .u32 0, .int .u32 0, .int .u32 0, .int .u32 0] 32 (0, 0)) := by rw [hW0, Below.heap_alloc _ _ _ (by simp; omega), Below.heap_alloc _ _ _ (by omega)]; exact HFIN.out.2.1
          have hB0 : Below H w W0 := by rw [hW0]; exact (HFIN.out.2.2.2.2.1.alloc (by omega) _).alloc (by simp; omega) _
          simp only [hS]
          clear hW0
          gi_wp2
          refine wpIn_rangeN rfl (by omega) (gf := 42) (lb := #[.pointer (some ⟨S, 0, none⟩), .pointer (some ⟨S + 1, 0, none⟩)]) rfl trivial (enters_of Try.func42 (by kernel_rfl) rfl)
            (chunk_seq 9 (by omega) A1 c1 l1 127 (by omega) (by omega) (by omega) hc1 S (S + 1) W0 h1 h2) (Below.refl _ _) (fun _ => rfl) (fun h => h.elim) (fun h => h.elim) (by omega)
            (fun k W => (∃ v, Boxed W (H + 2) 33 v ∧ W.ownsRow (H + 3) 9 1 v (layN l1 l2 k).length ((layN l1 l2 k).map Value.string)) ∧ W.heap[S]? = some (.cells #[.slice A1 l1.length c1] 31 (0, 0)) ∧ W.heap[S + 1]? = some (.cells #[.int .i64 127] 3 (0, 0)) ∧ W.heap[H]? = some (.cells z6 32 (0, 0)) ∧ W.heap[H + 1]? = some (.cells #[.int .u32 x, .int .u32 0, .int .u32 0, .int .u32 0, .int .u32 0, .int .u32 0] 32 (0, 0)) ∧ Below H w W)
            (fun _ _ _ => False)
            (fun k => (stands_ex fun v => (stands_box _ _ _ (by rintro (h | h | h) <;> first | exact h.elim | omega)).and (stands_row2 (fun _ h => h))).and ((stands_blk (by rintro (h | h | h) <;> first | exact h.elim | omega)).and ((stands_blk (by rintro (h | h | h) <;> first | exact h.elim | omega)).and ((stands_blk (by rintro (h | h | h) <;> first | exact h.elim | omega)).and ((stands_blk (by rintro (h | h | h) <;> first | exact h.elim | omega)).and (stands_below (by omega) (by rintro j (h | h | h) <;> first | exact h.elim | omega)))))))
            (fun _ _ _ _ h _ => h)
            ⟨⟨_, hv0, hrow0⟩, h1, h2, rA0, rB0, hB0⟩
            (fun k => { tmps := #[.int .u32 size, .slice A1 l1.length c1, .slice (some ad) l2.length c2, undef, undef, undef, .pointer (some ⟨H, 0, none⟩), .slice none 0 0, .int .i64 0, .pointer (some ⟨H + 1, 0, none⟩), .pointer (some ⟨H + 2, 0, none⟩), .slice (partA 127 (Kd.sz (Kd.int .u32)) A1 k) (partL 127 l1 k).length (partL 127 l1 k).length, .int .u32 size, .bool false, .bool false, .slice A1 l1.length c1, .int .i64 l1.length, .int .u32 size, .int .i64 l1.length, .bool false, .bool false, .bool false, .slice (some ad) l2.length c2, .int .i64 l2.length, .int .u32 size, .int .i64 l2.length, .bool false, .bool false, .bool false, .slice (some ad) l2.length c2, .bool false, .bool false, undef, .slice (some ad) l2.length c2, .int .i64 l2.length, .bool false, undef, undef, undef, undef, .slice (some ad) l2.length c2, .pointer (some ad), .int .u32 x, .pointer (some ⟨H + 1, 0, none⟩), .slice (some ad) l2.length c2, .int .i64 l2.length, .bool true, .slice none 0 0, .slice (some ad) l2.length c2, .slice tA t.length (c2 - 1), .string (blkB t), .slice (some ⟨w4.heap.size, 0, none⟩) 1 1, .slice (some ⟨g, 0, none⟩) 1 cap, .slice A1 l1.length c1, .func (.func 42) #[] #[.pointer (some ⟨S, 0, none⟩), .pointer (some ⟨S + 1, 0, none⟩)], .slice (partA 127 (Kd.sz (Kd.int .u32)) A1 k) (partL 127 l1 k).length (partL 127 l1 k).length, undef, undef, undef, undef, undef, undef, undef], defers := [] }) ?assign ?body ?done ?stop
          case assign =>
            intro lp k W K hK
            gi_wp2
            exact hK
          case body =>
            rintro lp k W hk hWs ⟨⟨v, hv, hrow⟩, b1, b2, rA, rB, hB⟩
            have hkl : 127 * k < l1.length := (partN_lt (by omega) l1 k).1 hk
            obtain ⟨p, hp⟩ : ∃ p, partL 127 l1 k = p := ⟨_, rfl⟩
            obtain ⟨pa, hpa⟩ : ∃ pa, partA 127 (Kd.sz (Kd.int .u32)) A1 k = pa := ⟨_, rfl⟩
            have hBw : Below w.heap.size w W := by rw [hH]; exact hB
            have hpC : Kd.C (Kd.int .u32) W.drew pa p.length p := by rw [← hp, ← hpa]; exact Kd.C_drew (part_C (Kd.C_below HC1.out hBw) (by omega) hkl hc1)
            have hp9 : p.length ≤ 127 := by rw [← hp, partL_len]; omega
            have hpr : ∀ y ∈ p, 0 ≤ y ∧ y < 4294967296 := fun y hy => HR1.out y (by rw [← hp] at hy; exact List.mem_of_mem_take (List.mem_of_mem_drop hy))
            have hnum : (layN l1 l2 k).length ≤ 1000000 := by rw [layN_len]; have := topB_len l2; omega
            have hfin : ∀ w4, Below W.heap.size W w4 → ∃ g cap w5, (Builtin.append_ #[33, 33] 33 #[v, .slice (some ⟨w4.heap.size, 0, none⟩) 1 1]).run Try.prog (w4.alloc (.cells #[.string (blkB p)] 9)) = .ok (.slice (some ⟨g, 0, none⟩) ((layN l1 l2 k).length + 1) cap) w5 ∧ w5.cell? ⟨H + 2, 0, none⟩ = some v ∧ w5.frozen? ⟨H + 2, 0, none⟩ = false ∧ w4.cell? ⟨H + 2, 0, none⟩ = some v ∧ Aside0 (KeepsOthers W (w5.setCell ⟨H + 2, 0, none⟩ (.slice (some ⟨g, 0, none⟩) ((layN l1 l2 k).length + 1) cap)) ∧ KeepAt (fun j => j = S ∨ j = S + 1) W (w5.setCell ⟨H + 2, 0, none⟩ (.slice (some ⟨g, 0, none⟩) ((layN l1 l2 k).length + 1) cap)) ∧ (∃ v, Boxed (w5.setCell ⟨H + 2, 0, none⟩ (.slice (some ⟨g, 0, none⟩) ((layN l1 l2 k).length + 1) cap)) (H + 2) 33 v ∧ (w5.setCell ⟨H + 2, 0, none⟩ (.slice (some ⟨g, 0, none⟩) ((layN l1 l2 k).length + 1) cap)).ownsRow (H + 3) 9 1 v (layN l1 l2 (k + 1)).length ((layN l1 l2 (k + 1)).map Value.string)) ∧ (w5.setCell ⟨H + 2, 0, none⟩ (.slice (some ⟨g, 0, none⟩) ((layN l1 l2 k).length + 1) cap)).heap[S]? = some (.cells #[.slice A1 l1.length c1] 31 (0, 0)) ∧ (w5.setCell ⟨H + 2, 0, none⟩ (.slice (some ⟨g, 0, none⟩) ((layN l1 l2 k).length + 1) cap)).heap[S + 1]? = some (.cells #[.int .i64 127] 3 (0, 0)) ∧ (w5.setCell ⟨H + 2, 0, none⟩ (.slice (some ⟨g, 0, none⟩) ((layN l1 l2 k).length + 1) cap)).heap[H]? = some (.cells z6 32 (0, 0)) ∧ (w5.setCell ⟨H + 2, 0, none⟩ (.slice (some ⟨g, 0, none⟩) ((layN l1 l2 k).length + 1) cap)).heap[H + 1]? = some (.cells #[.int .u32 x, .int .u32 0, .int .u32 0, .int .u32 0, .int .u32 0, .int .u32 0] 32 (0, 0)) ∧ Below H w (w5.setCell ⟨H + 2, 0, none⟩ (.slice (some ⟨g, 0, none⟩) ((layN l1 l2 k).length + 1) cap))) := by
              intro w4 hb4
              have hl : ∀ {j : Nat} {o : Obj}, W.heap[j]? = some o → w4.heap[j]? = some o := fun h => (hb4.block _ (Array.getElem?_eq_some_iff.1 h).1).trans h
              obtain ⟨g, cap, w5, hrun, c1', f1', hv2, hr2, hk2, hb2, hj2⟩ := push_text w4 H v (layN l1 l2 k).length ((layN l1 l2 k).map Value.string) (blkB p) (hl hv) (row_below hrow hb4) hnum (by have := hb4.size; omega)
              have e1 := hj2 S _ _ _ (by omega) (hl b1) (.inr (by decide))
              have e2 := hj2 (S + 1) _ _ _ (by omega) (hl b2) (.inr (by decide))
              refine ⟨g, cap, w5, hrun, c1', f1', Boxed.cell (hl hv), ⟨(others_below hb4).trans hk2, ⟨by have := hb4.size; have := hb2.size; omega, ?_⟩, ⟨_, hv2, ?_⟩, e1, e2, hj2 H _ _ _ (by omega) (hl rA) (.inl (by omega)), hj2 (H + 1) _ _ _ (by omega) (hl rB) (.inl (by omega)), (hB.trans (hb4.mono (by omega))).trans hb2⟩⟩
              · rintro j (rfl | rfl) hlt
                · exact e1.trans b1.symm
                · exact e2.trans b2.symm
              · rw [layN_succ, hp, List.length_append, List.map_append]; exact hr2
            have hc0 : W.drew.cell? ⟨H + 2, 0, none⟩ = some v := hv.cell
            have HPC := Aside0.mk hpC
            have HPR := Aside0.mk hpr
            have HFN := Aside0.mk hfin
            have hbd : Below W.heap.size W W.drew := below_drew1 (Below.refl _ W)
            have HBD := Aside0.mk hbd
            clear hpC hpr hfin hv hrow b1 b2 rA rB hB hBw hnum hbd
            simp only [hp, hpa]
            gi_wp2_with fail
            refine wpIn_region_any (by kernel_rfl) ?_
            refine wpAnyIn_round rfl (by kernel_rfl) _ _ _ _ ?_
            change wpAnyIn _ _ _ _ _ _ _ _ _ W.drew
            refine takeIn 1 (v := .slice pa p.length p.length) rfl rfl (by kernel_rfl) (by kernel_rfl) (by kernel_rfl) (fun _ _ _ h => h) (by kernel_rfl) (fun w => by go_simp) (fun w => by rfl) (by show Act.put _ (some 57) _ = _; simp only [Act.put, List.setIfInBounds_toArray, List.set_cons_zero, List.set_cons_succ]; rfl) ?_
            refine wpAnyIn_ready (rs := [0, 2]) (by kernel_rfl) (by decide) (readyIn 0 (v := v) rfl rfl (by kernel_rfl) (by go_simp) (by rfl) (by show Act.put _ (some 56) _ = _; simp only [Act.put, List.setIfInBounds_toArray, List.set_cons_zero, List.set_cons_succ]; rfl) ?_ (enterIn 2 58 (f := 29) (args := #[.slice pa p.length p.length]) rfl rfl rfl (by kernel_rfl) (by go_simp) (fun _ _ => trivial) (by intro h; cases h) (callsIn_wide.2 (block_calls pa p.length p W.drew HPC.out hp9 HPR.out)) ?_ AllReadyIn.nil))
            · refine wpAnyIn_ready (rs := [2]) (by kernel_rfl) (by decide) (enterIn 2 58 (f := 29) (args := #[.slice pa p.length p.length]) rfl rfl rfl (by kernel_rfl) (by go_simp) (fun _ _ => trivial) (by intro h; cases h) (callsIn_wide.2 (block_calls pa p.length p W.drew HPC.out hp9 HPR.out)) ?_ AllReadyIn.nil)
              rintro e w4 ⟨rfl, hb4⟩
              obtain ⟨g, cap, w5, hrun, c5, f5, c4, hfin⟩ := HFN.out w4 (HBD.out.trans hb4)
              have HRUN := Aside0.mk hrun
              have HFIN := hfin
              clear hrun hfin
              refine ⟨_, rfl, ?_⟩
              refine wpAnyIn_ready (rs := [3]) (by kernel_rfl) (by decide) (readyIn1 3 (v := .slice (some ⟨w4.heap.size, 0, none⟩) 1 1) (w1 := w4.alloc (.cells #[.string (blkB p)] 9)) rfl rfl (by kernel_rfl) (by go_simp) (by rfl) (by show Act.put _ (some 59) _ = _; simp only [Act.put, List.setIfInBounds_toArray, List.set_cons_zero, List.set_cons_succ]; rfl) ?_ AllReadyIn.nil)
              refine wpAnyIn_ready (rs := [4]) (by kernel_rfl) (by decide) (readyIn1 4 (v := (.slice (some ⟨g, 0, none⟩) ((layN l1 l2 k).length + 1) cap)) (w1 := w5) rfl rfl (by kernel_rfl) (run_app rfl rfl rfl rfl HRUN.out) (by rfl) (by show Act.put _ (some 60) _ = _; simp only [Act.put, List.setIfInBounds_toArray, List.set_cons_zero, List.set_cons_succ]; rfl) ?_ AllReadyIn.nil)
              refine wpAnyIn_ready (rs := [5]) (by kernel_rfl) (by decide) (skipIn1 5 (w1 := w5.setCell ⟨H + 2, 0, none⟩ (.slice (some ⟨g, 0, none⟩) ((layN l1 l2 k).length + 1) cap)) rfl rfl (by kernel_rfl) (by go_simp) (by rfl) rfl ?_ AllReadyIn.nil)
              refine wpAnyIn_done (by kernel_rfl) ?_ _
              exact HFIN.out
            · rintro e w4 ⟨rfl, hb4⟩
              obtain ⟨g, cap, w5, hrun, c5, f5, c4, hfin⟩ := HFN.out w4 (HBD.out.trans hb4)
              have HRUN := Aside0.mk hrun
              have HFIN := hfin
              clear hrun hfin
              refine ⟨_, rfl, ?_⟩
              refine wpAnyIn_ready (rs := [0, 3]) (by kernel_rfl) (by decide) (readyIn 0 (v := v) rfl rfl (by kernel_rfl) (by go_simp) (by rfl) (by show Act.put _ (some 56) _ = _; simp only [Act.put, List.setIfInBounds_toArray, List.set_cons_zero, List.set_cons_succ]; rfl) ?_ (readyIn1 3 (v := .slice (some ⟨w4.heap.size, 0, none⟩) 1 1) (w1 := w4.alloc (.cells #[.string (blkB p)] 9)) rfl rfl (by kernel_rfl) (by go_simp) (by rfl) (by show Act.put _ (some 59) _ = _; simp only [Act.put, List.setIfInBounds_toArray, List.set_cons_zero, List.set_cons_succ]; rfl) ?_ AllReadyIn.nil))
              · refine wpAnyIn_ready (rs := [3]) (by kernel_rfl) (by decide) (readyIn1 3 (v := .slice (some ⟨w4.heap.size, 0, none⟩) 1 1) (w1 := w4.alloc (.cells #[.string (blkB p)] 9)) rfl rfl (by kernel_rfl) (by go_simp) (by rfl) (by show Act.put _ (some 59) _ = _; simp only [Act.put, List.setIfInBounds_toArray, List.set_cons_zero, List.set_cons_succ]; rfl) ?_ AllReadyIn.nil)
                refine wpAnyIn_ready (rs := [4]) (by kernel_rfl) (by decide) (readyIn1 4 (v := (.slice (some ⟨g, 0, none⟩) ((layN l1 l2 k).length + 1) cap)) (w1 := w5) rfl rfl (by kernel_rfl) (run_app rfl rfl rfl rfl HRUN.out) (by rfl) (by show Act.put _ (some 60) _ = _; simp only [Act.put, List.setIfInBounds_toArray, List.set_cons_zero, List.set_cons_succ]; rfl) ?_ AllReadyIn.nil)
                refine wpAnyIn_ready (rs := [5]) (by kernel_rfl) (by decide) (skipIn1 5 (w1 := w5.setCell ⟨H + 2, 0, none⟩ (.slice (some ⟨g, 0, none⟩) ((layN l1 l2 k).length + 1) cap)) rfl rfl (by kernel_rfl) (by go_simp) (by rfl) rfl ?_ AllReadyIn.nil)
                refine wpAnyIn_done (by kernel_rfl) ?_ _
                exact HFIN.out
              · have c6 : (w4.alloc (.cells #[.string (blkB p)] 9)).cell? ⟨H + 2, 0, none⟩ = some v := (((Below.refl w4.heap.size w4).alloc (Nat.le_refl _) _).cell (World.block_lt_of_cell? w4 _ c4)).trans c4
                refine wpAnyIn_ready (rs := [0]) (by kernel_rfl) (by decide) (readyIn 0 (v := v) rfl rfl (by kernel_rfl) (by go_simp) (by rfl) (by show Act.put _ (some 56) _ = _; simp only [Act.put, List.setIfInBounds_toArray, List.set_cons_zero, List.set_cons_succ]; rfl) ?_ AllReadyIn.nil)
                refine wpAnyIn_ready (rs := [4]) (by kernel_rfl) (by decide) (readyIn1 4 (v := (.slice (some ⟨g, 0, none⟩) ((layN l1 l2 k).length + 1) cap)) (w1 := w5) rfl rfl (by kernel_rfl) (run_app rfl rfl rfl rfl HRUN.out) (by rfl) (by show Act.put _ (some 60) _ = _; simp only [Act.put, List.setIfInBounds_toArray, List.set_cons_zero, List.set_cons_succ]; rfl) ?_ AllReadyIn.nil)
                refine wpAnyIn_ready (rs := [5]) (by kernel_rfl) (by decide) (skipIn1 5 (w1 := w5.setCell ⟨H + 2, 0, none⟩ (.slice (some ⟨g, 0, none⟩) ((layN l1 l2 k).length + 1) cap)) rfl rfl (by kernel_rfl) (by go_simp) (by rfl) rfl ?_ AllReadyIn.nil)
                refine wpAnyIn_done (by kernel_rfl) ?_ _
                exact HFIN.out
          case done =>
            rintro W ⟨⟨v, hv, hrow⟩, b1, b2, rA, rB, hB⟩ hWs hD
            obtain ⟨⟨q0, q1, q2, q3, q4, q5⟩, f0, f1, f2, f3, f4, f5⟩ := arr_facts rA
            obtain ⟨⟨u0, u1, u2, u3, u4, u5⟩, _⟩ := arr_facts rB
            have hc0 := hv.cell
            have RA := Aside0.mk rA
            have HROW := Aside0.mk hrow
            have HB := Aside0.mk hB
            clear b1 b2 rA rB hrow hB
            have HD := Aside0.mk hD
            clear hD
            gi_wp2
            gi_region
            gi_wp2
            have y1 : ((((((W.setCell ⟨H, 0, none⟩ (.int .u32 x)).setCell ⟨H, 1, none⟩ (.int .u32 0)).setCell ⟨H, 2, none⟩ (.int .u32 0)).setCell ⟨H, 3, none⟩ (.int .u32 0)).setCell ⟨H, 4, none⟩ (.int .u32 0)).setCell ⟨H, 5, none⟩ (.int .u32 0)).heap[W0.heap.size]? = some (.deferred (some [])) := (six_other (by omega) _ _ _ _ _ _).trans HD.out
            have y2 := six_cells RA.out (.int .u32 x) (.int .u32 0) (.int .u32 0) (.int .u32 0) (.int .u32 0) (.int .u32 0)
            have y3 := six_below HB.out (Nat.le_refl H) (.int .u32 x) (.int .u32 0) (.int .u32 0) (.int .u32 0) (.int .u32 0) (.int .u32 0)
            have y4 : ((((((W.setCell ⟨H, 0, none⟩ (.int .u32 x)).setCell ⟨H, 1, none⟩ (.int .u32 0)).setCell ⟨H, 2, none⟩ (.int .u32 0)).setCell ⟨H, 3, none⟩ (.int .u32 0)).setCell ⟨H, 4, none⟩ (.int .u32 0)).setCell ⟨H, 5, none⟩ (.int .u32 0)).ownsRow (H + 3) 9 1 v (layN l1 l2 (partN 127 l1)).length ((layN l1 l2 (partN 127 l1)).map Value.string) := row_same HROW.out (fun j hj => six_other (by omega) _ _ _ _ _ _)
            generalize ((((((W.setCell ⟨H, 0, none⟩ (.int .u32 x)).setCell ⟨H, 1, none⟩ (.int .u32 0)).setCell ⟨H, 2, none⟩ (.int .u32 0)).setCell ⟨H, 3, none⟩ (.int .u32 0)).setCell ⟨H, 4, none⟩ (.int .u32 0)).setCell ⟨H, 5, none⟩ (.int .u32 0)) = WX at y1 y2 y3 y4 ⊢
            have z1 : WX.drew.heap[W0.heap.size]? = some (.deferred (some [])) := y1
            have z2 : WX.drew.heap[H]? = some (.cells #[.int .u32 x, .int .u32 0, .int .u32 0, .int .u32 0, .int .u32 0, .int .u32 0] 32 (0, 0)) := y2
            have z3 : Below H w WX.drew := below_drew1 y3
            have z4 := row_same (W' := WX.drew) y4 (fun _ _ => rfl)
            clear y1 y2 y3 y4
            generalize WX.drew = WX at z1 z2 z3 z4 ⊢
            have x4 : (WX.putObj W0.heap.size (.deferred none)).heap[H]? = some (.cells #[.int .u32 x, .int .u32 0, .int .u32 0, .int .u32 0, .int .u32 0, .int .u32 0] 32 (0, 0)) := (World.putObj_heap_other (by omega)).trans z2
            refine ⟨by simp, .inl ⟨_, _, rfl, run_takeDeferred z1, ?_⟩⟩
            refine ⟨_, results_ctt rfl _ _ H 32 #[.int .u32 x, .int .u32 0, .int .u32 0, .int .u32 0, .int .u32 0, .int .u32 0] (0, 0) _ rfl x4 Try.underlying32 rfl (by kernel_rfl), ⟨⟨_, rfl, ?_⟩, ?_⟩⟩
            · exact row_putObj (row_lower z4 (by omega)) _ z1 rfl
            · rw [hH]; exact z3.trans (belowK_b (w := W0) (by omega) WX _ _ _ (by omega) z1 rfl rfl)
          case stop =>
            intro c k W _ h
            exact h.elim

end Go.Proofs.Ytpgdcpbbfphbiaa.Q

set_option linter.unusedVariables false
set_option linter.unusedSimpArgs false
namespace Go.Proofs.Ytpgdcpbbfphbiaa.Q
open Go.RowKit Go.Shelf Go.Proofs.Ytpgdcpbbfphbiaa.H Go.Proofs.YtpgdcpbbfphbiaaW.PrintWords Go.Proofs.YtpgdcpbbfphbiaaW.PrintLast Go.Proofs.YtpgdcpbbfphbiaaW.PrintMore
def u32L (l : List Int) : Bool := l.all fun x => decide (0 ≤ x ∧ x < 4294967296)
theorem u32L_of {l : List Int} (h : u32L l = true) : ∀ x ∈ l, 0 ≤ x ∧ x < 4294967296 := fun x hx => of_decide_eq_true (List.all_eq_true.1 h x hx)
abbrev LayR := Int × Int × Int × Int × Int × Int × List ByteArray × Int
def layErr : LayR := (0, 0, 0, 0, 0, 0, [], 130)
def layGood (l1 l2 : List Int) : Option LayR :=
  if l2.length = 0 then (if l1.length ≤ 6 then some (l1.getD 0 0, l1.getD 1 0, l1.getD 2 0, l1.getD 3 0, l1.getD 4 0, l1.getD 5 0, [], 0) else none)
  else if l1.length ≤ 1000000 ∧ l2.length ≤ 128 ∧ u32L l1 = true ∧ u32L l2 = true then some (l2.getD 0 0, 0, 0, 0, 0, 0, layN l1 l2 (partN 127 l1), 0) else none
def bmap_Lay.f (size : Int) (l1 l2 : List Int) : Option LayR :=
  if size > 8193532 then some layErr else if (l1.length : Int) = blocksV size then (if (l2.length : Int) = cntV size then ((hasZ l2).bind fun z => if z = true then some layErr else layGood l1 l2) else some layErr) else some layErr
theorem bmap_Lay.calls (size : Int) (A1 : Option Addr) (c1 : Nat) (l1 : List Int) (A2 : Option Addr) (c2 : Nat) (l2 : List Int) (r0 r1 r2 r3 r4 r5 : Int) (r6 : List ByteArray) (r7 : Int) (w : World) (hC1 : Kd.C (Kd.int .u32) w A1 l1.length l1) (hc1 : l1.length ≤ c1) (hC2 : Kd.C (Kd.int .u32) w A2 l2.length l2) (hc2 : l2.length ≤ c2)
    (h : bmap_Lay.f size l1 l2 = some (r0, r1, r2, r3, r4, r5, r6, r7)) :
    Calls Try.prog 15 #[.int .u32 size, .slice A1 l1.length c1, .slice A2 l2.length c2] w fun e w' => ∃ v0_ : Value, e = .returned (.tuple #[.agg #[.int .u32 r0, .int .u32 r1, .int .u32 r2, .int .u32 r3, .int .u32 r4, .int .u32 r5], v0_, .int .i64 r7]) ∧ Kd.R Kd.string 9 w' w.heap.size (fun _ => True) v0_ r6 ∧ Below w.heap.size w w' := by
  unfold bmap_Lay.f at h
  have err : ∀ {e : Ending} {w' : World}, some layErr = some (r0, r1, r2, r3, r4, r5, r6, r7) → (e = .returned (.tuple #[.agg z6, .slice none 0 0, .int .i64 130]) ∧ Below w.heap.size w w') → ∃ v0_ : Value, e = .returned (.tuple #[.agg #[.int .u32 r0, .int .u32 r1, .int .u32 r2, .int .u32 r3, .int .u32 r4, .int .u32 r5], v0_, .int .i64 r7]) ∧ Kd.R Kd.string 9 w' w.heap.size (fun _ => True) v0_ r6 ∧ Below w.heap.size w w' := by
    rintro e w' h ⟨rfl, hb⟩
    cases h
    exact ⟨_, rfl, Kd.R_nil _ _ _ _ _, hb⟩
  by_cases h0 : size > 8193532
  · rw [if_pos h0] at h
    exact (lay_e1 size A1 _ c1 A2 _ c2 w (decide_eq_true h0)).mono fun e w' q => err h q
  rw [if_neg h0] at h
  have hz : decide (8193532 < size) = false := decide_eq_false h0
  by_cases h1 : (l1.length : Int) = blocksV size
  · rw [if_pos h1] at h
    have hbl : inode_Blocks.f size = some (l1.length : Int) := by rw [h1]; rfl
    by_cases h2 : (l2.length : Int) = cntV size
    · rw [if_pos h2] at h
      have hct : bmap_Count.f size = some (l2.length : Int) := by rw [h2]; exact cnt_eq size
      obtain ⟨z, hzz, g⟩ := Option.bind_eq_some_iff.mp h
      clear h
      have h := g
      clear g
      cases z with
      | true =>
        rw [if_pos rfl] at h
        exact (lay_e4 size A1 _ c1 A2 _ c2 l2 rfl w hC2 hc2 hz hbl hct hzz).mono fun e w' q => err h q
      | false =>
        rw [if_neg (by decide)] at h
        unfold layGood at h
        by_cases h3 : l2.length = 0
        · rw [if_pos h3] at h
          obtain rfl : l2 = [] := List.eq_nil_of_length_eq_zero h3
          split at h
          · rename_i h4
            cases h
            refine (lay_0 size A1 c1 l1 A2 c2 w hC1 hC2 hz hbl hct h4 hzz _ _ _ _ _ _ (splice6 l1 h4)).mono ?_
            rintro e w' ⟨rfl, hb⟩
            exact ⟨_, rfl, Kd.R_nil _ _ _ _ _, hb⟩
          · cases h
        · rw [if_neg h3] at h
          split at h
          · rename_i h4
            cases h
            have fin : ∀ {e : Ending} {w' : World}, ((∃ v, e = .returned (.tuple #[.agg #[.int .u32 (l2.getD 0 0), .int .u32 0, .int .u32 0, .int .u32 0, .int .u32 0, .int .u32 0], v, .int .i64 0]) ∧ w'.ownsRow w.heap.size 9 1 v (layN l1 l2 (partN 127 l1)).length ((layN l1 l2 (partN 127 l1)).map Value.string)) ∧ Below w.heap.size w w') → ∃ v0_ : Value, e = .returned (.tuple #[.agg #[.int .u32 (l2.getD 0 0), .int .u32 0, .int .u32 0, .int .u32 0, .int .u32 0, .int .u32 0], v0_, .int .i64 0]) ∧ Kd.R Kd.string 9 w' w.heap.size (fun _ => True) v0_ (layN l1 l2 (partN 127 l1)) ∧ Below w.heap.size w w' := by
              rintro e w' ⟨⟨v, rfl, hrow⟩, hb⟩
              exact ⟨v, rfl, Kd.R_of_own hrow (fun _ _ => trivial), hb⟩
            by_cases h5 : l2.length = 1
            · exact (lay_one size A1 c1 l1 A2 c2 l2 w hC1 hc1 hC2 hc2 hz hbl hct hzz h4.1 h5 h4.2.1 (u32L_of h4.2.2.1) (u32L_of h4.2.2.2)).mono fun e w' q => fin q
            · exact (lay_more size A1 c1 l1 A2 c2 l2 w hC1 hc1 hC2 hc2 hz hbl hct hzz h4.1 (by omega) h4.2.1 (u32L_of h4.2.2.1) (u32L_of h4.2.2.2)).mono fun e w' q => fin q
          · cases h
    · rw [if_neg h2] at h
      exact (lay_e3 size A1 _ c1 A2 _ c2 w hz hbl _ (cnt_eq size) (bne_iff_ne.2 h2)).mono fun e w' q => err h q
  · rw [if_neg h1] at h
    exact (lay_e2 size A1 _ c1 A2 _ c2 w hz (blocksV size) (blocks_eq size) (bne_iff_ne.2 h1)).mono fun e w' q => err h q
end Go.Proofs.Ytpgdcpbbfphbiaa.Q
