/- nautilusref10.mapped: may a map be, of a size? -/
import Derived.Test.YtpgdcpbbfphbiaaQ11
import Derived.Test.YtpgdcpbbfphbiaaHArr
import Derived.Test.YtpgdcpbbfphbiaaHRF
import Derived.Lib.Hide
import Derived.WalkKit
import Derived.OwnWalkIn
import Derived.TacticsInMore
import Derived.LoopNIn
import Derived.LoopIn
import Derived.Sort.QuietIn
import Derived.Test.YtpgdcpbbfphbiaaQ1
import Derived.Test.YtpgdcpbbfphbiaaQ3
import Derived.Shelf.Abstract
set_option linter.unusedVariables false
set_option linter.unusedSimpArgs false
namespace Go.Proofs.Ytpgdcpbbfphbiaa.Q
open Go.RowKit Go.Proofs.Ytpgdcpbbfphbiaa.H Go.Proofs.YtpgdcpbbfphbiaaW.PrintWords Go.Proofs.YtpgdcpbbfphbiaaW.PrintLast Go.Proofs.YtpgdcpbbfphbiaaW.PrintMore
set_option maxRecDepth 100000

/-- Are all of them 0, from the i-th one on? -/
def zeroF (l : List Int) (i : Nat) : Bool := (l.drop i).all (· == 0)
theorem zeroF_step (l : List Int) (i : Nat) (h : i < l.length) : zeroF l i = ((l.getD i 0 == 0) && zeroF l (i + 1)) := by
  unfold zeroF
  rw [List.drop_eq_getElem_cons h, List.all_cons]; simp [h]
theorem zeroF_end (l : List Int) (i : Nat) (h : l.length ≤ i) : zeroF l i = true := by
  unfold zeroF
  rw [List.drop_of_length_le h]; rfl
def nautilusref10_mapped.f (m0 m1 m2 m3 m4 m5 sz : Int) : Option Bool :=
  (nautilusref10_Blocks.f sz).bind fun n => (nautilusref10_Depth.f sz).bind fun d =>
    if d > 0 then (if m0 = 0 then some false else some (zeroF [m0, m1, m2, m3, m4, m5] 1)) else (if 0 ≤ n ∧ n < 9223372036854775000 then some (zeroF [m0, m1, m2, m3, m4, m5] n.toNat) else none)
theorem six_cell {W : World} {H : Nat} {t : TypeId} {m0 m1 m2 m3 m4 m5 : Int} (h : W.heap[H]? = some (.cells #[.int .u32 m0, .int .u32 m1, .int .u32 m2, .int .u32 m3, .int .u32 m4, .int .u32 m5] t (0, 0))) (i : Nat) (hi : i < 6) :
    W.cell? ⟨H, i, none⟩ = some (.int .u32 ([m0, m1, m2, m3, m4, m5].getD i 0)) := by
  rw [Lib.cell_of_heap h]
  match i, hi with
  | 0, _ => rfl
  | 1, _ => rfl
  | 2, _ => rfl
  | 3, _ => rfl
  | 4, _ => rfl
  | 5, _ => rfl
theorem w1 (i : Nat) (h : i ≤ 9223372036854775806) : wrap64 ((i : Int) + 1) = ((i + 1 : Nat) : Int) := by rw [IntWalk.wrap64_in _ (by omega)]; omega

end Go.Proofs.Ytpgdcpbbfphbiaa.Q

set_option linter.unusedVariables false
set_option linter.unusedSimpArgs false
namespace Go.Proofs.Ytpgdcpbbfphbiaa.Q
open Go.RowKit Go.Proofs.Ytpgdcpbbfphbiaa.H Go.Proofs.YtpgdcpbbfphbiaaW.PrintWords Go.Proofs.YtpgdcpbbfphbiaaW.PrintLast Go.Proofs.YtpgdcpbbfphbiaaW.PrintMore
attribute [local go_sem] Oper.semAt_some
set_option maxRecDepth 100000

theorem behind_calls (m0 m1 m2 m3 m4 m5 fr : Int) (w : World) : Calls Try.prog 53 #[.agg #[.int .u32 m0, .int .u32 m1, .int .u32 m2, .int .u32 m3, .int .u32 m4, .int .u32 m5], .int .i64 fr] w fun e w' =>
    e = .returned (.func (.func 60) #[] #[.pointer (some ⟨w.heap.size + 1, 0, none⟩), .pointer (some ⟨w.heap.size, 0, none⟩)]) ∧ w' = (w.alloc (.cells #[.int .u32 m0, .int .u32 m1, .int .u32 m2, .int .u32 m3, .int .u32 m4, .int .u32 m5] 32)).alloc (.cells #[.int .i64 fr] 3) := by
  go_enter Try.func53, Try.ntmps53
  go_wp2
  go_ret
  exact ⟨rfl, rfl⟩
theorem measB (i : Nat) (h : i < 6) : 6 - (intOf (.int .i64 ((i : Int) + 1))).toNat < 6 - (intOf (.int .i64 (i : Int))).toNat := by
  show 6 - ((i : Int) + 1).toNat < 6 - (i : Int).toNat; omega
set_option maxHeartbeats 4000000 in
theorem behind_seq (nn : Nat) (h1n : 1 ≤ nn) (m0 m1 m2 m3 m4 m5 : Int) (fr : Nat) (hfr : fr < 9223372036854775000) (Bm Bf : Nat) (w : World)
    (hBm : w.heap[Bm]? = some (.cells #[.int .u32 m0, .int .u32 m1, .int .u32 m2, .int .u32 m3, .int .u32 m4, .int .u32 m5] 32 (0, 0))) (hBf : w.heap[Bf]? = some (.cells #[.int .i64 fr] 3 (0, 0))) :
    SeqN Fence.wide nn Try.prog 60 #[.pointer (some ⟨Bf, 0, none⟩), .pointer (some ⟨Bm, 0, none⟩)] (fun k => #[.int .u32 ([m0, m1, m2, m3, m4, m5].getD (fr + k) 0)]) (fun _ => False) (fun _ => False) (fun j => j = Bm) (6 - fr) w := fun lp J Jx W hW hJ hJx hY h0 => by
  have hlm : Bm < w.heap.size := (Array.getElem?_eq_some_iff.1 hBm).1
  have hlf : Bf < w.heap.size := (Array.getElem?_eq_some_iff.1 hBf).1
  have hm := (hW.block Bm hlm).trans hBm
  have hf := (hW.block Bf hlf).trans hBf
  have hcf : W.cell? ⟨Bf, 0, none⟩ = some (.int .i64 fr) := by rw [Lib.cell_of_heap hf]; rfl
  clear hW hBm hBf hf
  refine callsIn_of_wp Try.func60 rfl trivial ?_ rfl
  simp only [Try.ntmps60, List.size_toArray, List.length_cons, List.length_nil, Nat.reduceAdd, Nat.reduceSub, Array.replicate_succ, Array.replicate_zero, List.push_toArray, List.append_toArray, List.nil_append, List.cons_append]
  gi_wp2
  gi_loopw [4] (fun i wr => ∃ k : Nat, k ≤ 6 - fr ∧ i = .int .i64 ((fr + k : Nat) : Int) ∧ J k wr ∧ wr.heap[Bm]? = some (.cells #[.int .u32 m0, .int .u32 m1, .int .u32 m2, .int .u32 m3, .int .u32 m4, .int .u32 m5] 32 (0, 0)))
    (fun i _ => 6 - (intOf i).toNat)
  case atStart => exact ⟨0, by omega, rfl, h0, hm⟩
  case round =>
    obtain ⟨k, hk, rfl, hJs, hmk⟩ := hrel
    by_cases hlt : fr + k < 6
    · obtain ⟨i, hi⟩ : ∃ i, fr + k = i := ⟨_, rfl⟩
      have hc := six_cell hmk i (by omega)
      rw [hi]
      have hltz : decide ((i : Int) < 6) = true := decide_eq_true (by omega)
      have hi0 : (0 : Int) ≤ (i : Int) := by omega
      have hi6 : (i : Int) < 6 := by omega
      have hkN : k < 6 - fr := by omega
      obtain ⟨fn, tmps, assign, body, hy, hR⟩ := hY k _ hkN hJs
      rw [hi] at hy
      have HI := Aside0.mk hi
      have HKN := Aside0.mk hkN
      have HLT := Aside0.mk hlt
      clear hi hkN hlt hk
      obtain ⟨u, hu⟩ : ∃ u, [m0, m1, m2, m3, m4, m5].getD i 0 = u := ⟨_, rfl⟩
      rw [hu] at hc hy
      clear hu
      gi_wp2
      refine hR.mono ?_
      rintro e W3 (⟨rfl, hJ3, hk3⟩ | ⟨rfl, hJx3⟩)
      · have hm3 := (hk3.same Bm rfl (Array.getElem?_eq_some_iff.1 hmk).1).trans hmk
        gi_wp2
        go_roundw
        case rel => exact ⟨k + 1, HKN.out, by rw [← HI.out]; rfl, hJ3, hm3⟩
        case measure => exact measB i (by have := HLT.out; have := HI.out; omega)
      · gi_wp2
        refine bodyPost_ret (results_none rfl _ _ _) rfl ?_
        exact ⟨⟨_, rfl⟩, .inr ⟨k + 1, HKN.out, hJx3⟩⟩
    · have hltz : decide (((fr + k : Nat) : Int) < 6) = false := decide_eq_false (by omega)
      have hkk : k = 6 - fr := by omega
      obtain ⟨i, hi⟩ : ∃ i, fr + k = i := ⟨_, rfl⟩
      rw [hi] at hltz ⊢
      have HKK := Aside0.mk hkk
      clear hlt hk hkk hi
      gi_wp2
      go_end0
      exact ⟨⟨_, rfl⟩, .inl (HKK.out ▸ hJs)⟩
end Go.Proofs.Ytpgdcpbbfphbiaa.Q

set_option linter.unusedVariables false
namespace Go.Proofs.Ytpgdcpbbfphbiaa.H
open Go.RowKit
variable {F : Fence} {n : Nat} {P : Program} {ops : Array Oper} {Q : Exit → Act → World → Prop} {md : Region.Mode}
/-- An operation of a region that draws is taken first: it yields its value in whatever world. -/
theorem takeIn (i : Nat) {oi : Oper} {v : Value} {fuel : Nat} {listed : Array Bool} {a a' : Act} {w : World} (hi : ops[i]? = some oi) (hro : F.round = none) (hs : Region.noSelect ops = true)
    (hf : Region.free md ops listed i = true) (hr : (Region.ready md ops listed).contains i = true) (hQ : ∀ c a w, Q (.panic c) (a.put oi.dst v) w → Q (.panic c) a w)
    (hw : Region.wanted oi (yielded ops a.tmps) = true) (hv : ∀ w, (execOp a.eval oi).run P w = .ok (.value v) w) (hab : ∀ w, oi.about P w a.eval = none) (ha : a.put oi.dst v = a')
    (h : wpAnyIn F n P md ops Q fuel (listed.setIfInBounds i true) a' w) : wpAnyIn F n P md ops Q (fuel + 1) listed a w :=
  wpAnyIn_take hro hi hs hf hr hQ ⟨.inl ⟨hw, hv⟩, hab⟩ (ha ▸ h)
/-- One that comes up: it leaves its value, in this world. -/
theorem readyIn (i : Nat) {oi : Oper} {v : Value} {fuel : Nat} {listed : Array Bool} {a a' : Act} {w : World} {rs : List Nat} (hi : ops[i]? = some oi) (hro : F.round = none)
    (hw : Region.wanted oi (yielded ops a.tmps) = true) (hv : (execOp a.eval oi).run P w = .ok (.value v) w) (hab : oi.about P w a.eval = none) (ha : a.put oi.dst v = a')
    (h : wpAnyIn F n P md ops Q fuel (listed.setIfInBounds i true) a' w) (hs : AllReadyIn F n P md ops Q fuel listed a w rs) : AllReadyIn F n P md ops Q fuel listed a w (i :: rs) := by
  refine AllReadyIn.cons hi (fun K' hK => ?_) hs
  rw [if_pos hw]
  unfold Oper.wpIn
  refine ⟨fun f hf => (by rw [hab] at hf; cases hf), ?_⟩
  rw [hro, Oper.semAt_none, hv]
  exact hK _ _ (ha ▸ h)
/-- A call of a function that comes up. -/
theorem enterIn (i : Nat) (d : Tmp) {oi : Oper} {f : FuncId} {args : Array Value} {R : Ending → World → Prop} {fuel : Nat} {listed : Array Bool} {a : Act} {w : World} {rs : List Nat} (hi : ops[i]? = some oi) (hdst : oi.dst = some d) (hro : F.round = none)
    (hw : Region.wanted oi (yielded ops a.tmps) = true) (hv : (execOp a.eval oi).run P w = .ok (.enter f args) w) (hab : ∀ g, oi.about P w a.eval = some g → F.fn g) (hd : F.depth.isSome = true → 1 ≤ n)
    (hR : CallsIn F (n - 1) P f args w R) (h : ∀ e w', R e w' → ∃ v, e = .returned v ∧ wpAnyIn F n P md ops Q fuel (listed.setIfInBounds i true) (a.put (some d) v) w')
    (hs : AllReadyIn F n P md ops Q fuel listed a w rs) : AllReadyIn F n P md ops Q fuel listed a w (i :: rs) := by
  refine AllReadyIn.cons hi (fun K' hK => ?_) hs
  rw [if_pos hw]
  unfold Oper.wpIn
  refine ⟨hab, ?_⟩
  rw [hro, Oper.semAt_none, hv]
  refine ⟨hd, hR.mono ?_⟩
  rintro e w' he
  obtain ⟨v, rfl, h⟩ := h e w' he
  rw [← hdst] at h
  exact hK _ _ h
end Go.Proofs.Ytpgdcpbbfphbiaa.H

set_option linter.unusedVariables false
set_option linter.unusedSimpArgs false
namespace Go.Proofs.Ytpgdcpbbfphbiaa.Q
open Go.RowKit Go.Shelf Go.Proofs.Ytpgdcpbbfphbiaa.H Go.Proofs.YtpgdcpbbfphbiaaW.PrintWords Go.Proofs.YtpgdcpbbfphbiaaW.PrintLast Go.Proofs.YtpgdcpbbfphbiaaW.PrintMore
attribute [local go_sem] Oper.semAt_some
attribute [local go_sem high] eqA32
set_option maxRecDepth 100000

/-- Is none of them above 0, from the i-th one on? -/
def noneF (l : List Int) (i : Nat) : Bool := (l.drop i).all (fun x => !decide (x > 0))
theorem noneF_step (l : List Int) (i : Nat) (h : i < l.length) : noneF l i = ((!decide (l.getD i 0 > 0)) && noneF l (i + 1)) := by
  unfold noneF
  rw [List.drop_eq_getElem_cons h, List.all_cons]; simp [h]
theorem noneF_end (l : List Int) (i : Nat) (h : l.length ≤ i) : noneF l i = true := by
  unfold noneF
  rw [List.drop_of_length_le h]; rfl
def inode_isMap.f (m0 m1 m2 m3 m4 m5 sz : Int) : Option Bool :=
  (inode_Depth.f sz).bind fun d => if d > 0 then (if m0 > 0 then some (m1 == 0 && (m2 == 0 && (m3 == 0 && (m4 == 0 && m5 == 0)))) else some false)
    else (inode_Blocks.f sz).bind fun n => if 0 ≤ n ∧ n < 9223372036854775000 then some (noneF [m0, m1, m2, m3, m4, m5] n.toNat) else none
set_option maxHeartbeats 8000000 in
theorem isMap_one (m0 m1 m2 m3 m4 m5 sz d : Int) (w : World) (hd : inode_Depth.f sz = some d) (hd0 : d > 0) (r : Bool) (hr : (if m0 > 0 then (m1 == 0 && (m2 == 0 && (m3 == 0 && (m4 == 0 && m5 == 0)))) else false) = r) :
    Calls Try.prog 44 #[.agg #[.int .u32 m0, .int .u32 m1, .int .u32 m2, .int .u32 m3, .int .u32 m4, .int .u32 m5], .int .u32 sz] w fun e w' => e = .returned (.bool r) ∧ Below w.heap.size w w' := by
  have hd1 : decide (0 < d) = true := decide_eq_true hd0
  clear hd0
  go_enter Try.func44, Try.ntmps44
  go_wp2_with fail
  refine wp_scope_straight ?_
  go_wp2_with fail
  refine (inode_Depth.calls sz d _ hd).mono ?_
  rintro e w1 ⟨rfl, hb1⟩
  have hx : w1.heap[w.heap.size]? = some (.cells #[.int .u32 m0, .int .u32 m1, .int .u32 m2, .int .u32 m3, .int .u32 m4, .int .u32 m5] 32 (0, 0)) := by
    obtain ⟨n1, rfl⟩ := hb1.out
    exact World.alloc_heap_new w _
  have hB : Below w.heap.size w w1 := by
    obtain ⟨n1, rfl⟩ := hb1.out
    exact pw_below_drewN ((Below.refl _ w).alloc (Nat.le_refl _) _) n1
  have c0 := six_cell hx 0 (by omega)
  have c1 := six_cell hx 1 (by omega)
  have c2 := six_cell hx 2 (by omega)
  have c3 := six_cell hx 3 (by omega)
  have c4 := six_cell hx 4 (by omega)
  have c5 := six_cell hx 5 (by omega)
  simp only [List.getD_cons_zero, List.getD_cons_succ] at c0 c1 c2 c3 c4 c5
  clear hb1 hx
  by_cases hm : m0 > 0
  · have hm1 : decide (0 < m0) = true := decide_eq_true hm
    rw [if_pos hm] at hr
    clear hm
    go_wp2_with fail
    (try simp only [Exit.noGoto])
    go_ret
    exact ⟨rfl, hB⟩
  · have hm1 : decide (0 < m0) = false := decide_eq_false hm
    rw [if_neg hm] at hr
    clear hm
    subst hr
    go_wp2_with fail
    (try simp only [Exit.noGoto])
    go_ret
    exact ⟨rfl, hB⟩
theorem noneF_all (l : List Int) (i : Nat) (h : ∀ j, j < l.length - i → ¬ l.getD (i + j) 0 > 0) : noneF l i = true := by
  unfold noneF
  rw [List.all_eq_true]
  intro x hx
  obtain ⟨j, hj, rfl⟩ := List.mem_iff_getElem.1 hx
  rw [List.length_drop] at hj
  have := h j hj
  rw [List.getElem_drop]
  have hg : l.getD (i + j) 0 = l[i + j]'(by omega) := by simp [show i + j < l.length by omega]
  rw [hg] at this
  simpa using this
theorem noneF_no (l : List Int) (i j : Nat) (hj : j < l.length - i) (h : l.getD (i + j) 0 > 0) : noneF l i = false := by
  rw [Bool.eq_false_iff]
  intro e
  unfold noneF at e
  rw [List.all_eq_true] at e
  have := e (l[i + j]'(by omega)) (by
    rw [List.mem_iff_getElem]
    exact ⟨j, by rw [List.length_drop]; omega, by rw [List.getElem_drop]⟩)
  have hg : l.getD (i + j) 0 = l[i + j]'(by omega) := by simp [show i + j < l.length by omega]
  rw [hg] at h
  simp at this; omega
set_option maxHeartbeats 8000000 in
theorem isMap_many (m0 m1 m2 m3 m4 m5 sz d : Int) (n : Nat) (w : World) (hd : inode_Depth.f sz = some d) (hd0 : ¬ d > 0) (hn : inode_Blocks.f sz = some (n : Int)) (hnb : n < 9223372036854775000) :
    Calls Try.prog 44 #[.agg #[.int .u32 m0, .int .u32 m1, .int .u32 m2, .int .u32 m3, .int .u32 m4, .int .u32 m5], .int .u32 sz] w fun e w' => e = .returned (.bool (noneF [m0, m1, m2, m3, m4, m5] n)) ∧ Below w.heap.size w w' := by
  have hd1 : decide (0 < d) = false := decide_eq_false hd0
  clear hd0
  refine (callsIn_wide (n := 10)).1 ?_
  refine callsIn_of_wp_marks Try.func44 rfl trivial ?_ rfl
  simp only [Try.ntmps44, List.size_toArray, List.length_cons, List.length_nil, Nat.reduceAdd, Nat.reduceSub, Array.replicate_succ, Array.replicate_zero, List.push_toArray, List.append_toArray, List.nil_append, List.cons_append]
  gi_wp2_with fail
  refine wpIn_scope ?_
  gi_wp2_with fail
  refine ⟨trivial, (callsIn_wide.2 (inode_Depth.calls sz d _ hd)).mono ?_⟩
  rintro e w1 ⟨rfl, hb1⟩
  obtain ⟨H, hH⟩ : ∃ H, w.heap.size = H := ⟨_, rfl⟩
  have hx : w1.heap[H]? = some (.cells #[.int .u32 m0, .int .u32 m1, .int .u32 m2, .int .u32 m3, .int .u32 m4, .int .u32 m5] 32 (0, 0)) := by
    obtain ⟨n1, rfl⟩ := hb1.out
    rw [← hH]; exact World.alloc_heap_new w _
  have hB : Below H w w1 := by
    obtain ⟨n1, rfl⟩ := hb1.out
    rw [← hH]; exact pw_below_drewN ((Below.refl _ w).alloc (Nat.le_refl _) _) n1
  have hs : w1.heap.size = H + 1 := by
    obtain ⟨n1, rfl⟩ := hb1.out
    rw [← hH]; simp [World.drewN]
  clear hb1
  gi_wp2_with fail
  have hx2 : (w1.alloc (.cells #[.bool true] 4)).heap[H]? = some (.cells #[.int .u32 m0, .int .u32 m1, .int .u32 m2, .int .u32 m3, .int .u32 m4, .int .u32 m5] 32 (0, 0)) := (Below.heap_alloc _ _ _ (by omega)).trans hx
  have hB2 : Below H w (w1.alloc (.cells #[.bool true] 4)) := hB.alloc (by omega) _
  have hs2 : (w1.alloc (.cells #[.bool true] 4)).heap.size = H + 2 := by rw [World.size_alloc, hs]
  have ho2 : Boxed (w1.alloc (.cells #[.bool true] 4)) (H + 1) 4 (.bool true) := by have := Boxed.new w1 4 (.bool true); rwa [hs] at this
  generalize w1.alloc (.cells #[.bool true] 4) = w2 at hx2 hB2 hs2 ho2 ⊢
  clear hx hB hs w1
  refine wpIn_label ?_
  gi_wp2_with fail
  refine wpIn_mono (Q := fun e a' W' => e = .normal ∧ a' = { tmps := #[.agg #[.int .u32 m0, .int .u32 m1, .int .u32 m2, .int .u32 m3, .int .u32 m4, .int .u32 m5], .int .u32 sz, .pointer (some ⟨H, 0, none⟩), undef, .bool false, .pointer (some ⟨H + 1, 0, none⟩), undef, .int .u32 sz, .int .i64 d, .bool false, undef, undef, undef, undef, undef, undef, undef, undef, undef, undef,
      .agg #[.int .u32 m0, .int .u32 m1, .int .u32 m2, .int .u32 m3, .int .u32 m4, .int .u32 m5], .int .u32 sz, .int .i64 n, .func (.func 60) #[] #[.pointer (some ⟨H + 3, 0, none⟩), .pointer (some ⟨H + 2, 0, none⟩)], undef, undef, undef, undef], defers := [] } ∧
      W'.heap[H + 2]? = some (.cells #[.int .u32 m0, .int .u32 m1, .int .u32 m2, .int .u32 m3, .int .u32 m4, .int .u32 m5] 32 (0, 0)) ∧ W'.heap[H + 3]? = some (.cells #[.int .i64 n] 3 (0, 0)) ∧ Boxed W' (H + 1) 4 (.bool true) ∧ Below H w W' ∧ W'.heap.size = H + 4) ?_ ?_
  · refine wpIn_region_any (by kernel_rfl) ?_
    change wpAnyIn _ _ _ _ _ _ _ _ _ w2.drew
    have hx2' : w2.drew.heap[H]? = some (.cells #[.int .u32 m0, .int .u32 m1, .int .u32 m2, .int .u32 m3, .int .u32 m4, .int .u32 m5] 32 (0, 0)) := hx2
    have q0 : w2.drew.cell? ⟨H, 0, none⟩ = some (.int .u32 m0) := six_cell hx2' 0 (by omega)
    have q1 : w2.drew.cell? ⟨H, 1, none⟩ = some (.int .u32 m1) := six_cell hx2' 1 (by omega)
    have q2 : w2.drew.cell? ⟨H, 2, none⟩ = some (.int .u32 m2) := six_cell hx2' 2 (by omega)
    have q3 : w2.drew.cell? ⟨H, 3, none⟩ = some (.int .u32 m3) := six_cell hx2' 3 (by omega)
    have q4 : w2.drew.cell? ⟨H, 4, none⟩ = some (.int .u32 m4) := six_cell hx2' 4 (by omega)
    have q5 : w2.drew.cell? ⟨H, 5, none⟩ = some (.int .u32 m5) := six_cell hx2' 5 (by omega)
    have fin : ∀ W : World, (∃ nq, W = w2.drew.drewN nq) → ((W.alloc (.cells #[.int .u32 m0, .int .u32 m1, .int .u32 m2, .int .u32 m3, .int .u32 m4, .int .u32 m5] 32)).alloc (.cells #[.int .i64 n] 3)).heap[H + 2]? = some (.cells #[.int .u32 m0, .int .u32 m1, .int .u32 m2, .int .u32 m3, .int .u32 m4, .int .u32 m5] 32 (0, 0)) ∧
        ((W.alloc (.cells #[.int .u32 m0, .int .u32 m1, .int .u32 m2, .int .u32 m3, .int .u32 m4, .int .u32 m5] 32)).alloc (.cells #[.int .i64 n] 3)).heap[H + 3]? = some (.cells #[.int .i64 n] 3 (0, 0)) ∧ Boxed ((W.alloc (.cells #[.int .u32 m0, .int .u32 m1, .int .u32 m2, .int .u32 m3, .int .u32 m4, .int .u32 m5] 32)).alloc (.cells #[.int .i64 n] 3)) (H + 1) 4 (.bool true) ∧
        Below H w ((W.alloc (.cells #[.int .u32 m0, .int .u32 m1, .int .u32 m2, .int .u32 m3, .int .u32 m4, .int .u32 m5] 32)).alloc (.cells #[.int .i64 n] 3)) ∧ ((W.alloc (.cells #[.int .u32 m0, .int .u32 m1, .int .u32 m2, .int .u32 m3, .int .u32 m4, .int .u32 m5] 32)).alloc (.cells #[.int .i64 n] 3)).heap.size = H + 4 ∧ W.heap.size = H + 2 := fun W hW => by
      obtain ⟨nq, rfl⟩ := hW
      have hsq : (w2.drew.drewN nq).heap.size = H + 2 := hs2
      refine ⟨?_, ?_, ((show Boxed (w2.drew.drewN nq) (H + 1) 4 (.bool true) from ho2).alloc _).alloc _, ((show Below H w (w2.drew.drewN nq) from pw_below_drewN (pw_below_drewN hB2 1) nq).alloc (by omega) _).alloc (by rw [World.size_alloc]; omega) _, by rw [World.size_alloc, World.size_alloc, hsq], hsq⟩
      · rw [Below.heap_alloc _ _ _ (by rw [World.size_alloc]; omega), ← hsq]; exact World.alloc_heap_new _ _
      · have := World.alloc_heap_new ((w2.drew.drewN nq).alloc (.cells #[.int .u32 m0, .int .u32 m1, .int .u32 m2, .int .u32 m3, .int .u32 m4, .int .u32 m5] 32)) (.cells #[.int .i64 n] 3)
        rw [World.size_alloc, hsq] at this; exact this
    refine takeIn 1 (v := .int .u32 sz) rfl rfl (by kernel_rfl) (by kernel_rfl) (by kernel_rfl) (fun _ _ _ h => by cases h.1) (by kernel_rfl) (fun w => by go_simp) (fun w => by rfl) (by show Act.put _ (some 21) _ = _; simp only [Act.put, List.setIfInBounds_toArray, List.set_cons_zero, List.set_cons_succ]; rfl) ?_
    refine wpAnyIn_ready (rs := [0, 2]) (by kernel_rfl) (by decide) (readyIn 0 (v := .agg #[.int .u32 m0, .int .u32 m1, .int .u32 m2, .int .u32 m3, .int .u32 m4, .int .u32 m5]) rfl rfl (by kernel_rfl) (by go_simp) (by rfl) (by show Act.put _ (some 20) _ = _; simp only [Act.put, List.setIfInBounds_toArray, List.set_cons_zero, List.set_cons_succ]; rfl) ?_ (enterIn 2 22 (f := 22) (args := #[.int .u32 sz]) rfl rfl rfl (by kernel_rfl) (by go_simp) (fun _ _ => trivial) (by intro h; cases h) (callsIn_wide.2 (inode_Blocks.calls sz n _ hn)) ?_ AllReadyIn.nil))
    · refine wpAnyIn_ready (rs := [2]) (by kernel_rfl) (by decide) (enterIn 2 22 (f := 22) (args := #[.int .u32 sz]) rfl rfl rfl (by kernel_rfl) (by go_simp) (fun _ _ => trivial) (by intro h; cases h) (callsIn_wide.2 (inode_Blocks.calls sz n _ hn)) ?_ AllReadyIn.nil)
      rintro e w3 ⟨rfl, hD⟩
      obtain ⟨nq, rfl⟩ := hD.out
      refine ⟨_, rfl, ?_⟩
      refine wpAnyIn_ready (rs := [3]) (by kernel_rfl) (by decide) (enterIn 3 23 (f := 53) (args := #[.agg #[.int .u32 m0, .int .u32 m1, .int .u32 m2, .int .u32 m3, .int .u32 m4, .int .u32 m5], .int .i64 n]) rfl rfl rfl (by kernel_rfl) (by go_simp) (fun _ _ => trivial) (by intro h; cases h) (callsIn_wide.2 (behind_calls m0 m1 m2 m3 m4 m5 n _)) ?_ AllReadyIn.nil)
      rintro e w4 ⟨rfl, rfl⟩
      obtain ⟨f1, f2, f3, f4, f5, f6⟩ := fin (w2.drew.drewN nq) ⟨nq, rfl⟩
      refine ⟨_, rfl, wpAnyIn_done (by kernel_rfl) ?_ _⟩
      refine ⟨rfl, ?_, f1, f2, f3, f4, f5⟩
      rw [f6]
      simp only [Act.put, List.setIfInBounds_toArray, List.set_cons_zero, List.set_cons_succ]

    · rintro e w3 ⟨rfl, hD⟩
      obtain ⟨nq, rfl⟩ := hD.out
      have p0 : w2.cell? ⟨H, 0, none⟩ = some (.int .u32 m0) := q0
      have p1 : w2.cell? ⟨H, 1, none⟩ = some (.int .u32 m1) := q1
      have p2 : w2.cell? ⟨H, 2, none⟩ = some (.int .u32 m2) := q2
      have p3 : w2.cell? ⟨H, 3, none⟩ = some (.int .u32 m3) := q3
      have p4 : w2.cell? ⟨H, 4, none⟩ = some (.int .u32 m4) := q4
      have p5 : w2.cell? ⟨H, 5, none⟩ = some (.int .u32 m5) := q5
      refine ⟨_, rfl, ?_⟩
      refine wpAnyIn_ready (rs := [0]) (by kernel_rfl) (by decide) (readyIn 0 (v := .agg #[.int .u32 m0, .int .u32 m1, .int .u32 m2, .int .u32 m3, .int .u32 m4, .int .u32 m5]) rfl rfl (by kernel_rfl) (by go_simp) (by rfl) (by show Act.put _ (some 20) _ = _; simp only [Act.put, List.setIfInBounds_toArray, List.set_cons_zero, List.set_cons_succ]; rfl) ?_ AllReadyIn.nil)
      refine wpAnyIn_ready (rs := [3]) (by kernel_rfl) (by decide) (enterIn 3 23 (f := 53) (args := #[.agg #[.int .u32 m0, .int .u32 m1, .int .u32 m2, .int .u32 m3, .int .u32 m4, .int .u32 m5], .int .i64 n]) rfl rfl rfl (by kernel_rfl) (by go_simp) (fun _ _ => trivial) (by intro h; cases h) (callsIn_wide.2 (behind_calls m0 m1 m2 m3 m4 m5 n _)) ?_ AllReadyIn.nil)
      rintro e w4 ⟨rfl, rfl⟩
      obtain ⟨f1, f2, f3, f4, f5, f6⟩ := fin (w2.drew.drewN nq) ⟨nq, rfl⟩
      refine ⟨_, rfl, wpAnyIn_done (by kernel_rfl) ?_ _⟩
      refine ⟨rfl, ?_, f1, f2, f3, f4, f5⟩
      rw [f6]
      simp only [Act.put, List.setIfInBounds_toArray, List.set_cons_zero, List.set_cons_succ]

  · rintro e a' W' ⟨rfl, rfl, x2, x3, o1, b1, s1⟩
    gi_wp2_with fail
    have hm6 : ([m0, m1, m2, m3, m4, m5] : List Int).length = 6 := rfl
    refine wpIn_rangeN rfl (by omega) (gf := 60) (lb := #[.pointer (some ⟨H + 3, 0, none⟩), .pointer (some ⟨H + 2, 0, none⟩)]) rfl trivial (enters_of Try.func60 (by kernel_rfl) rfl)
      (behind_seq 9 (by omega) m0 m1 m2 m3 m4 m5 n hnb (H + 2) (H + 3) W' x2 x3) (Below.refl _ _) (fun _ => rfl) (fun h => h.elim) (fun h => h.elim) (by omega)
      (fun k W => Boxed W (H + 1) 4 (.bool true) ∧ Below H w W ∧ Aside0 (∀ j, j < k → ¬ [m0, m1, m2, m3, m4, m5].getD (n + j) 0 > 0))
      (fun c k W => c = .exit 0 ∧ Boxed W (H + 1) 4 (.bool false) ∧ Below H w W ∧ noneF [m0, m1, m2, m3, m4, m5] n = false)
      (fun k => (stands_box _ _ _ (by rintro (h | h | h) <;> first | exact h.elim | omega)).and ((stands_below (by omega) (by rintro j (h | h | h) <;> first | exact h.elim | omega)).and (stands_pure _)))
      (fun c k => (stands_pure _).and ((stands_box _ _ _ (by rintro (h | h | h) <;> first | exact h.elim | omega)).and ((stands_below (by omega) (by rintro j (h | h | h) <;> first | exact h.elim | omega)).and (stands_pure _))))
      ⟨o1, b1, ⟨fun j h => absurd h (Nat.not_lt_zero _)⟩⟩
      (fun k => { tmps := #[.agg #[.int .u32 m0, .int .u32 m1, .int .u32 m2, .int .u32 m3, .int .u32 m4, .int .u32 m5], .int .u32 sz, .pointer (some ⟨H, 0, none⟩), undef, .bool false, .pointer (some ⟨H + 1, 0, none⟩), .int .u32 ([m0, m1, m2, m3, m4, m5].getD (n + k) 0), .int .u32 sz, .int .i64 d, .bool false, undef, undef, undef, undef, undef, undef, undef, undef, undef, undef,
        .agg #[.int .u32 m0, .int .u32 m1, .int .u32 m2, .int .u32 m3, .int .u32 m4, .int .u32 m5], .int .u32 sz, .int .i64 n, .func (.func 60) #[] #[.pointer (some ⟨H + 3, 0, none⟩), .pointer (some ⟨H + 2, 0, none⟩)], .int .u32 ([m0, m1, m2, m3, m4, m5].getD (n + k) 0), undef, undef, undef], defers := [] }) ?assign ?body ?done ?stop
    case assign =>
      intro lo k W K hK
      gi_wp2
      exact hK
    case body =>
      rintro lo k W hk hWs ⟨o, b, hall⟩
      obtain ⟨u, hu⟩ : ∃ u, [m0, m1, m2, m3, m4, m5].getD (n + k) 0 = u := ⟨_, rfl⟩
      have hno := noneF_no [m0, m1, m2, m3, m4, m5] n k (by rw [hm6]; exact hk)
      rw [hu] at hno
      simp only [hu]
      have oc := o.cell
      have of := o.frozen
      by_cases hu0 : u > 0
      · have hu1 : decide (0 < u) = true := decide_eq_true hu0
        have hno' := hno hu0
        have HU := Aside0.mk hu
        clear hno hu hu0
        gi_wp2
        exact ⟨KeepsOthers.setCell _ _ _, by first | exact ⟨rfl, o.set _, b.setCell (p := ⟨H + 1, 0, none⟩) (Nat.le_succ H) _, hno'⟩ | exact ⟨rfl, o.set _, b.setCell (p := ⟨H + 1, 0, none⟩) (Nat.le_succ H) _⟩⟩
      · have hu1 : decide (0 < u) = false := decide_eq_false hu0
        have HU := Aside0.mk hu
        have HU0 := Aside0.mk hu0
        clear hno hu hu0
        gi_wp2
        refine ⟨KeepsOthers.refl _, KeepAt.refl _ _, o, b, ⟨fun j hj => ?_⟩⟩
        by_cases e : j = k
        · subst e; have h1 := HU.out; have h2 := HU0.out; rw [← h1] at h2; simpa using h2
        · have h1 := hall.out j (by omega); simpa using h1
    case done =>
      rintro W ⟨o, b, hall⟩ hWs hD
      have oc := o.cell
      have hr := noneF_all [m0, m1, m2, m3, m4, m5] n (by rw [hm6]; exact hall.out)
      gi_wp2
      rw [s1] at hD
      refine ⟨by simp, .inl ⟨_, _, rfl, run_takeDeferred hD, ?_⟩⟩
      refine ⟨_, results_tmp rfl _ _ _, ⟨by rw [hr]; rfl, ?_⟩⟩
      rw [hH]
      exact b.trans (belowK_b (w := w) (by omega) W _ _ _ (by omega) hD rfl rfl)
    case stop =>
      rintro c k W hk ⟨rfl, o, b, hr⟩ hWs hD
      have oc := o.cell
      gi_wp2
      simp only [Exit.noGoto]
      refine ⟨by simp, .inl ⟨_, _, rfl, run_takeDeferred hD, ?_⟩⟩
      refine ⟨_, results_tmp rfl _ _ _, ⟨by rw [hr]; rfl, ?_⟩⟩
      rw [hH]
      exact b.trans (belowK_b (w := w) (by omega) W _ _ _ (by omega) hD rfl rfl)
theorem inode_isMap.calls (m0 m1 m2 m3 m4 m5 sz : Int) (r : Bool) (w : World) (h : inode_isMap.f m0 m1 m2 m3 m4 m5 sz = some r) :
    Calls Try.prog 44 #[.agg #[.int .u32 m0, .int .u32 m1, .int .u32 m2, .int .u32 m3, .int .u32 m4, .int .u32 m5], .int .u32 sz] w fun e w' => e = .returned (.bool r) ∧ Below w.heap.size w w' := by
  unfold inode_isMap.f at h
  obtain ⟨d, hd, h⟩ := Option.bind_eq_some_iff.mp h
  by_cases hd0 : d > 0
  · rw [if_pos hd0] at h
    refine isMap_one m0 m1 m2 m3 m4 m5 sz d w hd hd0 r ?_
    by_cases hm : m0 > 0
    · rw [if_pos hm] at h ⊢; exact Option.some.inj h
    · rw [if_neg hm] at h ⊢; exact Option.some.inj h
  · rw [if_neg hd0] at h
    obtain ⟨n, hn, h⟩ := Option.bind_eq_some_iff.mp h
    by_cases hb : 0 ≤ n ∧ n < 9223372036854775000
    · rw [if_pos hb] at h
      obtain ⟨q, rfl⟩ := Int.eq_ofNat_of_zero_le hb.1
      rw [Int.toNat_natCast] at h
      have hr := Option.some.inj h
      rw [← hr]
      exact isMap_many m0 m1 m2 m3 m4 m5 sz d q w hd hd0 hn (by omega)
    · rw [if_neg hb] at h; cases h
end Go.Proofs.Ytpgdcpbbfphbiaa.Q
