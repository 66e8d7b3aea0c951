/- cps.Decode: the table of blocks. -/
import Derived.Test.YthgefgjaihagoaaQ11
import Derived.Test.YthgefgjaihagoaaQ12
import Derived.Test.YthgefgjaihagoaaHEncK
import Derived.Test.YthgefgjaihagoaaHRW
import Derived.Test.YthgefgjaihagoaaPVal
set_option linter.unusedVariables false
set_option linter.unusedSimpArgs false
namespace Go.Proofs.Ythgefgjaihagoaa.C
open Go.RowKit Go.Shelf Go.Proofs.Ythgefgjaihagoaa.H Go.Proofs.Ythgefgjaihagoaa.P Go.Proofs.YthgefgjaihagoaaW.PrintWords Go.Proofs.YthgefgjaihagoaaW.PrintLast Go.Proofs.YthgefgjaihagoaaW.PrintMore Go.Proofs.Ythgefgjaihagoaa.Q
attribute [local go_sem] Oper.semAt_some
set_option maxRecDepth 100000

/-- Is there nothing more from the k-th one on? -/
def chkStop (b : ByteArray) (k : Nat) : Bool := (b.data.toList.drop (55 * k)).all (· == 0)
def chkFrom (b : ByteArray) : Nat → Nat → Nat
  | k, 0 => k
  | k, d + 1 => if chkStop b k = true then k else chkFrom b (k + 1) d
/-- How many checkpoints a block has; the k-th one. -/
def chkN (b : ByteArray) : Nat := chkFrom b 0 9
def chkAt (b : ByteArray) (k : Nat) : ChE := ⟨valB b (55 * k) 6, valB b (55 * k + 6) 6, decide (0 < bt b ((55 * k + 12 : Nat) : Int)), b.extract (55 * k + 13) (55 * k + 55)⟩
def chkL (b : ByteArray) (k : Nat) : List ChE := (List.range k).map (chkAt b)
theorem chkL_succ (b : ByteArray) (k : Nat) : chkL b (k + 1) = chkL b k ++ [chkAt b k] := by simp [chkL, List.range_succ]
theorem chkFrom_spec (b : ByteArray) : ∀ d k, k ≤ chkFrom b k d ∧ chkFrom b k d ≤ k + d ∧ (∀ j, k ≤ j → j < chkFrom b k d → chkStop b j = false) ∧ (chkFrom b k d < k + d → chkStop b (chkFrom b k d) = true)
  | 0, k => ⟨Nat.le_refl _, Nat.le_refl _, fun j h1 h2 => absurd h2 (by show ¬ j < k; omega), fun h => absurd h (by show ¬ k < k + 0; omega)⟩
  | d + 1, k => by
    obtain ⟨h1, h2, h3, h4⟩ := chkFrom_spec b d (k + 1)
    cases hs : chkStop b k with
    | true =>
      have e : chkFrom b k (d + 1) = k := by show (if chkStop b k = true then k else _) = k; rw [if_pos hs]
      rw [e]
      exact ⟨Nat.le_refl _, by omega, fun j a c => absurd c (by omega), fun _ => hs⟩
    | false =>
      have e : chkFrom b k (d + 1) = chkFrom b (k + 1) d := by show (if chkStop b k = true then k else _) = _; rw [if_neg (by rw [hs]; decide)]
      rw [e]
      refine ⟨by omega, by omega, fun j a c => ?_, fun h => h4 (by omega)⟩
      by_cases ej : j = k
      · rw [ej]; exact hs
      · exact h3 j (by omega) c
theorem chkN_le (b : ByteArray) : chkN b ≤ 9 := by have := (chkFrom_spec b 9 0).2.1; unfold chkN; omega
theorem chkN_run {b : ByteArray} {k : Nat} (h : k < chkN b) : chkStop b k = false := (chkFrom_spec b 9 0).2.2.1 k (by omega) h
theorem chkN_end {b : ByteArray} (h : chkN b < 9) : chkStop b (chkN b) = true := (chkFrom_spec b 9 0).2.2.2 (by unfold chkN at h; omega)
theorem take_in {b : ByteArray} (hb : b.size = 508) {a : Nat} (h : a + 6 ≤ 508) : num_Take.f 12 b (a : Int) 6 = some (valB b a 6, 0) := by
  rw [take_f b (a : Int) 6 (by omega) (by omega) (by omega) 12 (by omega)]
  unfold takeV
  rw [if_pos ⟨by omega, by omega, by omega, by omega⟩]; rfl
theorem bare_at {b : ByteArray} (hb : b.size = 508) {k : Nat} {r : Bool} (h : chkStop b k = r) : num_Bare.f b ((55 * k : Nat) : Int) = some r := by
  subst h
  unfold num_Bare.f chkStop
  rw [if_pos (by omega), Int.toNat_natCast]
theorem stop_at {b : ByteArray} {k : Nat} (hk : k ≤ chkN b) (h : chkStop b k = true) : k = chkN b := by
  refine Classical.byContradiction fun hn => ?_
  rw [chkN_run (by omega)] at h; cases h
theorem run_at {b : ByteArray} {k : Nat} (hk : k ≤ chkN b) (h9 : k < 9) (h : chkStop b k = false) : k < chkN b := by
  refine Classical.byContradiction fun hn => ?_
  have e : k = chkN b := by omega
  have := chkN_end (b := b) (by omega)
  rw [← e, h] at this; cases this
theorem wA (a : Nat) (c : Int) (h : a ≤ 440) (h0 : 0 ≤ c) (h1 : c ≤ 60) : wrap64 ((a : Int) + c) = (a : Int) + c := IntWalk.wrap64_in _ (by omega)
theorem bA (a s : Nat) (h : a ≤ 440) (hs : s = 508) : (0 : Int) ≤ (a : Int) + 12 ∧ (a : Int) + 12 < (s : Int) ∧ (0 : Int) ≤ (a : Int) + 13 ∧ (a : Int) + 13 ≤ (a : Int) + 55 ∧ (a : Int) + 55 ≤ (s : Int) ∧ a + 12 < s := by omega
theorem measA (k : Nat) (h : k < 9) (e : wrap64 ((k : Int) + 1) = (k : Int) + 1) : 9 - (intOf (.int .i64 (wrap64 ((k : Int) + 1)))).toNat < 9 - (intOf (.int .i64 (k : Int))).toNat := by
  rw [e]; show 9 - ((k : Int) + 1).toNat < 9 - (k : Int).toNat; omega
def chV (x : ChE) : Value := .agg #[.int .u64 x.f0, .int .u64 x.f1, .bool x.f2, .string x.f3]

section
variable {F : Fence} {n : Nat} {P : Program} {ops : Array Oper} {Q : Exit → Act → World → Prop} {md : Region.Mode}
/-- An operation of a region that draws is taken first: it yields its value in whatever world. -/
theorem takeIn (i : Nat) {oi : Oper} {v : Value} {fuel : Nat} {listed : Array Bool} {a a' : Act} {w : World} (hi : ops[i]? = some oi) (hro : F.round = none) (hs : Region.noSelect ops = true)
    (hf : Region.free md ops listed i = true) (hr : (Region.ready md ops listed).contains i = true) (hQ : ∀ c a w, Q (.panic c) (a.put oi.dst v) w → Q (.panic c) a w)
    (hw : Region.wanted oi (yielded ops a.tmps) = true) (hv : ∀ w, (execOp a.eval oi).run P w = .ok (.value v) w) (hab : ∀ w, oi.about P w a.eval = none) (ha : a.put oi.dst v = a')
    (h : wpAnyIn F n P md ops Q fuel (listed.setIfInBounds i true) a' w) : wpAnyIn F n P md ops Q (fuel + 1) listed a w :=
  wpAnyIn_take hro hi hs hf hr hQ ⟨.inl ⟨hw, hv⟩, hab⟩ (ha ▸ h)
/-- One that comes up: it leaves its value, in this world. -/
theorem readyIn (i : Nat) {oi : Oper} {v : Value} {fuel : Nat} {listed : Array Bool} {a a' : Act} {w : World} {rs : List Nat} (hi : ops[i]? = some oi) (hro : F.round = none)
    (hw : Region.wanted oi (yielded ops a.tmps) = true) (hv : (execOp a.eval oi).run P w = .ok (.value v) w) (hab : oi.about P w a.eval = none) (ha : a.put oi.dst v = a')
    (h : wpAnyIn F n P md ops Q fuel (listed.setIfInBounds i true) a' w) (hs : AllReadyIn F n P md ops Q fuel listed a w rs) : AllReadyIn F n P md ops Q fuel listed a w (i :: rs) := by
  refine AllReadyIn.cons hi (fun K' hK => ?_) hs
  rw [if_pos hw]
  unfold Oper.wpIn
  refine ⟨fun f hf => (by rw [hab] at hf; cases hf), ?_⟩
  rw [hro, Oper.semAt_none, hv]
  exact hK _ _ (ha ▸ h)
/-- A call of yield that comes up, alone. -/
theorem yieldIn (i : Nat) (d : Tmp) {oi : Oper} {l : Nat} {f : FuncId} {tmps : Array Value} {assign body : Code} {R : Ending → World → Prop} {fuel : Nat} {listed : Array Bool} {a : Act} {w : World} (hi : ops[i]? = some oi) (hdst : oi.dst = some d) (hro : F.round = none)
    (hr : Region.ready md ops listed = [i]) (hw : Region.wanted oi (yielded ops a.tmps) = true) (hv : (execOp a.eval oi).run P w = .ok (.round l f tmps assign body) w) (hab : oi.about P w a.eval = none) (hd : F.depth.isSome = true → 1 ≤ n)
    (hR : RoundIn F (n - 1) P l f tmps assign body w R) (h : ∀ e w', R e w' → ∃ v, e = .returned v ∧ wpAnyIn F n P md ops Q fuel (listed.setIfInBounds i true) (a.put (some d) v) w') :
    wpAnyIn F n P md ops Q (fuel + 1) listed a w := by
  refine wpAnyIn_ready hr (List.cons_ne_nil _ _) (AllReadyIn.cons hi (fun K' hK => ?_) AllReadyIn.nil)
  rw [if_pos hw]
  unfold Oper.wpIn
  refine ⟨fun f hf => (by rw [hab] at hf; cases hf), ?_⟩
  rw [hro, Oper.semAt_none, hv]
  refine ⟨hd, hR.mono ?_⟩
  rintro e w' he
  obtain ⟨v, rfl, h⟩ := h e w' he
  rw [← hdst] at h
  exact hK _ _ h
end
set_option maxHeartbeats 4000000 in
/-- The iterator of cps.checks. -/
theorem checks_seq (nn : Nat) (h1n : 1 ≤ nn) (b : ByteArray) (hb : b.size = 508) (Bb : Nat) (w : World) (hBb : w.heap[Bb]? = some (.cells #[.string b] 9 (0, 0))) :
    SeqN Fence.wide nn Try.prog 94 #[.pointer (some ⟨Bb, 0, none⟩)] (fun k => #[chV (chkAt b k)]) (fun _ => False) (fun _ => False) (fun j => j = Bb) (chkN b) w := fun lp J Jx W hW hJ hJx hY h0 => by
  have hlb : Bb < w.heap.size := (Array.getElem?_eq_some_iff.1 hBb).1
  have hbk : W.heap[Bb]? = some (.cells #[.string b] 9 (0, 0)) := (hW.block Bb hlb).trans hBb
  clear hW hBb
  have HB := Aside0.mk hb
  clear hb
  refine callsIn_of_wp Try.func94 rfl trivial ?_ rfl
  simp only [Try.ntmps94, List.size_toArray, List.length_cons, List.length_nil, Nat.reduceAdd, Nat.reduceSub, Array.replicate_succ, Array.replicate_zero, List.push_toArray, List.append_toArray, List.nil_append, List.cons_append]
  gi_wp2
  gi_loopw [9] (fun i wr => ∃ k : Nat, k ≤ 9 ∧ k ≤ chkN b ∧ i = .int .i64 k ∧ J k wr ∧ wr.heap[Bb]? = some (.cells #[.string b] 9 (0, 0)))
    (fun i _ => 9 - (intOf i).toNat)
  case atStart => exact ⟨0, by omega, by omega, rfl, h0, hbk⟩
  case round =>
    obtain ⟨k, hk9, hkN, rfl, hJs, hbk⟩ := hrel
    have hcb : wr.cell? ⟨Bb, 0, none⟩ = some (.string b) := by rw [Lib.cell_of_heap hbk]; rfl
    by_cases hlt : k < 9
    · have hkl : decide ((k : Int) < 9) = true := decide_eq_true (by omega)
      obtain ⟨at', hat⟩ : ∃ a : Nat, 55 * k = a := ⟨_, rfl⟩
      have hat4 : at' ≤ 440 := by omega
      have e55 : wrap64 (55 * (k : Int)) = (at' : Int) := by rw [IntWalk.wrap64_in _ (by omega)]; omega
      cases hst : chkStop b k with
      | true =>
        have HBR := Aside0.mk (hat ▸ bare_at HB.out hst)
        have hkk : k = chkN b := stop_at hkN hst
        clear hst hat
        have HKK := Aside0.mk hkk
        clear hkk hkN hlt hk9 hat4
        gi_wp2_with fail
        refine ⟨trivial, (callsIn_wide.2 (num_Bare.same b _ true _ HBR.out)).mono ?_⟩
        rintro e w' ⟨rfl, rfl⟩
        gi_wp2
        refine bodyPost_ret (results_none rfl _ _ _) rfl ?_
        exact ⟨⟨_, rfl⟩, .inl (HKK.out ▸ hJs)⟩
      | false =>
        have HBR := Aside0.mk (hat ▸ bare_at HB.out hst)
        have hkn : k < chkN b := run_at hkN hlt hst
        have HT1 : Aside0 (num_Take.f 12 b (at' : Int) 6 = some (valB b at' 6, 0)) := Aside0.mk (take_in HB.out (by omega))
        have HT2 : Aside0 (num_Take.f 12 b ((at' : Int) + 6) 6 = some (valB b (at' + 6) 6, 0)) := Aside0.mk (take_in (a := at' + 6) HB.out (by omega))
        have HAT := Aside0.mk hat
        clear hst hat
        have HKN := Aside0.mk hkn
        have HK9 := Aside0.mk hlt
        have HA4 := Aside0.mk hat4
        have e6 : wrap64 ((at' : Int) + 6) = (at' : Int) + 6 := wA at' 6 hat4 (by decide) (by decide)
        clear hkn hkN hlt hk9 hat4
        gi_wp2_with fail
        refine ⟨trivial, (callsIn_wide.2 (num_Bare.same b _ false _ HBR.out)).mono ?_⟩
        rintro e w' ⟨rfl, rfl⟩
        gi_wp2_with fail
        refine ⟨trivial, (callsIn_wide.2 (num_Take.calls 12 b _ 6 _ _ _ HT1.out)).mono ?_⟩
        rintro e w1 ⟨rfl, hD1⟩
        have hc1 : w1.cell? ⟨Bb, 0, none⟩ = some (.string b) := by obtain ⟨n1, rfl⟩ := hD1.out; exact hcb
        gi_wp2_with fail
        refine ⟨trivial, (callsIn_wide.2 (num_Take.calls 12 b _ 6 _ _ _ HT2.out)).mono ?_⟩
        rintro e w2 ⟨rfl, hD2⟩
        have hc2 : w2.cell? ⟨Bb, 0, none⟩ = some (.string b) := by obtain ⟨n2, rfl⟩ := hD2.out; exact hc1
        gi_wp2_with fail
        have hbs := HB.out
        have h4 := HA4.out
        have f12 : wrap64 ((at' : Int) + 12) = (at' : Int) + 12 := wA at' 12 h4 (by decide) (by decide)
        have f13 : wrap64 ((at' : Int) + 13) = (at' : Int) + 13 := wA at' 13 h4 (by decide) (by decide)
        have f55 : wrap64 ((at' : Int) + 55) = (at' : Int) + 55 := wA at' 55 h4 (by decide) (by decide)
        obtain ⟨g1, g2, g3, g4, g5, g6⟩ := bA at' b.size h4 hbs
        have ek1 := wA k 1 (by have := HK9.out; exact Nat.le_trans (Nat.le_of_lt this) (by decide)) (by decide) (by decide)
        have hJ1 : J k w1 := hJ k _ _ hJs (Turn.of_below hD1.below)
        have hJ2 : J k w2.drew := hJ k _ _ (hJ k _ _ hJ1 (Turn.of_below hD2.below)) (Turn.drew w2)
        have hc3 : w2.drew.cell? ⟨Bb, 0, none⟩ = some (.string b) := hc2
        have hb2 : w2.drew.heap[Bb]? = some (.cells #[.string b] 9 (0, 0)) := by
          obtain ⟨n1, rfl⟩ := hD1.out
          obtain ⟨n2, rfl⟩ := hD2.out
          exact hbk
        obtain ⟨fn, tmps, assign, body, hy, hR⟩ := hY k _ HKN.out hJ2
        unfold chV chkAt at hy
        simp only [HAT.out] at hy
        have hbt : decide (0 < bt b ((at' + 12 : Nat) : Int)) = decide (0 < b[at' + 12].toNat) := by
          unfold bt
          rw [dif_pos (show (((at' + 12 : Nat) : Int)).toNat < b.size from g6)]
          simp only [decide_eq_decide]
          show (0 : Int) < ((b[at' + 12].toNat : Nat) : Int) ↔ _
          omega
        rw [hbt] at hy
        clear hbs h4
        refine wpIn_region_any (by kernel_rfl) ?_
        change wpAnyIn _ _ _ _ _ _ _ _ _ w2.drew
        refine takeIn 0 (v := .func (.yield lp) #[] #[]) rfl rfl (by kernel_rfl) (by kernel_rfl) (by kernel_rfl) (fun _ _ _ h => h) (by kernel_rfl) (fun w => by go_simp) (fun w => by rfl) (by show Act.put _ (some 30) _ = _; simp only [Act.put, List.setIfInBounds_toArray, List.set_cons_zero, List.set_cons_succ]; rfl) ?_
        refine takeIn 1 (v := .int .u64 (valB b at' 6)) rfl rfl (by kernel_rfl) (by kernel_rfl) (by kernel_rfl) (fun _ _ _ h => h) (by kernel_rfl) (fun w => by go_simp) (fun w => by rfl) (by show Act.put _ (some 31) _ = _; simp only [Act.put, List.setIfInBounds_toArray, List.set_cons_zero, List.set_cons_succ]; rfl) ?_
        refine takeIn 2 (v := .int .u64 (valB b (at' + 6) 6)) rfl rfl (by kernel_rfl) (by kernel_rfl) (by kernel_rfl) (fun _ _ _ h => h) (by kernel_rfl) (fun w => by go_simp) (fun w => by rfl) (by show Act.put _ (some 32) _ = _; simp only [Act.put, List.setIfInBounds_toArray, List.set_cons_zero, List.set_cons_succ]; rfl) ?_
        refine takeIn 4 (v := .int .i64 at') rfl rfl (by kernel_rfl) (by kernel_rfl) (by kernel_rfl) (fun _ _ _ h => h) (by kernel_rfl) (fun w => by go_simp) (fun w => by rfl) (by show Act.put _ (some 34) _ = _; simp only [Act.put, List.setIfInBounds_toArray, List.set_cons_zero, List.set_cons_succ]; rfl) ?_
        refine takeIn 5 (v := .int .i64 ((at' : Int) + 12)) rfl rfl (by kernel_rfl) (by kernel_rfl) (by kernel_rfl) (fun _ _ _ h => h) (by kernel_rfl) (fun w => by go_simp; exact (i64_w _).trans f12) (fun w => by rfl) (by show Act.put _ (some 35) _ = _; simp only [Act.put, List.setIfInBounds_toArray, List.set_cons_zero, List.set_cons_succ]; rfl) ?_
        refine takeIn 9 (v := .int .i64 at') rfl rfl (by kernel_rfl) (by kernel_rfl) (by kernel_rfl) (fun _ _ _ h => h) (by kernel_rfl) (fun w => by go_simp) (fun w => by rfl) (by show Act.put _ (some 39) _ = _; simp only [Act.put, List.setIfInBounds_toArray, List.set_cons_zero, List.set_cons_succ]; rfl) ?_
        refine takeIn 10 (v := .int .i64 ((at' : Int) + 13)) rfl rfl (by kernel_rfl) (by kernel_rfl) (by kernel_rfl) (fun _ _ _ h => h) (by kernel_rfl) (fun w => by go_simp; exact (i64_w _).trans f13) (fun w => by rfl) (by show Act.put _ (some 40) _ = _; simp only [Act.put, List.setIfInBounds_toArray, List.set_cons_zero, List.set_cons_succ]; rfl) ?_
        refine takeIn 11 (v := .int .i64 at') rfl rfl (by kernel_rfl) (by kernel_rfl) (by kernel_rfl) (fun _ _ _ h => h) (by kernel_rfl) (fun w => by go_simp) (fun w => by rfl) (by show Act.put _ (some 41) _ = _; simp only [Act.put, List.setIfInBounds_toArray, List.set_cons_zero, List.set_cons_succ]; rfl) ?_
        refine takeIn 12 (v := .int .i64 ((at' : Int) + 55)) rfl rfl (by kernel_rfl) (by kernel_rfl) (by kernel_rfl) (fun _ _ _ h => h) (by kernel_rfl) (fun w => by go_simp; exact (i64_w _).trans f55) (fun w => by rfl) (by show Act.put _ (some 42) _ = _; simp only [Act.put, List.setIfInBounds_toArray, List.set_cons_zero, List.set_cons_succ]; rfl) ?_
        refine wpAnyIn_ready (rs := [3, 8]) (by kernel_rfl) (by decide) (readyIn 3 (v := .string b) rfl rfl (by kernel_rfl) (by go_simp) (by rfl) (by show Act.put _ (some 33) _ = _; simp only [Act.put, List.setIfInBounds_toArray, List.set_cons_zero, List.set_cons_succ]; rfl) ?_ (readyIn 8 (v := .string b) rfl rfl (by kernel_rfl) (by go_simp) (by rfl) (by show Act.put _ (some 38) _ = _; simp only [Act.put, List.setIfInBounds_toArray, List.set_cons_zero, List.set_cons_succ]; rfl) ?_ AllReadyIn.nil))
        · refine takeIn 6 (v := .int .u8 (b[at' + 12].toNat : Nat)) rfl rfl (by kernel_rfl) (by kernel_rfl) (by kernel_rfl) (fun _ _ _ h => h) (by kernel_rfl) (fun w => by go_simp; rfl) (fun w => by rfl) (by show Act.put _ (some 36) _ = _; simp only [Act.put, List.setIfInBounds_toArray, List.set_cons_zero, List.set_cons_succ]; rfl) ?_
          refine takeIn 7 (v := .bool (decide (0 < b[at' + 12].toNat))) rfl rfl (by kernel_rfl) (by kernel_rfl) (by kernel_rfl) (fun _ _ _ h => h) (by kernel_rfl) (fun w => by go_simp) (fun w => by rfl) (by show Act.put _ (some 37) _ = _; simp only [Act.put, List.setIfInBounds_toArray, List.set_cons_zero, List.set_cons_succ]; rfl) ?_
          refine wpAnyIn_ready (rs := [8]) (by kernel_rfl) (by decide) (readyIn 8 (v := .string b) rfl rfl (by kernel_rfl) (by go_simp) (by rfl) (by show Act.put _ (some 38) _ = _; simp only [Act.put, List.setIfInBounds_toArray, List.set_cons_zero, List.set_cons_succ]; rfl) ?_ AllReadyIn.nil)
          refine takeIn 13 (v := .string (b.extract (at' + 13) (at' + 55))) rfl rfl (by kernel_rfl) (by kernel_rfl) (by kernel_rfl) (fun _ _ _ h => h) (by kernel_rfl) (fun w => by go_simp; rfl) (fun w => by rfl) (by show Act.put _ (some 43) _ = _; simp only [Act.put, List.setIfInBounds_toArray, List.set_cons_zero, List.set_cons_succ]; rfl) ?_
          refine takeIn 14 (v := .agg #[.int .u64 (valB b at' 6), .int .u64 (valB b (at' + 6) 6), .bool (decide (0 < b[at' + 12].toNat)), .string (b.extract (at' + 13) (at' + 55))]) rfl rfl (by kernel_rfl) (by kernel_rfl) (by kernel_rfl) (fun _ _ _ h => h) (by kernel_rfl) (fun w => by go_simp) (fun w => by rfl) (by show Act.put _ (some 44) _ = _; simp only [Act.put, List.setIfInBounds_toArray, List.set_cons_zero, List.set_cons_succ]; rfl) ?_
          refine yieldIn 15 45 rfl rfl rfl (by kernel_rfl) (by kernel_rfl) (by first | (go_simp; done) | (go_simp; exact hy)) (by rfl) (by intro h; cases h) hR ?_
          rintro e w3 (⟨rfl, hJ3, hk3⟩ | ⟨rfl, hJx3⟩)
          · refine ⟨_, rfl, ?_⟩
            refine takeIn 16 (v := .bool false) rfl rfl (by kernel_rfl) (by kernel_rfl) (by kernel_rfl) (fun _ _ _ h => h) (by kernel_rfl) (fun w => by go_simp) (fun w => by rfl) (by show Act.put _ (some 46) _ = _; simp only [Act.put, List.setIfInBounds_toArray, List.set_cons_zero, List.set_cons_succ]; rfl) ?_
            refine wpAnyIn_done (by kernel_rfl) ?_ _
            have hb3 : w3.heap[Bb]? = some (.cells #[.string b] 9 (0, 0)) := (hk3.same Bb rfl (Array.getElem?_eq_some_iff.1 hb2).1).trans hb2
            gi_wp2
            go_roundw
            case rel => exact ⟨k + 1, Nat.succ_le_of_lt HK9.out, Nat.succ_le_of_lt HKN.out, by simp [ek1], hJ3, hb3⟩
            case measure => exact measA k HK9.out ek1
          · refine ⟨_, rfl, ?_⟩
            refine takeIn 16 (v := .bool true) rfl rfl (by kernel_rfl) (by kernel_rfl) (by kernel_rfl) (fun _ _ _ h => h) (by kernel_rfl) (fun w => by go_simp) (fun w => by rfl) (by show Act.put _ (some 46) _ = _; simp only [Act.put, List.setIfInBounds_toArray, List.set_cons_zero, List.set_cons_succ]; rfl) ?_
            refine wpAnyIn_done (by kernel_rfl) ?_ _
            gi_wp2
            refine bodyPost_ret (results_none rfl _ _ _) rfl ?_
            exact ⟨⟨_, rfl⟩, .inr ⟨k + 1, Nat.succ_le_of_lt HKN.out, hJx3⟩⟩
        · refine takeIn 13 (v := .string (b.extract (at' + 13) (at' + 55))) rfl rfl (by kernel_rfl) (by kernel_rfl) (by kernel_rfl) (fun _ _ _ h => h) (by kernel_rfl) (fun w => by go_simp; rfl) (fun w => by rfl) (by show Act.put _ (some 43) _ = _; simp only [Act.put, List.setIfInBounds_toArray, List.set_cons_zero, List.set_cons_succ]; rfl) ?_
          refine wpAnyIn_ready (rs := [3]) (by kernel_rfl) (by decide) (readyIn 3 (v := .string b) rfl rfl (by kernel_rfl) (by go_simp) (by rfl) (by show Act.put _ (some 33) _ = _; simp only [Act.put, List.setIfInBounds_toArray, List.set_cons_zero, List.set_cons_succ]; rfl) ?_ AllReadyIn.nil)
          refine takeIn 6 (v := .int .u8 (b[at' + 12].toNat : Nat)) rfl rfl (by kernel_rfl) (by kernel_rfl) (by kernel_rfl) (fun _ _ _ h => h) (by kernel_rfl) (fun w => by go_simp; rfl) (fun w => by rfl) (by show Act.put _ (some 36) _ = _; simp only [Act.put, List.setIfInBounds_toArray, List.set_cons_zero, List.set_cons_succ]; rfl) ?_
          refine takeIn 7 (v := .bool (decide (0 < b[at' + 12].toNat))) rfl rfl (by kernel_rfl) (by kernel_rfl) (by kernel_rfl) (fun _ _ _ h => h) (by kernel_rfl) (fun w => by go_simp) (fun w => by rfl) (by show Act.put _ (some 37) _ = _; simp only [Act.put, List.setIfInBounds_toArray, List.set_cons_zero, List.set_cons_succ]; rfl) ?_
          refine takeIn 14 (v := .agg #[.int .u64 (valB b at' 6), .int .u64 (valB b (at' + 6) 6), .bool (decide (0 < b[at' + 12].toNat)), .string (b.extract (at' + 13) (at' + 55))]) rfl rfl (by kernel_rfl) (by kernel_rfl) (by kernel_rfl) (fun _ _ _ h => h) (by kernel_rfl) (fun w => by go_simp) (fun w => by rfl) (by show Act.put _ (some 44) _ = _; simp only [Act.put, List.setIfInBounds_toArray, List.set_cons_zero, List.set_cons_succ]; rfl) ?_
          refine yieldIn 15 45 rfl rfl rfl (by kernel_rfl) (by kernel_rfl) (by first | (go_simp; done) | (go_simp; exact hy)) (by rfl) (by intro h; cases h) hR ?_
          rintro e w3 (⟨rfl, hJ3, hk3⟩ | ⟨rfl, hJx3⟩)
          · refine ⟨_, rfl, ?_⟩
            refine takeIn 16 (v := .bool false) rfl rfl (by kernel_rfl) (by kernel_rfl) (by kernel_rfl) (fun _ _ _ h => h) (by kernel_rfl) (fun w => by go_simp) (fun w => by rfl) (by show Act.put _ (some 46) _ = _; simp only [Act.put, List.setIfInBounds_toArray, List.set_cons_zero, List.set_cons_succ]; rfl) ?_
            refine wpAnyIn_done (by kernel_rfl) ?_ _
            have hb3 : w3.heap[Bb]? = some (.cells #[.string b] 9 (0, 0)) := (hk3.same Bb rfl (Array.getElem?_eq_some_iff.1 hb2).1).trans hb2
            gi_wp2
            go_roundw
            case rel => exact ⟨k + 1, Nat.succ_le_of_lt HK9.out, Nat.succ_le_of_lt HKN.out, by simp [ek1], hJ3, hb3⟩
            case measure => exact measA k HK9.out ek1
          · refine ⟨_, rfl, ?_⟩
            refine takeIn 16 (v := .bool true) rfl rfl (by kernel_rfl) (by kernel_rfl) (by kernel_rfl) (fun _ _ _ h => h) (by kernel_rfl) (fun w => by go_simp) (fun w => by rfl) (by show Act.put _ (some 46) _ = _; simp only [Act.put, List.setIfInBounds_toArray, List.set_cons_zero, List.set_cons_succ]; rfl) ?_
            refine wpAnyIn_done (by kernel_rfl) ?_ _
            gi_wp2
            refine bodyPost_ret (results_none rfl _ _ _) rfl ?_
            exact ⟨⟨_, rfl⟩, .inr ⟨k + 1, Nat.succ_le_of_lt HKN.out, hJx3⟩⟩
    · have hkl : decide ((k : Int) < 9) = false := decide_eq_false (by omega)
      have HKK := Aside0.mk (show k = chkN b by have := chkN_le b; omega)
      clear hkN hlt hk9
      gi_wp2
      go_end0
      exact ⟨⟨_, rfl⟩, .inl (HKK.out ▸ hJs)⟩
end Go.Proofs.Ythgefgjaihagoaa.C

set_option linter.unusedVariables false
set_option linter.unusedSimpArgs false
namespace Go.Proofs.Ythgefgjaihagoaa.C
open Go.RowKit Go.Shelf Go.Proofs.Ythgefgjaihagoaa.H Go.Proofs.Ythgefgjaihagoaa.P Go.Proofs.YthgefgjaihagoaaW.PrintWords Go.Proofs.YthgefgjaihagoaaW.PrintLast Go.Proofs.YthgefgjaihagoaaW.PrintMore Go.Proofs.Ythgefgjaihagoaa.Q
attribute [local go_sem] Oper.semAt_some
set_option maxRecDepth 100000

def chC (x : ChE) : List Value := [.int .u64 x.f0, .int .u64 x.f1, .bool x.f2, .string x.f3]
def flatC (l : List ChE) : List Value := (l.map chC).flatten
theorem flatC_snoc (l : List ChE) (x : ChE) : flatC (l ++ [x]) = flatC l ++ chC x := by simp [flatC]
theorem flatC_len : ∀ l : List ChE, (flatC l).length = l.length * 4
  | [] => rfl
  | x :: xs => by
    have := flatC_len xs
    unfold flatC at this ⊢
    rw [List.map_cons, List.flatten_cons, List.length_append, this, List.length_cons]
    show 4 + _ = _
    omega
theorem flatC_at : ∀ (l : List ChE) (j : Nat) (p : ChE), l[j]? = some p → ((flatC l).drop (j * 4)).take 4 = chC p
  | [], j, p, h => by simp at h
  | x :: xs, 0, p, h => by
    simp at h; subst h
    simp [flatC, chC]
  | x :: xs, j + 1, p, h => by
    have e : flatC (x :: xs) = chC x ++ flatC xs := by simp [flatC]
    rw [e, show (j + 1) * 4 = 4 + j * 4 by omega, ← List.drop_drop]
    exact flatC_at xs j p (by simpa using h)
theorem R_of_flat {w : World} {base : Nat} {v : Value} {l : List ChE} (h : w.ownsRow base 110 4 v l.length (flatC l)) : Kd.R k110 110 w base (fun _ => True) v l :=
  ⟨fun _ _ => trivial, flatC l, h, flatC_len l, fun j p hj => by
    have := flatC_at l j p hj
    show k110.M _ _ _ p (((flatC l).drop (j * 4)).take 4)
    rw [this]
    exact k110_mkM _ _ _ p⟩
theorem stands_rowT {own : Nat → Prop} {T : TypeId → Prop} {base : Nat} {e : TypeId} {size n : Nat} {v : Value} {xs : List Value} (he : ¬ T e) : Stands own T (fun W => W.ownsRow base e size v n xs) := fun A C h hT => by
  refine ⟨h.1, ?_⟩
  rcases h.2 with hn | ⟨g, cap, cur, hv, hbg, hg, rest⟩
  · exact .inl hn
  · exact .inr ⟨g, cap, cur, hv, hbg, hT.same g _ hg (.inr ⟨_, _, _, rfl, he⟩), rest⟩
theorem stands_boxT {own : Nat → Prop} {T : TypeId → Prop} (k : Nat) (t : TypeId) (v : Value) (ht : ¬ T t) : Stands own T (fun W => Boxed W k t v) := fun _ _ h hT => hT.same k _ h (.inr ⟨_, _, _, rfl, ht⟩)
theorem cells_new (w : World) (cs : List Value) (t : TypeId) : ∀ j u, cs[j]? = some u → (w.alloc (.cells cs.toArray t)).cell? ((⟨w.heap.size, 0, none⟩ : Addr).add j) = some u := by
  intro j u h
  have hn := World.alloc_heap_new w (.cells cs.toArray t)
  have he : (⟨w.heap.size, 0, none⟩ : Addr).add j = ⟨w.heap.size, j, none⟩ := by unfold Addr.add; split <;> simp_all
  rw [he, Lib.cell_of_heap hn]
  simpa using h
theorem row_slice {w : World} {base : Nat} {e : TypeId} {size n : Nat} {v : Value} {xs : List Value} (h : w.ownsRow base e size v n xs) : ∃ A c, v = .slice A n c := by
  rcases h.2 with ⟨rfl, rfl⟩ | ⟨g, cap, cur, rfl, _⟩
  · exact ⟨_, _, rfl⟩
  · exact ⟨_, _, rfl⟩
theorem checks_calls (b : ByteArray) (w : World) : Calls Try.prog 66 #[.string b] w fun e w' =>
    e = .returned (.func (.func 94) #[] #[.pointer (some ⟨w.heap.size, 0, none⟩)]) ∧ w' = w.alloc (.cells #[.string b] 9) := by
  go_enter Try.func66, Try.ntmps66
  go_wp2
  go_ret
  exact ⟨rfl, rfl⟩

set_option maxHeartbeats 4000000 in
theorem appendSeq_calls (b : ByteArray) (hb : b.size = 508) (base : Nat) (v : Value) (xs : List ChE) (Bb : Nat) (w : World) (hBb : w.heap[Bb]? = some (.cells #[.string b] 9 (0, 0)))
    (hrow : w.ownsRow base 110 4 v xs.length (flatC xs)) (hbase : base ≤ w.heap.size) (hlen : xs.length ≤ 100000) :
    Calls Try.prog 65 #[v, .func (.func 94) #[] #[.pointer (some ⟨Bb, 0, none⟩)]] w fun e w' =>
      ∃ v', e = .returned v' ∧ w'.ownsRow base 110 4 v' (xs.length + chkN b) (flatC (xs ++ chkL b (chkN b))) ∧ Below base w w' := by
  obtain ⟨i0, hi, hz0, hz1, hz2⟩ := info_parts infoCk
  obtain ⟨A, m, rfl⟩ := row_slice hrow
  have hN := chkN_le b
  obtain ⟨N, hNN⟩ : ∃ N, chkN b = N := ⟨_, rfl⟩
  rw [hNN] at hN
  refine (callsIn_wide (n := 10)).1 ?_
  refine callsIn_of_wp_marks Try.func65 rfl trivial ?_ rfl
  simp only [Try.ntmps65, List.size_toArray, List.length_cons, List.length_nil, Nat.reduceAdd, Nat.reduceSub, Array.replicate_succ, Array.replicate_zero, List.push_toArray, List.append_toArray, List.nil_append, List.cons_append]
  gi_wp2
  obtain ⟨H, hH⟩ : ∃ H, w.heap.size = H := ⟨_, rfl⟩
  have hbl : Below base w (w.alloc (.cells #[.slice A xs.length m] 52)) := (Below.refl base w).alloc (by omega) _
  have h0 : Boxed (w.alloc (.cells #[.slice A xs.length m] 52)) H 52 (.slice A xs.length m) := by
    have := Boxed.new w 52 (.slice A xs.length m); rwa [hH] at this
  have hrow0 := hrow.alloc (.cells #[.slice A xs.length m] 52)
  have hsz : (w.alloc (.cells #[.slice A xs.length m] 52)).heap.size = H + 1 := by simp [hH]
  have hlb : Bb < H := by rw [← hH]; exact (Array.getElem?_eq_some_iff.1 hBb).1
  have hb0 : (w.alloc (.cells #[.slice A xs.length m] 52)).heap[Bb]? = some (.cells #[.string b] 9 (0, 0)) := (Below.heap_alloc _ _ _ (by omega)).trans hBb
  rw [hH] at hbase ⊢
  generalize w.alloc (.cells #[.slice A xs.length m] 52) = W0 at hbl h0 hrow0 hsz hb0 ⊢
  refine wpIn_rangeW rfl (by omega) (gf := 94) (lb := #[.pointer (some ⟨Bb, 0, none⟩)]) rfl trivial (enters_of Try.func94 (by kernel_rfl) rfl)
    (checks_seq 9 (by omega) b hb Bb W0 hb0) (Below.refl _ _) (fun _ => rfl) (fun h => h.elim) (fun h => h.elim) (by omega)
    (fun k W => (∃ v, Boxed W H 52 v ∧ W.ownsRow base 110 4 v (xs.length + k) (flatC (xs ++ chkL b k))) ∧ Below base w W ∧ Boxed W Bb 9 (.string b))
    (fun _ _ _ => False)
    (fun k => (stands_ex fun v => (stands_boxT _ _ _ (fun h => h)).and (stands_rowT (fun h => h))).and ((stands_below (by omega) (by rintro j (h | h | h) <;> first | exact h.elim | omega)).and (stands_boxT _ _ _ (fun h => h))))
    (fun _ _ _ _ h _ => h)
    ⟨⟨_, h0, by simpa [chkL] using hrow0⟩, hbl, hb0⟩
    (fun k V => { tmps := #[.slice A xs.length m, .func (.func 94) #[] #[.pointer (some ⟨Bb, 0, none⟩)], .pointer (some ⟨H, 0, none⟩), undef, .slice none 0 0, .pointer (some ⟨V.heap.size, 0, none⟩), .func (.func 94) #[] #[.pointer (some ⟨Bb, 0, none⟩)], chV (chkAt b k), undef, undef, undef, undef, undef], defers := [] })
    (fun k V => V.alloc (.cells #[.int .u64 (chkAt b k).f0, .int .u64 (chkAt b k).f1, .bool (chkAt b k).f2, .string (chkAt b k).f3] 110))
    (fun k V => (Below.refl _ _).alloc (Nat.le_refl _) _) ?assign ?body ?done ?stop
  case assign =>
    intro lo k W K _ hK
    unfold chV
    unfold chV at hK
    gi_wp2
    exact hK
  case body =>
    rintro lo k V W hk hVs ⟨⟨v, hv, hrow⟩, hB, hS⟩ hsame hsz2
    rw [hNN] at hk
    have bs : W.heap[V.heap.size]? = some (.cells #[.int .u64 (chkAt b k).f0, .int .u64 (chkAt b k).f1, .bool (chkAt b k).f2, .string (chkAt b k).f3] 110 (0, 0)) := (hsame _ (by omega)).trans (World.alloc_heap_new V _)
    obtain ⟨p, hp⟩ : ∃ p, V.heap.size = p := ⟨_, rfl⟩
    rw [hp] at bs
    have hsuc := chkL_succ b k
    obtain ⟨x, hx⟩ : ∃ x, chkAt b k = x := ⟨_, rfl⟩
    simp only [hx] at bs hsuc
    unfold chV
    simp only [hp, hx]
    have a0 : W.cell? ⟨p, 0, none⟩ = some (.int .u64 x.f0) := by rw [Lib.cell_of_heap bs]; rfl
    have a1 : W.cell? ⟨p, 1, none⟩ = some (.int .u64 x.f1) := by rw [Lib.cell_of_heap bs]; rfl
    have a2 : W.cell? ⟨p, 2, none⟩ = some (.bool x.f2) := by rw [Lib.cell_of_heap bs]; rfl
    have a3 : W.cell? ⟨p, 3, none⟩ = some (.string x.f3) := by rw [Lib.cell_of_heap bs]; rfl
    have hWs : H + 3 ≤ W.heap.size := by rw [hsz2]; simp; omega
    have hc0 := hv.cell
    have hkb : xs.length + k + 1 ≤ 200000 := by omega
    have hSn := hS.not_row (by decide) hrow
    clear hsame hsz2 hp bs
    gi_wp2_with (first | (gi_at_builtin; refine wpListIn_append_own _ rfl _ _ 52 rfl base 110 i0 (.agg #[.int .u64 0, .int .u64 0, .bool false, .string ⟨#[]⟩]) 4 40 Try.underlying52 hi hz0 hz1 hz2 rfl (by decide) _ _ _ rfl (hrow.alloc _) ⟨W.heap.size, 0, none⟩ 1 1 (chC x) rfl rfl (cells_new _ _ _) (by unfold chC; simp [Value.oneCell']) (by unfold maxLen; omega) (by omega) (by simp; omega) ?_; intro v' w1 hown' hgrow _; obtain ⟨g', cap', rfl⟩ := ownsRow_succ hown'; obtain ⟨hv1, hv2, hr2, hk2, hb2⟩ := Boxed.appended hv (by decide) hrow (by omega) (by omega) hown' hgrow; have hc1 := hv1.cell; have hf1 := hv1.frozen))
    have hsb : ∀ u, (w1.setCell ⟨H, 0, none⟩ u).heap[Bb]? = W.heap[Bb]? := fun u => (Below.heap_setCell _ _ _ _ (by show Bb ≠ H; omega)).trans ((hgrow.block Bb (by simp; omega) hSn).trans (Below.heap_alloc _ _ _ (by omega)))
    refine ⟨hk2, ⟨by have := hb2.size; omega, fun j hj hl => ?_⟩, ⟨_, hv2, ?_⟩, hB.trans hb2, (hsb _).trans hS⟩
    · subst hj; exact hsb _
    · rw [hsuc, ← List.append_assoc, flatC_snoc]; exact hr2
  case done =>
    rintro W ⟨⟨v, hv, hrow⟩, hB, hS⟩ hWs hD
    have hc0 := hv.cell
    obtain ⟨A', m', rfl⟩ := row_slice hrow
    gi_wp2
    refine ⟨by simp, .inl ⟨_, _, rfl, run_takeDeferred hD, ?_⟩⟩
    refine ⟨_, results_tmp rfl _ _ _, ⟨_, rfl, ?_, ?_⟩⟩
    · rw [hNN]; exact ownsRow_putObj (by rw [hNN] at hrow; exact hrow) _ hD rfl
    · exact hB.trans (belowK_b (w := W0) (by omega) W _ _ _ (by omega) hD rfl rfl)
  case stop =>
    intro c k W _ h
    exact h.elim

/-- The checkpoints of several blocks. -/
def chkCat (bs : List ByteArray) : List ChE := (bs.map fun b => chkL b (chkN b)).flatten
theorem chkCat_take (bs : List ByteArray) (k : Nat) (h : k < bs.length) : chkCat (bs.take (k + 1)) = chkCat (bs.take k) ++ chkL bs[k] (chkN bs[k]) := by
  unfold chkCat
  rw [List.take_succ_eq_append_getElem h, List.map_append, List.flatten_append]; simp
theorem chkL_len (b : ByteArray) (k : Nat) : (chkL b k).length = k := by simp [chkL]
theorem chkCat_len : ∀ bs : List ByteArray, (chkCat bs).length ≤ 9 * bs.length
  | [] => by simp [chkCat]
  | b :: bs => by
    have h1 := chkCat_len bs
    have h2 := chkN_le b
    unfold chkCat at h1 ⊢
    rw [List.map_cons, List.flatten_cons, List.length_append, chkL_len, List.length_cons]
    omega
def cps_Decode.f (bs : List ByteArray) : Option (List ChE × Int) :=
  if 108 < bs.length then some ([], 90) else if bs.all (fun b => decide (b.size = 508)) = true then (cps_Encode.f (chkCat bs)).bind fun r =>
    if r.2 = 0 then (slices_Equal_string_string_67.f (bs.length + 2) r.1 bs).bind fun q => if q = true then some (chkCat bs, 0) else some ([], 90) else some ([], 90)
  else some ([], 90)
theorem all_at {bs : List ByteArray} {k : Nat} (h : ∀ j, (hj : j < bs.length) → j < k → bs[j].size = 508) (hk : bs.length ≤ k) : bs.all (fun b => decide (b.size = 508)) = true := by
  rw [List.all_eq_true]
  intro b hb
  obtain ⟨j, hj, rfl⟩ := List.mem_iff_getElem.1 hb
  exact decide_eq_true (h j hj (by omega))
theorem not_all {bs : List ByteArray} {k : Nat} (hk : k < bs.length) (h : bs[k].size ≠ 508) : bs.all (fun b => decide (b.size = 508)) = false := by
  rw [Bool.eq_false_iff]
  intro hb
  rw [List.all_eq_true] at hb
  exact h (of_decide_eq_true (hb _ (List.getElem_mem hk)))
set_option maxHeartbeats 8000000 in
theorem cps_Decode.calls (A0 : Option Addr) (c0 : Nat) (l0 : List ByteArray) (r1 : List ChE) (r2 : Int) (w : World) (hr0 : Kd.C Kd.string w A0 l0.length l0) (hc0 : l0.length ≤ c0) (h : cps_Decode.f l0 = some (r1, r2)) :
    Calls Try.prog 23 #[.slice A0 l0.length c0] w fun e w' => ∃ v0_ : Value, e = .returned (.tuple #[v0_, .int .i64 r2]) ∧ Kd.R k110 110 w' w.heap.size (fun _ => True) v0_ r1 ∧ Below w.heap.size w w' := by
  have HR := Aside0.mk hr0
  have HC := Aside0.mk hc0
  clear hr0 hc0
  unfold cps_Decode.f at h
  by_cases hl : 108 < l0.length
  · rw [if_pos hl] at h
    cases h
    have h1 : decide ((108 : Int) < (l0.length : Int)) = true := decide_eq_true (by omega)
    clear hl
    go_enter Try.func23, Try.ntmps23
    go_wp2
    go_ret2
    exact ⟨_, rfl, Kd.R_nil _ _ _ _ _, Below.refl _ _⟩
  · rw [if_neg hl] at h
    have h1 : decide ((108 : Int) < (l0.length : Int)) = false := decide_eq_false (by omega)
    have HL := Aside0.mk hl
    have HH := Aside0.mk h
    clear hl h
    go_enter Try.func23, Try.ntmps23
    go_wp2
    go_loopg [4, 14] l0.length (fun gg v4 v14 w' => ∃ (kk : Nat) (m : Nat), kk ≤ l0.length ∧ l0.length - kk ≤ gg ∧ v14 = .int .i64 kk ∧ Aside0 (∀ j, (hj : j < l0.length) → j < kk → l0[j].size = 508) ∧ Aside0 (m = (chkCat (l0.take kk)).length) ∧ Aside0 (w'.ownsRow w.heap.size 110 4 v4 m (flatC (chkCat (l0.take kk)))) ∧ Aside0 (Below w.heap.size w w'))
    case atStart => exact ⟨0, 0, Nat.zero_le _, by omega, rfl, ⟨fun j _ h => absurd h (Nat.not_lt_zero _)⟩, ⟨by simp [chkCat]⟩, ⟨by simpa [chkCat, flatC] using World.ownsRow_nil _ _ _ _⟩, ⟨Below.refl _ _⟩⟩
    case round =>
      obtain ⟨kk, m, hkk, hg, rfl, HA, HM, HO, HB⟩ := hrel
      by_cases hlt : kk < l0.length
      · have hltz : (kk : Int) < (l0.length : Int) := by omega
        obtain ⟨ad, rfl, h0⟩ := Kd.at_string (Kd.C_below HR.out HB.out) (kk : Int) (by omega) hltz
        have e0 : rdOf ByteArray.empty l0 (kk : Int) = l0[kk] := by simp [rdOf, hlt]
        rw [e0] at h0
        obtain ⟨b, hb⟩ : ∃ b, l0[kk] = b := ⟨_, rfl⟩
        rw [hb, Int.toNat_natCast] at h0
        clear e0
        by_cases hs : b.size = 508
        · have hs1 : ((b.size : Int) != 508) = false := by simp; omega
          have HS := Aside0.mk hs
          have HBB := Aside0.mk hb
          clear hs hb
          go_wp2_with (first | (go_at_call 66; refine (checks_calls b _).mono ?_; rintro e w1 ⟨rfl, hw1⟩) | fail)
          have hr := HO.out
          rw [HM.out] at hr
          have hlen : (chkCat (l0.take kk)).length ≤ 100000 := by have h1 := chkCat_len (l0.take kk); have h2 := HL.out; rw [List.length_take] at h1; omega
          have hws := HB.out.size
          refine (appendSeq_calls b HS.out w.heap.size u4 (chkCat (l0.take kk)) wr.heap.size _ (World.alloc_heap_new wr _) (hr.alloc _) (by rw [World.size_alloc]; omega) hlen).mono ?_
          rintro e w2 ⟨v', rfl, hr2, hb2⟩
          have hct := chkCat_take l0 kk hlt
          rw [HBB.out] at hct
          rw [← hct] at hr2
          have hml : (chkCat (l0.take kk)).length + chkN b = (chkCat (l0.take (kk + 1))).length := by rw [hct, List.length_append, chkL_len]
          have HR2 := Aside0.mk hr2
          have HML := Aside0.mk hml
          clear hr hlen hr2 hct hml
          go_wp2
          go_roundg (l0.length - (kk + 1))
          case measure => omega
          case rel => exact ⟨kk + 1, _, by omega, by omega, by rw [wA kk 1 (by have := HL.out; omega) (by decide) (by decide)]; rfl, ⟨fun j hj hjk => by by_cases e : j = kk; (· subst e; rw [HBB.out]; exact HS.out); (· exact HA.out j hj (by omega))⟩, HML, HR2, ⟨(HB.out.alloc hws _).trans hb2⟩⟩
        · have hs1 : ((b.size : Int) != 508) = true := by simp; omega
          have hna := not_all hlt (by rw [hb]; exact hs)
          have hh := HH.out
          rw [hna] at hh
          rw [if_neg (by decide)] at hh
          cases hh
          clear hs hb hna
          go_wp2
          go_ret2
          exact ⟨_, rfl, Kd.R_nil _ _ _ _ _, HB.out⟩
      · have hltz : ¬ (kk : Int) < (l0.length : Int) := by omega
        have hq := all_at HA.out (by omega)
        have hh := HH.out
        rw [hq] at hh
        rw [if_pos rfl] at hh
        rw [show l0.take kk = l0 from List.take_of_length_le (by omega)] at HM HO
        obtain ⟨⟨q1, q2⟩, hE, hh⟩ := Option.bind_eq_some_iff.mp hh
        have hm := HM.out
        subst hm
        have HE := Aside0.mk hE
        have HHH := Aside0.mk hh
        have hR := R_of_flat HO.out
        clear hE hh hq
        obtain ⟨A4, c4, rfl, hl4, hC4⟩ := Kd.R_reads hR
        clear hR
        have HB0 := HB.out
        by_cases h2 : q2 = 0
        · have hhh := HHH.out
          rw [if_pos h2] at hhh
          obtain ⟨q, hq, hhh⟩ := Option.bind_eq_some_iff.mp hhh
          have hx2 : (q2 != 0) = false := by simp [h2]
          have HQ := Aside0.mk hq
          clear hq h2 HHH
          go_wp2_with (first | (go_at_call 18; refine (cps_Encode.calls A4 c4 (chkCat l0) q1 q2 _ hC4 hl4 HE.out).mono ?_; rintro e w1 ⟨v1, rfl, hR1, hb1⟩; obtain ⟨A5, c5, rfl, hl5, hC5⟩ := Kd.R_reads hR1) | fail)
          refine (slices_Equal_string_string_67.calls _ A5 c5 q1 A0 c0 l0 q _ hC5 hl5 (Kd.C_below HR.out (HB0.trans (hb1.mono HB0.size))) HC.out HQ.out).mono ?_
          rintro e w2 ⟨rfl, hD⟩
          have hb12 : Below w.heap.size w w2 := (HB0.trans (hb1.mono HB0.size)).trans (hD.below.mono (Nat.le_trans HB0.size hb1.size))
          have hR2 := Kd.R_below (Kd.R_below (R_of_flat HO.out) hb1) hD.below
          cases q with
          | true =>
            cases hhh
            go_wp2
            go_ret2
            exact ⟨_, rfl, hR2, hb12⟩
          | false =>
            cases hhh
            go_wp2
            go_ret2
            exact ⟨_, rfl, Kd.R_nil _ _ _ _ _, hb12⟩
        · have hhh := HHH.out
          rw [if_neg h2] at hhh
          cases hhh
          have hx2 : (q2 != 0) = true := by simp [h2]
          clear h2 HHH
          go_wp2_with (first | (go_at_call 18; refine (cps_Encode.calls A4 c4 (chkCat l0) q1 q2 _ hC4 hl4 HE.out).mono ?_; rintro e w1 ⟨v1, rfl, hR1, hb1⟩; obtain ⟨A5, c5, rfl, hl5, hC5⟩ := Kd.R_reads hR1) | fail)
          go_ret2
          exact ⟨_, rfl, Kd.R_nil _ _ _ _ _, HB0.trans (hb1.mono HB0.size)⟩
end Go.Proofs.Ythgefgjaihagoaa.C
