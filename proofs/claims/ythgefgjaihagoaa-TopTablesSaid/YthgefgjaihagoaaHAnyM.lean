/- A region that draws, operation by operation, under what its loads read, where the last operations write what its loads read: what was read is asked only as long as none of those has come up, and these wait for the loads. -/
import Derived.OrdersHeld
import Derived.WalkKit
import Derived.RegionTactic
import Derived.KernelRfl
import Derived.Deep.RegionHeld3
set_option linter.unusedVariables false
namespace Go.Proofs.Ythgefgjaihagoaa.H
open Go.RowKit
variable {P : Program} {ops : Array Oper} {Q : Exit → Act → World → Prop} {md : Region.Mode} {S : World → Prop} {ls : List Nat}

/-- Whichever order is drawn from here on; S holds behind each operation until one of ls has come up. -/
def WalkL (P : Program) (md : Region.Mode) (ops : Array Oper) (Q : Exit → Act → World → Prop) (S : World → Prop) (ls : List Nat) : Nat → Array Bool → Act → World → Prop
  | 0, listed, a, w => Region.ready md ops listed = [] ∧ Q .normal a w
  | fuel + 1, listed, a, w => (Region.ready md ops listed = [] → Q .normal a w) ∧
    ∀ i ∈ Region.ready md ops listed, wpOp P ops Q i (fun a' w' => (i ∉ ls → (∀ l ∈ ls, listed.getD l true = false) → S w') ∧ WalkL P md ops Q S ls fuel (listed.setIfInBounds i true) a' w') a w
theorem WalkL.any : ∀ (fuel : Nat) (listed : Array Bool) (a : Act) (w : World), WalkL P md ops Q S ls fuel listed a w → wpAny P md ops Q fuel listed a w
  | 0, _, _, _, h => h
  | fuel + 1, _, _, _, h => ⟨h.1, fun i hi => wpOp_mono (fun a' w' h' => WalkL.any fuel _ a' w' h'.2) (h.2 i hi)⟩
/-- Each of ls waits for operation i. -/
def waitsL (md : Region.Mode) (ops : Array Oper) (ls : List Nat) (i : Nat) : Bool :=
  ls.all fun l => match ops[l]? with | none => false | some o => o.after.any fun e => Region.binds md e && e.on == i
theorem waitsL_spec {i : Nat} (h : waitsL md ops ls i = true) : ∀ l ∈ ls, ∃ o, ops[l]? = some o ∧ ∃ e ∈ o.after, Region.binds md e = true ∧ e.on = i := by
  intro l hl
  have h1 := List.all_eq_true.1 h l hl
  cases ho : ops[l]? with
  | none => rw [ho] at h1; cases h1
  | some o =>
    rw [ho] at h1
    obtain ⟨e, he, hb⟩ := Array.any_eq_true'.1 h1
    simp only [Bool.and_eq_true, beq_iff_eq] at hb
    exact ⟨o, rfl, e, he, hb.1, hb.2⟩
theorem set_unlisted {listed : Array Bool} {i l : Nat} (h : (listed.setIfInBounds i true).getD l true = false) : l ≠ i ∧ listed.getD l true = false := by
  have hne : l ≠ i := by
    rintro rfl
    rcases Nat.lt_or_ge l listed.size with h' | h'
    · simp [h'] at h
    · simp [h'] at h
  exact ⟨hne, by rw [getD_set_ne true (Ne.symm hne)] at h; exact h⟩
/-- An operation that yields its value whatever the order may be taken first. -/
theorem WalkL.first {S0 : World → Prop} {i : Nat} {oi : Oper} {v : Value} (hi : ops[i]? = some oi) (hil : i ∉ ls) (hsel : ∀ (j : Nat) (o : Oper) cs b, ops[j]? = some o → o.op ≠ .select cs b)
    (hQ : ∀ c a w, Q (.panic c) (a.put oi.dst v) w → Q (.panic c) a w) :
    ∀ (fuel : Nat) (listed : Array Bool) (a : Act) (w : World),
      (∀ j oj, ops[j]? = some oj → j ≠ i → listed.getD j true = false → (∀ e ∈ oj.after, Region.binds md e = true → e.on ≠ i) → oi.apart ops oj = true) →
      i ∈ Region.ready md ops listed → YieldsIf P ops S0 oi v a →
      ((∀ w, S0 w) ∨ (waitsL md ops ls i = true ∧ (∀ w, S w → S0 w) ∧ ∀ l ∈ ls, listed.getD l true = false)) → ((∀ l ∈ ls, listed.getD l true = false) → S w) →
      WalkL P md ops Q S ls fuel (listed.setIfInBounds i true) (a.put oi.dst v) w → WalkL P md ops Q S ls (fuel + 1) listed a w := by
  have use : ∀ {listed : Array Bool} {w : World}, ((∀ w, S0 w) ∨ (waitsL md ops ls i = true ∧ (∀ w, S w → S0 w) ∧ ∀ l ∈ ls, listed.getD l true = false)) → ((∀ l ∈ ls, listed.getD l true = false) → S w) → S0 w := fun {_ w} h hS => by
    rcases h with h | ⟨_, h, hu⟩
    · exact h w
    · exact h w (hS hu)
  intro fuel
  induction fuel with
  | zero =>
    intro listed a w _ hr hy hc hS H
    refine ⟨fun h => (by rw [h] at hr; cases hr), fun j hj => ?_⟩
    by_cases hji : j = i
    · subst hji
      exact hy.wpOp hi (use hc hS) ⟨fun _ hl => hS hl, H⟩
    · have := ready_mono hj hji
      rw [H.1] at this
      cases this
  | succ fuel ih =>
    intro listed a w hfree hr hy hc hS H
    refine ⟨fun h => (by rw [h] at hr; cases hr), fun j hj => ?_⟩
    by_cases hji : j = i
    · subst hji
      exact hy.wpOp hi (use hc hS) ⟨fun _ hl => hS hl, H⟩
    · have h1 := H.2 j (ready_mono hj hji)
      obtain ⟨hjun, oj, hoj, hall⟩ := mem_ready.1 hj
      have hnot : ∀ e ∈ oj.after, Region.binds md e = true → e.on ≠ i := fun e he hb heq => by
        have h1 := hall e he hb
        have h0 := (mem_ready.1 hr).1
        rw [heq] at h1
        rcases Nat.lt_or_ge i listed.size with h' | h'
        · simp [h'] at h0 h1; rw [h0] at h1; cases h1
        · simp [Array.getElem?_eq_none h'] at h1
      have h2 := wpOp_putIf hoj (hfree j oj hoj hji hjun hnot) (fun cs b => hsel i oi cs b hi) (fun cs b => hsel j oj cs b hoj) hQ hy h1
      have hfree' : ∀ k ok, ops[k]? = some ok → k ≠ i → (listed.setIfInBounds j true).getD k true = false →
          (∀ e ∈ ok.after, Region.binds md e = true → e.on ≠ i) → oi.apart ops ok = true := fun k ok hk hki hun hno => hfree k ok hk hki (set_unlisted hun).2 hno
      have hc' : (∀ w, S0 w) ∨ (waitsL md ops ls i = true ∧ (∀ w, S w → S0 w) ∧ ∀ l ∈ ls, (listed.setIfInBounds j true).getD l true = false) := by
        rcases hc with hc | ⟨hw, hs, hu⟩
        · exact .inl hc
        · refine .inr ⟨hw, hs, fun l hl => ?_⟩
          have hlj : j ≠ l := by
            rintro rfl
            obtain ⟨o, ho, e, he, hb, heq⟩ := waitsL_spec hw j hl
            rw [hoj] at ho
            obtain rfl := Option.some.inj ho
            exact hnot e he hb heq
          rw [getD_set_ne true hlj]
          exact hu l hl
      refine wpOp_mono (fun a' w' h3 => ?_) h2
      obtain ⟨hy', hC, hW⟩ := h3
      have hCs : j ∉ ls → (∀ l ∈ ls, listed.getD l true = false) → S w' := fun hjl hu => hC hjl fun l hl => by
        rw [getD_set_ne true (fun e => hil (by rw [e]; exact hl))]
        exact hu l hl
      refine ⟨hCs, ih (listed.setIfInBounds j true) a' w' hfree' (ready_mono hr (Ne.symm hji)) hy' hc' (fun hu => hCs (fun hjl => (set_unlisted (hu j hjl)).1 rfl) fun l hl => (set_unlisted (hu l hl)).2) ?_⟩
      rw [Array.setIfInBounds_comm _ _ hji]
      exact hW

/-! ### the moves -/
/-- A load (what it reads is told by S). -/
theorem takeL (i : Nat) {oi : Oper} {v : Value} {fuel : Nat} {listed l' : Array Bool} {a a' : Act} {w : World} (hi : ops[i]? = some oi) (hs : Region.noSelect ops = true)
    (hk : (Region.free md ops listed i && (Region.ready md ops listed).contains i && waitsL md ops ls i && (ls.all fun l => !listed.getD l true) && !ls.contains i) = true)
    (hQ : ∀ c a w, Q (.panic c) (a.put oi.dst v) w → Q (.panic c) a w)
    (hw : Region.wanted oi (yielded ops a.tmps) = true) (hv : ∀ w, S w → (execOp a.eval oi).run P w = .ok (.value v) w) (hS : S w) (ha : a.put oi.dst v = a') (hl : listed.setIfInBounds i true = l')
    (h : WalkL P md ops Q S ls fuel l' a' w) : WalkL P md ops Q S ls (fuel + 1) listed a w := by
  simp only [Bool.and_eq_true, List.all_eq_true, Bool.not_eq_true'] at hk
  obtain ⟨⟨⟨⟨hf, hr⟩, hwt⟩, hun⟩, hil⟩ := hk
  exact WalkL.first (S0 := S) hi (fun h => by simp at hil; exact hil h) (Region.noSelect_spec hs) hQ fuel listed a w (Region.free_spec hi hf) (by simpa using hr) (.inl ⟨hw, hv⟩) (.inr ⟨hwt, fun _ h => h, hun⟩) (fun _ => hS) (ha ▸ hl ▸ h)
/-- An operation that asks nothing of the world. -/
theorem pureL (i : Nat) {oi : Oper} {v : Value} {fuel : Nat} {listed l' : Array Bool} {a a' : Act} {w : World} (hi : ops[i]? = some oi) (hs : Region.noSelect ops = true)
    (hk : (Region.free md ops listed i && (Region.ready md ops listed).contains i && !ls.contains i) = true)
    (hQ : ∀ c a w, Q (.panic c) (a.put oi.dst v) w → Q (.panic c) a w)
    (hw : Region.wanted oi (yielded ops a.tmps) = true) (hv : ∀ w, (execOp a.eval oi).run P w = .ok (.value v) w) (hS : (∀ l ∈ ls, listed.getD l true = false) → S w) (ha : a.put oi.dst v = a') (hl : listed.setIfInBounds i true = l')
    (h : WalkL P md ops Q S ls fuel l' a' w) : WalkL P md ops Q S ls (fuel + 1) listed a w := by
  simp only [Bool.and_eq_true, Bool.not_eq_true'] at hk
  obtain ⟨⟨hf, hr⟩, hil⟩ := hk
  exact WalkL.first (S0 := fun _ => True) hi (fun h => by simp at hil; exact hil h) (Region.noSelect_spec hs) hQ fuel listed a w (Region.free_spec hi hf) (by simpa using hr) (.inl ⟨hw, fun w _ => hv w⟩) (.inl fun _ => trivial) hS (ha ▸ hl ▸ h)
/-- The one operation that may come up. -/
theorem oneL (i : Nat) {o : Oper} {fuel : Nat} {listed : Array Bool} {a : Act} {w : World} (hr : Region.ready md ops listed = [i]) (ho : ops[i]? = some o) (hw : Region.wanted o (yielded ops a.tmps) = true)
    (h : ∀ K' : Act → World → Prop, (∀ a w, ((i ∉ ls → S w) ∧ WalkL P md ops Q S ls fuel (listed.setIfInBounds i true) a w) → K' a w) → Oper.wp P o a w K' Q) : WalkL P md ops Q S ls (fuel + 1) listed a w := by
  refine ⟨fun h0 => (by rw [hr] at h0; cases h0), fun j hj => ?_⟩
  rw [hr] at hj
  obtain rfl := List.mem_singleton.1 hj
  refine wpOp_step ho fun K' hK => ?_
  rw [if_pos hw]
  exact h K' fun a w hh => hK a w ⟨fun hi _ => hh.1 hi, hh.2⟩
theorem valueL (i : Nat) {oi : Oper} {v : Value} {fuel : Nat} {listed l' : Array Bool} {a a' : Act} {w w1 : World} (hr : Region.ready md ops listed = [i]) (hi : ops[i]? = some oi)
    (hw : Region.wanted oi (yielded ops a.tmps) = true) (hv : (execOp a.eval oi).run P w = .ok (.value v) w1) (ha : a.put oi.dst v = a') (hl : listed.setIfInBounds i true = l') (hS : i ∉ ls → S w1)
    (h : WalkL P md ops Q S ls fuel l' a' w1) : WalkL P md ops Q S ls (fuel + 1) listed a w :=
  oneL i hr hi hw fun K' hK => by
    unfold Oper.wp
    rw [hv]
    exact hK _ _ ⟨hS, ha ▸ hl ▸ h⟩
theorem skipL (i : Nat) {oi : Oper} {fuel : Nat} {listed l' : Array Bool} {a a' : Act} {w w1 : World} (hr : Region.ready md ops listed = [i]) (hi : ops[i]? = some oi)
    (hw : Region.wanted oi (yielded ops a.tmps) = true) (hv : (execOp a.eval oi).run P w = .ok .skip w1) (ha : a.put oi.dst undef = a') (hl : listed.setIfInBounds i true = l') (hS : i ∉ ls → S w1)
    (h : WalkL P md ops Q S ls fuel l' a' w1) : WalkL P md ops Q S ls (fuel + 1) listed a w :=
  oneL i hr hi hw fun K' hK => by
    unfold Oper.wp
    rw [hv]
    exact hK _ _ ⟨hS, ha ▸ hl ▸ h⟩
theorem callL (i : Nat) (d : Tmp) {oi : Oper} {f : FuncId} {args : Array Value} {R : Ending → World → Prop} {fuel : Nat} {listed l' : Array Bool} {a : Act} {w : World} (hr : Region.ready md ops listed = [i]) (hi : ops[i]? = some oi) (hdst : oi.dst = some d)
    (hw : Region.wanted oi (yielded ops a.tmps) = true) (hv : (execOp a.eval oi).run P w = .ok (.enter f args) w) (hR : Calls P f args w R) (hl : listed.setIfInBounds i true = l')
    (h : ∀ e w', R e w' → ∃ v, e = .returned v ∧ (i ∉ ls → S w') ∧ ∃ a', a.put (some d) v = a' ∧ WalkL P md ops Q S ls fuel l' a' w') : WalkL P md ops Q S ls (fuel + 1) listed a w :=
  oneL i hr hi hw fun K' hK => by
    unfold Oper.wp
    rw [hv]
    refine hR.mono ?_
    rintro e w' he
    obtain ⟨v, rfl, hS, a', ha', h⟩ := h e w' he
    subst ha'
    subst hl
    rw [← hdst] at h
    exact hK _ _ ⟨hS, h⟩
theorem doneL {listed : Array Bool} {a : Act} {w : World} (hr : Region.ready md ops listed = []) (h : Q .normal a w) : ∀ fuel, WalkL P md ops Q S ls fuel listed a w
  | 0 => ⟨hr, h⟩
  | _ + 1 => ⟨fun _ => h, by rw [hr]; simp⟩
theorem startL {id : Nat} {a : Act} {w : World} (S : World → Prop) (ls : List Nat) (hm : P.follows .mixedOrders = true)
    (h : WalkL P .any ops Q S ls ops.size (Array.replicate ops.size false) a w.drew) : (Code.region id ops true).wp P Q a w :=
  wp_region_any hm (WalkL.any _ _ _ _ h)
/-! ### the same, what is checked by itself left to itself -/
theorem ld (i : Nat) {oi : Oper} (v : Value) {fuel : Nat} {listed : Array Bool} {a a' : Act} {w : World} (hS : S w) (hi : ops[i]? = some oi)
    (h : WalkL P md ops Q S ls fuel (listed.setIfInBounds i true) a' w)
    (hs : Region.noSelect ops = true := by kernel_rfl)
    (hk : (Region.free md ops listed i && (Region.ready md ops listed).contains i && waitsL md ops ls i && (ls.all fun l => !listed.getD l true) && !ls.contains i) = true := by kernel_rfl)
    (hQ : ∀ c a w, Q (.panic c) (a.put oi.dst v) w → Q (.panic c) a w := by intro _ _ _ h; exact h)
    (hw : Region.wanted oi (yielded ops a.tmps) = true := by kernel_rfl) (hv : ∀ w, S w → (execOp a.eval oi).run P w = .ok (.value v) w := by intro W hS; go_split_ands; go_simp)
    (ha : a.put oi.dst v = a' := by (show Act.put _ (some _) _ = _; simp only [Act.put, List.setIfInBounds_toArray, List.set_cons_zero, List.set_cons_succ]; try rfl)) : WalkL P md ops Q S ls (fuel + 1) listed a w :=
  takeL i hi hs hk hQ hw hv hS ha rfl h
theorem pu (i : Nat) {oi : Oper} (v : Value) {fuel : Nat} {listed : Array Bool} {a a' : Act} {w : World} (hS : S w) (hi : ops[i]? = some oi)
    (h : WalkL P md ops Q S ls fuel (listed.setIfInBounds i true) a' w)
    (hs : Region.noSelect ops = true := by kernel_rfl)
    (hk : (Region.free md ops listed i && (Region.ready md ops listed).contains i && !ls.contains i) = true := by kernel_rfl)
    (hQ : ∀ c a w, Q (.panic c) (a.put oi.dst v) w → Q (.panic c) a w := by intro _ _ _ h; exact h)
    (hw : Region.wanted oi (yielded ops a.tmps) = true := by kernel_rfl) (hv : ∀ w, (execOp a.eval oi).run P w = .ok (.value v) w := by intro W; go_simp)
    (ha : a.put oi.dst v = a' := by (show Act.put _ (some _) _ = _; simp only [Act.put, List.setIfInBounds_toArray, List.set_cons_zero, List.set_cons_succ]; try rfl)) : WalkL P md ops Q S ls (fuel + 1) listed a w :=
  pureL i hi hs hk hQ hw hv (fun _ => hS) ha rfl h
end Go.Proofs.Ythgefgjaihagoaa.H

set_option linter.unusedVariables false
set_option linter.unusedSimpArgs false
namespace Go.Proofs.Ythgefgjaihagoaa.H
open Go.RowKit
section
variable {P : Program} {ops : Array Oper} {Q : Exit → Act → World → Prop} {md : Region.Mode} {ls : List Nat}
variable {S : World → Prop}
/-- An allocation comes up alone. -/
theorem al (i : Nat) {oi : Oper} (v : Value) {fuel : Nat} {listed : Array Bool} {a a' : Act} {w : World} (w1 : World) (hr : Region.ready md ops listed = [i]) (hi : ops[i]? = some oi) (hS : S w1)
    (h : WalkL P md ops Q S ls fuel (listed.setIfInBounds i true) a' w1)
    (hv : (execOp a.eval oi).run P w = .ok (.value v) w1 := by go_simp; first | done | rfl)
    (hw : Region.wanted oi (yielded ops a.tmps) = true := by kernel_rfl)
    (ha : a.put oi.dst v = a' := by (show Act.put _ (some _) _ = _; simp only [Act.put, List.setIfInBounds_toArray, List.set_cons_zero, List.set_cons_succ]; try rfl)) : WalkL P md ops Q S ls (fuel + 1) listed a w :=
  valueL i hr hi hw hv ha rfl (fun _ => hS) h
/-- A store comes up alone; it is one of ls. -/
theorem st (i : Nat) {oi : Oper} {fuel : Nat} {listed : Array Bool} {a a' : Act} {w : World} (w1 : World) (hr : Region.ready md ops listed = [i]) (hi : ops[i]? = some oi)
    (h : WalkL P md ops Q S ls fuel (listed.setIfInBounds i true) a' w1)
    (hv : (execOp a.eval oi).run P w = .ok .skip w1 := by go_simp; first | done | rfl)
    (hw : Region.wanted oi (yielded ops a.tmps) = true := by kernel_rfl)
    (hl : ls.contains i = true := by kernel_rfl)
    (ha : a.put oi.dst undef = a' := by rfl) : WalkL P md ops Q S ls (fuel + 1) listed a w :=
  skipL i hr hi hw hv ha rfl (fun hn => absurd (by simpa using hl) hn) h
/-- A call comes up alone. -/
theorem co (i : Nat) (d : Tmp) {oi : Oper} (f : FuncId) (args : Array Value) {R : Ending → World → Prop} {fuel : Nat} {listed : Array Bool} {a : Act} {w : World} (hR : Calls P f args w R) (hr : Region.ready md ops listed = [i]) (hi : ops[i]? = some oi)
    (h : ∀ e w', R e w' → ∃ v, e = .returned v ∧ S w' ∧ WalkL P md ops Q S ls fuel (listed.setIfInBounds i true) (a.put (some d) v) w')
    (hv : (execOp a.eval oi).run P w = .ok (.enter f args) w := by go_simp)
    (hdst : oi.dst = some d := by rfl)
    (hw : Region.wanted oi (yielded ops a.tmps) = true := by kernel_rfl) : WalkL P md ops Q S ls (fuel + 1) listed a w :=
  callL i d hr hi hdst hw hv hR rfl fun e w' he => by
    obtain ⟨v, rfl, hS, h⟩ := h e w' he
    exact ⟨v, rfl, fun _ => hS, _, rfl, h⟩
end
end Go.Proofs.Ythgefgjaihagoaa.H
