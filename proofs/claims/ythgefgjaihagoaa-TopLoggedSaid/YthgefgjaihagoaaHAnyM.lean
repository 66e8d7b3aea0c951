/- Moves of a drawn region: allocations, stores, calls. -/
import Derived.Test.YthgefgjaihagoaaHAnyL
set_option linter.unusedVariables false
set_option linter.unusedSimpArgs false
namespace Go.Proofs.Ythgefgjaihagoaa.H
open Go.RowKit
section
variable {P : Program} {ops : Array Oper} {Q : Exit → Act → World → Prop} {md : Region.Mode} {ls : List Nat}
variable {S : World → Prop}
/-- A pure operation behind the first of ls. -/
theorem pv (i : Nat) {oi : Oper} (v : Value) {fuel : Nat} {listed : Array Bool} {a a' : Act} {w : World} (hi : ops[i]? = some oi)
    (h : WalkL P md ops Q S ls fuel (listed.setIfInBounds i true) a' w)
    (hs : Region.noSelect ops = true := by kernel_rfl)
    (hk : (Region.free md ops listed i && (Region.ready md ops listed).contains i && !ls.contains i) = true := by kernel_rfl)
    (hx : (ls.all fun l => !listed.getD l true) = false := by kernel_rfl)
    (hQ : ∀ c a w, Q (.panic c) (a.put oi.dst v) w → Q (.panic c) a w := by intro _ _ _ h; exact h)
    (hw : Region.wanted oi (yielded ops a.tmps) = true := by kernel_rfl) (hv : ∀ w, (execOp a.eval oi).run P w = .ok (.value v) w := by intro W; go_simp)
    (ha : a.put oi.dst v = a' := by (show Act.put _ (some _) _ = _; simp only [Act.put, List.setIfInBounds_toArray, List.set_cons_zero, List.set_cons_succ]; try rfl)) : WalkL P md ops Q S ls (fuel + 1) listed a w :=
  pureL i hi hs hk hQ hw hv (fun hl => by
    have : (ls.all fun l => !listed.getD l true) = true := List.all_eq_true.2 fun l hl' => by rw [hl l hl']; rfl
    rw [this] at hx; cases hx) ha rfl h
/-- An allocation comes up alone. -/
theorem al (i : Nat) {oi : Oper} (v : Value) {fuel : Nat} {listed : Array Bool} {a a' : Act} {w : World} (w1 : World) (hr : Region.ready md ops listed = [i]) (hi : ops[i]? = some oi) (hS : S w1)
    (h : WalkL P md ops Q S ls fuel (listed.setIfInBounds i true) a' w1)
    (hv : (execOp a.eval oi).run P w = .ok (.value v) w1 := by go_simp; first | done | rfl)
    (hw : Region.wanted oi (yielded ops a.tmps) = true := by kernel_rfl)
    (ha : a.put oi.dst v = a' := by (show Act.put _ (some _) _ = _; simp only [Act.put, List.setIfInBounds_toArray, List.set_cons_zero, List.set_cons_succ]; try rfl)) : WalkL P md ops Q S ls (fuel + 1) listed a w :=
  valueL i hr hi hw hv ha rfl (fun _ => hS) h
/-- A store comes up alone; it is one of ls. -/
theorem st (i : Nat) {oi : Oper} {fuel : Nat} {listed : Array Bool} {a a' : Act} {w : World} (w1 : World) (hr : Region.ready md ops listed = [i]) (hi : ops[i]? = some oi)
    (h : WalkL P md ops Q S ls fuel (listed.setIfInBounds i true) a' w1)
    (hv : (execOp a.eval oi).run P w = .ok .skip w1 := by go_simp; first | done | rfl)
    (hw : Region.wanted oi (yielded ops a.tmps) = true := by kernel_rfl)
    (hl : ls.contains i = true := by kernel_rfl)
    (ha : a.put oi.dst undef = a' := by rfl) : WalkL P md ops Q S ls (fuel + 1) listed a w :=
  skipL i hr hi hw hv ha rfl (fun hn => absurd (by simpa using hl) hn) h
/-- A call comes up alone. -/
theorem co (i : Nat) (d : Tmp) {oi : Oper} (f : FuncId) (args : Array Value) {R : Ending → World → Prop} {fuel : Nat} {listed : Array Bool} {a : Act} {w : World} (hR : Calls P f args w R) (hr : Region.ready md ops listed = [i]) (hi : ops[i]? = some oi)
    (h : ∀ e w', R e w' → ∃ v, e = .returned v ∧ S w' ∧ WalkL P md ops Q S ls fuel (listed.setIfInBounds i true) (a.put (some d) v) w')
    (hv : (execOp a.eval oi).run P w = .ok (.enter f args) w := by go_simp)
    (hdst : oi.dst = some d := by rfl)
    (hw : Region.wanted oi (yielded ops a.tmps) = true := by kernel_rfl) : WalkL P md ops Q S ls (fuel + 1) listed a w :=
  callL i d hr hi hdst hw hv hR rfl fun e w' he => by
    obtain ⟨v, rfl, hS, h⟩ := h e w' he
    exact ⟨v, rfl, fun _ => hS, _, rfl, h⟩
end
end Go.Proofs.Ythgefgjaihagoaa.H
