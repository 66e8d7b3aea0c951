/- A region that draws, inside a fence, operation by operation: what is pure is taken first; a load or a call that comes up. -/
import Derived.Test.YtdcdcnnigggdjaaHRF
import Derived.OwnWalkIn
import Derived.TacticsInMore
set_option linter.unusedVariables false
namespace Go.Proofs.Ytdcdcnnigggdjaa.H
open Go.RowKit
variable {F : Fence} {n : Nat} {P : Program} {ops : Array Oper} {Q : Exit → Act → World → Prop} {md : Region.Mode}
/-- An operation of a region that draws is taken first: it yields its value in whatever world. -/
theorem takeIn (i : Nat) {oi : Oper} {v : Value} {fuel : Nat} {listed : Array Bool} {a a' : Act} {w : World} (hi : ops[i]? = some oi) (hro : F.round = none) (hs : Region.noSelect ops = true)
    (hf : Region.free md ops listed i = true) (hr : (Region.ready md ops listed).contains i = true) (hQ : ∀ c a w, Q (.panic c) (a.put oi.dst v) w → Q (.panic c) a w)
    (hw : Region.wanted oi (yielded ops a.tmps) = true) (hv : ∀ w, (execOp a.eval oi).run P w = .ok (.value v) w) (hab : ∀ w, oi.about P w a.eval = none) (ha : a.put oi.dst v = a')
    (h : wpAnyIn F n P md ops Q fuel (listed.setIfInBounds i true) a' w) : wpAnyIn F n P md ops Q (fuel + 1) listed a w :=
  wpAnyIn_take hro hi hs hf hr hQ ⟨.inl ⟨hw, hv⟩, hab⟩ (ha ▸ h)
/-- One that comes up: it leaves its value, in this world. -/
theorem readyIn (i : Nat) {oi : Oper} {v : Value} {fuel : Nat} {listed : Array Bool} {a a' : Act} {w : World} {rs : List Nat} (hi : ops[i]? = some oi) (hro : F.round = none)
    (hw : Region.wanted oi (yielded ops a.tmps) = true) (hv : (execOp a.eval oi).run P w = .ok (.value v) w) (hab : oi.about P w a.eval = none) (ha : a.put oi.dst v = a')
    (h : wpAnyIn F n P md ops Q fuel (listed.setIfInBounds i true) a' w) (hs : AllReadyIn F n P md ops Q fuel listed a w rs) : AllReadyIn F n P md ops Q fuel listed a w (i :: rs) := by
  refine AllReadyIn.cons hi (fun K' hK => ?_) hs
  rw [if_pos hw]
  unfold Oper.wpIn
  refine ⟨fun f hf => (by rw [hab] at hf; cases hf), ?_⟩
  rw [hro, Oper.semAt_none, hv]
  exact hK _ _ (ha ▸ h)
/-- A call of a function that comes up. -/
theorem enterIn (i : Nat) (d : Tmp) {oi : Oper} {f : FuncId} {args : Array Value} {R : Ending → World → Prop} {fuel : Nat} {listed : Array Bool} {a : Act} {w : World} {rs : List Nat} (hi : ops[i]? = some oi) (hdst : oi.dst = some d) (hro : F.round = none)
    (hw : Region.wanted oi (yielded ops a.tmps) = true) (hv : (execOp a.eval oi).run P w = .ok (.enter f args) w) (hab : ∀ g, oi.about P w a.eval = some g → F.fn g) (hd : F.depth.isSome = true → 1 ≤ n)
    (hR : CallsIn F (n - 1) P f args w R) (h : ∀ e w', R e w' → ∃ v, e = .returned v ∧ wpAnyIn F n P md ops Q fuel (listed.setIfInBounds i true) (a.put (some d) v) w')
    (hs : AllReadyIn F n P md ops Q fuel listed a w rs) : AllReadyIn F n P md ops Q fuel listed a w (i :: rs) := by
  refine AllReadyIn.cons hi (fun K' hK => ?_) hs
  rw [if_pos hw]
  unfold Oper.wpIn
  refine ⟨hab, ?_⟩
  rw [hro, Oper.semAt_none, hv]
  refine ⟨hd, hR.mono ?_⟩
  rintro e w' he
  obtain ⟨v, rfl, h⟩ := h e w' he
  rw [← hdst] at h
  exact hK _ _ h
end Go.Proofs.Ytdcdcnnigggdjaa.H
