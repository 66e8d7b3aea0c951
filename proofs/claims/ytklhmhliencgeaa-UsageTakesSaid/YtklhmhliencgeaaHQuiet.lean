/- A region that draws its order, inside a round of a range over a function: walked once, its callees ending in 'Below'. -/
import Derived.Lib.QuietBelowIn
import Derived.OrdersIn
import Derived.RangeFuncCalls
set_option linter.unusedVariables false
namespace Go.Proofs.Ytklhmhliencgeaa.H
open Go Go.Sort Go.RowKit
variable {F : Fence} {n : Nat} {P : Program} {ops : Array Oper}

def noDefer (o : Oper) : Bool := match o.op with | .defer _ => false | _ => true
theorem noDefer_spec {o : Oper} (h : noDefer o = true) : ∀ c, o.op ≠ .defer c := fun c e => by unfold noDefer at h; rw [e] at h; cases h

theorem wpOpIn_round {l i : Nat} {Q : Exit → Act → World → Prop} {K : Act → World → Prop} {a : Act} {w : World} (hro : F.round = none) (hd : ops.all noDefer = true)
    (h : wpOpIn F n P ops Q i K a w) : wpOpIn (F.inRound l) n P ops Q i K a w := by
  unfold wpOpIn at *
  cases ho : ops[i]? with
  | none => rw [ho] at h; exact h
  | some o =>
    rw [ho] at h
    have hdo := noDefer_spec (Array.all_eq_true_iff_forall_mem.1 hd o (Array.mem_of_getElem? ho))
    simp only at h ⊢
    split
    · rename_i hw
      rw [if_pos hw] at h
      unfold Oper.wpIn at *
      rw [Oper.semAt_eq _ _ _ hdo] at h ⊢
      exact ⟨h.1, h.2⟩
    · rename_i hw
      rw [if_neg hw] at h
      exact h

theorem wpAnyIn_round {l : Nat} {md : Region.Mode} {Q : Exit → Act → World → Prop} (hro : F.round = none) (hd : ops.all noDefer = true) :
    ∀ (fuel : Nat) (listed : Array Bool) (a : Act) (w : World), wpAnyIn F n P md ops Q fuel listed a w → wpAnyIn (F.inRound l) n P md ops Q fuel listed a w
  | 0, _, _, _, h => h
  | fuel + 1, _, _, _, h => ⟨h.1, fun i hi => wpOpIn_round hro hd (wpOpIn_mono (fun a w => wpAnyIn_round hro hd fuel _ a w) (h.2 i hi))⟩

theorem wpIn_quiet_round {id l0 : Nat} {Q : Exit → Act → World → Prop} {a : Act} {w : World} {l : List Oper} (hro : F.round = none) (hm : P.follows .mixedOrders = true) (hB : Region.lexB .any l.toArray = true) (hd : l.toArray.all noDefer = true)
    (h : wpQuietIn F n P l.toArray (fun w' => ∃ p : Regrown, w' = grow (redrawn w p.d) p.os) (fun a' => ∀ w', (∃ p : Regrown, w' = grow (redrawn w p.d) p.os) → Q .normal a' w') l a) : (Code.region id l.toArray true).wpIn (F.inRound l0) n P Q a w := by
  simp only [Region.lexB, Bool.and_eq_true] at hB
  refine wpIn_region_any hm (wpAnyIn_round hro hd _ _ _ _ (wpAnyIn_of_quiet (C := fun w' => ∃ p : Regrown, w' = grow (redrawn w p.d) p.os) (Q := fun a' => ∀ w', (∃ p : Regrown, w' = grow (redrawn w p.d) p.os) → Q .normal a' w') hro (fun _ w' hw' h => h w' hw') _ _ _ _ ⟨⟨w.drawn + 1, #[]⟩, by rw [grow_empty]; rfl⟩ ?_))
  have := wpAnyQIn_lex (F := F) (n := n) (C := fun w' => ∃ p : Regrown, w' = grow (redrawn w p.d) p.os) (md := .any) hB.1 l 0 (Array.replicate l.toArray.size false) a (by simp) (by simpa using hB.2) h
  simpa using this
end Go.Proofs.Ytklhmhliencgeaa.H
