/- The contracts of vol.Cut and vol.Changed in the print's words. -/
import Derived.Test.YtpcokafalmafgaaHVol
import Derived.Test.YtpcokafalmafgaaWWords
set_option linter.unusedVariables false
namespace Go.Proofs.Ytpcokafalmafgaa.H
open Go.RowKit Go.Proofs.YtpcokafalmafgaaW.PrintWords

/-- vol.Cut -/
def vol_Cut.f (s : ByteArray) : Option (List ByteArray) := if s.size ≤ 140737488355328 then some (pieceL s (pieces s)) else none
theorem vol_Cut.calls (s : ByteArray) (r : List ByteArray) (w : World) (h : vol_Cut.f s = some r) :
    Calls Try.prog 13 #[.string s] w fun e w' => ∃ v0_ : Value, e = .returned (v0_) ∧ Kd.R Kd.string 9 w' w.heap.size (fun _ => True) v0_ r ∧ Below w.heap.size w w' := by
  unfold vol_Cut.f at h
  split at h
  · rename_i hs
    obtain rfl := Option.some.inj h
    refine (cut_walk s w hs).mono ?_
    rintro e w' ⟨v, rfl, hr, hb⟩
    have hl : (pieceL s (pieces s)).length = pieces s := by simp [pieceL]
    exact ⟨v, rfl, Kd.R_of_own (by rw [hl]; exact hr) (fun _ _ => trivial), hb⟩
  · cases h

/-- vol.Changed -/
def vol_Changed.f (was now : ByteArray) : Option (List Int) := if was.size ≤ 140737488355328 ∧ now.size ≤ 140737488355328 then some ((diffL was now (pieces now)).map fun k : Nat => (k : Int)) else none
theorem vol_Changed.calls (was now : ByteArray) (r : List Int) (w : World) (h : vol_Changed.f was now = some r) :
    Calls Try.prog 12 #[.string was, .string now] w fun e w' => ∃ v0_ : Value, e = .returned (v0_) ∧ Kd.R (Kd.int .i64) 3 w' w.heap.size (fun _ => True) v0_ r ∧ Below w.heap.size w w' := by
  unfold vol_Changed.f at h
  split at h
  · rename_i hs
    obtain rfl := Option.some.inj h
    refine (changed_walk was now w hs.1 hs.2).mono ?_
    rintro e w' ⟨v, rfl, hr, hb⟩
    refine ⟨v, rfl, Kd.R_of_own ?_ (fun _ _ => trivial), hb⟩
    rw [List.length_map]
    have : encs (Value.int .i64) ((diffL was now (pieces now)).map fun k : Nat => (k : Int)) = (diffL was now (pieces now)).map intV := by
      simp [encs, intV, Function.comp_def]
    rw [this]; exact hr
  · cases h
end Go.Proofs.Ytpcokafalmafgaa.H
