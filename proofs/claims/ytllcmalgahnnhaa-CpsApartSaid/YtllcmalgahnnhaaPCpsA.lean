/- What is put behind a table. -/
import Derived.Test.YtllcmalgahnnhaaQ7
import Derived.Test.YtllcmalgahnnhaaPCps
set_option linter.unusedVariables false
namespace Go.Proofs.Ytllcmalgahnnhaa.P
open Go.RowKit Go.Proofs.Ytllcmalgahnnhaa.H Go.Proofs.Ytllcmalgahnnhaa.Q Go.Proofs.YtllcmalgahnnhaaW.PrintWords Go.Proofs.YtllcmalgahnnhaaW.PrintLast Go.Proofs.YtllcmalgahnnhaaW.PrintMore

def addV (l : List CkE) (c : CkE) : List CkE × Int := if rightB l = true then (if (l.length : Int) = 108 then ([], 91) else if rightB (l ++ [c]) = true then (l ++ [c], 0) else ([], 90)) else ([], 90)
theorem add_f (l : List CkE) (c0 c1 : Int) (c2 : Bool) (c3 : ByteArray) (k : Nat) (hl : l.length ≤ 1000000) (hk : l.length + 1 < k) : cps_Add.f k l c0 c1 c2 c3 = some (addV l ⟨c0, c1, c2, c3⟩) := by
  unfold cps_Add.f addV
  rw [right_f l k (by omega) (by omega), Option.bind_some]
  split
  · split
    · rfl
    · unfold api_Check_39.f
      rw [if_pos (by omega), Option.bind_some, Option.bind_some, if_pos (by simp; omega), Option.bind_some, right_f _ k (by simp; omega) (by simp; omega), Option.bind_some]
      split <;> rfl
  · rfl
theorem addV_len (l : List CkE) (c : CkE) : (addV l c).1.length ≤ l.length + 1 := by
  unfold addV
  split
  · split
    · simp
    · split <;> simp
  · simp
end Go.Proofs.Ytllcmalgahnnhaa.P
