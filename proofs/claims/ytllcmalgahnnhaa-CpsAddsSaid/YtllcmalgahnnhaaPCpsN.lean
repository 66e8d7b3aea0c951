/- A table's numbers. -/
import Derived.Test.YtllcmalgahnnhaaQ4
import Derived.Test.YtllcmalgahnnhaaPCps
set_option linter.unusedVariables false
namespace Go.Proofs.Ytllcmalgahnnhaa.P
open Go.RowKit Go.Proofs.Ytllcmalgahnnhaa.H Go.Proofs.Ytllcmalgahnnhaa.Q Go.Proofs.YtllcmalgahnnhaaW.PrintWords Go.Proofs.YtllcmalgahnnhaaW.PrintLast Go.Proofs.YtllcmalgahnnhaaW.PrintMore

def f0s (l : List CkE) : List Int := l.map fun x => x.f0
theorem f0s_cons {l : List CkE} {i : Nat} (h : i < l.length) : f0s (l.drop i) = l[i].f0 :: f0s (l.drop (i + 1)) := by rw [List.drop_eq_getElem_cons h]; rfl
theorem numbers_loop (l : List CkE) (hl : l.length ≤ 1000000000) : ∀ d i k (xs : List Int), i + d = l.length → d < k → xs.length ≤ i → cps_Numbers.l0 k xs l (l.length : Int) (i : Int) = some (xs ++ f0s (l.drop i))
  | 0, i, 0, _, _, h, _ => by omega
  | 0, i, k + 1, xs, hi, _, _ => by rw [cps_Numbers.l0, if_neg (by omega), List.drop_of_length_le (by omega)]; simp [f0s]
  | d + 1, i, 0, _, _, h, _ => by omega
  | d + 1, i, k + 1, xs, hi, h, hx => by
    have hlt : i < l.length := by omega
    rw [cps_Numbers.l0, if_pos (by omega), if_pos (by omega), if_pos (by omega), if_pos (by omega), rd_at l i hlt, w64 i (by omega), numbers_loop l hl d (i + 1) k _ (by omega) (by omega) (by simp; omega), f0s_cons hlt, List.append_assoc]; rfl
theorem numbers_f (l : List CkE) (k : Nat) (hl : l.length ≤ 1000000000) (hk : l.length < k) : cps_Numbers.f k l = some (f0s l) := by
  unfold cps_Numbers.f
  rw [show (0 : Int) = ((0 : Nat) : Int) from rfl, numbers_loop l hl l.length 0 k [] (by omega) hk (by simp)]; rfl
end Go.Proofs.Ytllcmalgahnnhaa.P
