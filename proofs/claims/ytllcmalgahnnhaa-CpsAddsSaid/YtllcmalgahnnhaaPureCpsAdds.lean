/- The law CpsAdds, in plain words: which tables may be, what is put behind, what is found is what the document says. -/
import Derived.Test.YtllcmalgahnnhaaQ16
import Derived.Test.YtllcmalgahnnhaaQ16
import Derived.Test.YtllcmalgahnnhaaQ16
import Derived.Test.YtllcmalgahnnhaaQ16
import Derived.Test.YtllcmalgahnnhaaPCpsM
import Derived.Test.YtllcmalgahnnhaaPCpsA
import Derived.Test.YtllcmalgahnnhaaPCpsN
set_option linter.unusedVariables false
namespace Go.Proofs.Ytllcmalgahnnhaa.Pure
open Go.RowKit Go.Proofs.Ytllcmalgahnnhaa.P Go.Proofs.Ytllcmalgahnnhaa.H Go.Proofs.Ytllcmalgahnnhaa.Q Go.Proofs.YtllcmalgahnnhaaW.PrintWords Go.Proofs.YtllcmalgahnnhaaW.PrintLast

theorem refadd_f (l : List CkE) (c0 c1 : Int) (c2 : Bool) (c3 : ByteArray) (k : Nat) (hl : l.length ≤ 1000000) (hk : l.length + 1 < k) : nautilusref09_Add.f k l c0 c1 c2 c3 = some (addV l ⟨c0, c1, c2, c3⟩) := by
  unfold nautilusref09_Add.f addV
  rw [refRight_f l k (by omega) (by omega), Option.bind_some]
  split
  · split
    · rfl
    · rw [w64 l.length (by omega), if_pos (by omega), if_pos (by simp; omega), Option.bind_some, if_pos (by simp; omega), Option.bind_some, Option.bind_some, if_pos (by simp; omega), Option.bind_some]
      simp only [List.replicate_zero, List.nil_append]
      rw [refRight_f _ k (by simp; omega) (by simp; omega), Option.bind_some]
      split <;> rfl
  · rfl
theorem refnumbers_loop (l : List CkE) (hl : l.length ≤ 1000000000) : ∀ d i k (xs : List Int), i + d = l.length → d < k → xs.length ≤ i → nautilusref09_Numbers.l0 k l xs (i : Int) = some (xs ++ f0s (l.drop i))
  | 0, i, 0, _, _, h, _ => by omega
  | 0, i, k + 1, xs, hi, _, _ => by rw [nautilusref09_Numbers.l0, if_neg (by omega), List.drop_of_length_le (by omega)]; simp [f0s]
  | d + 1, i, 0, _, _, h, _ => by omega
  | d + 1, i, k + 1, xs, hi, h, hx => by
    have hlt : i < l.length := by omega
    rw [nautilusref09_Numbers.l0, if_pos (by omega), if_pos (by omega), if_pos (by omega), rd_at l i hlt, w64 i (by omega), refnumbers_loop l hl d (i + 1) k _ (by omega) (by omega) (by simp; omega), f0s_cons hlt, List.append_assoc]; rfl
theorem refnumbers_f (l : List CkE) (k : Nat) (hl : l.length ≤ 1000000000) (hk : l.length < k) : nautilusref09_Numbers.f k l = some (f0s l) := by
  unfold nautilusref09_Numbers.f
  rw [show (0 : Int) = ((0 : Nat) : Int) from rfl, refnumbers_loop l hl l.length 0 k [] (by omega) hk (by simp)]; rfl
theorem samenum_loop (a : List Int) (hl : a.length ≤ 1000000000) : ∀ d i k, i + d = a.length → d < k → nautilusref09_SameNumbers.l0 k a a (i : Int) = some true
  | 0, i, 0, _, h => by omega
  | 0, i, k + 1, hi, _ => by rw [nautilusref09_SameNumbers.l0, if_neg (by omega)]
  | d + 1, i, 0, _, h => by omega
  | d + 1, i, k + 1, hi, h => by
    rw [nautilusref09_SameNumbers.l0, if_pos (by omega), if_pos (by omega), if_pos (by omega), if_pos rfl, w64 i (by omega)]
    exact samenum_loop a hl d (i + 1) k (by omega) (by omega)
theorem samenum_f (a : List Int) (k : Nat) (hl : a.length ≤ 1000000000) (hk : a.length < k) : nautilusref09_SameNumbers.f k a a = some true := by
  unfold nautilusref09_SameNumbers.f
  rw [if_pos rfl]
  exact samenum_loop a hl a.length 0 k (by omega) hk

/-- YOURS -/
theorem CpsAdds : nautiluslaw09_CpsAdds.Pure := by
  intro l0 c0 c1 c2 c3 a2 hl hx _ _ _ _
  refine ⟨400, ?_⟩
  unfold nautiluslaw09_CpsAdds.f
  rw [shown_f _ (by omega), Option.bind_some, cut_e, if_pos (by omega), if_pos (by omega), Option.bind_some]
  have hz : (List.take ((min l0.length 200 : Nat) : Int).toNat l0).length ≤ 200 := by rw [List.length_take]; omega
  generalize List.take ((min l0.length 200 : Nat) : Int).toNat l0 = l at hz ⊢
  have h1 := addV_len l ⟨c0, c1, c2, c3⟩
  rw [add_f l c0 c1 c2 c3 400 (by omega) (by omega), Option.bind_some, refadd_f l c0 c1 c2 c3 400 (by omega) (by omega), Option.bind_some, find_f l a2 400 (by omega) (by omega), Option.bind_some, reffind_f l a2 400 (by omega) (by omega), Option.bind_some, if_pos rfl,
    right_f l 400 (by omega) (by omega), Option.bind_some, refRight_f l 400 (by omega) (by omega), Option.bind_some, if_pos (by simp), same_refl _ 400 (by omega) (by omega), Option.bind_some, if_pos rfl, if_pos rfl, if_pos (by simp), if_pos rfl,
    numbers_f l 400 (by omega) (by omega), Option.bind_some, refnumbers_f l 400 (by omega) (by omega), Option.bind_some, samenum_f _ 400 (by simp [f0s]; omega) (by simp [f0s]; omega)]; rfl
end Go.Proofs.Ytllcmalgahnnhaa.Pure
