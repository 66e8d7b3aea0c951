/- strings.Repeat, in the print's words. -/
import Derived.Test.YthgefgjaihagoaaHShelf
import Derived.Test.YthgefgjaihagoaaHMake
set_option linter.unusedVariables false
namespace Go.Proofs.Ythgefgjaihagoaa.H
open Go.RowKit Go.Shelf Go.Lib

def strings_Repeat.f (s : ByteArray) (c : Int) : Option ByteArray := if 0 ≤ c ∧ c ≤ 9223372036854775807 ∧ s.size * c.toNat ≤ 140737488355328 then some ⟨(Lib.repeatL s.data.toList c.toNat).toArray⟩ else none
theorem strings_Repeat.calls (s : ByteArray) (c : Int) (r : ByteArray) (w : World) (h : strings_Repeat.f s c = some r) :
    Calls Try.prog 31 #[.string s, .int .i64 c] w fun e w' => e = .returned (.string r) ∧ Below w.heap.size w w' := by
  unfold strings_Repeat.f at h
  by_cases hc : 0 ≤ c ∧ c ≤ 9223372036854775807 ∧ s.size * c.toNat ≤ 140737488355328
  · rw [if_pos hc] at h
    cases h
    obtain ⟨n, rfl⟩ := Int.eq_ofNat_of_zero_le hc.1
    rw [Int.toNat_natCast] at hc ⊢
    exact b_Repeat s n w (by omega) hc.2.2
  · rw [if_neg hc] at h; cases h
end Go.Proofs.Ythgefgjaihagoaa.H
