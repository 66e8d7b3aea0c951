/- The law SuperPlaces, in plain words: the next super block lies at the other place, both in the first segment. -/
import Derived.Test.YtpcejkhipnkhfaaQ16
import Derived.Test.YtpcejkhipnkhfaaQ7
import Derived.Test.YtpcejkhipnkhfaaPSup
set_option linter.unusedVariables false
namespace Go.Proofs.Ytpcejkhipnkhfaa.Pure
open Go.RowKit Go.Proofs.Ytpcejkhipnkhfaa.P Go.Proofs.Ytpcejkhipnkhfaa.H Go.Proofs.Ytpcejkhipnkhfaa.Q Go.Proofs.YtpcejkhipnkhfaaW.PrintWords Go.Proofs.YtpcejkhipnkhfaaW.PrintLast
theorem place_f (n : Int) : super_Place.f n = some (if Int.tmod n 2 = 1 then 0 else 8) := by unfold super_Place.f; split <;> rfl
theorem tmod2 (n : Int) (h : 0 ≤ n) : Int.tmod n 2 = n % 2 := by rw [Int.tmod_eq_emod_of_nonneg h]
theorem wrap_mod (n d : Int) (h0 : 0 ≤ n) (h1 : n < 18446744073709551616) (d0 : 0 ≤ d) (d1 : d ≤ 2) : 0 ≤ IntKind.u64.wrap (n + d) ∧ IntKind.u64.wrap (n + d) % 2 = (n + d) % 2 := by
  by_cases h : n + d < 18446744073709551616
  · rw [u64_wraps (n + d) (by omega) (by omega)]; omega
  · have e : IntKind.u64.wrap (n + d) = n + d - 18446744073709551616 := by
      unfold IntKind.wrap
      simp [IntKind.signed, IntKind.bits]
      omega
    rw [e]; omega
theorem SuperPlaces : nautiluslaw05_SuperPlaces.Pure := by
  intro n hw
  obtain ⟨h0, h1⟩ := u64_wf hw
  obtain ⟨a0, a1⟩ := wrap_mod n 1 h0 h1 (by omega) (by omega)
  obtain ⟨b0, b1⟩ := wrap_mod n 2 h0 h1 (by omega) (by omega)
  unfold nautiluslaw05_SuperPlaces.f
  rw [shown_f, Option.bind_some, place_f, Option.bind_some, place_f, Option.bind_some, place_f, tmod2 n h0, tmod2 _ a0, tmod2 _ b0, a1, b1, if_pos rfl]
  by_cases h : n % 2 = 1
  · rw [if_pos h, if_neg (show ¬ (n + 1) % 2 = 1 by omega), if_pos (show (n + 2) % 2 = 1 by omega)]; decide
  · rw [if_neg h, if_pos (show (n + 1) % 2 = 1 by omega), if_neg (show ¬ (n + 2) % 2 = 1 by omega)]; decide
end Go.Proofs.Ytpcejkhipnkhfaa.Pure
