/- The laws' own 'cut': the first elements of a slice. -/
import Derived.Test.YtllcmalgahnnhaaQ0
set_option linter.unusedVariables false
set_option linter.unusedSimpArgs false
namespace Go.Proofs.Ytllcmalgahnnhaa.Q
open Go.RowKit Go.Proofs.Ytllcmalgahnnhaa.H Go.Proofs.YtllcmalgahnnhaaW.PrintWords Go.Proofs.YtllcmalgahnnhaaW.PrintLast Go.Proofs.YtllcmalgahnnhaaW.PrintMore
attribute [local go_sem] max2_int min2_int max_two min_two

theorem nautiluslaw09_cut.calls (A : Option Addr) (n c m : Nat) (w : World) (hn : n ≤ 9223372036854775807) (hc : n ≤ c) (hm : m = (mn (n : Int) 200).toNat) :
    Calls Try.prog 12 #[.slice A n c] w fun e w' => e = .returned (.slice A m c) ∧ w = w' := by
  obtain ⟨i0, hi0, _, hsz, _⟩ := info_parts info33
  unfold mn at hm
  by_cases h : (200 : Int) < (n : Int)
  · rw [if_pos h] at hm
    have hcut := cut_to (P := Try.prog) 22 33 .i64 Try.underlying22 hi0 A n c 200 (by omega) (by omega) hc
    have h1 : decide ((200 : Int) < (n : Int)) = true := decide_eq_true h
    simp only [Int.reduceToNat] at hcut hm
    subst hm
    go_enter Try.func12, Try.ntmps12
    go_wp2
    go_ret
    exact ⟨rfl, rfl⟩
  · rw [if_neg h] at hm
    have hcut := cut_to (P := Try.prog) 22 33 .i64 Try.underlying22 hi0 A n c n (by omega) (by omega) hc
    have h1 : decide ((200 : Int) < (n : Int)) = false := decide_eq_false h
    simp only [Int.toNat_natCast] at hcut hm
    subst hm
    go_enter Try.func12, Try.ntmps12
    go_wp2
    go_ret
    exact ⟨rfl, rfl⟩
end Go.Proofs.Ytllcmalgahnnhaa.Q
