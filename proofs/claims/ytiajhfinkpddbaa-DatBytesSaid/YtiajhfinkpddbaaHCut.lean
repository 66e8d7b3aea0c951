/- The laws' own 'cut': the first elements of a slice. -/
import Derived.Test.YtiajhfinkpddbaaQ0
set_option linter.unusedVariables false
set_option linter.unusedSimpArgs false
namespace Go.Proofs.Ytiajhfinkpddbaa.Q
open Go.RowKit Go.Proofs.Ytiajhfinkpddbaa.H Go.Proofs.YtiajhfinkpddbaaW.PrintWords Go.Proofs.YtiajhfinkpddbaaW.PrintLast Go.Proofs.YtiajhfinkpddbaaW.PrintMore
attribute [local go_sem] max2_int min2_int max_two min_two

theorem nautiluslaw08_cut.calls (A : Option Addr) (n c m : Nat) (w : World) (hn : n ≤ 9223372036854775807) (hc : n ≤ c) (hm : m = (mn (n : Int) 2000).toNat) :
    Calls Try.prog 10 #[.slice A n c] w fun e w' => e = .returned (.slice A m c) ∧ w = w' := by
  obtain ⟨i0, hi0, _, hsz, _⟩ := info_parts info31
  unfold mn at hm
  by_cases h : (2000 : Int) < (n : Int)
  · rw [if_pos h] at hm
    have hcut := cut_to (P := Try.prog) 22 31 .i64 Try.underlying22 hi0 A n c 2000 (by omega) (by omega) hc
    have h1 : decide ((2000 : Int) < (n : Int)) = true := decide_eq_true h
    simp only [Int.reduceToNat] at hcut hm
    subst hm
    go_enter Try.func10, Try.ntmps10
    go_wp2
    go_ret
    exact ⟨rfl, rfl⟩
  · rw [if_neg h] at hm
    have hcut := cut_to (P := Try.prog) 22 31 .i64 Try.underlying22 hi0 A n c n (by omega) (by omega) hc
    have h1 : decide ((2000 : Int) < (n : Int)) = false := decide_eq_false h
    simp only [Int.toNat_natCast] at hcut hm
    subst hm
    go_enter Try.func10, Try.ntmps10
    go_wp2
    go_ret
    exact ⟨rfl, rfl⟩
end Go.Proofs.Ytiajhfinkpddbaa.Q
