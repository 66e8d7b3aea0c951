/- Plain laws: a number's bytes. -/
import Derived.Test.YtiajhfinkpddbaaQ11
import Derived.Test.YtiajhfinkpddbaaHNum
import Derived.IntWalk
namespace Go.Proofs.Ytiajhfinkpddbaa.P
open Go.RowKit Go.Proofs.Ytiajhfinkpddbaa.H Go.Proofs.Ytiajhfinkpddbaa.Q Go.Proofs.YtiajhfinkpddbaaW.PrintWords Go.Proofs.YtiajhfinkpddbaaW.PrintLast Go.Proofs.YtiajhfinkpddbaaW.PrintMore
set_option linter.unusedVariables false
theorem pow_256 (j : Nat) : (2 : Int) ^ (8 * j) = 256 ^ j := by rw [Int.pow_mul]; rfl
theorem pow256_pos (j : Nat) : (0 : Int) < 256 ^ j := Int.pow_pos (by omega)
theorem pow256_cast (j : Nat) : (256 : Int) ^ j = ((256 ^ j : Nat) : Int) := by
  induction j with
  | zero => rfl
  | succ j ih => rw [Int.pow_succ, ih, Nat.pow_succ, Int.natCast_mul]; rfl
theorem pow256_le {i j : Nat} (h : i ≤ j) : (256 : Int) ^ i ≤ 256 ^ j := by rw [pow256_cast, pow256_cast]; exact Int.ofNat_le.2 (Nat.pow_le_pow_right (by omega) h)
theorem pow256_8 : (256 : Int) ^ 8 = 18446744073709551616 := by decide
theorem shr_bytes (n w : Int) (h0 : 0 ≤ w) (h8 : w ≤ 8) : shr .u64 n (wrap64 (8 * w)) = n / 256 ^ w.toNat := by
  rw [show wrap64 (8 * w) = 8 * w from IntWalk.wrap64_in _ (by omega)]
  unfold shr
  rw [show min (8 * w).toNat (IntKind.u64.bits) = 8 * w.toNat by simp only [IntKind.bits]; omega, pow_256]
theorem u64_wraps (n : Int) (h0 : 0 ≤ n) (h1 : n < 2 ^ 64) : IntKind.u64.wrap n = n := IntWalk.u64_in n (by omega)
theorem strOf_le (n : Int) (k : Nat) : strOfNums ((List.range k).map fun j => n / 256 ^ j % 256) = leB n k := by
  simp [strOfNums, leB, H.lowBytes, Function.comp_def]
theorem refBytes_loop (n : Int) (w : Nat) (hw : w ≤ 8) : ∀ d i k, i + d = w → d < k → nautilusref01_Bytes.l0 k (n / 256 ^ i) w ((List.range i).map fun j => n / 256 ^ j % 256) i = some (leB n w) := by
  intro d
  induction d with
  | zero =>
    intro i k hi hk
    obtain ⟨k, rfl⟩ : ∃ m, k = m + 1 := ⟨k - 1, by omega⟩
    obtain rfl : i = w := by omega
    simp only [nautilusref01_Bytes.l0]
    rw [if_neg (by omega), strOf_le]
  | succ d ih =>
    intro i k hi hk
    obtain ⟨k, rfl⟩ : ∃ m, k = m + 1 := ⟨k - 1, by omega⟩
    simp only [nautilusref01_Bytes.l0]
    have e2 : wrap64 ((i : Int) + 1) = ((i + 1 : Nat) : Int) := by rw [IntWalk.wrap64_in _ (by omega)]; omega
    have hp := pow256_pos i
    rw [if_pos (by omega), if_pos (by simp; omega), e2]
    have h := ih (i + 1) k (by omega) (by omega)
    rw [List.range_succ, List.map_append, Int.pow_succ, ← Int.ediv_ediv_of_nonneg (by omega)] at h
    exact h
theorem refBytes_f (n w : Int) (h0 : 0 ≤ w) (h8 : w ≤ 8) (k : Nat) (hk : 10 ≤ k) : nautilusref01_Bytes.f k n w = some (leB n w.toNat) := by
  obtain ⟨w, rfl⟩ := Int.eq_ofNat_of_zero_le h0
  have := refBytes_loop n w (by omega) w 0 k (by omega) (by omega)
  simpa [nautilusref01_Bytes.f] using this
end Go.Proofs.Ytiajhfinkpddbaa.P
