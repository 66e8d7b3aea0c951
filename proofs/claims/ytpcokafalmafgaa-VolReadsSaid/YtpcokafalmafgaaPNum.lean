/- Plain laws on numbers and texts as bytes: what the printed functions of num and of its reference come to. -/
import Derived.Test.YtpcokafalmafgaaQ10
import Derived.Test.YtpcokafalmafgaaQ7
import Derived.Test.YtpcokafalmafgaaQ9
import Derived.Test.YtpcokafalmafgaaHNum
import Derived.IntWalk
namespace Go.Proofs.Ytpcokafalmafgaa.P
open Go.RowKit Go.Proofs.Ytpcokafalmafgaa.H Go.Proofs.Ytpcokafalmafgaa.Q Go.Proofs.YtpcokafalmafgaaW.PrintWords Go.Proofs.YtpcokafalmafgaaW.PrintLast Go.Proofs.YtpcokafalmafgaaW.PrintMore
set_option linter.unusedVariables false

theorem u64_wf {n : Int} (h : (Lit.int .u64 n).wf = true) : 0 ≤ n ∧ n < 18446744073709551616 := by
 simp [Lit.wf, IntKind.min, IntKind.max, IntKind.bits, IntKind.signed] at h; omega
/-! ### Powers -/
theorem pow_256 (j : Nat) : (2 : Int) ^ (8 * j) = 256 ^ j := by rw [Int.pow_mul]; rfl
theorem pow256_pos (j : Nat) : (0 : Int) < 256 ^ j := Int.pow_pos (by omega)
theorem pow256_cast (j : Nat) : (256 : Int) ^ j = ((256 ^ j : Nat) : Int) := by
 induction j with
 | zero => rfl
 | succ j ih => rw [Int.pow_succ, ih, Nat.pow_succ, Int.natCast_mul]; rfl
theorem pow256_le {i j : Nat} (h : i ≤ j) : (256 : Int) ^ i ≤ 256 ^ j := by rw [pow256_cast, pow256_cast]; exact Int.ofNat_le.2 (Nat.pow_le_pow_right (by omega) h)
theorem shl_bytes (b w : Int) (h0 : 0 ≤ w) (h8 : w < 8) (hb0 : 0 ≤ b) (hb1 : b < 256) : shl .u64 b (wrap64 (8 * w)) = b * 256 ^ w.toNat := by
 rw [show wrap64 (8 * w) = 8 * w from IntWalk.wrap64_in _ (by omega)]
 unfold shl
 rw [show min (8 * w).toNat (IntKind.u64.bits) = 8 * w.toNat by simp only [IntKind.bits]; omega, pow_256]
 apply IntWalk.u64_in
 have h1 := pow256_pos w.toNat
 have h2 : (256 : Int) ^ w.toNat ≤ 256 ^ 7 := pow256_le (by omega)
 have h3 : b * 256 ^ w.toNat ≤ 255 * 256 ^ w.toNat := Int.mul_le_mul_of_nonneg_right (by omega) (by omega)
 have h4 : (256 : Int) ^ 7 = 72057594037927936 := by decide
 exact ⟨Int.mul_nonneg hb0 (by omega), by omega⟩
theorem u64_wraps (n : Int) (h0 : 0 ≤ n) (h1 : n < 2 ^ 64) : IntKind.u64.wrap n = n := IntWalk.u64_in n (by omega)
/-- A byte above what is below it. -/
theorem or_bytes (x b : Int) (j : Nat) (hj : j < 8) (hx0 : 0 ≤ x) (hx1 : x < 256 ^ j) (hb0 : 0 ≤ b) (hb1 : b < 256) : bits .or .u64 x (b * 256 ^ j) = x + b * 256 ^ j := by
 have hp := pow256_pos j
 have h2 : (256 : Int) ^ j ≤ 256 ^ 7 := pow256_le (by omega)
 have h4 : (256 : Int) ^ 7 = 72057594037927936 := by decide
 have h5 : b * 256 ^ j ≤ 255 * 256 ^ j := Int.mul_le_mul_of_nonneg_right (by omega) (by omega)
 have h6 := Int.mul_nonneg hb0 (show (0 : Int) ≤ 256 ^ j by omega)
 have hc : bits .or .u64 x (b * 256 ^ j) = bits .or .u64 (b * 256 ^ j) x := by
  obtain ⟨a, ha⟩ := Int.eq_ofNat_of_zero_le h6
  obtain ⟨c, rfl⟩ := Int.eq_ofNat_of_zero_le hx0
  rw [ha]
  have e1 := (bits_nat .u64 64 (by decide) u64_wraps a c (by omega) (by omega))
  have e2 := (bits_nat .u64 64 (by decide) u64_wraps c a (by omega) (by omega))
  rw [e1.2, e2.2, Nat.or_comm]
 rw [hc, bits_join .u64 64 (by decide) u64_wraps (8 * j) _ x h6 (by rw [pow_256]; exact Int.mul_emod_left _ _) (by omega) hx0 (by rw [pow_256]; exact hx1) (by omega), Int.add_comm]
/-! ### Closed forms -/
/-- What so many bytes are as a number, the lowest one first. -/
def valB (s : ByteArray) (a : Nat) : Nat → Int
 | 0 => 0
 | w + 1 => valB s a w + bt s (a + w : Nat) * 256 ^ w
theorem valB_range (s : ByteArray) (a w : Nat) : 0 ≤ valB s a w ∧ valB s a w < 256 ^ w := by
 induction w with
 | zero => simp [valB]
 | succ w ih =>
  have hb := bt_range s (a + w : Nat)
  have hp := pow256_pos w
  have h1 : bt s (a + w : Nat) * 256 ^ w ≤ 255 * 256 ^ w := Int.mul_le_mul_of_nonneg_right (by omega) (by omega)
  have h2 := Int.mul_nonneg hb.1 (show (0 : Int) ≤ 256 ^ w by omega)
  have h3 : (256 : Int) ^ (w + 1) = 256 * 256 ^ w := by rw [Int.pow_succ, Int.mul_comm]
  simp only [valB]
  omega
def takeV (s : ByteArray) (a w : Int) : Int × Int := if 1 ≤ w ∧ w ≤ 8 ∧ 0 ≤ a ∧ a + w ≤ s.size then (valB s a.toNat w.toNat, 0) else (0, 2)

theorem take_loop (s : ByteArray) (a : Nat) (w : Nat) (hw : w ≤ 8) (hs : s.size ≤ 1000000000000000) (ha : a + w ≤ s.size) : ∀ d i k, i + d = w → d < k → num_Take.l0 k s a (valB s a i) w i = some (valB s a w, 0) := by
 intro d
 induction d with
 | zero =>
  intro i k hi hk
  obtain ⟨k, rfl⟩ : ∃ m, k = m + 1 := ⟨k - 1, by omega⟩
  obtain rfl : i = w := by omega
  simp only [num_Take.l0]
  rw [if_neg (by omega)]
 | succ d ih =>
  intro i k hi hk
  obtain ⟨k, rfl⟩ : ∃ m, k = m + 1 := ⟨k - 1, by omega⟩
  simp only [num_Take.l0]
  have e1 : wrap64 ((a : Int) + i) = ((a + i : Nat) : Int) := by rw [IntWalk.wrap64_in _ (by omega)]; omega
  have e2 : wrap64 ((i : Int) + 1) = ((i + 1 : Nat) : Int) := by rw [IntWalk.wrap64_in _ (by omega)]; omega
  have e3 : (0 : Int) ≤ wrap64 (8 * (i : Int)) := by rw [IntWalk.wrap64_in _ (by omega)]; omega
  have c1 : (i : Int) < w := by omega
  have c2 : (0 : Int) ≤ ((a + i : Nat) : Int) := by omega
  have c3 : ((a + i : Nat) : Int) < s.size := by omega
  have hi8 : i < 8 := by omega
  have hb := bt_range s (a + i : Nat)
  have e4 : IntKind.u64.wrap (bt s ((a + i : Nat) : Int)) = bt s ((a + i : Nat) : Int) := IntWalk.u64_in _ (by omega)
  have e5 := shl_bytes (bt s ((a + i : Nat) : Int)) i (by omega) (by omega) hb.1 (by omega)
  have e6 := or_bytes (valB s a i) (bt s ((a + i : Nat) : Int)) i hi8 (valB_range s a i).1 (valB_range s a i).2 hb.1 (by omega)
  rw [Int.toNat_natCast] at e5
  rw [if_pos c1, e1, if_pos c2, if_pos c3, if_pos e3, e2, e4, e5, e6]
  exact ih (i + 1) k (by omega) (by omega)

theorem take_f (s : ByteArray) (a w : Int) (hs : s.size ≤ 1000000000000000) (ha0 : -9223372036854775808 ≤ a) (ha1 : a < 9223372036854775808) (k : Nat) (hk : 12 ≤ k) : num_Take.f k s a w = some (takeV s a w) := by
 obtain ⟨k, rfl⟩ : ∃ m, k = m + 1 := ⟨k - 1, by omega⟩
 unfold num_Take.f num_isWidth.f takeV
 by_cases h1 : 1 ≤ w
 ·rw [if_pos h1, Option.bind_some]
  by_cases h8 : w ≤ 8
  ·rw [decide_eq_true h8, if_pos rfl]
   by_cases h0 : 0 ≤ a
   ·rw [if_neg (by omega)]
    by_cases h2 : a ≤ s.size
    ·rw [if_neg (by omega), IntWalk.wrap64_in _ (by omega)]
     by_cases h3 : a + w ≤ s.size
     ·rw [if_pos ⟨h1, h8, h0, h3⟩]
      simp only [num_Take.j0]
      rw [if_neg (by simp; omega)]
      obtain ⟨a, rfl⟩ := Int.eq_ofNat_of_zero_le h0
      obtain ⟨w, rfl⟩ := Int.eq_ofNat_of_zero_le (show 0 ≤ w by omega)
      exact take_loop s a w (by omega) hs (by omega) w 0 k (by omega) (by omega)
     ·rw [if_neg (by omega)]
      simp only [num_Take.j0]
      rw [if_pos (by simp; omega)]
    ·rw [if_pos (by omega), if_neg (by omega)]
     simp only [num_Take.j0]; rfl
   ·rw [if_pos (by omega), if_neg (by omega)]
    simp only [num_Take.j0]; rfl
  ·rw [decide_eq_false h8, if_neg (by simp), if_neg (by omega)]
   simp only [num_Take.j0]; rfl
 ·rw [if_neg h1, Option.bind_some, if_neg (by simp), if_neg (by omega)]
  simp only [num_Take.j0]; rfl

end Go.Proofs.Ytpcokafalmafgaa.P
