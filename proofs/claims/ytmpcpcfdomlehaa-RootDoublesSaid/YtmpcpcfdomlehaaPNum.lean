/- Plain laws on numbers and texts as bytes: what the printed functions of num and of its reference come to. -/
import Derived.Test.YtmpcpcfdomlehaaQ1
import Derived.Test.YtmpcpcfdomlehaaQ6
import Derived.Test.YtmpcpcfdomlehaaQ8
import Derived.Test.YtmpcpcfdomlehaaHNum
import Derived.IntWalk
namespace Go.Proofs.Ytmpcpcfdomlehaa.P
open Go.RowKit Go.Proofs.Ytmpcpcfdomlehaa.H Go.Proofs.Ytmpcpcfdomlehaa.Q Go.Proofs.YtmpcpcfdomlehaaW.PrintWords Go.Proofs.YtmpcpcfdomlehaaW.PrintLast Go.Proofs.YtmpcpcfdomlehaaW.PrintMore
set_option linter.unusedVariables false

theorem u64_wf {n : Int} (h : (Lit.int .u64 n).wf = true) : 0 ≤ n ∧ n < 18446744073709551616 := by
  simp [Lit.wf, IntKind.min, IntKind.max, IntKind.bits, IntKind.signed] at h; omega
theorem i64_wf {n : Int} (h : (Lit.int .i64 n).wf = true) : -9223372036854775808 ≤ n ∧ n < 9223372036854775808 := by
  simp [Lit.wf, IntKind.min, IntKind.max, IntKind.bits, IntKind.signed] at h; omega

/-! ### Powers -/
theorem pow_256 (j : Nat) : (2 : Int) ^ (8 * j) = 256 ^ j := by rw [Int.pow_mul]; rfl
theorem pow256_pos (j : Nat) : (0 : Int) < 256 ^ j := Int.pow_pos (by omega)
theorem pow256_cast (j : Nat) : (256 : Int) ^ j = ((256 ^ j : Nat) : Int) := by
  induction j with
  | zero => rfl
  | succ j ih => rw [Int.pow_succ, ih, Nat.pow_succ, Int.natCast_mul]; rfl
theorem pow256_le {i j : Nat} (h : i ≤ j) : (256 : Int) ^ i ≤ 256 ^ j := by rw [pow256_cast, pow256_cast]; exact Int.ofNat_le.2 (Nat.pow_le_pow_right (by omega) h)
theorem pow256_8 : (256 : Int) ^ 8 = 18446744073709551616 := by decide
theorem shr_bytes (n w : Int) (h0 : 0 ≤ w) (h8 : w ≤ 8) : shr .u64 n (wrap64 (8 * w)) = n / 256 ^ w.toNat := by
  rw [show wrap64 (8 * w) = 8 * w from IntWalk.wrap64_in _ (by omega)]
  unfold shr
  rw [show min (8 * w).toNat (IntKind.u64.bits) = 8 * w.toNat by simp only [IntKind.bits]; omega, pow_256]
theorem shl_bytes (b w : Int) (h0 : 0 ≤ w) (h8 : w < 8) (hb0 : 0 ≤ b) (hb1 : b < 256) : shl .u64 b (wrap64 (8 * w)) = b * 256 ^ w.toNat := by
  rw [show wrap64 (8 * w) = 8 * w from IntWalk.wrap64_in _ (by omega)]
  unfold shl
  rw [show min (8 * w).toNat (IntKind.u64.bits) = 8 * w.toNat by simp only [IntKind.bits]; omega, pow_256]
  apply IntWalk.u64_in
  have h1 := pow256_pos w.toNat
  have h2 : (256 : Int) ^ w.toNat ≤ 256 ^ 7 := pow256_le (by omega)
  have h3 : b * 256 ^ w.toNat ≤ 255 * 256 ^ w.toNat := Int.mul_le_mul_of_nonneg_right (by omega) (by omega)
  have h4 : (256 : Int) ^ 7 = 72057594037927936 := by decide
  exact ⟨Int.mul_nonneg hb0 (by omega), by omega⟩
theorem u64_wraps (n : Int) (h0 : 0 ≤ n) (h1 : n < 2 ^ 64) : IntKind.u64.wrap n = n := IntWalk.u64_in n (by omega)
/-- A byte above what is below it. -/
theorem or_bytes (x b : Int) (j : Nat) (hj : j < 8) (hx0 : 0 ≤ x) (hx1 : x < 256 ^ j) (hb0 : 0 ≤ b) (hb1 : b < 256) : bits .or .u64 x (b * 256 ^ j) = x + b * 256 ^ j := by
  have hp := pow256_pos j
  have h2 : (256 : Int) ^ j ≤ 256 ^ 7 := pow256_le (by omega)
  have h4 : (256 : Int) ^ 7 = 72057594037927936 := by decide
  have h5 : b * 256 ^ j ≤ 255 * 256 ^ j := Int.mul_le_mul_of_nonneg_right (by omega) (by omega)
  have h6 := Int.mul_nonneg hb0 (show (0 : Int) ≤ 256 ^ j by omega)
  have hc : bits .or .u64 x (b * 256 ^ j) = bits .or .u64 (b * 256 ^ j) x := by
    obtain ⟨a, ha⟩ := Int.eq_ofNat_of_zero_le h6
    obtain ⟨c, rfl⟩ := Int.eq_ofNat_of_zero_le hx0
    rw [ha]
    have e1 := (bits_nat .u64 64 (by decide) u64_wraps a c (by omega) (by omega))
    have e2 := (bits_nat .u64 64 (by decide) u64_wraps c a (by omega) (by omega))
    rw [e1.2, e2.2, Nat.or_comm]
  rw [hc, bits_join .u64 64 (by decide) u64_wraps (8 * j) _ x h6 (by rw [pow_256]; exact Int.mul_emod_left _ _) (by omega) hx0 (by rw [pow_256]; exact hx1) (by omega), Int.add_comm]
/-- A byte below. -/
theorem or_low (x b : Int) (hx0 : 0 ≤ x) (hx1 : x < 72057594037927936) (hb0 : 0 ≤ b) (hb1 : b < 256) : bits .or .u64 (IntKind.u64.wrap (x * 256)) (IntKind.u64.wrap b) = x * 256 + b := by
  rw [IntWalk.u64_in (x * 256) (by omega), IntWalk.u64_in b (by omega)]
  exact bits_join .u64 64 (by decide) u64_wraps 8 _ b (by omega) (by omega) (by omega) hb0 (by omega) (by omega)

/-! ### Closed forms -/
/-- What so many bytes are as a number, the lowest one first. -/
def valB (s : ByteArray) (a : Nat) : Nat → Int
  | 0 => 0
  | w + 1 => valB s a w + bt s (a + w : Nat) * 256 ^ w
theorem valB_range (s : ByteArray) (a w : Nat) : 0 ≤ valB s a w ∧ valB s a w < 256 ^ w := by
  induction w with
  | zero => simp [valB]
  | succ w ih =>
    have hb := bt_range s (a + w : Nat)
    have hp := pow256_pos w
    have h1 : bt s (a + w : Nat) * 256 ^ w ≤ 255 * 256 ^ w := Int.mul_le_mul_of_nonneg_right (by omega) (by omega)
    have h2 := Int.mul_nonneg hb.1 (show (0 : Int) ≤ 256 ^ w by omega)
    have h3 : (256 : Int) ^ (w + 1) = 256 * 256 ^ w := by rw [Int.pow_succ, Int.mul_comm]
    simp only [valB]
    omega
def takeV (s : ByteArray) (a w : Int) : Int × Int := if 1 ≤ w ∧ w ≤ 8 ∧ 0 ≤ a ∧ a + w ≤ s.size then (valB s a.toNat w.toNat, 0) else (0, 2)

theorem take_loop (s : ByteArray) (a : Nat) (w : Nat) (hw : w ≤ 8) (hs : s.size ≤ 1000000000000000) (ha : a + w ≤ s.size) : ∀ d i k, i + d = w → d < k → num_Take.l0 k s a (valB s a i) w i = some (valB s a w, 0) := by
  intro d
  induction d with
  | zero =>
    intro i k hi hk
    obtain ⟨k, rfl⟩ : ∃ m, k = m + 1 := ⟨k - 1, by omega⟩
    obtain rfl : i = w := by omega
    simp only [num_Take.l0]
    rw [if_neg (by omega)]
  | succ d ih =>
    intro i k hi hk
    obtain ⟨k, rfl⟩ : ∃ m, k = m + 1 := ⟨k - 1, by omega⟩
    simp only [num_Take.l0]
    have e1 : wrap64 ((a : Int) + i) = ((a + i : Nat) : Int) := by rw [IntWalk.wrap64_in _ (by omega)]; omega
    have e2 : wrap64 ((i : Int) + 1) = ((i + 1 : Nat) : Int) := by rw [IntWalk.wrap64_in _ (by omega)]; omega
    have e3 : (0 : Int) ≤ wrap64 (8 * (i : Int)) := by rw [IntWalk.wrap64_in _ (by omega)]; omega
    have c1 : (i : Int) < w := by omega
    have c2 : (0 : Int) ≤ ((a + i : Nat) : Int) := by omega
    have c3 : ((a + i : Nat) : Int) < s.size := by omega
    have hi8 : i < 8 := by omega
    have hb := bt_range s (a + i : Nat)
    have e4 : IntKind.u64.wrap (bt s ((a + i : Nat) : Int)) = bt s ((a + i : Nat) : Int) := IntWalk.u64_in _ (by omega)
    have e5 := shl_bytes (bt s ((a + i : Nat) : Int)) i (by omega) (by omega) hb.1 (by omega)
    have e6 := or_bytes (valB s a i) (bt s ((a + i : Nat) : Int)) i hi8 (valB_range s a i).1 (valB_range s a i).2 hb.1 (by omega)
    rw [Int.toNat_natCast] at e5
    rw [if_pos c1, e1, if_pos c2, if_pos c3, if_pos e3, e2, e4, e5, e6]
    exact ih (i + 1) k (by omega) (by omega)

theorem take_f (s : ByteArray) (a w : Int) (hs : s.size ≤ 1000000000000000) (ha0 : -9223372036854775808 ≤ a) (ha1 : a < 9223372036854775808) (k : Nat) (hk : 12 ≤ k) : num_Take.f k s a w = some (takeV s a w) := by
  obtain ⟨k, rfl⟩ : ∃ m, k = m + 1 := ⟨k - 1, by omega⟩
  unfold num_Take.f num_isWidth.f takeV
  by_cases h1 : 1 ≤ w
  · rw [if_pos h1, Option.bind_some]
    by_cases h8 : w ≤ 8
    · rw [decide_eq_true h8, if_pos rfl]
      by_cases h0 : 0 ≤ a
      · rw [if_neg (by omega)]
        by_cases h2 : a ≤ s.size
        · rw [if_neg (by omega), IntWalk.wrap64_in _ (by omega)]
          by_cases h3 : a + w ≤ s.size
          · rw [if_pos ⟨h1, h8, h0, h3⟩]
            simp only [num_Take.j0]
            rw [if_neg (by simp; omega)]
            obtain ⟨a, rfl⟩ := Int.eq_ofNat_of_zero_le h0
            obtain ⟨w, rfl⟩ := Int.eq_ofNat_of_zero_le (show 0 ≤ w by omega)
            exact take_loop s a w (by omega) hs (by omega) w 0 k (by omega) (by omega)
          · rw [if_neg (by omega)]
            simp only [num_Take.j0]
            rw [if_pos (by simp; omega)]
        · rw [if_pos (by omega), if_neg (by omega)]
          simp only [num_Take.j0]; rfl
      · rw [if_pos (by omega), if_neg (by omega)]
        simp only [num_Take.j0]; rfl
    · rw [decide_eq_false h8, if_neg (by simp), if_neg (by omega)]
      simp only [num_Take.j0]; rfl
  · rw [if_neg h1, Option.bind_some, if_neg (by simp), if_neg (by omega)]
    simp only [num_Take.j0]; rfl

/-- The bytes from i on, the highest one first. -/
def hiB (s : ByteArray) (a i : Nat) : Nat → Int
  | 0 => 0
  | d + 1 => hiB s a (i + 1) d * 256 + bt s (a + i : Nat)
theorem hiB_valB (s : ByteArray) (a : Nat) : ∀ d i, valB s a (i + d) = valB s a i + hiB s a i d * 256 ^ i := by
  intro d
  induction d with
  | zero => intro i; simp [hiB]
  | succ d ih =>
    intro i
    rw [show i + (d + 1) = (i + 1) + d by omega, ih (i + 1)]
    simp only [valB, hiB]
    have : (256 : Int) ^ (i + 1) = 256 * 256 ^ i := by rw [Int.pow_succ, Int.mul_comm]
    rw [this, Int.add_mul, Int.mul_assoc]
    omega
theorem hiB_range (s : ByteArray) (a : Nat) : ∀ d i, 0 ≤ hiB s a i d ∧ hiB s a i d < 256 ^ d := by
  intro d
  induction d with
  | zero => intro i; simp [hiB]
  | succ d ih =>
    intro i
    have h1 := ih (i + 1)
    have hb := bt_range s (a + i : Nat)
    have : (256 : Int) ^ (d + 1) = 256 * 256 ^ d := by rw [Int.pow_succ, Int.mul_comm]
    simp only [hiB]
    omega
theorem refTake_loop (s : ByteArray) (a w : Nat) (hw : w ≤ 8) (hs : s.size ≤ 1000000000000000) (ha : a + w ≤ s.size) : ∀ i k, i ≤ w → i < k → nautilusref01_Take.l0 k s a (hiB s a i (w - i)) ((i : Int) - 1) = some (hiB s a 0 w, 0) := by
  intro i
  induction i with
  | zero =>
    intro k hi hk
    obtain ⟨k, rfl⟩ : ∃ m, k = m + 1 := ⟨k - 1, by omega⟩
    simp only [nautilusref01_Take.l0]
    rw [if_neg (by omega)]; rfl
  | succ i ih =>
    intro k hi hk
    obtain ⟨k, rfl⟩ : ∃ m, k = m + 1 := ⟨k - 1, by omega⟩
    have hr := hiB_range s a (w - (i + 1)) (i + 1)
    have hb := bt_range s (a + i : Nat)
    have hp : (256 : Int) ^ (w - (i + 1)) ≤ 256 ^ 7 := pow256_le (by omega)
    have h4 : (256 : Int) ^ 7 = 72057594037927936 := by decide
    simp only [nautilusref01_Take.l0]
    have e0 : (((i + 1 : Nat) : Int) - 1) = i := by omega
    have e1 : wrap64 ((a : Int) + i) = ((a + i : Nat) : Int) := by rw [IntWalk.wrap64_in _ (by omega)]; omega
    have e2 : wrap64 ((i : Int) - 1) = (i : Int) - 1 := IntWalk.wrap64_in _ (by omega)
    rw [e0, if_pos (by omega), e1, if_pos (by omega), if_pos (by omega), e2, or_low _ _ hr.1 (by omega) hb.1 (by omega)]
    have := ih k (by omega) (by omega)
    rw [show w - i = (w - (i + 1)) + 1 by omega] at this
    exact this
theorem refTake_f (s : ByteArray) (a w : Int) (hs : s.size ≤ 1000000000000000) (ha0 : -9223372036854775808 ≤ a) (ha1 : a < 9223372036854775808) (k : Nat) (hk : 12 ≤ k) : nautilusref01_Take.f k s a w = some (takeV s a w) := by
  obtain ⟨k, rfl⟩ : ∃ m, k = m + 1 := ⟨k - 1, by omega⟩
  unfold nautilusref01_Take.f takeV
  have no : nautilusref01_Take.j0 (k + 1) s a w true = some (0, 2) := by simp only [nautilusref01_Take.j0]; rfl
  rw [no]
  by_cases h1 : 1 ≤ w
  · rw [if_neg (by omega)]
    by_cases h8 : w ≤ 8
    · rw [if_neg (by omega)]
      by_cases h0 : 0 ≤ a
      · rw [if_neg (by omega)]
        by_cases h2 : a ≤ s.size
        · rw [if_neg (by omega), IntWalk.wrap64_in _ (by omega)]
          by_cases h3 : a + w ≤ s.size
          · rw [if_pos ⟨h1, h8, h0, h3⟩]
            simp only [nautilusref01_Take.j0]
            rw [if_neg (by simp; omega), IntWalk.wrap64_in _ (by omega)]
            obtain ⟨a, rfl⟩ := Int.eq_ofNat_of_zero_le h0
            obtain ⟨w, rfl⟩ := Int.eq_ofNat_of_zero_le (show 0 ≤ w by omega)
            have h := refTake_loop s a w (by omega) hs (by omega) w k (by omega) (by omega)
            rw [show w - w = 0 by omega] at h
            have e := hiB_valB s a w 0
            simp only [Nat.zero_add, valB, Int.pow_zero, Int.mul_one, Int.zero_add] at e
            rw [Int.toNat_natCast, Int.toNat_natCast, e]
            exact h
          · rw [if_neg (by omega), decide_eq_true (by omega), no]
        · rw [if_pos (by omega), if_neg (by omega)]
      · rw [if_pos (by omega), if_neg (by omega)]
    · rw [if_pos (by omega), if_neg (by omega)]
  · rw [if_pos (by omega), if_neg (by omega)]

theorem strOf_le (n : Int) (k : Nat) : strOfNums ((List.range k).map fun j => n / 256 ^ j % 256) = leB n k := by
  simp [strOfNums, leB, H.lowBytes, Function.comp_def]
theorem refBytes_loop (n : Int) (w : Nat) (hw : w ≤ 8) : ∀ d i k, i + d = w → d < k → nautilusref01_Bytes.l0 k (n / 256 ^ i) w ((List.range i).map fun j => n / 256 ^ j % 256) i = some (leB n w) := by
  intro d
  induction d with
  | zero =>
    intro i k hi hk
    obtain ⟨k, rfl⟩ : ∃ m, k = m + 1 := ⟨k - 1, by omega⟩
    obtain rfl : i = w := by omega
    simp only [nautilusref01_Bytes.l0]
    rw [if_neg (by omega), strOf_le]
  | succ d ih =>
    intro i k hi hk
    obtain ⟨k, rfl⟩ : ∃ m, k = m + 1 := ⟨k - 1, by omega⟩
    simp only [nautilusref01_Bytes.l0]
    have e2 : wrap64 ((i : Int) + 1) = ((i + 1 : Nat) : Int) := by rw [IntWalk.wrap64_in _ (by omega)]; omega
    have hp := pow256_pos i
    rw [if_pos (by omega), if_pos (by simp; omega), e2]
    have h := ih (i + 1) k (by omega) (by omega)
    rw [List.range_succ, List.map_append, Int.pow_succ, ← Int.ediv_ediv_of_nonneg (by omega)] at h
    exact h
theorem refBytes_f (n w : Int) (h0 : 0 ≤ w) (h8 : w ≤ 8) (k : Nat) (hk : 10 ≤ k) : nautilusref01_Bytes.f k n w = some (leB n w.toNat) := by
  obtain ⟨w, rfl⟩ := Int.eq_ofNat_of_zero_le h0
  have := refBytes_loop n w (by omega) w 0 k (by omega) (by omega)
  simpa [nautilusref01_Bytes.f] using this
/-- What Put answers. -/
def putV (n w : Int) : ByteArray × Int := if 1 ≤ w ∧ w ≤ 8 then (if n / 256 ^ w.toNat = 0 then (leB n w.toNat, 0) else (⟨#[]⟩, 2)) else (⟨#[]⟩, 2)
theorem put_f (n w : Int) (h0 : 0 ≤ n) (h1 : n < 18446744073709551616) : num_Put.f n w = some (putV n w) := by
  unfold num_Put.f putV
  rw [if_pos ⟨h0, h1⟩]; rfl
theorem lowBytes_inj (n m : Int) (w : Nat) (hn : 0 ≤ n) (hm : 0 ≤ m) (h1 : n < 256 ^ w) (h2 : m < 256 ^ w) (h : lowBytes n w = lowBytes m w) : n = m := by
  induction w generalizing n m with
  | zero => simp at h1 h2; omega
  | succ w ih =>
    have hs : ∀ x : Int, lowBytes x (w + 1) = UInt8.ofNat (x % 256).toNat :: lowBytes (x / 256) w := by
      intro x
      simp only [lowBytes, List.range_succ_eq_map, List.map_cons, List.map_map, Int.pow_zero, Int.ediv_one, List.cons.injEq, true_and]
      apply List.map_congr_left
      intro j _
      have hp := pow256_pos j
      simp only [Function.comp_apply, Nat.succ_eq_add_one]
      rw [Int.pow_succ, Int.mul_comm, ← Int.ediv_ediv_of_nonneg (by omega)]
    rw [hs, hs] at h
    have h256 : (256 : Int) ^ (w + 1) = 256 * 256 ^ w := by rw [Int.pow_succ, Int.mul_comm]
    have e1 := (List.cons.inj h).1
    have e2 := ih (n / 256) (m / 256) (by omega) (by omega) (by omega) (by omega) (List.cons.inj h).2
    have e3 : (n % 256).toNat = (m % 256).toNat := by
      have := congrArg UInt8.toNat e1
      rw [UInt8.toNat_ofNat', UInt8.toNat_ofNat'] at this
      omega
    omega
theorem leB_toList (n : Int) (k : Nat) : (leB n k).toList = lowBytes n k := by rw [ByteArray.toList_eq]; rfl
end Go.Proofs.Ytmpcpcfdomlehaa.P
