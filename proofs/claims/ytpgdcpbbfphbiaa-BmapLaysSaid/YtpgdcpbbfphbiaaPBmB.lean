/- Plain laws on numbers and texts as bytes: what the printed functions of num and of its reference come to. -/
import Derived.Test.YtpgdcpbbfphbiaaQ14
import Derived.Test.YtpgdcpbbfphbiaaQ5
import Derived.Test.YtpgdcpbbfphbiaaHNum
import Derived.IntWalk
import Derived.Test.YtpgdcpbbfphbiaaQ13
import Derived.Test.YtpgdcpbbfphbiaaQ16
import Derived.Test.YtpgdcpbbfphbiaaQ17
import Derived.Test.YtpgdcpbbfphbiaaQ19
import Derived.Test.YtpgdcpbbfphbiaaHBLay
import Derived.Test.YtpgdcpbbfphbiaaQ18
import Derived.Test.YtpgdcpbbfphbiaaQ9
import Derived.Test.YtpgdcpbbfphbiaaHBLayC
import Derived.Test.YtpgdcpbbfphbiaaHBJoinC
namespace Go.Proofs.Ytpgdcpbbfphbiaa.P
open Go.RowKit Go.Proofs.Ytpgdcpbbfphbiaa.H Go.Proofs.Ytpgdcpbbfphbiaa.Q Go.Proofs.YtpgdcpbbfphbiaaW.PrintWords Go.Proofs.YtpgdcpbbfphbiaaW.PrintLast Go.Proofs.YtpgdcpbbfphbiaaW.PrintMore
set_option linter.unusedVariables false

theorem u64_wf {n : Int} (h : (Lit.int .u64 n).wf = true) : 0 ≤ n ∧ n < 18446744073709551616 := by
  simp [Lit.wf, IntKind.min, IntKind.max, IntKind.bits, IntKind.signed] at h; omega
theorem i64_wf {n : Int} (h : (Lit.int .i64 n).wf = true) : -9223372036854775808 ≤ n ∧ n < 9223372036854775808 := by
  simp [Lit.wf, IntKind.min, IntKind.max, IntKind.bits, IntKind.signed] at h; omega

/-! ### Powers -/
theorem pow_256 (j : Nat) : (2 : Int) ^ (8 * j) = 256 ^ j := by rw [Int.pow_mul]; rfl
theorem pow256_pos (j : Nat) : (0 : Int) < 256 ^ j := Int.pow_pos (by omega)
theorem pow256_cast (j : Nat) : (256 : Int) ^ j = ((256 ^ j : Nat) : Int) := by
  induction j with
  | zero => rfl
  | succ j ih => rw [Int.pow_succ, ih, Nat.pow_succ, Int.natCast_mul]; rfl
theorem pow256_le {i j : Nat} (h : i ≤ j) : (256 : Int) ^ i ≤ 256 ^ j := by rw [pow256_cast, pow256_cast]; exact Int.ofNat_le.2 (Nat.pow_le_pow_right (by omega) h)
theorem pow256_8 : (256 : Int) ^ 8 = 18446744073709551616 := by decide
theorem shr_bytes (n w : Int) (h0 : 0 ≤ w) (h8 : w ≤ 8) : shr .u64 n (wrap64 (8 * w)) = n / 256 ^ w.toNat := by
  rw [show wrap64 (8 * w) = 8 * w from IntWalk.wrap64_in _ (by omega)]
  unfold shr
  rw [show min (8 * w).toNat (IntKind.u64.bits) = 8 * w.toNat by simp only [IntKind.bits]; omega, pow_256]
theorem shl_bytes (b w : Int) (h0 : 0 ≤ w) (h8 : w < 8) (hb0 : 0 ≤ b) (hb1 : b < 256) : shl .u64 b (wrap64 (8 * w)) = b * 256 ^ w.toNat := by
  rw [show wrap64 (8 * w) = 8 * w from IntWalk.wrap64_in _ (by omega)]
  unfold shl
  rw [show min (8 * w).toNat (IntKind.u64.bits) = 8 * w.toNat by simp only [IntKind.bits]; omega, pow_256]
  apply IntWalk.u64_in
  have h1 := pow256_pos w.toNat
  have h2 : (256 : Int) ^ w.toNat ≤ 256 ^ 7 := pow256_le (by omega)
  have h3 : b * 256 ^ w.toNat ≤ 255 * 256 ^ w.toNat := Int.mul_le_mul_of_nonneg_right (by omega) (by omega)
  have h4 : (256 : Int) ^ 7 = 72057594037927936 := by decide
  exact ⟨Int.mul_nonneg hb0 (by omega), by omega⟩
theorem u64_wraps (n : Int) (h0 : 0 ≤ n) (h1 : n < 2 ^ 64) : IntKind.u64.wrap n = n := IntWalk.u64_in n (by omega)
/-- A byte above what is below it. -/
theorem or_bytes (x b : Int) (j : Nat) (hj : j < 8) (hx0 : 0 ≤ x) (hx1 : x < 256 ^ j) (hb0 : 0 ≤ b) (hb1 : b < 256) : bits .or .u64 x (b * 256 ^ j) = x + b * 256 ^ j := by
  have hp := pow256_pos j
  have h2 : (256 : Int) ^ j ≤ 256 ^ 7 := pow256_le (by omega)
  have h4 : (256 : Int) ^ 7 = 72057594037927936 := by decide
  have h5 : b * 256 ^ j ≤ 255 * 256 ^ j := Int.mul_le_mul_of_nonneg_right (by omega) (by omega)
  have h6 := Int.mul_nonneg hb0 (show (0 : Int) ≤ 256 ^ j by omega)
  have hc : bits .or .u64 x (b * 256 ^ j) = bits .or .u64 (b * 256 ^ j) x := by
    obtain ⟨a, ha⟩ := Int.eq_ofNat_of_zero_le h6
    obtain ⟨c, rfl⟩ := Int.eq_ofNat_of_zero_le hx0
    rw [ha]
    have e1 := (bits_nat .u64 64 (by decide) u64_wraps a c (by omega) (by omega))
    have e2 := (bits_nat .u64 64 (by decide) u64_wraps c a (by omega) (by omega))
    rw [e1.2, e2.2, Nat.or_comm]
  rw [hc, bits_join .u64 64 (by decide) u64_wraps (8 * j) _ x h6 (by rw [pow_256]; exact Int.mul_emod_left _ _) (by omega) hx0 (by rw [pow_256]; exact hx1) (by omega), Int.add_comm]
/-- A byte below. -/
theorem or_low (x b : Int) (hx0 : 0 ≤ x) (hx1 : x < 72057594037927936) (hb0 : 0 ≤ b) (hb1 : b < 256) : bits .or .u64 (IntKind.u64.wrap (x * 256)) (IntKind.u64.wrap b) = x * 256 + b := by
  rw [IntWalk.u64_in (x * 256) (by omega), IntWalk.u64_in b (by omega)]
  exact bits_join .u64 64 (by decide) u64_wraps 8 _ b (by omega) (by omega) (by omega) hb0 (by omega) (by omega)

/-! ### Closed forms -/
/-- What so many bytes are as a number, the lowest one first. -/
def valB (s : ByteArray) (a : Nat) : Nat → Int
  | 0 => 0
  | w + 1 => valB s a w + bt s (a + w : Nat) * 256 ^ w
theorem valB_range (s : ByteArray) (a w : Nat) : 0 ≤ valB s a w ∧ valB s a w < 256 ^ w := by
  induction w with
  | zero => simp [valB]
  | succ w ih =>
    have hb := bt_range s (a + w : Nat)
    have hp := pow256_pos w
    have h1 : bt s (a + w : Nat) * 256 ^ w ≤ 255 * 256 ^ w := Int.mul_le_mul_of_nonneg_right (by omega) (by omega)
    have h2 := Int.mul_nonneg hb.1 (show (0 : Int) ≤ 256 ^ w by omega)
    have h3 : (256 : Int) ^ (w + 1) = 256 * 256 ^ w := by rw [Int.pow_succ, Int.mul_comm]
    simp only [valB]
    omega
def takeV (s : ByteArray) (a w : Int) : Int × Int := if 1 ≤ w ∧ w ≤ 8 ∧ 0 ≤ a ∧ a + w ≤ s.size then (valB s a.toNat w.toNat, 0) else (0, 2)

theorem take_loop (s : ByteArray) (a : Nat) (w : Nat) (hw : w ≤ 8) (hs : s.size ≤ 1000000000000000) (ha : a + w ≤ s.size) : ∀ d i k, i + d = w → d < k → num_Take.l0 k s a (valB s a i) w i = some (valB s a w, 0) := by
  intro d
  induction d with
  | zero =>
    intro i k hi hk
    obtain ⟨k, rfl⟩ : ∃ m, k = m + 1 := ⟨k - 1, by omega⟩
    obtain rfl : i = w := by omega
    simp only [num_Take.l0]
    rw [if_neg (by omega)]
  | succ d ih =>
    intro i k hi hk
    obtain ⟨k, rfl⟩ : ∃ m, k = m + 1 := ⟨k - 1, by omega⟩
    simp only [num_Take.l0]
    have e1 : wrap64 ((a : Int) + i) = ((a + i : Nat) : Int) := by rw [IntWalk.wrap64_in _ (by omega)]; omega
    have e2 : wrap64 ((i : Int) + 1) = ((i + 1 : Nat) : Int) := by rw [IntWalk.wrap64_in _ (by omega)]; omega
    have e3 : (0 : Int) ≤ wrap64 (8 * (i : Int)) := by rw [IntWalk.wrap64_in _ (by omega)]; omega
    have c1 : (i : Int) < w := by omega
    have c2 : (0 : Int) ≤ ((a + i : Nat) : Int) := by omega
    have c3 : ((a + i : Nat) : Int) < s.size := by omega
    have hi8 : i < 8 := by omega
    have hb := bt_range s (a + i : Nat)
    have e4 : IntKind.u64.wrap (bt s ((a + i : Nat) : Int)) = bt s ((a + i : Nat) : Int) := IntWalk.u64_in _ (by omega)
    have e5 := shl_bytes (bt s ((a + i : Nat) : Int)) i (by omega) (by omega) hb.1 (by omega)
    have e6 := or_bytes (valB s a i) (bt s ((a + i : Nat) : Int)) i hi8 (valB_range s a i).1 (valB_range s a i).2 hb.1 (by omega)
    rw [Int.toNat_natCast] at e5
    rw [if_pos c1, e1, if_pos c2, if_pos c3, if_pos e3, e2, e4, e5, e6]
    exact ih (i + 1) k (by omega) (by omega)

theorem take_f (s : ByteArray) (a w : Int) (hs : s.size ≤ 1000000000000000) (ha0 : -9223372036854775808 ≤ a) (ha1 : a < 9223372036854775808) (k : Nat) (hk : 12 ≤ k) : num_Take.f k s a w = some (takeV s a w) := by
  obtain ⟨k, rfl⟩ : ∃ m, k = m + 1 := ⟨k - 1, by omega⟩
  unfold num_Take.f num_isWidth.f takeV
  by_cases h1 : 1 ≤ w
  · rw [if_pos h1, Option.bind_some]
    by_cases h8 : w ≤ 8
    · rw [decide_eq_true h8, if_pos rfl]
      by_cases h0 : 0 ≤ a
      · rw [if_neg (by omega)]
        by_cases h2 : a ≤ s.size
        · rw [if_neg (by omega), IntWalk.wrap64_in _ (by omega)]
          by_cases h3 : a + w ≤ s.size
          · rw [if_pos ⟨h1, h8, h0, h3⟩]
            simp only [num_Take.j0]
            rw [if_neg (by simp; omega)]
            obtain ⟨a, rfl⟩ := Int.eq_ofNat_of_zero_le h0
            obtain ⟨w, rfl⟩ := Int.eq_ofNat_of_zero_le (show 0 ≤ w by omega)
            exact take_loop s a w (by omega) hs (by omega) w 0 k (by omega) (by omega)
          · rw [if_neg (by omega)]
            simp only [num_Take.j0]
            rw [if_pos (by simp; omega)]
        · rw [if_pos (by omega), if_neg (by omega)]
          simp only [num_Take.j0]; rfl
      · rw [if_pos (by omega), if_neg (by omega)]
        simp only [num_Take.j0]; rfl
    · rw [decide_eq_false h8, if_neg (by simp), if_neg (by omega)]
      simp only [num_Take.j0]; rfl
  · rw [if_neg h1, Option.bind_some, if_neg (by simp), if_neg (by omega)]
    simp only [num_Take.j0]; rfl

theorem strOf_le (n : Int) (k : Nat) : strOfNums ((List.range k).map fun j => n / 256 ^ j % 256) = leB n k := by
  simp [strOfNums, leB, H.lowBytes, Function.comp_def]
theorem refBytes_loop (n : Int) (w : Nat) (hw : w ≤ 8) : ∀ d i k, i + d = w → d < k → nautilusref01_Bytes.l0 k (n / 256 ^ i) w ((List.range i).map fun j => n / 256 ^ j % 256) i = some (leB n w) := by
  intro d
  induction d with
  | zero =>
    intro i k hi hk
    obtain ⟨k, rfl⟩ : ∃ m, k = m + 1 := ⟨k - 1, by omega⟩
    obtain rfl : i = w := by omega
    simp only [nautilusref01_Bytes.l0]
    rw [if_neg (by omega), strOf_le]
  | succ d ih =>
    intro i k hi hk
    obtain ⟨k, rfl⟩ : ∃ m, k = m + 1 := ⟨k - 1, by omega⟩
    simp only [nautilusref01_Bytes.l0]
    have e2 : wrap64 ((i : Int) + 1) = ((i + 1 : Nat) : Int) := by rw [IntWalk.wrap64_in _ (by omega)]; omega
    have hp := pow256_pos i
    rw [if_pos (by omega), if_pos (by simp; omega), e2]
    have h := ih (i + 1) k (by omega) (by omega)
    rw [List.range_succ, List.map_append, Int.pow_succ, ← Int.ediv_ediv_of_nonneg (by omega)] at h
    exact h
theorem refBytes_f (n w : Int) (h0 : 0 ≤ w) (h8 : w ≤ 8) (k : Nat) (hk : 10 ≤ k) : nautilusref01_Bytes.f k n w = some (leB n w.toNat) := by
  obtain ⟨w, rfl⟩ := Int.eq_ofNat_of_zero_le h0
  have := refBytes_loop n w (by omega) w 0 k (by omega) (by omega)
  simpa [nautilusref01_Bytes.f] using this
/-- What Put answers. -/
def putV (n w : Int) : ByteArray × Int := if 1 ≤ w ∧ w ≤ 8 then (if n / 256 ^ w.toNat = 0 then (leB n w.toNat, 0) else (⟨#[]⟩, 2)) else (⟨#[]⟩, 2)
theorem put_f (n w : Int) (h0 : 0 ≤ n) (h1 : n < 18446744073709551616) : num_Put.f n w = some (putV n w) := by
  unfold num_Put.f putV
  rw [if_pos ⟨h0, h1⟩]; rfl
theorem lowBytes_inj (n m : Int) (w : Nat) (hn : 0 ≤ n) (hm : 0 ≤ m) (h1 : n < 256 ^ w) (h2 : m < 256 ^ w) (h : lowBytes n w = lowBytes m w) : n = m := by
  induction w generalizing n m with
  | zero => simp at h1 h2; omega
  | succ w ih =>
    have hs : ∀ x : Int, lowBytes x (w + 1) = UInt8.ofNat (x % 256).toNat :: lowBytes (x / 256) w := by
      intro x
      simp only [lowBytes, List.range_succ_eq_map, List.map_cons, List.map_map, Int.pow_zero, Int.ediv_one, List.cons.injEq, true_and]
      apply List.map_congr_left
      intro j _
      have hp := pow256_pos j
      simp only [Function.comp_apply, Nat.succ_eq_add_one]
      rw [Int.pow_succ, Int.mul_comm, ← Int.ediv_ediv_of_nonneg (by omega)]
    rw [hs, hs] at h
    have h256 : (256 : Int) ^ (w + 1) = 256 * 256 ^ w := by rw [Int.pow_succ, Int.mul_comm]
    have e1 := (List.cons.inj h).1
    have e2 := ih (n / 256) (m / 256) (by omega) (by omega) (by omega) (by omega) (List.cons.inj h).2
    have e3 : (n % 256).toNat = (m % 256).toNat := by
      have := congrArg UInt8.toNat e1
      rw [UInt8.toNat_ofNat', UInt8.toNat_ofNat'] at this
      omega
    omega
theorem leB_toList (n : Int) (k : Nat) : (leB n k).toList = lowBytes n k := by rw [ByteArray.toList_eq]; rfl
end Go.Proofs.Ytpgdcpbbfphbiaa.P

namespace Go.Proofs.Ytpgdcpbbfphbiaa.P
open Go.RowKit Go.Proofs.Ytpgdcpbbfphbiaa.H Go.Proofs.Ytpgdcpbbfphbiaa.Q Go.Proofs.YtpgdcpbbfphbiaaW.PrintWords Go.Proofs.YtpgdcpbbfphbiaaW.PrintLast Go.Proofs.YtpgdcpbbfphbiaaW.PrintMore

theorem bt_getElem (s : ByteArray) (i : Nat) (h : i < s.size) : bt s i = (s.data.toList[i]'(by rw [Array.length_toList]; exact h)).toNat := by
  unfold bt
  rw [dif_pos (show (i : Int).toNat < s.size by simpa using h)]
  simp only [Int.toNat_natCast, Array.getElem_toList]
  rfl
theorem toList_length (s : ByteArray) : s.data.toList.length = s.size := by rw [Array.length_toList]; rfl
theorem bt_append_right (s t : ByteArray) (j : Nat) (h : j < t.size) : bt (s ++ t) (s.size + j : Nat) = bt t j := by
  rw [bt_getElem (s ++ t) (s.size + j) (by rw [ByteArray.size_append]; omega), bt_getElem t j h]
  congr 1
  simp only [ByteArray.data_append, Array.toList_append]
  rw [List.getElem_append_right (by rw [toList_length]; omega)]
  simp
theorem bt_append_left (s t : ByteArray) (j : Nat) (h : j < s.size) : bt (s ++ t) j = bt s j := by
  rw [bt_getElem (s ++ t) j (by rw [ByteArray.size_append]; omega), bt_getElem s j h]
  congr 1
  simp only [ByteArray.data_append, Array.toList_append]
  rw [List.getElem_append_left (by rw [toList_length]; omega)]
theorem bt_leB (n : Int) (w j : Nat) (h : j < w) : bt (leB n w) j = n / 256 ^ j % 256 := by
  have h0 := Int.emod_nonneg (n / 256 ^ j) (show (256 : Int) ≠ 0 by omega)
  have h1 := Int.emod_lt_of_pos (n / 256 ^ j) (show (0 : Int) < 256 by omega)
  rw [bt_getElem _ _ (by rw [leB_size]; exact h)]
  simp only [leB, lowBytes, List.getElem_map, List.getElem_range]
  rw [UInt8.toNat_ofNat']
  omega
theorem valB_congr (s t : ByteArray) (a b w : Nat) (h : ∀ j, j < w → bt s (a + j : Nat) = bt t (b + j : Nat)) : valB s a w = valB t b w := by
  induction w with
  | zero => rfl
  | succ w ih => simp only [valB]; rw [ih (fun j hj => h j (by omega)), h w (by omega)]
theorem emod_split (n p : Int) (hp : 0 < p) : n % (p * 256) = n % p + n / p % 256 * p := by
  rw [Int.emod_def n (p * 256), Int.emod_def n p, Int.emod_def (n / p) 256, ← Int.ediv_ediv_of_nonneg (by omega)]
  generalize n / p = q
  generalize q / 256 = r
  rw [Int.sub_mul, Int.mul_comm q p, Int.mul_assoc 256 r p, Int.mul_comm r p, Int.mul_assoc p 256 r, Int.mul_left_comm p 256 r]
  omega
theorem valB_low (n : Int) (w : Nat) : ∀ i, i ≤ w → valB (leB n w) 0 i = n % 256 ^ i := by
  intro i
  induction i with
  | zero => intro _; simp [valB, Int.emod_one]
  | succ i ih =>
    intro hi
    simp only [valB, Nat.zero_add]
    rw [ih (by omega), bt_leB n w i (by omega)]
    have hp := pow256_pos i
    have e : (256 : Int) ^ (i + 1) = 256 ^ i * 256 := Int.pow_succ ..
    rw [e, emod_split _ _ hp]
theorem valB_put (s u : ByteArray) (n : Int) (w : Nat) (h0 : 0 ≤ n) (h1 : n < 256 ^ w) : valB (s ++ leB n w ++ u) s.size w = n := by
  rw [valB_congr (s ++ leB n w ++ u) (leB n w) s.size 0 w, valB_low n w w (Nat.le_refl _), Int.emod_eq_of_lt h0 h1]
  intro j hj
  rw [bt_append_left _ _ _ (by rw [ByteArray.size_append, leB_size]; omega), bt_append_right _ _ _ (by rw [leB_size]; exact hj), Nat.zero_add]
theorem valB_digit (s : ByteArray) (a : Nat) : ∀ w j, j < w → valB s a w / 256 ^ j % 256 = bt s (a + j : Nat) := by
  intro w
  induction w with
  | zero => intro j hj; omega
  | succ w ih =>
    intro j hj
    have hb := bt_range s (a + w : Nat)
    have hpj := pow256_pos j
    simp only [valB]
    by_cases e : j = w
    · subst e
      have hr := valB_range s a j
      rw [Int.add_mul_ediv_right _ _ (by omega), Int.ediv_eq_zero_of_lt hr.1 hr.2, Int.zero_add]
      exact Int.emod_eq_of_lt hb.1 (by omega)
    · have e2 : (256 : Int) ^ w = 256 ^ (w - j - 1) * 256 * 256 ^ j := by
        rw [← Int.pow_succ, ← Int.pow_add]; congr 1; omega
      rw [e2, ← Int.mul_assoc, Int.add_mul_ediv_right _ _ (by omega), ← Int.mul_assoc, Int.add_mul_emod_self_right]
      exact ih j (by omega)
theorem low_val (s : ByteArray) (a w : Nat) (h : a + w ≤ s.size) : lowBytes (valB s a w) w = (s.data.toList.drop a).take w := by
  apply List.ext_getElem
  · simp [lowBytes]; omega
  · intro j h1 h2
    have hj : j < w := by simpa [lowBytes] using h1
    simp only [lowBytes, List.getElem_map, List.getElem_range, List.getElem_take, List.getElem_drop]
    rw [valB_digit s a w j hj, bt_getElem s (a + j) (by omega)]
    simp
theorem leB_val (s : ByteArray) (a w : Nat) (h : a + w ≤ s.size) : leB (valB s a w) w = s.extract a (a + w) := by
  apply ByteArray.ext
  apply Array.toList_inj.1
  show lowBytes _ _ = _
  rw [low_val s a w h]
  simp [ByteArray.data_extract]
theorem val_div (s : ByteArray) (a w : Nat) : valB s a w / 256 ^ w = 0 := Int.ediv_eq_zero_of_lt (valB_range s a w).1 (valB_range s a w).2
theorem put_ok' {n w : Int} (h : (putV n w).2 = 0) : 1 ≤ w ∧ w ≤ 8 ∧ putV n w = (leB n w.toNat, 0) ∧ n < 256 ^ w.toNat := by
  unfold putV at h ⊢
  by_cases h1 : 1 ≤ w ∧ w ≤ 8
  · rw [if_pos h1] at h ⊢
    by_cases h2 : n / 256 ^ w.toNat = 0
    · rw [if_pos h2]
      have hp := pow256_pos w.toNat
      refine ⟨h1.1, h1.2, rfl, ?_⟩
      exact Int.lt_of_not_ge (fun hge => by
        have := Int.ediv_le_ediv hp hge
        rw [Int.ediv_self (by omega), h2] at this
        omega)
    · rw [if_neg h2] at h; simp at h
  · rw [if_neg h1] at h; simp at h
end Go.Proofs.Ytpgdcpbbfphbiaa.P

namespace Go.Proofs.Ytpgdcpbbfphbiaa.P
open Go.RowKit Go.Proofs.Ytpgdcpbbfphbiaa.H Go.Proofs.Ytpgdcpbbfphbiaa.Q Go.Proofs.YtpgdcpbbfphbiaaW.PrintWords Go.Proofs.YtpgdcpbbfphbiaaW.PrintLast Go.Proofs.YtpgdcpbbfphbiaaW.PrintMore
set_option linter.unusedVariables false

def blk (a : Int) : Int := (a + 507) / 508
def dep (a : Int) : Int := if blk a ≤ 6 then 0 else if blk a ≤ 127 then 1 else 2
def low (a : Int) : Int := (blk a + 126) / 127
def cnt (a : Int) : Int := if a > 8193532 then 0 else if dep a = 2 then low a + 1 else dep a
theorem u32_wf {n : Int} (h : (Lit.int .u32 n).wf = true) : 0 ≤ n ∧ n < 4294967296 := by
  simp [Lit.wf, IntKind.min, IntKind.max, IntKind.bits, IntKind.signed] at h; omega
theorem i64_wf' {n : Int} (h : (Lit.int .i64 n).wf = true) : -9223372036854775808 ≤ n ∧ n < 9223372036854775808 := by
  simp [Lit.wf, IntKind.min, IntKind.max, IntKind.bits, IntKind.signed] at h; omega
theorem blk_range (a : Int) (h0 : 0 ≤ a) (h1 : a < 4294967296) : 0 ≤ blk a ∧ blk a ≤ 8454661 := by unfold blk; omega
theorem blocks_f (a : Int) (h0 : 0 ≤ a) (h1 : a < 4294967296) : inode_Blocks.f a = some (blk a) := by
  unfold inode_Blocks.f blk
  rw [IntWalk.u64_in a (by omega), IntWalk.u64_in (a + 508) (by omega), IntWalk.u64_in (a + 508 - 1) (by omega), Int.tdiv_eq_ediv_of_nonneg (by omega), IntWalk.u64_in _ (by omega), IntWalk.wrap64_in _ (by omega), show a + 508 - 1 = a + 507 by omega]
theorem depth_f (a : Int) (h0 : 0 ≤ a) (h1 : a < 4294967296) : inode_Depth.f a = some (dep a) := by
  unfold inode_Depth.f dep
  rw [blocks_f a h0 h1, Option.bind_some]
  by_cases h : blk a ≤ 6
  · rw [if_pos h, if_pos h]
  · rw [if_neg h, if_neg h]
    by_cases h' : blk a ≤ 127
    · rw [if_pos h', if_pos h']
    · rw [if_neg h', if_neg h']
theorem low_f (a : Int) (h0 : 0 ≤ a) (h1 : a < 4294967296) : bmap_lower.f a = some (low a) := by
  have hb := blk_range a h0 h1
  unfold bmap_lower.f low
  rw [blocks_f a h0 h1, Option.bind_some, IntWalk.wrap64_in (blk a + 127) (by omega), IntWalk.wrap64_in (blk a + 127 - 1) (by omega), Int.tdiv_eq_ediv_of_nonneg (by omega), IntWalk.wrap64_in _ (by omega), show blk a + 127 - 1 = blk a + 126 by omega]
theorem count_f (a : Int) (h0 : 0 ≤ a) (h1 : a < 4294967296) : bmap_Count.f a = some (cnt a) := by
  have hb := blk_range a h0 h1
  unfold bmap_Count.f cnt
  by_cases h : a > 8193532
  · rw [if_pos h, if_pos h]
  · rw [if_neg h, if_neg h, depth_f a h0 h1, Option.bind_some]
    by_cases h2 : dep a = 2
    · rw [if_pos h2, if_pos h2, low_f a h0 h1, Option.bind_some, IntWalk.wrap64_in _ (by unfold low; omega)]
    · rw [if_neg h2, if_neg h2, Option.bind_some]
theorem blocksV_eq (a : Int) (h0 : 0 ≤ a) (h1 : a < 4294967296) : blocksV a = blk a := by unfold blocksV; rw [blocks_f a h0 h1]; rfl
theorem depV_eq (a : Int) (h0 : 0 ≤ a) (h1 : a < 4294967296) : depV a = dep a := by unfold depV; rw [depth_f a h0 h1]; rfl
theorem lowV_eq (a : Int) (h0 : 0 ≤ a) (h1 : a < 4294967296) : lowV a = low a := by unfold lowV; rw [low_f a h0 h1]; rfl
theorem cntV_eq (a : Int) (h0 : 0 ≤ a) (h1 : a < 4294967296) : cntV a = cnt a := by unfold cntV; rw [count_f a h0 h1]; rfl
/-! ### The document's -/
theorem refBlocks_f (a : Int) (h0 : 0 ≤ a) (h1 : a < 4294967296) : nautilusref10_Blocks.f a = some (blk a) := by
  unfold nautilusref10_Blocks.f blk
  rw [IntWalk.u64_in a (by omega), Int.tdiv_eq_ediv_of_nonneg (by omega), Int.tmod_eq_emod_of_nonneg (by omega)]
  split
  · rw [IntWalk.u64_in _ (by omega), IntWalk.wrap64_in _ (by omega)]; congr 1; omega
  · rw [IntWalk.u64_in (a / 508) (by omega), IntWalk.u64_in _ (by omega), IntWalk.wrap64_in _ (by omega)]; congr 1; omega
theorem refDepth_f (a : Int) (h0 : 0 ≤ a) (h1 : a < 4294967296) : nautilusref10_Depth.f a = some (dep a) := by
  unfold nautilusref10_Depth.f dep
  rw [refBlocks_f a h0 h1, Option.bind_some]
  by_cases h : blk a ≤ 6
  · rw [if_pos h, if_pos h]
  · rw [if_neg h, if_neg h]
    by_cases h' : blk a ≤ 127
    · rw [if_pos h', if_pos h']
    · rw [if_neg h', if_neg h']
theorem refLow_f (a : Int) (h0 : 0 ≤ a) (h1 : a < 4294967296) : nautilusref13_lower.f a = some (low a) := by
  have hb := blk_range a h0 h1
  unfold nautilusref13_lower.f low
  rw [refBlocks_f a h0 h1, Option.bind_some, IntWalk.wrap64_in (blk a + 127) (by omega), IntWalk.wrap64_in (blk a + 127 - 1) (by omega), Int.tdiv_eq_ediv_of_nonneg (by omega), IntWalk.wrap64_in _ (by omega), show blk a + 127 - 1 = blk a + 126 by omega]
theorem refCount_f (a : Int) (h0 : 0 ≤ a) (h1 : a < 4294967296) : nautilusref13_Count.f a = some (cnt a) := by
  have hb := blk_range a h0 h1
  unfold nautilusref13_Count.f cnt
  by_cases h : a > 8193532
  · rw [if_pos h, if_pos h]
  · rw [if_neg h, if_neg h, refDepth_f a h0 h1, Option.bind_some]
    by_cases h2 : dep a = 2
    · rw [if_pos h2, if_pos h2, refLow_f a h0 h1, Option.bind_some, IntWalk.wrap64_in _ (by unfold low; omega), Int.add_comm]
    · rw [if_neg h2, if_neg h2]
/-! ### Ways -/
def goodW (a i : Int) : Prop := a ≤ 8193532 ∧ 0 ≤ i ∧ i < blk a
instance (a i : Int) : Decidable (goodW a i) := by unfold goodW; exact inferInstance
def wayV (a i : Int) : List Int × Int := if goodW a i then (if dep a = 0 then ([i], 0) else if dep a = 1 then ([0, i], 0) else ([0, i / 127, i % 127], 0)) else ([], 130)
theorem way_f (a i : Int) (h0 : 0 ≤ a) (h1 : a < 4294967296) (k : Nat) (hk : 2 ≤ k) : bmap_Way.f k a i = some (wayV a i) := by
  obtain ⟨k, rfl⟩ : ∃ m, k = m + 1 := ⟨k - 1, by omega⟩
  have hb := blk_range a h0 h1
  unfold bmap_Way.f wayV
  have no (x : Bool) (hx : x = true) : bmap_Way.j0 (k + 1) a i x = some (([] : List Int), 130) := by rw [bmap_Way.j0, if_pos hx]
  by_cases g1 : a > 8193532
  · rw [if_pos g1, no true rfl, if_neg (show ¬ goodW a i by unfold goodW; omega)]
  rw [if_neg g1]
  by_cases g2 : i < 0
  · rw [if_pos g2, no true rfl, if_neg (show ¬ goodW a i by unfold goodW; omega)]
  rw [if_neg g2, blocks_f a h0 h1, Option.bind_some]
  by_cases g3 : i ≥ blk a
  · rw [no _ (decide_eq_true g3), if_neg (show ¬ goodW a i by unfold goodW; omega)]
  rw [decide_eq_false g3, bmap_Way.j0, if_neg (by decide), depth_f a h0 h1, Option.bind_some, if_pos (show goodW a i by unfold goodW; omega)]
  by_cases g4 : dep a = 0
  · rw [if_pos g4, if_pos g4]
  rw [if_neg g4, if_neg g4]
  by_cases g5 : dep a = 1
  · rw [if_pos g5, if_pos g5]
  rw [if_neg g5, if_neg g5, Int.tdiv_eq_ediv_of_nonneg (by omega), Int.tmod_eq_emod_of_nonneg (by omega), IntWalk.wrap64_in _ (by omega)]
theorem refWay_f (a i : Int) (h0 : 0 ≤ a) (h1 : a < 4294967296) (k : Nat) (hk : 2 ≤ k) : nautilusref13_Way.f k a i = some (wayV a i) := by
  obtain ⟨k, rfl⟩ : ∃ m, k = m + 1 := ⟨k - 1, by omega⟩
  have hb := blk_range a h0 h1
  unfold nautilusref13_Way.f wayV
  have no (x : Bool) (hx : x = true) : nautilusref13_Way.j0 (k + 1) a i x = some (([] : List Int), 130) := by rw [nautilusref13_Way.j0, if_pos hx]
  by_cases g1 : a > 8193532
  · rw [if_pos g1, no true rfl, if_neg (show ¬ goodW a i by unfold goodW; omega)]
  rw [if_neg g1]
  by_cases g2 : i < 0
  · rw [if_pos g2, no true rfl, if_neg (show ¬ goodW a i by unfold goodW; omega)]
  rw [if_neg g2, refBlocks_f a h0 h1, Option.bind_some]
  by_cases g3 : i ≥ blk a
  · rw [no _ (decide_eq_true g3), if_neg (show ¬ goodW a i by unfold goodW; omega)]
  rw [decide_eq_false g3, nautilusref13_Way.j0, if_neg (by decide), refDepth_f a h0 h1, Option.bind_some, if_pos (show goodW a i by unfold goodW; omega)]
  by_cases g4 : dep a = 0
  · rw [if_pos g4, if_pos g4]
  rw [if_neg g4, if_neg g4]
  by_cases g5 : dep a = 1
  · rw [if_pos g5, if_pos g5]
  rw [if_neg g5, if_neg g5, Int.tdiv_eq_ediv_of_nonneg (by omega), Int.tmod_eq_emod_of_nonneg (by omega), IntWalk.wrap64_in _ (by omega)]
/-! ### Are two lists the same? -/
theorem rd_in (l : List Int) (i : Nat) (h : i < l.length) : rd l (i : Int) = l[i] := by simp [rd, h]
theorem sameInts_loop (a b : List Int) (hl : a.length = b.length) (hc : a.length ≤ 1000000000) : ∀ m i k, i + m = a.length → m < k → nautilusref13_SameInts.l0 k a b i = some (decide (a.drop i = b.drop i))
  | 0, i, k + 1, hi, hk => by rw [nautilusref13_SameInts.l0, if_neg (by omega), List.drop_of_length_le (by omega), List.drop_of_length_le (by omega)]; simp
  | m + 1, i, k + 1, hi, hk => by
    have h1 : i < a.length := by omega
    have h2 : i < b.length := by omega
    rw [nautilusref13_SameInts.l0, if_pos (by omega), if_pos (by omega), if_pos (by omega), rd_in a i h1, rd_in b i h2, List.drop_eq_getElem_cons h1, List.drop_eq_getElem_cons h2, IntWalk.wrap64_in _ (by omega), show (i : Int) + 1 = ((i + 1 : Nat) : Int) by omega]
    by_cases e : a[i] = b[i]
    · rw [if_pos e, sameInts_loop a b hl hc m (i + 1) k (by omega) (by omega)]
      simp only [List.cons.injEq, e, true_and]
    · rw [if_neg e]; simp only [List.cons.injEq, e, false_and, decide_false]
theorem sameInts_f (a b : List Int) (hc : a.length ≤ 1000000000) (k : Nat) (hk : a.length < k) : nautilusref13_SameInts.f k a b = some (decide (a = b)) := by
  unfold nautilusref13_SameInts.f
  by_cases h : a.length = b.length
  · rw [if_pos (by omega)]
    have := sameInts_loop a b h hc a.length 0 k (by omega) hk
    rwa [List.drop_zero, List.drop_zero] at this
  · rw [if_neg (by omega), decide_eq_false (fun e => h (by rw [e]))]
theorem same_loop (a b : List Int) (hl : a.length = b.length) (hc : a.length ≤ 1000000000) : ∀ m i k, i + m = a.length → m < k → nautilusref13_Same.l0 k a b i = some (decide (a.drop i = b.drop i))
  | 0, i, k + 1, hi, hk => by rw [nautilusref13_Same.l0, if_neg (by omega), List.drop_of_length_le (by omega), List.drop_of_length_le (by omega)]; simp
  | m + 1, i, k + 1, hi, hk => by
    have h1 : i < a.length := by omega
    have h2 : i < b.length := by omega
    rw [nautilusref13_Same.l0, if_pos (by omega), if_pos (by omega), if_pos (by omega), rd_in a i h1, rd_in b i h2, List.drop_eq_getElem_cons h1, List.drop_eq_getElem_cons h2, IntWalk.wrap64_in _ (by omega), show (i : Int) + 1 = ((i + 1 : Nat) : Int) by omega]
    by_cases e : a[i] = b[i]
    · rw [if_pos e, same_loop a b hl hc m (i + 1) k (by omega) (by omega)]
      simp only [List.cons.injEq, e, true_and]
    · rw [if_neg e]; simp only [List.cons.injEq, e, false_and, decide_false]
theorem same_f (a b : List Int) (hc : a.length ≤ 1000000000) (k : Nat) (hk : a.length < k) : nautilusref13_Same.f k a b = some (decide (a = b)) := by
  unfold nautilusref13_Same.f
  by_cases h : a.length = b.length
  · rw [if_pos (by omega)]
    have := same_loop a b h hc a.length 0 k (by omega) hk
    rwa [List.drop_zero, List.drop_zero] at this
  · rw [if_neg (by omega), decide_eq_false (fun e => h (by rw [e]))]
theorem bytes_iff {s t : ByteArray} : s.toList = t.toList ↔ s = t := ⟨fun h => by rw [ByteArray.toList_eq, ByteArray.toList_eq] at h; exact ByteArray.ext (Array.toList_inj.1 h), fun h => by rw [h]⟩
theorem rdB_in (l : List ByteArray) (i : Nat) (h : i < l.length) : rdOf ByteArray.empty l (i : Int) = l[i] := by simp [rdOf, h]
theorem sameT_loop (a b : List ByteArray) (hl : a.length = b.length) (hc : a.length ≤ 1000000000) : ∀ m i k, i + m = a.length → m < k → nautilusref13_SameTexts.l0 k a b i = some (decide (a.drop i = b.drop i))
  | 0, i, k + 1, hi, hk => by rw [nautilusref13_SameTexts.l0, if_neg (by omega), List.drop_of_length_le (by omega), List.drop_of_length_le (by omega)]; simp
  | m + 1, i, k + 1, hi, hk => by
    have h1 : i < a.length := by omega
    have h2 : i < b.length := by omega
    rw [nautilusref13_SameTexts.l0, if_pos (by omega), if_pos (by omega), if_pos (by omega), rdB_in a i h1, rdB_in b i h2, List.drop_eq_getElem_cons h1, List.drop_eq_getElem_cons h2, IntWalk.wrap64_in _ (by omega), show (i : Int) + 1 = ((i + 1 : Nat) : Int) by omega]
    by_cases e : a[i] = b[i]
    · rw [if_pos (by rw [e]), sameT_loop a b hl hc m (i + 1) k (by omega) (by omega)]
      simp only [List.cons.injEq, e, true_and]
    · rw [if_neg (fun h => e (bytes_iff.1 h))]; simp only [List.cons.injEq, e, false_and, decide_false]
theorem sameT_f (a b : List ByteArray) (hc : a.length ≤ 1000000000) (k : Nat) (hk : a.length < k) : nautilusref13_SameTexts.f k a b = some (decide (a = b)) := by
  unfold nautilusref13_SameTexts.f
  by_cases h : a.length = b.length
  · rw [if_pos (by omega)]
    have := sameT_loop a b h hc a.length 0 k (by omega) hk
    rwa [List.drop_zero, List.drop_zero] at this
  · rw [if_neg (by omega), decide_eq_false (fun e => h (by rw [e]))]
end Go.Proofs.Ytpgdcpbbfphbiaa.P

namespace Go.Proofs.Ytpgdcpbbfphbiaa.P
open Go.RowKit Go.Proofs.Ytpgdcpbbfphbiaa.H Go.Proofs.Ytpgdcpbbfphbiaa.Q Go.Proofs.YtpgdcpbbfphbiaaW.PrintWords Go.Proofs.YtpgdcpbbfphbiaaW.PrintLast Go.Proofs.YtpgdcpbbfphbiaaW.PrintMore
set_option linter.unusedVariables false

def ofL (l : List UInt8) : ByteArray := ⟨l.toArray⟩
theorem ofL_size (l : List UInt8) : (ofL l).size = l.length := by simp [ofL, ByteArray.size]
theorem ofL_append (l m : List UInt8) : ofL l ++ ofL m = ofL (l ++ m) := by apply ByteArray.ext; simp [ofL]
theorem ofL_inj {l m : List UInt8} (h : ofL l = ofL m) : l = m := by
  have := congrArg ByteArray.data h
  simpa [ofL] using this
theorem valB_mid (p q : List UInt8) (x : Int) (w i : Nat) (hi : p.length = i) (h0 : 0 ≤ x) (h1 : x < 256 ^ w) : valB (ofL (p ++ lowBytes x w ++ q)) i w = x := by
  rw [← ofL_append, ← ofL_append, ← hi, ← ofL_size p]
  exact valB_put (ofL p) (ofL q) x w h0 h1
theorem p4 : (256 : Int) ^ 4 = 4294967296 := by decide
theorem take_at (b : ByteArray) (hs : b.size = 508) (k : Nat) (hk : k < 127) : num_Take.f 20 b (4 * (k : Int)) 4 = some (valB b (4 * k) 4, 0) := by
  rw [take_f b _ 4 (by omega) (by omega) (by omega) 20 (by omega)]
  unfold takeV
  rw [if_pos (by omega), show (4 * (k : Int)).toNat = 4 * k by omega]; rfl
theorem tkN_val (b : ByteArray) (hs : b.size = 508) (k : Nat) (hk : k < 127) : tkN b k = valB b (4 * k) 4 := by
  unfold tkN
  rw [take_at b hs k hk]
  have := valB_range b (4 * k) 4
  rw [p4] at this
  exact Int.emod_eq_of_lt this.1 this.2
theorem okN_all (b : ByteArray) (hs : b.size = 508) : okN b = true := by
  unfold okN
  rw [List.all_eq_true]
  intro k hk
  rw [take_at b hs k (List.mem_range.1 hk)]; rfl
theorem numbers_f (b : ByteArray) : bmap_Numbers.f b = some (if b.size = 508 then (numsN b 127, 0) else ([], 130)) := by
  unfold bmap_Numbers.f
  by_cases h : b.size = 508
  · rw [if_pos h, if_pos h, if_pos (okN_all b h)]
  · rw [if_neg h, if_neg h]
theorem numsN_get (b : ByteArray) (n k : Nat) (h : k < (numsN b n).length) : (numsN b n)[k] = tkN b k := by simp [numsN]
theorem numsN_range (b : ByteArray) (hs : b.size = 508) : ∀ x ∈ numsN b 127, 0 ≤ x ∧ x < 4294967296 := by
  intro x hx
  obtain ⟨k, hk, rfl⟩ := List.mem_map.1 hx
  have := valB_range b (4 * k) 4
  rw [p4] at this
  rw [tkN_val b hs k (List.mem_range.1 hk)]; exact this
/-! ### A block of numbers -/
def fineL (l : List Int) : Prop := ∀ x ∈ l, 0 ≤ x ∧ x < 4294967296
theorem numsB_append (l m : List Int) : numsB (l ++ m) = numsB l ++ numsB m := by simp [numsB]
theorem numsB_cons (x : Int) (l : List Int) : numsB (x :: l) = lowBytes x 4 ++ numsB l := rfl
theorem numsB_zeros (n : Nat) : numsB (List.replicate n 0) = List.replicate (4 * n) 0 := by
  induction n with
  | zero => rfl
  | succ n ih => rw [List.replicate_succ, numsB_cons, ih, show 4 * (n + 1) = 4 + 4 * n by omega, ← List.replicate_append_replicate]; rfl
/-- The numbers of a block, with 0 behind them. -/
def padL (l : List Int) : List Int := l ++ List.replicate (127 - l.length) 0
theorem padL_len (l : List Int) (h : l.length ≤ 127) : (padL l).length = 127 := by unfold padL; rw [List.length_append, List.length_replicate]; omega
theorem blkB_eq (l : List Int) (h : l.length ≤ 127) : blkB l = ofL (numsB (padL l)) := by
  unfold blkB padL
  rw [numsB_append, numsB_zeros, numsB_len, show 508 - 4 * l.length = 4 * (127 - l.length) by omega]; rfl
theorem blkB_size (l : List Int) (h : l.length ≤ 127) : (blkB l).size = 508 := by rw [blkB_eq l h, ofL_size, numsB_len, padL_len l h]
theorem fine_pad {l : List Int} (h : fineL l) : fineL (padL l) := by
  intro x hx
  rcases List.mem_append.1 hx with hx | hx
  · exact h x hx
  · rw [List.eq_of_mem_replicate hx]; omega
theorem val_nums (l : List Int) (h : fineL l) (k : Nat) (hk : k < l.length) : valB (ofL (numsB l)) (4 * k) 4 = l[k] := by
  have e : numsB l = numsB (l.take k) ++ lowBytes l[k] 4 ++ numsB (l.drop (k + 1)) := by
    rw [List.append_assoc, ← numsB_cons, ← numsB_append, List.getElem_cons_drop, List.take_append_drop]
  have hx := h _ (List.getElem_mem hk)
  rw [e]
  exact valB_mid _ _ _ 4 (4 * k) (by rw [numsB_len, List.length_take]; omega) hx.1 (by rw [p4]; exact hx.2)
theorem numsN_blk (l : List Int) (h : l.length ≤ 127) (hf : fineL l) : numsN (blkB l) 127 = padL l := by
  apply List.ext_getElem
  · rw [numsN_len, padL_len l h]
  · intro k h1 h2
    rw [numsN_get, tkN_val _ (blkB_size l h) k (by rwa [numsN_len] at h1), blkB_eq l h]
    exact val_nums _ (fine_pad hf) k h2
theorem blk_inj {l m : List Int} (hl : l.length ≤ 127) (hm : m.length ≤ 127) (fl : fineL l) (fm : fineL m) (e : blkB l = blkB m) : padL l = padL m := by
  rw [← numsN_blk l hl fl, ← numsN_blk m hm fm, e]
/-- A block is that of its numbers. -/
theorem nums_bytes (b : ByteArray) (hs : b.size = 508) : ofL (numsB (numsN b 127)) = b := by
  have hlen : (numsB (numsN b 127)).length = 508 := by rw [numsB_len, numsN_len]
  have step : ∀ n, n ≤ 127 → numsB (numsN b n) = b.data.toList.take (4 * n) := by
    intro n
    induction n with
    | zero => intro _; rfl
    | succ n ih =>
      intro hn
      rw [numsN_succ, numsB_append, ih (by omega), tkN_val b hs n (by omega)]
      have : numsB [valB b (4 * n) 4] = (b.data.toList.drop (4 * n)).take 4 := by
        rw [numsB_cons, show numsB [] = [] from rfl, List.append_nil, low_val b (4 * n) 4 (by omega)]
      rw [this, show 4 * (n + 1) = 4 * n + 4 by omega, List.take_add]
  have h2 := step 127 (by omega)
  apply ByteArray.ext
  apply Array.toList_inj.1
  show numsB (numsN b 127) = _
  rw [h2, List.take_of_length_le (by rw [Array.length_toList]; have : b.data.size = b.size := rfl; omega)]
/-! ### Is there one above nothing? -/
theorem idx_f : ∀ (l : List Int) (i : Int), 0 ≤ i → ∃ r, idx 35 l i = some r ∧ decide (r ≥ 0) = l.any (fun x => decide (x > 0))
  | [], i, _ => ⟨-1, rfl, rfl⟩
  | x :: xs, i, hi => by
    obtain ⟨r, h1, h2⟩ := idx_f xs (i + 1) (by omega)
    rw [idx]
    unfold pred
    rw [if_pos rfl, Option.bind_some]
    by_cases hx : x > 0
    · refine ⟨i, by rw [if_pos (decide_eq_true hx)], ?_⟩
      rw [decide_eq_true (show i ≥ 0 from hi), List.any_cons, decide_eq_true hx]; rfl
    · refine ⟨r, by rw [if_neg (by simp [hx])]; exact h1, ?_⟩
      rw [h2, List.any_cons, decide_eq_false hx]; rfl
theorem contains_f (l : List Int) : containsU.f l 35 = some (l.any (fun x => decide (x > 0))) := by
  obtain ⟨r, h1, h2⟩ := idx_f l 0 (by omega)
  unfold containsU.f
  rw [h1, Option.bind_some, h2]
theorem end_f (many : Int) (l : List Int) (h : 0 ≤ many ∧ many ≤ (l.length : Int)) : joinEnd many (l, 0) = some (if (l.drop many.toNat).any (fun x => decide (x > 0)) = true then ([], 130) else (l.take many.toNat, 0)) := by
  unfold joinEnd
  rw [if_pos rfl, if_pos h, contains_f, Option.bind_some]
  split <;> rfl
theorem joinL_cons (b : ByteArray) (hb : b.size = 508) (bs : List ByteArray) (out : List Int) : joinL (b :: bs) out = joinL bs (out ++ numsN b 127) := by
  rw [joinL, numbers_f, Option.bind_some, if_pos hb, if_pos rfl]
theorem any_zeros (n : Nat) : (List.replicate n (0 : Int)).any (fun x => decide (x > 0)) = false := by
  rw [List.any_eq_false]
  intro x hx
  rw [List.eq_of_mem_replicate hx]; decide

/-! ### Is 0 among them? -/
theorem index_loop (l : List Int) (hl : l.length ≤ 1000000000) : ∀ d i k, i + d = l.length → d < k → ∃ r, slices_Index_uint32_uint32_37.l0 k l 0 (l.length : Int) i = some r ∧ decide (r ≥ 0) = decide ((0 : Int) ∈ l.drop i)
  | 0, i, k + 1, hi, hk => ⟨-1, by rw [slices_Index_uint32_uint32_37.l0, if_neg (by omega)], by rw [List.drop_of_length_le (by omega)]; simp⟩
  | d + 1, i, k + 1, hi, hk => by
    have h1 : i < l.length := by omega
    rw [slices_Index_uint32_uint32_37.l0, if_pos (by omega), if_pos (by omega), if_pos (by omega), rd_in l i h1, List.drop_eq_getElem_cons h1]
    by_cases h : 0 = l[i]
    · refine ⟨i, by rw [if_pos h], ?_⟩
      rw [decide_eq_true (show (i : Int) ≥ 0 by omega), decide_eq_true (by rw [h]; exact List.mem_cons_self ..)]
    · obtain ⟨r, h2, h3⟩ := index_loop l hl d (i + 1) k (by omega) (by omega)
      refine ⟨r, by rw [if_neg h, IntWalk.wrap64_in _ (by omega), show (i : Int) + 1 = ((i + 1 : Nat) : Int) by omega]; exact h2, ?_⟩
      rw [h3]
      congr 1
      rw [List.mem_cons]
      exact propext ⟨.inr, fun q => q.elim (fun e => (h e).elim) id⟩
theorem hasZ_f (l : List Int) (hl : l.length ≤ 1000000000) : hasZ l = some (decide ((0 : Int) ∈ l)) := by
  obtain ⟨r, h1, h2⟩ := index_loop l hl l.length 0 (l.length + 2) (by omega) (by omega)
  unfold hasZ slices_Contains_uint32_uint32_28.f slices_Index_uint32_uint32_37.f
  rw [show ((0 : Nat) : Int) = 0 from rfl] at h1
  rw [h1, Option.bind_some, h2, List.drop_zero]
/-! ### What is shown -/
theorem shown_lay : bmap_Lay.f 3556 [1, 2, 0, 4, 5, 6, 7] [9] = some (9, 0, 0, 0, 0, 0, [blkB [1, 2, 0, 4, 5, 6, 7]], 0) := by
  unfold bmap_Lay.f
  rw [if_neg (by omega), blocksV_eq _ (by omega) (by omega), if_pos (by decide), cntV_eq _ (by omega) (by omega), if_pos (by decide), hasZ_f _ (by decide), Option.bind_some, if_neg (by decide)]
  unfold layGood
  rw [if_neg (by decide), if_pos (by decide)]
  rfl
theorem right_shown : inode_Right.f 1 0 0 3556 0 (dep 3556) 9 0 0 0 0 0 = some true := by
  unfold inode_Right.f
  rw [if_neg (by decide), if_neg (by decide), if_neg (by decide), if_neg (by decide)]
  unfold inode_isMap.f
  rw [if_pos (by decide), if_pos (by decide), depth_f _ (by omega) (by omega), Option.bind_some, if_pos rfl]
  simp only [blocks_f 3556 (by omega) (by omega), Option.bind_some]
  decide
theorem shown_join : bmap_Join.f 3556 9 0 0 0 0 0 [blkB [1, 2, 0, 4, 5, 6, 7]] = some ([1, 2, 0, 4, 5, 6, 7], 0) := by
  unfold bmap_Join.f
  rw [depV_eq _ (by omega) (by omega), cntV_eq _ (by omega) (by omega), right_shown, Option.bind_some, if_pos rfl, if_pos (by decide), if_pos (by decide)]
  unfold joinGood
  rw [depV_eq _ (by omega) (by omega), blocksV_eq _ (by omega) (by omega), if_pos (by decide), if_neg (by decide), joinL_cons _ (blkB_size _ (by decide)), List.nil_append, numsN_blk _ (by decide) (by intro x hx; revert x; decide), joinL, Option.bind_some, show blk 3556 = 7 by decide, end_f _ _ (by rw [padL_len _ (by decide)]; decide)]
  unfold padL
  rw [show ((7 : Int).toNat) = ([1, 2, 0, 4, 5, 6, 7] : List Int).length from rfl, List.drop_left', List.take_left', any_zeros, if_neg (by decide)]
  · rfl
  · rfl
theorem shown_f (k : Nat) (hk : 20 ≤ k) : nautiluslaw13_shown.f k = some true := by
  obtain ⟨k, rfl⟩ : ∃ m, k = m + 1 := ⟨k - 1, by omega⟩
  unfold nautiluslaw13_shown.f
  rw [way_f _ _ (by omega) (by omega) _ (by omega), Option.bind_some, way_f _ _ (by omega) (by omega) _ (by omega), Option.bind_some, shown_lay, Option.bind_some, show wayV 508 0 = ([0], 0) from by decide, show wayV 65024 127 = ([0, 1, 0], 0) from by decide]
  show (if (0 : Int) = 0 then (if (0 : Int) = 0 then (if (0 : Int) = 0 then nautiluslaw13_shown.j0 (k + 1) [0] [0, 1, 0] [blkB [1, 2, 0, 4, 5, 6, 7]] ((1 : Int) != 1) 9 0 0 0 0 0 else _) else _) else _) = _
  rw [if_pos rfl, if_pos rfl, if_pos rfl, nautiluslaw13_shown.j0, if_neg (by decide), shown_join, Option.bind_some, sameInts_f _ _ (by decide) _ (by simp; omega), Option.bind_some, if_pos (by decide), sameInts_f _ _ (by decide) _ (by simp; omega), Option.bind_some, if_pos (by decide), if_pos rfl, if_pos rfl,
    same_f _ _ (by decide) _ (by simp; omega), Option.bind_some, if_pos (by decide), count_f _ (by omega) (by omega), Option.bind_some]
  decide
end Go.Proofs.Ytpgdcpbbfphbiaa.P
