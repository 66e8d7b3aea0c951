/- Plain laws on numbers and texts as bytes: what the printed functions of num and of its reference come to. -/
import Derived.Test.YthgefgjaihagoaaQ11
import Derived.Test.YthgefgjaihagoaaHNum
import Derived.IntWalk
namespace Go.Proofs.Ythgefgjaihagoaa.P
open Go.RowKit Go.Proofs.Ythgefgjaihagoaa.H Go.Proofs.Ythgefgjaihagoaa.Q Go.Proofs.YthgefgjaihagoaaW.PrintWords Go.Proofs.YthgefgjaihagoaaW.PrintLast Go.Proofs.YthgefgjaihagoaaW.PrintMore
set_option linter.unusedVariables false

/-! ### Powers -/
theorem pow_256 (j : Nat) : (2 : Int) ^ (8 * j) = 256 ^ j := by rw [Int.pow_mul]; rfl
theorem pow256_pos (j : Nat) : (0 : Int) < 256 ^ j := Int.pow_pos (by omega)
theorem pow256_cast (j : Nat) : (256 : Int) ^ j = ((256 ^ j : Nat) : Int) := by
  induction j with
  | zero => rfl
  | succ j ih => rw [Int.pow_succ, ih, Nat.pow_succ, Int.natCast_mul]; rfl
theorem pow256_le {i j : Nat} (h : i ≤ j) : (256 : Int) ^ i ≤ 256 ^ j := by rw [pow256_cast, pow256_cast]; exact Int.ofNat_le.2 (Nat.pow_le_pow_right (by omega) h)
theorem shl_bytes (b w : Int) (h0 : 0 ≤ w) (h8 : w < 8) (hb0 : 0 ≤ b) (hb1 : b < 256) : shl .u64 b (wrap64 (8 * w)) = b * 256 ^ w.toNat := by
  rw [show wrap64 (8 * w) = 8 * w from IntWalk.wrap64_in _ (by omega)]
  unfold shl
  rw [show min (8 * w).toNat (IntKind.u64.bits) = 8 * w.toNat by simp only [IntKind.bits]; omega, pow_256]
  apply IntWalk.u64_in
  have h1 := pow256_pos w.toNat
  have h2 : (256 : Int) ^ w.toNat ≤ 256 ^ 7 := pow256_le (by omega)
  have h3 : b * 256 ^ w.toNat ≤ 255 * 256 ^ w.toNat := Int.mul_le_mul_of_nonneg_right (by omega) (by omega)
  have h4 : (256 : Int) ^ 7 = 72057594037927936 := by decide
  exact ⟨Int.mul_nonneg hb0 (by omega), by omega⟩
theorem u64_wraps (n : Int) (h0 : 0 ≤ n) (h1 : n < 2 ^ 64) : IntKind.u64.wrap n = n := IntWalk.u64_in n (by omega)
/-- A byte above what is below it. -/
theorem or_bytes (x b : Int) (j : Nat) (hj : j < 8) (hx0 : 0 ≤ x) (hx1 : x < 256 ^ j) (hb0 : 0 ≤ b) (hb1 : b < 256) : bits .or .u64 x (b * 256 ^ j) = x + b * 256 ^ j := by
  have hp := pow256_pos j
  have h2 : (256 : Int) ^ j ≤ 256 ^ 7 := pow256_le (by omega)
  have h4 : (256 : Int) ^ 7 = 72057594037927936 := by decide
  have h5 : b * 256 ^ j ≤ 255 * 256 ^ j := Int.mul_le_mul_of_nonneg_right (by omega) (by omega)
  have h6 := Int.mul_nonneg hb0 (show (0 : Int) ≤ 256 ^ j by omega)
  have hc : bits .or .u64 x (b * 256 ^ j) = bits .or .u64 (b * 256 ^ j) x := by
    obtain ⟨a, ha⟩ := Int.eq_ofNat_of_zero_le h6
    obtain ⟨c, rfl⟩ := Int.eq_ofNat_of_zero_le hx0
    rw [ha]
    have e1 := (bits_nat .u64 64 (by decide) u64_wraps a c (by omega) (by omega))
    have e2 := (bits_nat .u64 64 (by decide) u64_wraps c a (by omega) (by omega))
    rw [e1.2, e2.2, Nat.or_comm]
  rw [hc, bits_join .u64 64 (by decide) u64_wraps (8 * j) _ x h6 (by rw [pow_256]; exact Int.mul_emod_left _ _) (by omega) hx0 (by rw [pow_256]; exact hx1) (by omega), Int.add_comm]
/-! ### Closed forms -/
/-- What so many bytes are as a number, the lowest one first. -/
def valB (s : ByteArray) (a : Nat) : Nat → Int
  | 0 => 0
  | w + 1 => valB s a w + bt s (a + w : Nat) * 256 ^ w
theorem valB_range (s : ByteArray) (a w : Nat) : 0 ≤ valB s a w ∧ valB s a w < 256 ^ w := by
  induction w with
  | zero => simp [valB]
  | succ w ih =>
    have hb := bt_range s (a + w : Nat)
    have hp := pow256_pos w
    have h1 : bt s (a + w : Nat) * 256 ^ w ≤ 255 * 256 ^ w := Int.mul_le_mul_of_nonneg_right (by omega) (by omega)
    have h2 := Int.mul_nonneg hb.1 (show (0 : Int) ≤ 256 ^ w by omega)
    have h3 : (256 : Int) ^ (w + 1) = 256 * 256 ^ w := by rw [Int.pow_succ, Int.mul_comm]
    simp only [valB]
    omega
def takeV (s : ByteArray) (a w : Int) : Int × Int := if 1 ≤ w ∧ w ≤ 8 ∧ 0 ≤ a ∧ a + w ≤ s.size then (valB s a.toNat w.toNat, 0) else (0, 2)

theorem take_loop (s : ByteArray) (a : Nat) (w : Nat) (hw : w ≤ 8) (hs : s.size ≤ 1000000000000000) (ha : a + w ≤ s.size) : ∀ d i k, i + d = w → d < k → num_Take.l0 k s a (valB s a i) w i = some (valB s a w, 0) := by
  intro d
  induction d with
  | zero =>
    intro i k hi hk
    obtain ⟨k, rfl⟩ : ∃ m, k = m + 1 := ⟨k - 1, by omega⟩
    obtain rfl : i = w := by omega
    simp only [num_Take.l0]
    rw [if_neg (by omega)]
  | succ d ih =>
    intro i k hi hk
    obtain ⟨k, rfl⟩ : ∃ m, k = m + 1 := ⟨k - 1, by omega⟩
    simp only [num_Take.l0]
    have e1 : wrap64 ((a : Int) + i) = ((a + i : Nat) : Int) := by rw [IntWalk.wrap64_in _ (by omega)]; omega
    have e2 : wrap64 ((i : Int) + 1) = ((i + 1 : Nat) : Int) := by rw [IntWalk.wrap64_in _ (by omega)]; omega
    have e3 : (0 : Int) ≤ wrap64 (8 * (i : Int)) := by rw [IntWalk.wrap64_in _ (by omega)]; omega
    have c1 : (i : Int) < w := by omega
    have c2 : (0 : Int) ≤ ((a + i : Nat) : Int) := by omega
    have c3 : ((a + i : Nat) : Int) < s.size := by omega
    have hi8 : i < 8 := by omega
    have hb := bt_range s (a + i : Nat)
    have e4 : IntKind.u64.wrap (bt s ((a + i : Nat) : Int)) = bt s ((a + i : Nat) : Int) := IntWalk.u64_in _ (by omega)
    have e5 := shl_bytes (bt s ((a + i : Nat) : Int)) i (by omega) (by omega) hb.1 (by omega)
    have e6 := or_bytes (valB s a i) (bt s ((a + i : Nat) : Int)) i hi8 (valB_range s a i).1 (valB_range s a i).2 hb.1 (by omega)
    rw [Int.toNat_natCast] at e5
    rw [if_pos c1, e1, if_pos c2, if_pos c3, if_pos e3, e2, e4, e5, e6]
    exact ih (i + 1) k (by omega) (by omega)

theorem take_f (s : ByteArray) (a w : Int) (hs : s.size ≤ 1000000000000000) (ha0 : -9223372036854775808 ≤ a) (ha1 : a < 9223372036854775808) (k : Nat) (hk : 12 ≤ k) : num_Take.f k s a w = some (takeV s a w) := by
  obtain ⟨k, rfl⟩ : ∃ m, k = m + 1 := ⟨k - 1, by omega⟩
  unfold num_Take.f num_isWidth.f takeV
  by_cases h1 : 1 ≤ w
  · rw [if_pos h1, Option.bind_some]
    by_cases h8 : w ≤ 8
    · rw [decide_eq_true h8, if_pos rfl]
      by_cases h0 : 0 ≤ a
      · rw [if_neg (by omega)]
        by_cases h2 : a ≤ s.size
        · rw [if_neg (by omega), IntWalk.wrap64_in _ (by omega)]
          by_cases h3 : a + w ≤ s.size
          · rw [if_pos ⟨h1, h8, h0, h3⟩]
            simp only [num_Take.j0]
            rw [if_neg (by simp; omega)]
            obtain ⟨a, rfl⟩ := Int.eq_ofNat_of_zero_le h0
            obtain ⟨w, rfl⟩ := Int.eq_ofNat_of_zero_le (show 0 ≤ w by omega)
            exact take_loop s a w (by omega) hs (by omega) w 0 k (by omega) (by omega)
          · rw [if_neg (by omega)]
            simp only [num_Take.j0]
            rw [if_pos (by simp; omega)]
        · rw [if_pos (by omega), if_neg (by omega)]
          simp only [num_Take.j0]; rfl
      · rw [if_pos (by omega), if_neg (by omega)]
        simp only [num_Take.j0]; rfl
    · rw [decide_eq_false h8, if_neg (by simp), if_neg (by omega)]
      simp only [num_Take.j0]; rfl
  · rw [if_neg h1, Option.bind_some, if_neg (by simp), if_neg (by omega)]
    simp only [num_Take.j0]; rfl

/-- What Put answers. -/
def putV (n w : Int) : ByteArray × Int := if 1 ≤ w ∧ w ≤ 8 then (if n / 256 ^ w.toNat = 0 then (leB n w.toNat, 0) else (⟨#[]⟩, 2)) else (⟨#[]⟩, 2)
theorem lowBytes_inj (n m : Int) (w : Nat) (hn : 0 ≤ n) (hm : 0 ≤ m) (h1 : n < 256 ^ w) (h2 : m < 256 ^ w) (h : lowBytes n w = lowBytes m w) : n = m := by
  induction w generalizing n m with
  | zero => simp at h1 h2; omega
  | succ w ih =>
    have hs : ∀ x : Int, lowBytes x (w + 1) = UInt8.ofNat (x % 256).toNat :: lowBytes (x / 256) w := by
      intro x
      simp only [lowBytes, List.range_succ_eq_map, List.map_cons, List.map_map, Int.pow_zero, Int.ediv_one, List.cons.injEq, true_and]
      apply List.map_congr_left
      intro j _
      have hp := pow256_pos j
      simp only [Function.comp_apply, Nat.succ_eq_add_one]
      rw [Int.pow_succ, Int.mul_comm, ← Int.ediv_ediv_of_nonneg (by omega)]
    rw [hs, hs] at h
    have h256 : (256 : Int) ^ (w + 1) = 256 * 256 ^ w := by rw [Int.pow_succ, Int.mul_comm]
    have e1 := (List.cons.inj h).1
    have e2 := ih (n / 256) (m / 256) (by omega) (by omega) (by omega) (by omega) (List.cons.inj h).2
    have e3 : (n % 256).toNat = (m % 256).toNat := by
      have := congrArg UInt8.toNat e1
      rw [UInt8.toNat_ofNat', UInt8.toNat_ofNat'] at this
      omega
    omega
end Go.Proofs.Ythgefgjaihagoaa.P

namespace Go.Proofs.Ythgefgjaihagoaa.P
open Go.RowKit Go.Proofs.Ythgefgjaihagoaa.H Go.Proofs.Ythgefgjaihagoaa.Q Go.Proofs.YthgefgjaihagoaaW.PrintWords Go.Proofs.YthgefgjaihagoaaW.PrintLast Go.Proofs.YthgefgjaihagoaaW.PrintMore

theorem bt_getElem (s : ByteArray) (i : Nat) (h : i < s.size) : bt s i = (s.data.toList[i]'(by rw [Array.length_toList]; exact h)).toNat := by
  unfold bt
  rw [dif_pos (show (i : Int).toNat < s.size by simpa using h)]
  simp only [Int.toNat_natCast, Array.getElem_toList]
  rfl
theorem toList_length (s : ByteArray) : s.data.toList.length = s.size := by rw [Array.length_toList]; rfl
theorem bt_append_right (s t : ByteArray) (j : Nat) (h : j < t.size) : bt (s ++ t) (s.size + j : Nat) = bt t j := by
  rw [bt_getElem (s ++ t) (s.size + j) (by rw [ByteArray.size_append]; omega), bt_getElem t j h]
  congr 1
  simp only [ByteArray.data_append, Array.toList_append]
  rw [List.getElem_append_right (by rw [toList_length]; omega)]
  simp
theorem bt_append_left (s t : ByteArray) (j : Nat) (h : j < s.size) : bt (s ++ t) j = bt s j := by
  rw [bt_getElem (s ++ t) j (by rw [ByteArray.size_append]; omega), bt_getElem s j h]
  congr 1
  simp only [ByteArray.data_append, Array.toList_append]
  rw [List.getElem_append_left (by rw [toList_length]; omega)]
theorem bt_leB (n : Int) (w j : Nat) (h : j < w) : bt (leB n w) j = n / 256 ^ j % 256 := by
  have h0 := Int.emod_nonneg (n / 256 ^ j) (show (256 : Int) ≠ 0 by omega)
  have h1 := Int.emod_lt_of_pos (n / 256 ^ j) (show (0 : Int) < 256 by omega)
  rw [bt_getElem _ _ (by rw [leB_size]; exact h)]
  simp only [leB, lowBytes, List.getElem_map, List.getElem_range]
  rw [UInt8.toNat_ofNat']
  omega
theorem valB_congr (s t : ByteArray) (a b w : Nat) (h : ∀ j, j < w → bt s (a + j : Nat) = bt t (b + j : Nat)) : valB s a w = valB t b w := by
  induction w with
  | zero => rfl
  | succ w ih => simp only [valB]; rw [ih (fun j hj => h j (by omega)), h w (by omega)]
theorem emod_split (n p : Int) (hp : 0 < p) : n % (p * 256) = n % p + n / p % 256 * p := by
  rw [Int.emod_def n (p * 256), Int.emod_def n p, Int.emod_def (n / p) 256, ← Int.ediv_ediv_of_nonneg (by omega)]
  generalize n / p = q
  generalize q / 256 = r
  rw [Int.sub_mul, Int.mul_comm q p, Int.mul_assoc 256 r p, Int.mul_comm r p, Int.mul_assoc p 256 r, Int.mul_left_comm p 256 r]
  omega
theorem valB_low (n : Int) (w : Nat) : ∀ i, i ≤ w → valB (leB n w) 0 i = n % 256 ^ i := by
  intro i
  induction i with
  | zero => intro _; simp [valB, Int.emod_one]
  | succ i ih =>
    intro hi
    simp only [valB, Nat.zero_add]
    rw [ih (by omega), bt_leB n w i (by omega)]
    have hp := pow256_pos i
    have e : (256 : Int) ^ (i + 1) = 256 ^ i * 256 := Int.pow_succ ..
    rw [e, emod_split _ _ hp]
theorem valB_put (s u : ByteArray) (n : Int) (w : Nat) (h0 : 0 ≤ n) (h1 : n < 256 ^ w) : valB (s ++ leB n w ++ u) s.size w = n := by
  rw [valB_congr (s ++ leB n w ++ u) (leB n w) s.size 0 w, valB_low n w w (Nat.le_refl _), Int.emod_eq_of_lt h0 h1]
  intro j hj
  rw [bt_append_left _ _ _ (by rw [ByteArray.size_append, leB_size]; omega), bt_append_right _ _ _ (by rw [leB_size]; exact hj), Nat.zero_add]
theorem valB_digit (s : ByteArray) (a : Nat) : ∀ w j, j < w → valB s a w / 256 ^ j % 256 = bt s (a + j : Nat) := by
  intro w
  induction w with
  | zero => intro j hj; omega
  | succ w ih =>
    intro j hj
    have hb := bt_range s (a + w : Nat)
    have hpj := pow256_pos j
    simp only [valB]
    by_cases e : j = w
    · subst e
      have hr := valB_range s a j
      rw [Int.add_mul_ediv_right _ _ (by omega), Int.ediv_eq_zero_of_lt hr.1 hr.2, Int.zero_add]
      exact Int.emod_eq_of_lt hb.1 (by omega)
    · have e2 : (256 : Int) ^ w = 256 ^ (w - j - 1) * 256 * 256 ^ j := by
        rw [← Int.pow_succ, ← Int.pow_add]; congr 1; omega
      rw [e2, ← Int.mul_assoc, Int.add_mul_ediv_right _ _ (by omega), ← Int.mul_assoc, Int.add_mul_emod_self_right]
      exact ih j (by omega)
theorem low_val (s : ByteArray) (a w : Nat) (h : a + w ≤ s.size) : lowBytes (valB s a w) w = (s.data.toList.drop a).take w := by
  apply List.ext_getElem
  · simp [lowBytes]; omega
  · intro j h1 h2
    have hj : j < w := by simpa [lowBytes] using h1
    simp only [lowBytes, List.getElem_map, List.getElem_range, List.getElem_take, List.getElem_drop]
    rw [valB_digit s a w j hj, bt_getElem s (a + j) (by omega)]
    simp
end Go.Proofs.Ythgefgjaihagoaa.P
