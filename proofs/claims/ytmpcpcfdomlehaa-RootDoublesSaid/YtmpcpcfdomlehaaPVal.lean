/- Plain laws: the numbers of bytes, and the bytes of numbers. -/
import Derived.Test.YtmpcpcfdomlehaaPNum
namespace Go.Proofs.Ytmpcpcfdomlehaa.P
open Go.RowKit Go.Proofs.Ytmpcpcfdomlehaa.H Go.Proofs.Ytmpcpcfdomlehaa.Q Go.Proofs.YtmpcpcfdomlehaaW.PrintWords Go.Proofs.YtmpcpcfdomlehaaW.PrintLast Go.Proofs.YtmpcpcfdomlehaaW.PrintMore

theorem bt_getElem (s : ByteArray) (i : Nat) (h : i < s.size) : bt s i = (s.data.toList[i]'(by rw [Array.length_toList]; exact h)).toNat := by
  unfold bt
  rw [dif_pos (show (i : Int).toNat < s.size by simpa using h)]
  simp only [Int.toNat_natCast, Array.getElem_toList]
  rfl
theorem toList_length (s : ByteArray) : s.data.toList.length = s.size := by rw [Array.length_toList]; rfl
theorem bt_append_right (s t : ByteArray) (j : Nat) (h : j < t.size) : bt (s ++ t) (s.size + j : Nat) = bt t j := by
  rw [bt_getElem (s ++ t) (s.size + j) (by rw [ByteArray.size_append]; omega), bt_getElem t j h]
  congr 1
  simp only [ByteArray.data_append, Array.toList_append]
  rw [List.getElem_append_right (by rw [toList_length]; omega)]
  simp
theorem bt_append_left (s t : ByteArray) (j : Nat) (h : j < s.size) : bt (s ++ t) j = bt s j := by
  rw [bt_getElem (s ++ t) j (by rw [ByteArray.size_append]; omega), bt_getElem s j h]
  congr 1
  simp only [ByteArray.data_append, Array.toList_append]
  rw [List.getElem_append_left (by rw [toList_length]; omega)]
theorem bt_leB (n : Int) (w j : Nat) (h : j < w) : bt (leB n w) j = n / 256 ^ j % 256 := by
  have h0 := Int.emod_nonneg (n / 256 ^ j) (show (256 : Int) ≠ 0 by omega)
  have h1 := Int.emod_lt_of_pos (n / 256 ^ j) (show (0 : Int) < 256 by omega)
  rw [bt_getElem _ _ (by rw [leB_size]; exact h)]
  simp only [leB, lowBytes, List.getElem_map, List.getElem_range]
  rw [UInt8.toNat_ofNat']
  omega
theorem valB_congr (s t : ByteArray) (a b w : Nat) (h : ∀ j, j < w → bt s (a + j : Nat) = bt t (b + j : Nat)) : valB s a w = valB t b w := by
  induction w with
  | zero => rfl
  | succ w ih => simp only [valB]; rw [ih (fun j hj => h j (by omega)), h w (by omega)]
theorem emod_split (n p : Int) (hp : 0 < p) : n % (p * 256) = n % p + n / p % 256 * p := by
  rw [Int.emod_def n (p * 256), Int.emod_def n p, Int.emod_def (n / p) 256, ← Int.ediv_ediv_of_nonneg (by omega)]
  generalize n / p = q
  generalize q / 256 = r
  rw [Int.sub_mul, Int.mul_comm q p, Int.mul_assoc 256 r p, Int.mul_comm r p, Int.mul_assoc p 256 r, Int.mul_left_comm p 256 r]
  omega
theorem valB_low (n : Int) (w : Nat) : ∀ i, i ≤ w → valB (leB n w) 0 i = n % 256 ^ i := by
  intro i
  induction i with
  | zero => intro _; simp [valB, Int.emod_one]
  | succ i ih =>
    intro hi
    simp only [valB, Nat.zero_add]
    rw [ih (by omega), bt_leB n w i (by omega)]
    have hp := pow256_pos i
    have e : (256 : Int) ^ (i + 1) = 256 ^ i * 256 := Int.pow_succ ..
    rw [e, emod_split _ _ hp]
theorem valB_put (s u : ByteArray) (n : Int) (w : Nat) (h0 : 0 ≤ n) (h1 : n < 256 ^ w) : valB (s ++ leB n w ++ u) s.size w = n := by
  rw [valB_congr (s ++ leB n w ++ u) (leB n w) s.size 0 w, valB_low n w w (Nat.le_refl _), Int.emod_eq_of_lt h0 h1]
  intro j hj
  rw [bt_append_left _ _ _ (by rw [ByteArray.size_append, leB_size]; omega), bt_append_right _ _ _ (by rw [leB_size]; exact hj), Nat.zero_add]
theorem valB_digit (s : ByteArray) (a : Nat) : ∀ w j, j < w → valB s a w / 256 ^ j % 256 = bt s (a + j : Nat) := by
  intro w
  induction w with
  | zero => intro j hj; omega
  | succ w ih =>
    intro j hj
    have hb := bt_range s (a + w : Nat)
    have hpj := pow256_pos j
    simp only [valB]
    by_cases e : j = w
    · subst e
      have hr := valB_range s a j
      rw [Int.add_mul_ediv_right _ _ (by omega), Int.ediv_eq_zero_of_lt hr.1 hr.2, Int.zero_add]
      exact Int.emod_eq_of_lt hb.1 (by omega)
    · have e2 : (256 : Int) ^ w = 256 ^ (w - j - 1) * 256 * 256 ^ j := by
        rw [← Int.pow_succ, ← Int.pow_add]; congr 1; omega
      rw [e2, ← Int.mul_assoc, Int.add_mul_ediv_right _ _ (by omega), ← Int.mul_assoc, Int.add_mul_emod_self_right]
      exact ih j (by omega)
theorem low_val (s : ByteArray) (a w : Nat) (h : a + w ≤ s.size) : lowBytes (valB s a w) w = (s.data.toList.drop a).take w := by
  apply List.ext_getElem
  · simp [lowBytes]; omega
  · intro j h1 h2
    have hj : j < w := by simpa [lowBytes] using h1
    simp only [lowBytes, List.getElem_map, List.getElem_range, List.getElem_take, List.getElem_drop]
    rw [valB_digit s a w j hj, bt_getElem s (a + j) (by omega)]
    simp
theorem leB_val (s : ByteArray) (a w : Nat) (h : a + w ≤ s.size) : leB (valB s a w) w = s.extract a (a + w) := by
  apply ByteArray.ext
  apply Array.toList_inj.1
  show lowBytes _ _ = _
  rw [low_val s a w h]
  simp [ByteArray.data_extract]
theorem val_div (s : ByteArray) (a w : Nat) : valB s a w / 256 ^ w = 0 := Int.ediv_eq_zero_of_lt (valB_range s a w).1 (valB_range s a w).2
theorem put_ok' {n w : Int} (h : (putV n w).2 = 0) : 1 ≤ w ∧ w ≤ 8 ∧ putV n w = (leB n w.toNat, 0) ∧ n < 256 ^ w.toNat := by
  unfold putV at h ⊢
  by_cases h1 : 1 ≤ w ∧ w ≤ 8
  · rw [if_pos h1] at h ⊢
    by_cases h2 : n / 256 ^ w.toNat = 0
    · rw [if_pos h2]
      have hp := pow256_pos w.toNat
      refine ⟨h1.1, h1.2, rfl, ?_⟩
      exact Int.lt_of_not_ge (fun hge => by
        have := Int.ediv_le_ediv hp hge
        rw [Int.ediv_self (by omega), h2] at this
        omega)
    · rw [if_neg h2] at h; simp at h
  · rw [if_neg h1] at h; simp at h
end Go.Proofs.Ytmpcpcfdomlehaa.P
