/- Plain laws: the numbers of bytes, and the bytes of numbers. -/
import Derived.Test.YtpcokafalmafgaaPNum
namespace Go.Proofs.Ytpcokafalmafgaa.P
open Go.RowKit Go.Proofs.Ytpcokafalmafgaa.H Go.Proofs.Ytpcokafalmafgaa.Q Go.Proofs.YtpcokafalmafgaaW.PrintWords Go.Proofs.YtpcokafalmafgaaW.PrintLast Go.Proofs.YtpcokafalmafgaaW.PrintMore

theorem bt_getElem (s : ByteArray) (i : Nat) (h : i < s.size) : bt s i = (s.data.toList[i]'(by rw [Array.length_toList]; exact h)).toNat := by
 unfold bt
 rw [dif_pos (show (i : Int).toNat < s.size by simpa using h)]
 simp only [Int.toNat_natCast, Array.getElem_toList]
 rfl
theorem toList_length (s : ByteArray) : s.data.toList.length = s.size := by rw [Array.length_toList]; rfl
theorem bt_append_right (s t : ByteArray) (j : Nat) (h : j < t.size) : bt (s ++ t) (s.size + j : Nat) = bt t j := by
 rw [bt_getElem (s ++ t) (s.size + j) (by rw [ByteArray.size_append]; omega), bt_getElem t j h]
 congr 1
 simp only [ByteArray.data_append, Array.toList_append]
 rw [List.getElem_append_right (by rw [toList_length]; omega)]
 simp
theorem bt_append_left (s t : ByteArray) (j : Nat) (h : j < s.size) : bt (s ++ t) j = bt s j := by
 rw [bt_getElem (s ++ t) j (by rw [ByteArray.size_append]; omega), bt_getElem s j h]
 congr 1
 simp only [ByteArray.data_append, Array.toList_append]
 rw [List.getElem_append_left (by rw [toList_length]; omega)]
theorem bt_leB (n : Int) (w j : Nat) (h : j < w) : bt (leB n w) j = n / 256 ^ j % 256 := by
 have h0 := Int.emod_nonneg (n / 256 ^ j) (show (256 : Int) ≠ 0 by omega)
 have h1 := Int.emod_lt_of_pos (n / 256 ^ j) (show (0 : Int) < 256 by omega)
 rw [bt_getElem _ _ (by rw [leB_size]; exact h)]
 simp only [leB, lowBytes, List.getElem_map, List.getElem_range]
 rw [UInt8.toNat_ofNat']
 omega
theorem valB_congr (s t : ByteArray) (a b w : Nat) (h : ∀ j, j < w → bt s (a + j : Nat) = bt t (b + j : Nat)) : valB s a w = valB t b w := by
 induction w with
 | zero => rfl
 | succ w ih => simp only [valB]; rw [ih (fun j hj => h j (by omega)), h w (by omega)]
theorem emod_split (n p : Int) (hp : 0 < p) : n % (p * 256) = n % p + n / p % 256 * p := by
 rw [Int.emod_def n (p * 256), Int.emod_def n p, Int.emod_def (n / p) 256, ← Int.ediv_ediv_of_nonneg (by omega)]
 generalize n / p = q
 generalize q / 256 = r
 rw [Int.sub_mul, Int.mul_comm q p, Int.mul_assoc 256 r p, Int.mul_comm r p, Int.mul_assoc p 256 r, Int.mul_left_comm p 256 r]
 omega
theorem valB_low (n : Int) (w : Nat) : ∀ i, i ≤ w → valB (leB n w) 0 i = n % 256 ^ i := by
 intro i
 induction i with
 | zero => intro _; simp [valB, Int.emod_one]
 | succ i ih =>
  intro hi
  simp only [valB, Nat.zero_add]
  rw [ih (by omega), bt_leB n w i (by omega)]
  have hp := pow256_pos i
  have e : (256 : Int) ^ (i + 1) = 256 ^ i * 256 := Int.pow_succ ..
  rw [e, emod_split _ _ hp]
theorem valB_put (s u : ByteArray) (n : Int) (w : Nat) (h0 : 0 ≤ n) (h1 : n < 256 ^ w) : valB (s ++ leB n w ++ u) s.size w = n := by
 rw [valB_congr (s ++ leB n w ++ u) (leB n w) s.size 0 w, valB_low n w w (Nat.le_refl _), Int.emod_eq_of_lt h0 h1]
 intro j hj
 rw [bt_append_left _ _ _ (by rw [ByteArray.size_append, leB_size]; omega), bt_append_right _ _ _ (by rw [leB_size]; exact hj), Nat.zero_add]
end Go.Proofs.Ytpcokafalmafgaa.P
