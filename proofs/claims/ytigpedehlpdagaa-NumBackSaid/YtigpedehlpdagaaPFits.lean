/- Plain laws on what is fitted, and what is bare. -/
import Derived.Test.YtigpedehlpdagaaQ6
import Derived.Test.YtigpedehlpdagaaPNum
namespace Go.Proofs.Ytigpedehlpdagaa.P
open Go.RowKit Go.Proofs.Ytigpedehlpdagaa.H Go.Proofs.Ytigpedehlpdagaa.Q Go.Proofs.YtigpedehlpdagaaW.PrintWords Go.Proofs.YtigpedehlpdagaaW.PrintLast Go.Proofs.YtigpedehlpdagaaW.PrintMore

def fitV (s : ByteArray) (n : Int) : ByteArray × Int := if (s.size : Int) > n then (⟨#[]⟩, 2) else if n > 65536 then (⟨#[]⟩, 2) else (s ++ zerosB (n - s.size).toNat, 0)
theorem fit_f (s : ByteArray) (n : Int) (hs : s.size ≤ 9223372036854775807) : num_Fit.f s n = some (fitV s n) := by
  unfold num_Fit.f fitV
  rw [if_neg (by omega)]
  split
  · rfl
  · split <;> rfl
theorem zeros_str (n : Nat) : strOfNums (List.replicate n 0) = zerosB n := by
  simp [strOfNums, zerosB]
theorem zerosB_size (n : Nat) : (zerosB n).size = n := by simp [zerosB, ByteArray.size]
theorem refFit_f (s : ByteArray) (n : Int) (hs : s.size ≤ 140737488355328) (hn0 : -9223372036854775808 ≤ n) (hn1 : n < 9223372036854775808) : nautilusref01_Fit.f s n = some (fitV s n) := by
  unfold nautilusref01_Fit.f fitV
  by_cases h1 : n > 65536
  · rw [if_pos h1]
    split <;> rfl
  · rw [if_neg h1]
    by_cases h2 : (s.size : Int) > n
    · rw [if_pos h2, if_pos h2]
    · rw [if_neg h2, if_neg h2, if_neg h1]
      have e : wrap64 (n - s.size) = n - s.size := IntWalk.wrap64_in _ (by omega)
      rw [e, if_pos (by omega), if_pos (by omega), Option.bind_some, zeros_str, if_pos (by rw [zerosB_size]; omega)]
/-- Are all bytes from there on 0? -/
def bareV (s : ByteArray) (i : Int) : Bool := (s.data.toList.drop i.toNat).all (· == 0)
theorem bare_f (s : ByteArray) (i : Int) (hs : s.size ≤ 9223372036854775807) : num_Bare.f s i = some (bareV s i) := by unfold num_Bare.f bareV; rw [if_pos hs]
theorem bt_getElem (s : ByteArray) (i : Nat) (h : i < s.size) : bt s i = (s.data.toList[i]'(by rw [Array.length_toList]; exact h)).toNat := by
  unfold bt
  rw [dif_pos (show (i : Int).toNat < s.size by simpa using h)]
  simp only [Int.toNat_natCast, Array.getElem_toList]
  rfl
theorem refBare_loop (s : ByteArray) (hs : s.size ≤ 140737488355328) : ∀ d i k, i + d = s.size → d < k → nautilusref01_Bare.l0 k s i = some ((s.data.toList.drop i).all (· == 0)) := by
  have hl : s.data.toList.length = s.size := by rw [Array.length_toList]; rfl
  intro d
  induction d with
  | zero =>
    intro i k hi hk
    obtain ⟨k, rfl⟩ : ∃ m, k = m + 1 := ⟨k - 1, by omega⟩
    simp only [nautilusref01_Bare.l0]
    rw [if_neg (by omega), List.drop_of_length_le (by omega)]; rfl
  | succ d ih =>
    intro i k hi hk
    obtain ⟨k, rfl⟩ : ∃ m, k = m + 1 := ⟨k - 1, by omega⟩
    simp only [nautilusref01_Bare.l0]
    have hlt : i < s.size := by omega
    have e2 : wrap64 ((i : Int) + 1) = ((i + 1 : Nat) : Int) := by rw [IntWalk.wrap64_in _ (by omega)]; omega
    rw [if_pos (by omega), if_pos (by omega), bt_getElem s i hlt, e2, List.drop_eq_getElem_cons (by omega), List.all_cons]
    by_cases hz : (s.data.toList[i]'(by omega)) = 0
    · rw [if_pos (by rw [hz]; rfl), ih (i + 1) k (by omega) (by omega), hz]; rfl
    · have : (s.data.toList[i]'(by omega) == 0) = false := by simpa using hz
      rw [if_neg, this]; rfl
      intro e
      exact hz (UInt8.toNat_inj.1 (by simpa using e))
theorem refBare_f (s : ByteArray) (i : Int) (hs : s.size ≤ 140737488355328) (k : Nat) (hk : s.size < k) : nautilusref01_Bare.f k s i = some (bareV s i) := by
  obtain ⟨m, hm⟩ : ∃ m : Nat, mx 0 i = m := ⟨(mx 0 i).toNat, by unfold mx; split <;> omega⟩
  unfold nautilusref01_Bare.f bareV
  rw [hm, show i.toNat = m by unfold mx at hm; split at hm <;> omega]
  by_cases h : m ≤ s.size
  · exact refBare_loop s hs (s.size - m) m k (by omega) (by omega)
  · obtain ⟨k, rfl⟩ : ∃ j, k = j + 1 := ⟨k - 1, by omega⟩
    simp only [nautilusref01_Bare.l0]
    rw [if_neg (by omega), List.drop_of_length_le (by rw [Array.length_toList]; have : s.size = s.data.size := rfl; omega)]; rfl
end Go.Proofs.Ytigpedehlpdagaa.P
