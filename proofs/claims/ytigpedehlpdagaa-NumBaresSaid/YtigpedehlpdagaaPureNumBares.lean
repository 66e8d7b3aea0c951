/- NumBares: bytes are bare, if both their parts are; what was fitted is fitted as it is: the plain law. -/
import Derived.Test.YtigpedehlpdagaaQ7
import Derived.Test.YtigpedehlpdagaaPShown01
import Derived.Test.YtigpedehlpdagaaPFits
namespace Go.Proofs.Ytigpedehlpdagaa.Pure
open Go.RowKit Go.Proofs.Ytigpedehlpdagaa.H Go.Proofs.Ytigpedehlpdagaa.Q Go.Proofs.Ytigpedehlpdagaa.P Go.Proofs.YtigpedehlpdagaaW.PrintWords Go.Proofs.YtigpedehlpdagaaW.PrintLast Go.Proofs.YtigpedehlpdagaaW.PrintMore

theorem fit_again (s : ByteArray) (n : Int) (h : (fitV s n).2 = 0) : (fitV s n).1 = s ++ zerosB (n - s.size).toNat ∧ ((fitV s n).1.size : Int) = n ∧ n ≤ 65536 ∧ (s.size : Int) ≤ n := by
  unfold fitV at h ⊢
  by_cases h1 : (s.size : Int) > n
  · rw [if_pos h1] at h; simp at h
  · rw [if_neg h1] at h ⊢
    by_cases h2 : n > 65536
    · rw [if_pos h2] at h; simp at h
    · rw [if_neg h2]
      refine ⟨rfl, ?_, by omega, by omega⟩
      rw [ByteArray.size_append, zerosB_size]; omega
theorem fit_same (s : ByteArray) (n : Int) (h : (s.size : Int) = n) (h1 : n ≤ 65536) : fitV s n = (s, 0) := by
  unfold fitV
  rw [if_neg (by omega), if_neg (by omega), show (n - s.size).toNat = 0 by omega]
  have : s ++ zerosB 0 = s := by
    apply ByteArray.ext
    rw [ByteArray.data_append]
    simp [zerosB]
  rw [this]
theorem bare_end (s t : ByteArray) : bareV (s ++ t) s.size = bareV t 0 := by
  unfold bareV
  rw [ByteArray.data_append, Array.toList_append, Int.toNat_natCast, List.drop_left' (by rw [Array.length_toList]; rfl)]; rfl
theorem bare_zeros (n : Nat) : bareV (zerosB n) 0 = true := by simp [bareV, zerosB]
theorem bare_both (s t : ByteArray) : bareV (s ++ t) 0 = (bareV s 0 && bareV t 0) := by
  unfold bareV
  rw [ByteArray.data_append, Array.toList_append]
  simp
theorem bare_past (s : ByteArray) : bareV s s.size = true := by
  unfold bareV
  rw [List.drop_of_length_le (by rw [Array.length_toList]; show s.size ≤ _; simp)]; rfl
theorem extract_left (s t : ByteArray) : ((s ++ t).extract 0 s.size).toList = s.toList := by
  rw [ByteArray.toList_eq, ByteArray.toList_eq]
  simp [ByteArray.data_extract, ByteArray.data_append]
  exact List.take_of_length_le (by rw [Array.length_toList]; exact Nat.le_refl _)

theorem NumBares : nautiluslaw01_NumBares.Pure := by
  intro s t n hs ht hn
  have ⟨hn0, hn1⟩ := i64_wf hn
  refine ⟨1, ?_⟩
  have hj : nautiluslaw01_NumBares.j0 1 s t true false = some true := by
    simp only [nautiluslaw01_NumBares.j0]
    rw [if_neg (by simp), if_pos trivial, if_pos (by omega), bare_f _ _ (by rw [ByteArray.size_append]; omega), bare_f s 0 (by omega), bare_f s _ (by omega), bare_both, bare_past, bare_f t 0 (by omega)]
    simp only [Option.bind_some]
    cases bareV s 0 <;> cases bareV t 0 <;> rfl
  unfold nautiluslaw01_NumBares.f
  rw [shown_f, fit_f s n (by omega)]
  simp only [Option.bind_some]
  by_cases h : (fitV s n).2 = 0
  · have ⟨e1, e2, e3, e4⟩ := fit_again s n h
    have hz : (fitV s n).1.size ≤ 65536 := by omega
    rw [fit_f (fitV s n).1 n (by omega), fit_same _ _ e2 e3]
    have hb : bareV (fitV s n).1 s.size = true := by rw [e1, bare_end, bare_zeros]
    have hx : ((fitV s n).1.extract 0 ((s.size : Int)).toNat).toList = s.toList := by rw [e1, Int.toNat_natCast, extract_left]
    rw [Option.bind_some, if_pos h, if_pos rfl, if_pos rfl, if_pos e2, bare_f _ _ (by omega), hb, Option.bind_some, if_pos rfl, if_pos (by omega), if_pos (by omega), hx]
    simpa using hj
  · obtain ⟨x, hx⟩ : ∃ x, fitV (fitV s n).1 n = x := ⟨_, rfl⟩
    have hz : (fitV s n).1.size ≤ 140737488355328 := by
      unfold fitV at h ⊢
      split
      · simp [ByteArray.size]
      · split
        · simp [ByteArray.size]
        · rename_i a b; rw [if_neg a, if_neg b] at h; exact absurd rfl h
    rw [fit_f (fitV s n).1 n (by omega), Option.bind_some, if_neg h]
    exact hj

end Go.Proofs.Ytigpedehlpdagaa.Pure
