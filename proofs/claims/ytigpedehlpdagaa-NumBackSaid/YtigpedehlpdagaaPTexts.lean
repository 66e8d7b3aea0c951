/- Plain laws on texts as bytes. -/
import Derived.Test.YtigpedehlpdagaaQ3
import Derived.Test.YtigpedehlpdagaaQ4
import Derived.Test.YtigpedehlpdagaaPShown01
namespace Go.Proofs.Ytigpedehlpdagaa.P
open Go.RowKit Go.Proofs.Ytigpedehlpdagaa.H Go.Proofs.Ytigpedehlpdagaa.Q Go.Proofs.YtigpedehlpdagaaW.PrintWords Go.Proofs.YtigpedehlpdagaaW.PrintLast Go.Proofs.YtigpedehlpdagaaW.PrintMore

theorem refText_f (s : ByteArray) (hs : s.size ≤ 1000000000000000) (k : Nat) (hk : 12 ≤ k) : nautilusref01_Text.f k s = some (textV s) := by
  unfold nautilusref01_Text.f textV
  by_cases h : 65535 < s.size
  · rw [if_pos (by omega), if_pos h]
  · rw [if_neg (by omega), if_neg h, IntWalk.u64_in _ (by omega), refBytes_f _ _ (by omega) (by omega) k (by omega), Option.bind_some]
    have : (leB s.size (2 : Int).toNat).size = 2 := leB_size _ _
    rw [if_pos (by omega)]; rfl

/-- The text of bytes, and the place behind it. -/
def takeTextV (s : ByteArray) (a : Int) : ByteArray × Int × Int :=
  if 0 ≤ a ∧ a + 2 ≤ s.size ∧ a + 2 + valB s a.toNat 2 ≤ s.size then (s.extract (a + 2).toNat (a + 2 + valB s a.toNat 2).toNat, a + 2 + valB s a.toNat 2, 0) else (⟨#[]⟩, 0, 2)
theorem valB2 (s : ByteArray) (a : Nat) : 0 ≤ valB s a 2 ∧ valB s a 2 < 65536 := by
  have h := valB_range s a 2
  have : (256 : Int) ^ 2 = 65536 := by decide
  omega
theorem takeText_f (s : ByteArray) (a : Int) (hs : s.size ≤ 1000000000000000) (ha0 : -9223372036854775808 ≤ a) (ha1 : a < 9223372036854775808) (k : Nat) (hk : 12 ≤ k) : num_TakeText.f k s a = some (takeTextV s a) := by
  unfold num_TakeText.f takeTextV
  rw [take_f s a 2 (by omega) ha0 ha1 k hk, Option.bind_some]
  unfold takeV
  by_cases h : 0 ≤ a ∧ a + 2 ≤ s.size
  · obtain ⟨h0, h2⟩ := h
    rw [if_pos (show (1 : Int) ≤ 2 ∧ (2 : Int) ≤ 8 ∧ 0 ≤ a ∧ a + 2 ≤ s.size from ⟨by omega, by omega, h0, h2⟩)]
    have hv := valB2 s a.toNat
    rw [show (2 : Int).toNat = 2 from rfl]
    generalize valB s a.toNat 2 = v at hv ⊢
    have e1 : wrap64 (a + 2) = a + 2 := IntWalk.wrap64_in _ (by omega)
    have e2 : wrap64 ((s.size : Int) - (a + 2)) = s.size - (a + 2) := IntWalk.wrap64_in _ (by omega)
    have e3 : IntKind.u64.wrap ((s.size : Int) - (a + 2)) = s.size - (a + 2) := IntWalk.u64_in _ (by omega)
    have e4 : wrap64 v = v := IntWalk.wrap64_in _ (by omega)
    have e5 : wrap64 (a + 2 + v) = a + 2 + v := IntWalk.wrap64_in _ (by omega)
    simp only [e1, e2, e3, e4, e5, if_true]
    by_cases h3 : a + 2 + v ≤ s.size
    · rw [if_neg (by omega), if_pos (by omega), if_pos (by omega), if_pos h3, if_pos ⟨h0, h2, h3⟩]
    · rw [if_pos (by omega), if_neg (by omega)]
  · rw [if_neg (show ¬ ((1 : Int) ≤ 2 ∧ (2 : Int) ≤ 8 ∧ 0 ≤ a ∧ a + 2 ≤ s.size) by omega), if_neg (show ¬ (0 ≤ a ∧ a + 2 ≤ s.size ∧ a + 2 + valB s a.toNat 2 ≤ s.size) by omega)]; rfl
theorem refTakeText_f (s : ByteArray) (a : Int) (hs : s.size ≤ 1000000000000000) (ha0 : -9223372036854775808 ≤ a) (ha1 : a < 9223372036854775808) (k : Nat) (hk : 12 ≤ k) : nautilusref01_TakeText.f k s a = some (takeTextV s a) := by
  unfold nautilusref01_TakeText.f takeTextV
  rw [refTake_f s a 2 (by omega) ha0 ha1 k hk, Option.bind_some]
  unfold takeV
  by_cases h : 0 ≤ a ∧ a + 2 ≤ s.size
  · obtain ⟨h0, h2⟩ := h
    rw [if_pos (show (1 : Int) ≤ 2 ∧ (2 : Int) ≤ 8 ∧ 0 ≤ a ∧ a + 2 ≤ s.size from ⟨by omega, by omega, h0, h2⟩)]
    have hv := valB2 s a.toNat
    rw [show (2 : Int).toNat = 2 from rfl]
    generalize valB s a.toNat 2 = v at hv ⊢
    have e1 : wrap64 (a + 2) = a + 2 := IntWalk.wrap64_in _ (by omega)
    have e2 : wrap64 ((s.size : Int) - a) = s.size - a := IntWalk.wrap64_in _ (by omega)
    have e3 : wrap64 ((s.size : Int) - a - 2) = s.size - a - 2 := IntWalk.wrap64_in _ (by omega)
    have e4 : wrap64 v = v := IntWalk.wrap64_in _ (by omega)
    have e5 : wrap64 (a + 2 + v) = a + 2 + v := IntWalk.wrap64_in _ (by omega)
    simp only [e1, e2, e3, e4, e5, if_true]
    by_cases h3 : a + 2 + v ≤ s.size
    · rw [if_neg (by omega), if_pos (by omega), if_pos (by omega), if_pos h3, if_pos ⟨h0, h2, h3⟩]
    · rw [if_pos (by omega), if_neg (by omega)]
  · rw [if_neg (show ¬ ((1 : Int) ≤ 2 ∧ (2 : Int) ≤ 8 ∧ 0 ≤ a ∧ a + 2 ≤ s.size) by omega), if_neg (show ¬ (0 ≤ a ∧ a + 2 ≤ s.size ∧ a + 2 + valB s a.toNat 2 ≤ s.size) by omega)]; rfl
end Go.Proofs.Ytigpedehlpdagaa.P
