/- NumWidths: a wider form of a number has a byte 0 more behind: the plain law. -/
import Derived.Test.YtigpedehlpdagaaQ1
import Derived.Test.YtigpedehlpdagaaPShown01
namespace Go.Proofs.Ytigpedehlpdagaa.Pure
open Go.RowKit Go.Proofs.Ytigpedehlpdagaa.H Go.Proofs.Ytigpedehlpdagaa.Q Go.Proofs.Ytigpedehlpdagaa.P Go.Proofs.YtigpedehlpdagaaW.PrintWords Go.Proofs.YtigpedehlpdagaaW.PrintLast Go.Proofs.YtigpedehlpdagaaW.PrintMore

theorem low_zero (n : Int) (w : Nat) (h : n / 256 ^ w = 0) : (leB n (w + 1)).toList = (leB n w ++ (⟨#[0]⟩ : ByteArray)).toList := by
  rw [leB_toList, ByteArray.toList_eq, ByteArray.data_append, Array.toList_append]
  show lowBytes n (w + 1) = lowBytes n w ++ [0]
  rw [lowBytes_succ, h]; rfl
theorem div_zero (n : Int) (w : Nat) (h : n / 256 ^ w = 0) : n / 256 ^ (w + 1) = 0 := by
  have hp := pow256_pos w
  rw [Int.pow_succ, ← Int.ediv_ediv_of_nonneg (by omega), h]; rfl

theorem NumWidths : nautiluslaw01_NumWidths.Pure := by
  intro n w hn hw
  have ⟨hn0, hn1⟩ := u64_wf hn
  have ⟨hw0, hw1⟩ := i64_wf hw
  unfold nautiluslaw01_NumWidths.f
  rw [shown_f, put_f n w hn0 hn1, put_f n _ hn0 hn1]
  simp only [Option.bind_some, if_true]
  by_cases h1 : w < 1
  · rw [if_pos h1, if_neg (by omega)]
    unfold putV
    rw [if_neg (by omega)]; rfl
  · rw [if_neg h1]
    by_cases h7 : w > 7
    · rw [if_pos h7]
      by_cases h8 : w = 8
      · subst h8
        have h8 := pow256_8
        have h9 : n / 256 ^ (8 : Int).toNat = 0 := by show n / 256 ^ 8 = 0; rw [h8]; omega
        have e1 : putV n 8 = (leB n 8, 0) := by unfold putV; rw [if_pos (by omega), if_pos h9]; rfl
        rw [e1]; rfl
      · rw [if_neg h8]
        unfold putV
        rw [if_neg (by omega)]; rfl
    · rw [if_neg h7]
      have e : wrap64 (Int.tmod w 100 + 1) = w + 1 := by
        rw [Int.tmod_eq_emod_of_nonneg (by omega), IntWalk.wrap64_in _ (by omega)]; omega
      have e8 : (0 : Int) ≤ wrap64 (8 * w) := by rw [IntWalk.wrap64_in _ (by omega)]; omega
      have hw : (w + 1).toNat = w.toNat + 1 := by omega
      rw [e, shr_bytes n w (by omega) (by omega)]
      simp only [if_pos e8]
      by_cases hz : n / 256 ^ w.toNat = 0
      · have e1 : putV n w = (leB n w.toNat, 0) := by unfold putV; rw [if_pos (by omega), if_pos hz]
        have e2 : putV n (w + 1) = (leB n (w.toNat + 1), 0) := by unfold putV; rw [if_pos (by omega), hw, if_pos (div_zero n _ hz)]
        rw [e1, e2]
        have c1 : (leB n w.toNat).size + 1 ≤ 9223372036854775807 := by rw [leB_size]; omega
        simp only [c1, low_zero n _ hz, if_true, hz]
        rfl
      · have e1 : putV n w = (⟨#[]⟩, 2) := by unfold putV; rw [if_pos (by omega), if_neg hz]
        rw [e1]
        simp [hz]

end Go.Proofs.Ytigpedehlpdagaa.Pure
