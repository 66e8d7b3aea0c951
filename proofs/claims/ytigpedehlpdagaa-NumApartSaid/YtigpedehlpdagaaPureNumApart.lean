/- NumApart: unlike numbers have unlike bytes of one width, and unlike texts unlike ones: the plain law. -/
import Derived.Test.YtigpedehlpdagaaQ1
import Derived.Test.YtigpedehlpdagaaPShown01
namespace Go.Proofs.Ytigpedehlpdagaa.Pure
open Go.RowKit Go.Proofs.Ytigpedehlpdagaa.H Go.Proofs.Ytigpedehlpdagaa.Q Go.Proofs.Ytigpedehlpdagaa.P Go.Proofs.YtigpedehlpdagaaW.PrintWords Go.Proofs.YtigpedehlpdagaaW.PrintLast Go.Proofs.YtigpedehlpdagaaW.PrintMore

theorem put_ok {n w : Int} (h : (putV n w).2 = 0) : (putV n w).1 = leB n w.toNat ∧ n < 256 ^ w.toNat := by
  unfold putV at h ⊢
  by_cases h1 : 1 ≤ w ∧ w ≤ 8
  · rw [if_pos h1] at h ⊢
    by_cases h2 : n / 256 ^ w.toNat = 0
    · rw [if_pos h2]
      have hp := pow256_pos w.toNat
      refine ⟨rfl, ?_⟩
      exact Int.lt_of_not_ge (fun hge => by
        have := Int.ediv_le_ediv hp hge
        rw [Int.ediv_self (by omega), h2] at this
        omega)
    · rw [if_neg h2] at h; simp at h
  · rw [if_neg h1] at h; simp at h
theorem text_ok {s : ByteArray} (h : (textV s).2 = 0) : (textV s).1.toList = lowBytes s.size 2 ++ s.toList := by
  unfold textV at h ⊢
  by_cases h1 : 65535 < s.size
  · rw [if_pos h1] at h; simp at h
  · rw [if_neg h1, ByteArray.toList_eq, ByteArray.data_append, Array.toList_append, ByteArray.toList_eq]; rfl
theorem text_eq {s t : ByteArray} (h : (textV s).2 = 0) (k : (textV t).2 = 0) : ((textV s).1.toList == (textV t).1.toList) = (s.toList == t.toList) := by
  rw [text_ok h, text_ok k, Bool.eq_iff_iff, beq_iff_eq, beq_iff_eq]
  constructor
  · intro e; exact (List.append_inj e (by simp [lowBytes])).2
  · intro e
    have : s.size = t.size := by
      have := congrArg List.length e
      rw [ByteArray.toList_eq, ByteArray.toList_eq, Array.length_toList, Array.length_toList] at this
      exact this
    rw [e, this]

theorem NumApart : nautiluslaw01_NumApart.Pure := by
  intro n m w s t hn hm hw hs ht
  have ⟨hn0, hn1⟩ := u64_wf hn
  have ⟨hm0, hm1⟩ := u64_wf hm
  unfold nautiluslaw01_NumApart.f
  rw [shown_f, put_f n w hn0 hn1, put_f m w hm0 hm1, text_f, text_f]
  simp only [Option.bind_some, if_true]
  have tail : (if (textV s).2 = 0 then (if (textV t).2 = 0 then some (((textV s).1.toList == (textV t).1.toList) == (s.toList == t.toList)) else some true) else some true) = some true := by
    by_cases h1 : (textV s).2 = 0
    · rw [if_pos h1]
      by_cases h2 : (textV t).2 = 0
      · rw [if_pos h2, text_eq h1 h2]; simp
      · rw [if_neg h2]
    · rw [if_neg h1]
  rw [tail]
  by_cases h1 : (putV n w).2 = 0
  · rw [if_pos h1]
    by_cases h2 : (putV m w).2 = 0
    · rw [if_pos h2, if_pos]
      have ⟨e1, l1⟩ := put_ok h1
      have ⟨e2, l2⟩ := put_ok h2
      rw [e1, e2, leB_toList, leB_toList, beq_iff_eq, Bool.eq_iff_iff, beq_iff_eq, beq_iff_eq]
      exact ⟨fun e => lowBytes_inj n m _ hn0 hm0 l1 l2 e, fun e => by rw [e]⟩
    · rw [if_neg h2]
  · rw [if_neg h1]

end Go.Proofs.Ytigpedehlpdagaa.Pure
