/- NumBack: what was put is taken as it was, and what is taken is put so again: the plain law. -/
import Derived.Test.YtigpedehlpdagaaQ5
import Derived.Test.YtigpedehlpdagaaPTexts
import Derived.Test.YtigpedehlpdagaaPBack
namespace Go.Proofs.Ytigpedehlpdagaa.Pure
open Go.RowKit Go.Proofs.Ytigpedehlpdagaa.H Go.Proofs.Ytigpedehlpdagaa.Q Go.Proofs.Ytigpedehlpdagaa.P Go.Proofs.YtigpedehlpdagaaW.PrintWords Go.Proofs.YtigpedehlpdagaaW.PrintLast Go.Proofs.YtigpedehlpdagaaW.PrintMore

theorem append_empty (s : ByteArray) : s ++ (⟨#[]⟩ : ByteArray) = s := by
  apply ByteArray.ext; simp [ByteArray.data_append]
theorem put_size (n w : Int) : (putV n w).1.size ≤ 8 := by
  unfold putV
  split
  · split
    · rw [leB_size]; omega
    · simp [ByteArray.size]
  · simp [ByteArray.size]
theorem text_size (t : ByteArray) (ht : t.size ≤ 140737488351232) : (textV t).1.size ≤ 65537 := by
  unfold textV
  split
  · simp [ByteArray.size]
  · rw [ByteArray.size_append, leB_size]; omega
theorem put_taken (s : ByteArray) (n w : Int) (hs : s.size ≤ 140737488351232) (hn : 0 ≤ n) (h : (putV n w).2 = 0) : takeV (s ++ (putV n w).1) s.size w = (n, 0) ∧ ((putV n w).1.size : Int) = w := by
  obtain ⟨h1, h8, e, hl⟩ := put_ok' h
  rw [e]
  refine ⟨?_, by rw [leB_size]; omega⟩
  unfold takeV
  rw [if_pos ⟨h1, h8, by omega, by rw [ByteArray.size_append, leB_size]; omega⟩]
  have := valB_put s ⟨#[]⟩ n w.toNat hn hl
  rw [append_empty] at this
  rw [Int.toNat_natCast, this]
theorem text_taken (s t : ByteArray) (hs : s.size ≤ 140737488351232) (h : (textV t).2 = 0) : takeTextV (s ++ (textV t).1) s.size = (t, (s.size : Int) + (textV t).1.size, 0) := by
  have e : textV t = (leB t.size 2 ++ t, 0) ∧ t.size ≤ 65535 := by
    unfold textV at h ⊢
    split
    · rename_i h1; rw [if_pos h1] at h; simp at h
    · exact ⟨rfl, by omega⟩
  obtain ⟨e, ht⟩ := e
  rw [e]
  have hv : valB (s ++ (leB t.size 2 ++ t)) s.size 2 = t.size := by
    rw [← ByteArray.append_assoc]
    exact valB_put s t t.size 2 (by omega) (by show (t.size : Int) < 65536; omega)
  have hz : (s ++ (leB t.size 2 ++ t)).size = s.size + (2 + t.size) := by rw [ByteArray.size_append, ByteArray.size_append, leB_size]
  unfold takeTextV
  rw [Int.toNat_natCast, hv, hz, if_pos ⟨by omega, by omega, by omega⟩]
  have hx : (s ++ (leB t.size 2 ++ t)).extract ((s.size : Int) + 2).toNat ((s.size : Int) + 2 + t.size).toNat = t := by
    rw [← ByteArray.append_assoc, show ((s.size : Int) + 2).toNat = (s ++ leB t.size 2).size by rw [ByteArray.size_append, leB_size]; omega, show ((s.size : Int) + 2 + t.size).toNat = (s ++ leB t.size 2).size + t.size by rw [ByteArray.size_append, leB_size]; omega]
    apply ByteArray.ext
    apply Array.toList_inj.1
    simp only [ByteArray.data_extract, Array.toList_extract]
    rw [List.extract_eq_take_drop, ByteArray.data_append, Array.toList_append, List.drop_left' (toList_length _), List.take_of_length_le]
    rw [toList_length]; omega
  rw [hx, ByteArray.size_append, leB_size]
  simp only [Prod.mk.injEq, true_and, and_true]
  omega
theorem taken_put (s : ByteArray) (a w : Int) (h : (takeV s a w).2 = 0) : putV (takeV s a w).1 w = (s.extract a.toNat (a + w).toNat, 0) ∧ 1 ≤ w ∧ w ≤ 8 ∧ 0 ≤ a ∧ a + w ≤ s.size := by
  unfold takeV at h ⊢
  by_cases c : 1 ≤ w ∧ w ≤ 8 ∧ 0 ≤ a ∧ a + w ≤ s.size
  · rw [if_pos c]
    refine ⟨?_, c⟩
    unfold putV
    rw [if_pos ⟨c.1, c.2.1⟩, if_pos (val_div s a.toNat w.toNat), leB_val s _ _ (by omega)]
    rw [show a.toNat + w.toNat = (a + w).toNat by omega]
  · rw [if_neg c] at h; simp at h

theorem NumBack : nautiluslaw01_NumBack.Pure := by
  intro n w t s a hn hw ht hs ha
  have ⟨hn0, hn1⟩ := u64_wf hn
  have ⟨hw0, hw1⟩ := i64_wf hw
  have ⟨ha0, ha1⟩ := i64_wf ha
  have hp := put_size n w
  have hx := text_size t ht
  have hv : 0 ≤ (takeV s a w).1 ∧ (takeV s a w).1 < 18446744073709551616 := by
    unfold takeV
    split
    · rename_i c
      have hr := valB_range s a.toNat w.toNat
      have h2 : (256 : Int) ^ w.toNat ≤ 256 ^ 8 := pow256_le (by omega)
      have := pow256_8
      constructor
      · exact hr.1
      · exact Int.lt_of_lt_of_le hr.2 (by rw [← this]; exact h2)
    · simp
  refine ⟨20, ?_⟩
  unfold nautiluslaw01_NumBack.f
  rw [shown_f, put_f n w hn0 hn1, text_f, Option.bind_some, Option.bind_some, if_pos (by omega), take_f (s ++ (putV n w).1) s.size w (by rw [ByteArray.size_append]; omega) (by omega) (by omega) 20 (by omega), Option.bind_some, Option.bind_some, if_pos (by omega), takeText_f (s ++ (textV t).1) s.size (by rw [ByteArray.size_append]; omega) (by omega) (by omega) 20 (by omega), Option.bind_some, take_f s a w (by omega) ha0 ha1 20 (by omega), Option.bind_some, put_f _ w hv.1 hv.2, Option.bind_some]
  have inner : (if (takeV s a w).2 = 0 then if (putV (takeV s a w).1 w).2 = 0 then if (((putV (takeV s a w).1 w).1.size : Int) = w) then if a ≥ 0 then if wrap64 (a + w) ≤ (s.size : Int) then if 0 ≤ a then if a ≤ wrap64 (a + w) then if (putV (takeV s a w).1 w).1.toList = (s.extract a.toNat (wrap64 (a + w)).toNat).toList then some true else some false else none else none else some false else some false else some false else some false else some true) = some true := by
    by_cases h3 : (takeV s a w).2 = 0
    · obtain ⟨e, w1, w8, a0, aw⟩ := taken_put s a w h3
      have ew : wrap64 (a + w) = a + w := IntWalk.wrap64_in _ (by omega)
      rw [if_pos h3, e, ew]
      have hz : ((s.extract a.toNat (a + w).toNat).size : Int) = w := by rw [ByteArray.size_extract]; omega
      rw [if_pos rfl, if_pos hz, if_pos a0, if_pos aw, if_pos a0, if_pos (by omega)]
      simp
    · rw [if_neg h3]
  by_cases h1 : (putV n w).2 = 0
  · obtain ⟨e1, e2⟩ := put_taken s n w hs hn0 h1
    rw [if_pos h1, e1, if_pos rfl, if_pos rfl, if_pos e2]
    by_cases h2 : (textV t).2 = 0
    · have e3 := text_taken s t hs h2
      have ew : wrap64 ((s.size : Int) + ((textV t).1.size : Int)) = (s.size : Int) + ((textV t).1.size : Int) := IntWalk.wrap64_in _ (by omega)
      rw [if_pos h2, e3, if_pos rfl, if_pos rfl, ew, if_pos rfl, if_pos rfl]
      exact inner
    · rw [if_neg h2, if_pos rfl]
      exact inner
  · rw [if_neg h1]
    by_cases h2 : (textV t).2 = 0
    · have e3 := text_taken s t hs h2
      have ew : wrap64 ((s.size : Int) + ((textV t).1.size : Int)) = (s.size : Int) + ((textV t).1.size : Int) := IntWalk.wrap64_in _ (by omega)
      rw [if_pos h2, e3, if_pos rfl, if_pos rfl, ew, if_pos rfl, if_pos rfl]
      exact inner
    · rw [if_neg h2, if_pos rfl]
      exact inner

end Go.Proofs.Ytigpedehlpdagaa.Pure
