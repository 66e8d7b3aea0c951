import Derived.Test.YtpcokafalmafgaaQ6
import Derived.Test.YtpcokafalmafgaaPVol
namespace Go.Proofs.Ytpcokafalmafgaa.Pure
open Go.RowKit Go.Proofs.Ytpcokafalmafgaa.P Go.Proofs.Ytpcokafalmafgaa.H Go.Proofs.Ytpcokafalmafgaa.Q Go.Proofs.YtpcokafalmafgaaW.PrintWords Go.Proofs.YtpcokafalmafgaaW.PrintLast

theorem filter_one (p : Nat → Bool) (q : Nat) : ∀ n, (∀ k, k < n → p k = decide (k = q)) → (List.range n).filter p = if q < n then [q] else []
  | 0, _ => by simp
  | n + 1, h => by
    rw [List.range_succ, List.filter_append, filter_one p q n (fun k hk => h k (by omega))]
    have := h n (by omega)
    by_cases h1 : n = q
    · subst h1; simp [this]
    · have h2 : p n = false := by rw [this]; simp [h1]
      rw [List.filter_cons, h2]
      simp only [Bool.false_eq_true, if_false, List.filter_nil, List.append_nil]
      by_cases h3 : q < n
      · rw [if_pos h3, if_pos (by omega)]
      · rw [if_neg h3, if_neg (by omega)]
theorem filter_none (p : Nat → Bool) : ∀ n, (∀ k, k < n → p k = false) → (List.range n).filter p = []
  | n, h => by rw [List.filter_eq_nil_iff]; intro k hk; rw [h k (List.mem_range.1 hk)]; decide

/-- YOURS -/
theorem VolTurns : nautiluslaw17_VolTurns.Pure := by
  intro s0 at_ c hs hat hc
  suffices main : ∀ k, 10 ≤ k → nautiluslaw17_VolTurns.f (k + 1) s0 at_ c = some true from ⟨_, main 10 (by omega)⟩
  intro k hk
  obtain ⟨hc0, hc1⟩ := u8_wf hc
  obtain ⟨ha0, ha1⟩ := i64_wf hat
  unfold nautiluslaw17_VolTurns.f
  rw [shown_f _ (by omega), Option.bind_some, cutV_f _ (by omega), Option.bind_some]
  have hz : (s0.extract 0 (min s0.size 10000)).size ≤ 10000 := by rw [ByteArray.size_extract]; omega
  generalize s0.extract 0 (min s0.size 10000) = s at hz ⊢
  clear hs s0
  by_cases h1 : at_ < 0
  · rw [if_pos h1]; rw [nautiluslaw17_VolTurns.j0]; rw [if_pos rfl]
  · rw [if_neg h1]
    by_cases h2 : at_ ≥ (s.size : Int)
    · rw [nautiluslaw17_VolTurns.j0]; rw [if_pos (by simp [h2])]
    · obtain ⟨n, rfl⟩ : ∃ n : Nat, at_ = n := ⟨at_.toNat, by omega⟩
      have hn : n < s.size := by omega
      have hw : wrap64 ((n : Int) + 1) = ((n + 1 : Nat) : Int) := by rw [IntWalk.wrap64_in _ (by omega)]; omega
      have hd : wrap64 (Int.tdiv (n : Int) 508) = ((n / 508 : Nat) : Int) := by
        have : Int.tdiv (n : Int) 508 = ((n / 508 : Nat) : Int) := rfl
        rw [this, IntWalk.wrap64_in _ (by omega)]
      rw [nautiluslaw17_VolTurns.j0]
      rw [if_neg (by simp; omega), if_pos (by omega), if_pos (by omega), Option.bind_some, hw]
      have z1 : (strOfNums [c]).size = 1 := rfl
      simp only [Int.toNat_natCast]
      have hb : bl (s.extract 0 n ++ strOfNums [c] ++ s.extract (n + 1) s.size) = (bl s).set n (UInt8.ofNat c.toNat) := by
        rw [bl_add, bl_add, bl_cut, bl_cut, List.set_eq_take_append_cons_drop, if_pos (by rw [bl_len]; exact hn)]
        rw [List.take_of_length_le (l := List.drop (n + 1) (bl s)) (by rw [List.length_drop, bl_len]; omega)]
        simp [strOfNums, bl]
      have ht : (s.extract 0 n ++ strOfNums [c] ++ s.extract (n + 1) s.size).size = s.size := by rw [← bl_len, hb, List.length_set, bl_len]
      have e1 : (s.extract 0 n).size = n := by rw [ByteArray.size_extract]; omega
      rw [if_pos (by rw [z1, e1]; omega), if_pos (by omega), if_pos (by omega), if_pos (by
        rw [ByteArray.size_append, z1, e1, ByteArray.size_extract]; omega)]
      generalize s.extract 0 n ++ strOfNums [c] ++ s.extract (n + 1) s.size = t at hb ht
      rw [changed_f s t (by omega) (by omega), Option.bind_some]
      simp only [if_true]
      have hp : pieces t = pieces s := by unfold pieces; rw [ht]
      rw [hp, ByteArray.toList_eq, ByteArray.toList_eq]
      have hdiff : ∀ k, k < pieces s → diffB s t k = !(((bl s).drop (508 * k)).take 508 == ((bl t).drop (508 * k)).take 508) := by
        intro k hk
        unfold diffB
        rw [sameB_size (by rw [piece_sz, piece_sz, ht]), piece_bl, piece_bl]
        simp [hk]
      by_cases hst : bl t = bl s
      · rw [if_pos hst]
        have : diffL s t (pieces s) = [] := filter_none _ _ fun k hk => by rw [hdiff k hk, hst]; simp
        rw [this]; rfl
      · rw [if_neg hst]
        have hq : n / 508 < pieces s := by unfold pieces; omega
        have : diffL s t (pieces s) = [n / 508] := by
          unfold diffL
          rw [filter_one (diffB s t) (n / 508) (pieces s) ?_, if_pos hq]
          intro k hk
          rw [hdiff k hk, hb, List.drop_set]
          by_cases hk1 : n < 508 * k
          · rw [if_pos hk1]
            have : k ≠ n / 508 := by omega
            simp [this]
          · rw [if_neg hk1, List.take_set]
            by_cases hk2 : n < 508 * k + 508
            · have hk3 : k = n / 508 := by omega
              have hne : List.take 508 (List.drop (508 * k) (bl s)) ≠ (List.take 508 (List.drop (508 * k) (bl s))).set (n - 508 * k) (UInt8.ofNat c.toNat) := by
                intro e
                apply hst
                rw [hb]
                have e2 := congrArg (fun l => l[n - 508 * k]?) e
                simp only [List.getElem?_set, List.length_take, List.length_drop, bl_len, if_true] at e2
                rw [if_pos (by omega), List.getElem?_take, if_pos (by omega), List.getElem?_drop, show 508 * k + (n - 508 * k) = n by omega] at e2
                obtain ⟨hl, e3⟩ := List.getElem?_eq_some_iff.1 e2; rw [← e3]; exact List.set_getElem_self _
              rw [show decide (k = n / 508) = true from decide_eq_true hk3]
              simpa using hne
            · have hk3 : k ≠ n / 508 := by omega
              rw [List.set_eq_of_length_le (by rw [List.length_take]; omega)]
              simp [hk3]
        rw [this, hd]; simp [rd]
end Go.Proofs.Ytpcokafalmafgaa.Pure
