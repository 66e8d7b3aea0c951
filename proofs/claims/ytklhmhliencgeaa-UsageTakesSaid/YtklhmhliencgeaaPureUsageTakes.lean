/- UsageTakes, in plain words: each clean segment comes next once. -/
import Derived.Test.YtklhmhliencgeaaHTakes
import Derived.Test.YtklhmhliencgeaaPSetsA
set_option linter.unusedVariables false
namespace Go.Proofs.Ytklhmhliencgeaa.Pure
open Go.RowKit Go.Proofs.Ytklhmhliencgeaa.P Go.Proofs.Ytklhmhliencgeaa.H Go.Proofs.Ytklhmhliencgeaa.Q Go.Proofs.YtklhmhliencgeaaW.PrintWords Go.Proofs.YtklhmhliencgeaaW.PrintLast

def isC (x : E) : Bool := decide (x.f2 = 0)
def cnt (l : List E) : Nat := l.countP isC
theorem atE_get (l : List E) (i : Nat) (h : i < l.length) : atE l i = l[i] := by
  unfold atE; rw [List.getD_eq_getElem?_getD, List.getElem?_eq_getElem h]; rfl
theorem clean_loop (l : List E) (hl : l.length ≤ 300) : ∀ d i k (c : Nat), i + d = l.length → d < k → c ≤ i → usage_CleanOnes.l0 k c l (l.length : Int) i = some ((c + cnt (l.drop i) : Nat) : Int)
  | 0, i, 0, _, _, h, _ => by omega
  | 0, i, k + 1, c, hi, _, _ => by
    rw [usage_CleanOnes.l0, if_neg (by omega), List.drop_eq_nil_of_le (by omega)]; rfl
  | d + 1, i, 0, _, _, h, _ => by omega
  | d + 1, i, k + 1, c, hi, h, hc => by
    have e3 : wrap64 ((i : Int) + 1) = ((i + 1 : Nat) : Int) := by rw [IntWalk.wrap64_in _ (by omega)]; omega
    have e4 : wrap64 ((c : Int) + 1) = ((c + 1 : Nat) : Int) := by rw [IntWalk.wrap64_in _ (by omega)]; omega
    have hb : cnt (l.drop i) ≤ 300 := Nat.le_trans List.countP_le_length (by rw [List.length_drop]; omega)
    have hd : l.drop i = l[i] :: l.drop (i + 1) := List.drop_eq_getElem_cons (by omega)
    rw [usage_CleanOnes.l0, if_pos (by omega), if_pos (by omega), if_pos (by omega), e3, rd_at, atE_get l i (by omega), hd]
    by_cases hx : l[i].f2 = 0
    · rw [if_pos hx, e4, clean_loop l hl d (i + 1) k (c + 1) (by omega) (by omega) (by omega)]
      unfold cnt; rw [List.countP_cons, if_pos (show isC l[i] = true by simp [isC, hx])]; congr 2; omega
    · rw [if_neg hx, clean_loop l hl d (i + 1) k c (by omega) (by omega) (by omega)]
      unfold cnt; rw [List.countP_cons, if_neg (show ¬ isC l[i] = true by simp [isC, hx])]; rfl
theorem clean_f (l : List E) (hl : l.length ≤ 300) (k : Nat) (hk : 301 ≤ k) : usage_CleanOnes.f k l = some (cnt l : Int) := by
  unfold usage_CleanOnes.f
  have := clean_loop l hl l.length 0 k 0 (by omega) (by omega) (by omega)
  rw [List.drop_zero, Nat.zero_add] at this
  exact this

theorem idx_clean : ∀ (l : List E) (i : Int), 0 ≤ i → ∃ r : Int, idx 28 l i = some r ∧ ((r = -1 ∧ ∀ x ∈ l, isC x = false) ∨ (i ≤ r ∧ r < i + l.length ∧ isC (atE l (r - i).toNat) = true))
  | [], i, _ => ⟨-1, rfl, .inl ⟨rfl, fun _ h => by cases h⟩⟩
  | x :: xs, i, hi => by
    have e : pred 28 x = some (x.f2 == 0) := by unfold pred; rw [if_neg (by decide), if_pos rfl]; rfl
    rw [idx, e, Option.bind_some]
    by_cases hx : x.f2 = 0
    · refine ⟨i, by simp [hx], .inr ⟨by omega, by simp; omega, ?_⟩⟩
      rw [Int.sub_self]; simp [atE, isC, hx]
    · obtain ⟨r, hr, h⟩ := idx_clean xs (i + 1) (by omega)
      refine ⟨r, by rw [if_neg (by simp [hx])]; exact hr, ?_⟩
      rcases h with ⟨h1, h2⟩ | ⟨h1, h2, h3⟩
      · refine .inl ⟨h1, fun y hy => ?_⟩
        rcases List.mem_cons.1 hy with rfl | hy
        · simp [isC, hx]
        · exact h2 y hy
      · refine .inr ⟨by omega, by rw [List.length_cons]; omega, ?_⟩
        have : (r - i).toNat = (r - (i + 1)).toNat + 1 := by omega
        rw [this]; exact h3
theorem cnt_zero (l : List E) (h : ∀ x ∈ l, isC x = false) : cnt l = 0 := by
  unfold cnt; rw [List.countP_eq_zero]; intro x hx; simp [h x hx]
theorem next_f (l : List E) (fr : Nat) (hl : l.length ≤ 300) (hf : fr < l.length) (k : Nat) :
    ∃ (i : Int) (ok : Bool), usage_Next.f (k + 1) l fr = some (i, ok) ∧ ((ok = false ∧ cnt l = 0) ∨ (ok = true ∧ 0 ≤ i ∧ i < l.length ∧ isC (atE l i.toNat) = true)) := by
  unfold usage_Next.f
  have e3 : wrap64 ((fr : Int) + 1) = ((fr + 1 : Nat) : Int) := by rw [IntWalk.wrap64_in _ (by omega)]; omega
  rw [if_neg (by omega), usage_Next.j0, if_neg (by simp; omega), e3, if_pos (by omega), if_pos (by omega), Int.toNat_natCast]
  unfold api_Seg_29.f
  obtain ⟨r, hr, h⟩ := idx_clean (l.drop (fr + 1)) 0 (by omega)
  rw [hr, Option.bind_some]
  rcases h with ⟨rfl, h2⟩ | ⟨h1, h2, h3⟩
  · rw [if_neg (by omega)]
    obtain ⟨q, hq, g⟩ := idx_clean (l.take (fr + 1)) 0 (by omega)
    rw [hq, Option.bind_some]
    rcases g with ⟨rfl, g2⟩ | ⟨g1, g2, g3⟩
    · refine ⟨_, _, rfl, .inl ⟨rfl, cnt_zero l fun x hx => ?_⟩⟩
      rw [← List.take_append_drop (fr + 1) l] at hx
      rcases List.mem_append.1 hx with hx | hx
      · exact g2 x hx
      · exact h2 x hx
    · have hm : mx q 0 = q := by unfold mx; split <;> omega
      rw [List.length_take] at g2
      refine ⟨_, _, rfl, .inr ⟨by simp; omega, by rw [hm]; omega, by rw [hm]; omega, ?_⟩⟩
      rw [hm]
      rw [Int.sub_zero] at g3
      unfold atE at g3 ⊢
      rw [List.getD_eq_getElem?_getD, List.getElem?_take_of_lt (by omega)] at g3
      exact g3
  · rw [if_pos (by omega)]
    rw [List.length_drop] at h2
    have e4 : wrap64 (((fr + 1 : Nat) : Int) + r) = ((fr + 1 : Nat) : Int) + r := IntWalk.wrap64_in _ (by omega)
    rw [e4]
    refine ⟨_, _, rfl, .inr ⟨rfl, by omega, by omega, ?_⟩⟩
    rw [Int.sub_zero] at h3
    have e5 : (((fr + 1 : Nat) : Int) + r).toNat = fr + 1 + r.toNat := by omega
    rw [e5]
    unfold atE at h3 ⊢
    rw [List.getD_eq_getElem?_getD, List.getElem?_drop] at h3
    exact h3
theorem cnt_set (l : List E) (i : Nat) (hi : i < l.length) (h : isC (atE l i) = true) (x : E) (hx : isC x = false) : cnt (l.set i x) + 1 = cnt l := by
  rw [atE_get l i hi] at h
  have e1 : l = l.take i ++ l[i] :: l.drop (i + 1) := by rw [← List.drop_eq_getElem_cons hi, List.take_append_drop]
  have e2 : l.set i x = l.take i ++ x :: l.drop (i + 1) := List.set_eq_take_append_cons_drop.trans (if_pos hi)
  unfold cnt
  rw [e2]
  conv => rhs; rw [e1]
  rw [List.countP_append, List.countP_append, List.countP_cons_of_neg (by simp [hx]), List.countP_cons_of_pos h]
  omega
theorem atE_zero (l : List E) (i : Nat) (x : E) (h : i ≠ 0) : atE (l.set i x) 0 = atE l 0 := by
  unfold atE
  rw [List.getD_eq_getElem?_getD, List.getD_eq_getElem?_getD, List.getElem?_set, if_neg h]
theorem right_set (l : List E) (i : Nat) (hr : rightV l = true) (hi : i ≠ 0) : rightV (l.set i ⟨0, 0, 2⟩) = true := by
  unfold rightV at hr ⊢
  simp only [Bool.and_eq_true, decide_eq_true_eq] at hr ⊢
  obtain ⟨h1, h2, h3, h4⟩ := hr
  refine ⟨by rw [List.length_set]; exact h1, by rw [List.length_set]; exact h2, by rw [atE_zero l i _ hi]; exact h3, ?_⟩
  rw [List.all_eq_true] at h4 ⊢
  intro y hy
  rcases List.mem_or_eq_of_mem_set hy with hy | rfl
  · exact h4 y hy
  · decide
theorem right_len (l : List E) (hr : rightV l = true) : 8 ≤ l.length ∧ l.length ≤ 256 ∧ (atE l 0).f2 = 1 := by
  unfold rightV at hr
  simp only [Bool.and_eq_true, decide_eq_true_eq] at hr
  exact ⟨hr.1, hr.2.1, hr.2.2.1⟩
theorem takes_f (K : Nat) (hK : 400 ≤ K) (n : Nat) (hn : n ≤ 300) : ∀ (d g : Nat) (l : List E) (fr : Nat) (k : Nat), rightV l = true → fr < l.length → cnt l = d → k + d = n → d < g →
    ∃ l' fr', takesL (K + 1) n g l fr k = some (l', ((fr' : Nat) : Int)) ∧ l'.length ≤ 300 ∧ fr' < l'.length ∧ cnt l' = 0
  | d, 0, _, _, _, _, _, _, _, h => by omega
  | 0, g + 1, l, fr, k, hr, hf, hc, hk, hg => by
    obtain ⟨h1, h2, h3⟩ := right_len l hr
    exact ⟨l, fr, by rw [takesL, if_neg (by omega)], by omega, hf, hc⟩
  | d + 1, g + 1, l, fr, k, hr, hf, hc, hk, hg => by
    obtain ⟨h1, h2, h3⟩ := right_len l hr
    obtain ⟨i, ok, hx, h⟩ := next_f l fr (by omega) hf K
    rcases h with ⟨_, h⟩ | ⟨rfl, i0, i1, hi⟩
    · omega
    obtain ⟨j, rfl⟩ : ∃ j : Nat, i = j := ⟨i.toNat, by omega⟩
    rw [Int.toNat_natCast] at hi
    have hj : j < l.length := by omega
    have hj0 : j ≠ 0 := by rintro rfl; simp [isC, h3] at hi
    have hs : setV l j ⟨0, 0, 2⟩ = (l.set j ⟨0, 0, 2⟩, 0) := by
      unfold setV
      rw [if_neg (by omega), Int.toNat_natCast, if_pos ⟨hr, right_set l j hr hj0⟩]
    have hcs := cnt_set l j hj hi ⟨0, 0, 2⟩ (by decide)
    have hlen : (l.set j (⟨0, 0, 2⟩ : E)).length = l.length := List.length_set
    obtain ⟨l', fr', h', r1, r2, r3⟩ := takes_f K hK n hn d g (l.set j ⟨0, 0, 2⟩) j (k + 1) (right_set l j hr hj0) (by rw [hlen]; omega) (by omega) (by omega) (by omega)
    refine ⟨l', fr', ?_, r1, r2, r3⟩
    have e1 : wrap64 ((n : Int) - k) = (n : Int) - k := IntWalk.wrap64_in _ (by omega)
    have e2 : wrap64 ((n : Int) - k - 1) = (n : Int) - k - 1 := IntWalk.wrap64_in _ (by omega)
    have e3 : wrap64 ((k : Int) + 1) = ((k + 1 : Nat) : Int) := by rw [IntWalk.wrap64_in _ (by omega)]; omega
    have hz : (rd_T30 l (j : Int)).f2 = 0 := by rw [rd_at]; simpa [isC] using hi
    rw [takesL, if_pos (by omega), hx, Option.bind_some]
    simp only
    rw [if_pos trivial, if_pos (by omega), if_pos (by omega), if_pos hz, set_f l j 0 0 2 (by omega) K, Option.bind_some, hs]
    simp only
    rw [if_pos trivial, if_pos hlen, clean_f _ (by rw [hlen]; omega) (K + 1) (by omega), Option.bind_some, e1, e2, if_pos (by omega), e3]
    exact h'
theorem tail_f (K : Nat) (hK : 400 ≤ K) (l : List E) (fr : Nat) (hr : rightV l = true) (hf : fr < l.length) : takesTail (K + 1) true l fr = some true := by
  obtain ⟨h1, h2, h3⟩ := right_len l hr
  have hb : cnt l ≤ l.length := List.countP_le_length
  obtain ⟨l', fr', h', r1, r2, r3⟩ := takes_f K hK (cnt l) (by omega) (cnt l) (K + 1) l fr 0 hr hf rfl (by omega) (by omega)
  unfold takesTail
  rw [clean_f l (by omega) (K + 1) (by omega), Option.bind_some]
  have h'' : takesL (K + 1) ((cnt l : Nat) : Int) (K + 1) l fr 0 = some (l', ((fr' : Nat) : Int)) := h'
  rw [h'', Option.bind_some]
  obtain ⟨i, ok, hx, h⟩ := next_f l' fr' r1 r2 K
  simp only
  rw [hx, Option.bind_some]
  rcases h with ⟨rfl, _⟩ | ⟨rfl, i0, i1, hi⟩
  · rfl
  · have hj : i.toNat < l'.length := by omega
    have := cnt_set l' i.toNat hj hi ⟨0, 0, 2⟩ (by decide)
    omega
theorem UsageTakes (l0 : List SG) (fr : Int) : nautiluslaw06_UsageTakes.f 401 l0 fr = some true := by
  unfold nautiluslaw06_UsageTakes.f
  rw [shown_f _ (by omega), Option.bind_some, right_f, Option.bind_some]
  have hz : (takesCut l0).length ≤ 300 := by unfold takesCut; rw [List.length_take]; omega
  by_cases hr : rightV (takesCut l0) = true
  · rw [if_pos hr]
    by_cases h1 : fr < 0
    · rw [if_pos h1]
    rw [if_neg h1]
    by_cases h2 : fr ≥ ((takesCut l0).length : Int)
    · rw [if_pos h2]
    rw [if_neg h2]
    obtain ⟨f, rfl⟩ : ∃ f : Nat, fr = f := ⟨fr.toNat, by omega⟩
    exact tail_f 400 (by omega) _ f hr (by omega)
  · rw [if_neg hr]
end Go.Proofs.Ytklhmhliencgeaa.Pure
