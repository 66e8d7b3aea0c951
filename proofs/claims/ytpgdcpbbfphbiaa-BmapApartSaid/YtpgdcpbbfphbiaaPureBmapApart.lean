/- The law BmapApart, in plain words: unlike numbers have unlike maps. -/
import Derived.Test.YtpgdcpbbfphbiaaQ24
import Derived.Test.YtpgdcpbbfphbiaaPBmC
set_option linter.unusedVariables false
namespace Go.Proofs.Ytpgdcpbbfphbiaa.Pure
open Go.RowKit Go.Proofs.Ytpgdcpbbfphbiaa.P Go.Proofs.Ytpgdcpbbfphbiaa.H Go.Proofs.Ytpgdcpbbfphbiaa.Q Go.Proofs.YtpgdcpbbfphbiaaW.PrintWords Go.Proofs.YtpgdcpbbfphbiaaW.PrintLast Go.Proofs.YtpgdcpbbfphbiaaW.PrintMore
theorem same_lay {size : Int} {a b ids : List Int} (ga : goodLay size a ids) (gb : goodLay size b ids) (fa : fineL a) (fb : fineL b) (h : layOk a ids = layOk b ids) : a = b := by
  have hl : a.length = b.length := by have := ga.2.1; have := gb.2.1; omega
  unfold layOk at h
  by_cases hi : ids.length = 0
  · rw [if_pos hi, if_pos hi] at h
    simp only [Prod.mk.injEq] at h
    have hc := cnt_cases size ga.1
    have := ga.2.1
    have := ga.2.2.1
    exact get6_inj hl (by omega) h.1 h.2.1 h.2.2.1 h.2.2.2.1 h.2.2.2.2.1 h.2.2.2.2.2.1
  · rw [if_neg hi, if_neg hi] at h
    simp only [Prod.mk.injEq] at h
    exact layN_inj hl fa fb h.2.2.2.2.2.2.1
theorem BmapApart : nautiluslaw13_BmapApart.Pure := by
  intro size a b ids hs _ _ ha _ _ hb _ _ hi
  obtain ⟨h0, h1⟩ := u32_wf hs
  have fa := fine_of ha
  have fb := fine_of hb
  have fi := fine_of hi
  refine ⟨5000 + 2, ?_⟩
  unfold nautiluslaw13_BmapApart.f
  rw [shown_f _ (by omega), Option.bind_some]
  have no (x : Bool) (hx : x = true) : nautiluslaw13_BmapApart.j0 (5000 + 2) size a b ids true x = some true := by rw [nautiluslaw13_BmapApart.j0, if_pos hx]
  by_cases l1 : (a.length : Int) > 1000
  · rw [if_pos l1, no true rfl]
  rw [if_neg l1]
  by_cases l2 : (b.length : Int) > 1000
  · rw [if_pos l2, no true rfl]
  rw [if_neg l2]
  by_cases l3 : (ids.length : Int) > 1000
  · rw [no _ (decide_eq_true l3)]
  rw [decide_eq_false l3, nautiluslaw13_BmapApart.j0, if_neg (by decide), lay_f size a ids h0 h1 (by omega) (by omega) fa fi, Option.bind_some, lay_f size b ids h0 h1 (by omega) (by omega) fb fi, Option.bind_some]
  have bad : ∀ (m n : List ByteArray) (x : Bool) (c0 c1 c2 c3 c4 c5 d0 d1 d2 d3 d4 d5 : Int), x = true → nautiluslaw13_BmapApart.j1 (5000 + 1) size a b true m n x c0 c1 c2 c3 c4 c5 d0 d1 d2 d3 d4 d5 = some true := by
    intro m n x c0 c1 c2 c3 c4 c5 d0 d1 d2 d3 d4 d5 hx
    rw [nautiluslaw13_BmapApart.j1, if_pos hx]
  by_cases ga : goodLay size a ids
  · rw [if_pos ga]
    by_cases gb : goodLay size b ids
    · rw [if_pos gb]
      have hiff : layOk a ids = layOk b ids ↔ a = b := ⟨same_lay ga gb fa fb, fun e => by rw [e]⟩
      have hea : (layOk a ids).2.2.2.2.2.2.2 = 0 := by unfold layOk; split <;> rfl
      have heb : (layOk b ids).2.2.2.2.2.2.2 = 0 := by unfold layOk; split <;> rfl
      have hlen : ((layOk a ids).2.2.2.2.2.2.1.length : Int) = cnt size ∧ (layOk a ids).2.2.2.2.2.2.1.length ≤ 2000 := by
        have hg := ga.2.2.1
        unfold layOk
        by_cases hi0 : ids.length = 0
        · rw [if_pos hi0]; simp; omega
        · rw [if_neg hi0]
          show ((layN a ids (partN 127 a)).length : Int) = cnt size ∧ (layN a ids (partN 127 a)).length ≤ 2000
          rw [lay_len ga hi0]; omega
      generalize layOk a ids = X at hiff hea hlen ⊢
      generalize layOk b ids = Y at hiff heb ⊢
      obtain ⟨x0, x1, x2, x3, x4, x5, x6, x7⟩ := X
      obtain ⟨y0, y1, y2, y3, y4, y5, y6, y7⟩ := Y
      simp only at hea heb hlen
      subst hea heb
      show (if (0 : Int) = 0 then nautiluslaw13_BmapApart.j1 (5000 + 1) size a b true x6 y6 ((0 : Int) != 0) x0 x1 x2 x3 x4 x5 y0 y1 y2 y3 y4 y5 else _) = _
      rw [if_pos rfl, nautiluslaw13_BmapApart.j1, if_neg (by decide)]
      simp only [Prod.mk.injEq] at hiff
      by_cases hm : (x0 == y0 && (x1 == y1 && (x2 == y2 && (x3 == y3 && (x4 == y4 && (x5 == y5)))))) = true
      · rw [if_pos hm, sameT_f x6 y6 (by omega) _ (by omega), Option.bind_some, if_pos rfl, same_f a b (by omega) _ (by omega), Option.bind_some]
        simp only [Bool.and_eq_true, beq_iff_eq] at hm
        have he : (x6 = y6) ↔ a = b := by rw [← hiff]; exact ⟨fun h => ⟨hm.1, hm.2.1, hm.2.2.1, hm.2.2.2.1, hm.2.2.2.2.1, hm.2.2.2.2.2, h, trivial⟩, fun h => h.2.2.2.2.2.2.1⟩
        rw [if_pos (by simp only [he]; simp), count_f _ h0 h1, Option.bind_some, hlen.1]
        simp
      · rw [if_neg hm, if_pos rfl, same_f a b (by omega) _ (by omega), Option.bind_some]
        have hne : ¬ a = b := fun e => hm (by
          obtain ⟨q0, q1, q2, q3, q4, q5, _⟩ := hiff.2 e
          simp [q0, q1, q2, q3, q4, q5])
        rw [decide_eq_false hne, if_pos (by rfl), count_f _ h0 h1, Option.bind_some, hlen.1]
        simp
    · rw [if_neg gb]
      have hea : (layOk a ids).2.2.2.2.2.2.2 = 0 := by unfold layOk; split <;> rfl
      rw [if_pos hea]
      exact bad _ _ _ _ _ _ _ _ _ _ _ _ _ _ _ rfl
  · rw [if_neg ga, if_neg (show ¬ layErr.2.2.2.2.2.2.2 = 0 by decide)]
    exact bad _ _ _ _ _ _ _ _ _ _ _ _ _ _ _ rfl
end Go.Proofs.Ytpgdcpbbfphbiaa.Pure
