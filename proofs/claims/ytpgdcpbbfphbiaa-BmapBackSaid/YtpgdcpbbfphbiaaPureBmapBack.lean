/- The law BmapBack, in plain words: what is laid is joined back, and what is joined is laid so again. -/
import Derived.Test.YtpgdcpbbfphbiaaQ22
import Derived.Test.YtpgdcpbbfphbiaaPBmE
set_option linter.unusedVariables false
namespace Go.Proofs.Ytpgdcpbbfphbiaa.Pure
open Go.RowKit Go.Proofs.Ytpgdcpbbfphbiaa.P Go.Proofs.Ytpgdcpbbfphbiaa.H Go.Proofs.Ytpgdcpbbfphbiaa.Q Go.Proofs.YtpgdcpbbfphbiaaW.PrintWords Go.Proofs.YtpgdcpbbfphbiaaW.PrintLast Go.Proofs.YtpgdcpbbfphbiaaW.PrintMore
theorem rdOf_head (bs : List ByteArray) : rdOf ByteArray.empty bs 0 = bs.getD 0 ByteArray.empty := by
  unfold rdOf; rfl
theorem mn_le (a b : Int) : mn a b ≤ a ∧ mn a b ≤ b := by unfold mn; split <;> omega
theorem mn_ge (a b : Int) (ha : 0 ≤ a) (hb : 0 ≤ b) : 0 ≤ mn a b := by unfold mn; split <;> omega
theorem layOk_ok (l ids : List Int) : (layOk l ids).2.2.2.2.2.2.2 = 0 := by unfold layOk; split <;> rfl
theorem own_len {size m0 : Int} {bs : List ByteArray} {ids : List Int} (h : ownOf size m0 bs ids) (hi : ids.length ≤ 1000) (hb : 1 < bs.length) : ∃ xl, bmap_Below.f size (bs.getD 0 ByteArray.empty) = some (xl, 0) ∧ ids = [m0] ++ xl ∧ xl.length < 1000 := by
  rcases h with ⟨h, _⟩ | ⟨h, _⟩ | ⟨_, xl, h, rfl⟩
  · omega
  · omega
  · rw [List.length_append, List.length_singleton] at hi
    exact ⟨xl, h, rfl, by omega⟩
theorem own_small {size m0 : Int} {bs : List ByteArray} {ids : List Int} (h : ownOf size m0 bs ids) (hb : ¬ 1 < bs.length) : ids = if (bs.length : Int) = 0 then [] else [m0] := by
  rcases h with ⟨h, e⟩ | ⟨h, e⟩ | ⟨h, _⟩
  · rw [if_pos (by omega), e]
  · rw [if_neg (by omega), e]
  · omega
theorem BmapBack : nautiluslaw13_BmapBack.Pure := by
  intro size l1 l2 m0 m1 m2 m3 m4 m5 l4 hs _ _ hl1 _ _ hl2 g0 g1 g2 g3 g4 g5 hl4 _
  obtain ⟨h0, h1⟩ := u32_wf hs
  have f1 := fine_of hl1
  have f2 := fine_of hl2
  have fm : fineL [m0, m1, m2, m3, m4, m5] := fun x hx => by
    simp only [List.mem_cons, List.not_mem_nil, or_false] at hx
    rcases hx with rfl | rfl | rfl | rfl | rfl | rfl <;> exact u32_wf (by assumption)
  refine ⟨5000 + 3, ?_⟩
  unfold nautiluslaw13_BmapBack.f
  rw [shown_f _ (by omega), Option.bind_some]
  have no (x : Bool) (hx : x = true) : nautiluslaw13_BmapBack.j0 (5000 + 3) size l1 l2 l4 true x m0 m1 m2 m3 m4 m5 = some true := by rw [nautiluslaw13_BmapBack.j0, if_pos hx]
  by_cases c1 : (l1.length : Int) > 1000
  · rw [if_pos c1, no true rfl]
  rw [if_neg c1]
  by_cases c2 : (l2.length : Int) > 1000
  · rw [no _ (decide_eq_true c2)]
  have hn := mn_le (l4.length : Int) 10
  have hn0 := mn_ge (l4.length : Int) 10 (by omega) (by omega)
  have hbl : (l4.take (mn (l4.length : Int) 10).toNat).length ≤ 1000 := by rw [List.length_take]; omega
  rw [decide_eq_false c2, nautiluslaw13_BmapBack.j0, if_neg (by decide), if_pos hn0, if_pos hn.1]
  generalize l4.take (mn (l4.length : Int) 10).toNat = bs at hbl ⊢
  rw [lay_f size l1 l2 h0 h1 (by omega) (by omega) f1 f2, Option.bind_some]
  -- What is left once the first half holds.
  have rest : nautiluslaw13_BmapBack.j1 (5000 + 2) size bs true false m0 m1 m2 m3 m4 m5 = some true := by
    rw [nautiluslaw13_BmapBack.j1, if_neg (by decide)]
    obtain ⟨⟨w, e⟩, hj⟩ := join_tot size m0 m1 m2 m3 m4 m5 bs h0 h1 hbl
    rw [hj, Option.bind_some]
    by_cases he : e = 0
    case neg => rw [if_neg he]
    subst he
    rw [if_pos rfl]
    obtain ⟨ids, own, hi, fi, hw, fw, good, hlay⟩ := lay_join size m0 m1 m2 m3 m4 m5 bs w h0 h1 fm hbl hj
    have hF : bmap_Lay.f size w ids = some (m0, m1, m2, m3, m4, m5, bs, 0) := by rw [lay_f size w ids h0 h1 (by omega) (by omega) fw fi, if_pos good, hlay]
    have hsame : nautilusref13_SameTexts.f (5000 + 1 - 1 + 1 - 1) bs bs = some true := by rw [sameT_f bs bs (by omega) _ (by omega)]; simp
    by_cases hb : 1 < bs.length
    · obtain ⟨xl, hx, rfl, hxl⟩ := own_len own hi hb
      rw [if_neg (show ¬ (bs.length : Int) = 0 by omega), nautiluslaw13_BmapBack.j2, if_pos (by omega), if_pos (by omega), rdOf_head, hx, Option.bind_some]
      rw [if_pos (show [m0].length + xl.length < 35184372088832 by rw [List.length_singleton]; omega)]
      show (bmap_Lay.f size w ([m0] ++ xl)).bind _ = _
      rw [hF, Option.bind_some, if_pos rfl, if_pos rfl, if_pos (by simp)]
      show (nautilusref13_SameTexts.f 5000 bs bs).bind _ = _
      rw [sameT_f bs bs (by omega) _ (by omega)]; simp
    · have hids := own_small own hb
      have hj2 : nautiluslaw13_BmapBack.j2 (5000 + 1) size bs true w ids m0 m1 m2 m3 m4 m5 = some true := by
        rw [nautiluslaw13_BmapBack.j2, if_neg (by omega), hF, Option.bind_some, if_pos rfl, if_pos rfl, if_pos (by simp)]
        show (nautilusref13_SameTexts.f 5000 bs bs).bind _ = _
        rw [sameT_f bs bs (by omega) _ (by omega)]; simp
      by_cases hz : (bs.length : Int) = 0
      · rw [if_pos hz] at hids ⊢
        rw [← hids]; exact hj2
      · rw [if_neg hz] at hids ⊢
        rw [← hids]; exact hj2
  by_cases g : goodLay size l1 l2
  · rw [if_pos g]
    have hJ := join_lay size l1 l2 h0 h1 g f1 f2 (by omega)
    have hok := layOk_ok l1 l2
    generalize layOk l1 l2 = X at hJ hok ⊢
    obtain ⟨x0, x1, x2, x3, x4, x5, x6, x7⟩ := X
    simp only at hJ hok
    subst hok
    show (bmap_Join.f size x0 x1 x2 x3 x4 x5 x6).bind _ = _
    rw [hJ, Option.bind_some, if_pos rfl, if_pos rfl]
    show (nautilusref13_Same.f (5000 + 2) l1 l1).bind _ = _
    rw [same_f l1 l1 (by omega) _ (by omega), Option.bind_some, decide_eq_true rfl]
    exact rest
  · rw [if_neg g]
    show (bmap_Join.f size 0 0 0 0 0 0 []).bind _ = _
    obtain ⟨r, hr⟩ := join_tot size 0 0 0 0 0 0 [] h0 h1 (by simp)
    rw [hr, Option.bind_some, if_neg (show ¬ layErr.2.2.2.2.2.2.2 = 0 by decide)]
    exact rest
end Go.Proofs.Ytpgdcpbbfphbiaa.Pure
