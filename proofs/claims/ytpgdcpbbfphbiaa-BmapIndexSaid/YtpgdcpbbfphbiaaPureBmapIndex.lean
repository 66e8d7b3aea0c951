/- The law BmapIndex, in plain words: the way to a block says its number; a greater size has no smaller map. -/
import Derived.Test.YtpgdcpbbfphbiaaQ23
import Derived.Test.YtpgdcpbbfphbiaaPBmC
set_option linter.unusedVariables false
namespace Go.Proofs.Ytpgdcpbbfphbiaa.Pure
open Go.RowKit Go.Proofs.Ytpgdcpbbfphbiaa.P Go.Proofs.Ytpgdcpbbfphbiaa.H Go.Proofs.Ytpgdcpbbfphbiaa.Q Go.Proofs.YtpgdcpbbfphbiaaW.PrintWords Go.Proofs.YtpgdcpbbfphbiaaW.PrintLast Go.Proofs.YtpgdcpbbfphbiaaW.PrintMore
theorem cnt_mono (a b : Int) (h : a ≤ b) (hb : b ≤ 8193532) : cnt a ≤ cnt b := by
  have hm : blk a ≤ blk b := by unfold blk; omega
  have hl : low a ≤ low b := by unfold low; omega
  rcases cnt_cases a (by omega) with h1 | h1 | h1 <;> rcases cnt_cases b hb with h2 | h2 | h2 <;> omega
theorem last_f (a b : Int) (h0 : 0 ≤ a) (h1 : a < 4294967296) (h2 : 0 ≤ b) (h3 : b < 4294967296) : (if a > b then some true else (if b > 8193532 then some true else ((bmap_Count.f a).bind fun t => ((bmap_Count.f b).bind fun u => some (decide (t ≤ u)))))) = some true := by
  by_cases h4 : a > b
  · rw [if_pos h4]
  · rw [if_neg h4]
    by_cases h5 : b > 8193532
    · rw [if_pos h5]
    · rw [if_neg h5, count_f _ h0 h1, Option.bind_some, count_f _ h2 h3, Option.bind_some, decide_eq_true (cnt_mono a b (by omega) (by omega))]
theorem j3_f (a b : Int) (h0 : 0 ≤ a) (h1 : a < 4294967296) (h2 : 0 ≤ b) (h3 : b < 4294967296) (k : Nat) : nautiluslaw13_BmapIndex.j3 (k + 1) a b true false = some true := by
  rw [nautiluslaw13_BmapIndex.j3, if_neg (by decide), if_pos rfl]
  exact last_f a b h0 h1 h2 h3
theorem BmapIndex : nautiluslaw13_BmapIndex.Pure := by
  intro a b i ha hb hi
  obtain ⟨h0, h1⟩ := u32_wf ha
  obtain ⟨h2, h3⟩ := u32_wf hb
  refine ⟨96 + 4, ?_⟩
  unfold nautiluslaw13_BmapIndex.f
  rw [shown_f _ (by omega), Option.bind_some, way_f _ _ h0 h1 _ (by omega), Option.bind_some]
  unfold wayV
  by_cases hg : goodW a i
  · rw [if_pos hg]
    have hg2 := hg
    unfold goodW at hg2
    have hbk := blk_range a h0 h1
    by_cases d0 : dep a = 0
    · have h6 : blk a ≤ 6 := by unfold dep at d0; split at d0 <;> first | assumption | (split at d0 <;> omega)
      rw [if_pos d0]
      show (if (0 : Int) = 0 then nautiluslaw13_BmapIndex.j0 (96 + 4) a b i true [i] 0 ((1 : Int) == 0) else _) = _
      rw [if_pos rfl, nautiluslaw13_BmapIndex.j0, if_neg (by decide), if_pos rfl, if_pos (by simp), if_neg (by simp), show rd [i] 0 = i from rfl, nautiluslaw13_BmapIndex.j1, if_neg (by simp), nautiluslaw13_BmapIndex.j2, if_pos rfl, if_neg (by simp), if_neg (by simp),
        show wrap64 ((([i] : List Int).length : Int) - 1) = 0 by rw [IntWalk.wrap64_in _ (by simp only [List.length_cons, List.length_nil]; omega)]; simp, if_pos (by omega), if_pos (by simp), show rd [i] 0 = i from rfl, decide_eq_false (by omega)]
      exact j3_f a b h0 h1 h2 h3 _
    · rw [if_neg d0]
      by_cases d1 : dep a = 1
      · have h6 : blk a ≤ 127 := by unfold dep at d1; split at d1 <;> first | omega | (split at d1 <;> omega)
        rw [if_pos d1]
        show (if (0 : Int) = 0 then nautiluslaw13_BmapIndex.j0 (96 + 4) a b i true [0, i] 0 ((2 : Int) == 0) else _) = _
        rw [if_pos rfl, nautiluslaw13_BmapIndex.j0, if_neg (by decide), if_pos rfl, if_pos (by simp), if_pos (by simp), if_pos (by simp), show rd [0, i] 1 = i from rfl, nautiluslaw13_BmapIndex.j1, if_neg (by simp), nautiluslaw13_BmapIndex.j2, if_pos rfl, if_neg (by simp), if_pos (by simp), if_pos (by simp), if_pos (show rd [0, i] 0 = 0 from rfl),
          show wrap64 ((([0, i] : List Int).length : Int) - 1) = 1 by rw [IntWalk.wrap64_in _ (by simp only [List.length_cons, List.length_nil]; omega)]; simp, if_pos (by omega), if_pos (by simp), show rd [0, i] 1 = i from rfl, decide_eq_false (by omega)]
        exact j3_f a b h0 h1 h2 h3 _
      · rw [if_neg d1]
        show (if (0 : Int) = 0 then nautiluslaw13_BmapIndex.j0 (96 + 4) a b i true [0, i / 127, i % 127] 0 ((3 : Int) == 0) else _) = _
        rw [if_pos rfl, nautiluslaw13_BmapIndex.j0, if_neg (by decide), if_pos rfl, if_pos (by simp), if_neg (by simp), nautiluslaw13_BmapIndex.j1, if_pos (by simp), if_pos (by simp), if_pos (by simp), show rd [0, i / 127, i % 127] 1 = i / 127 from rfl, show rd [0, i / 127, i % 127] 2 = i % 127 from rfl,
          IntWalk.wrap64_in (i / 127 * 127) (by omega), IntWalk.wrap64_in _ (by omega), show i / 127 * 127 + i % 127 = i by omega, nautiluslaw13_BmapIndex.j2, if_pos rfl, if_neg (by simp), if_pos (by simp), if_pos (by simp), if_pos (show rd [0, i / 127, i % 127] 0 = 0 from rfl),
          show wrap64 ((([0, i / 127, i % 127] : List Int).length : Int) - 1) = 2 by rw [IntWalk.wrap64_in _ (by simp only [List.length_cons, List.length_nil]; omega)]; simp, if_pos (by omega), if_pos (by simp), show rd [0, i / 127, i % 127] 2 = i % 127 from rfl, decide_eq_false (by omega)]
        exact j3_f a b h0 h1 h2 h3 _
  · rw [if_neg hg]
    show (if (130 : Int) = 0 then _ else nautiluslaw13_BmapIndex.j0 (96 + 4) a b i true [] 130 false) = _
    rw [if_neg (by decide), nautiluslaw13_BmapIndex.j0, if_neg (by decide), if_neg (by decide), if_pos rfl]
    exact last_f a b h0 h1 h2 h3
end Go.Proofs.Ytpgdcpbbfphbiaa.Pure
