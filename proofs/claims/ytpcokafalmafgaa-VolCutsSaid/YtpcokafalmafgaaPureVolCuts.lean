/- The law VolCuts, in plain words: files as contents, and which ones are others, are the document's. -/
import Derived.Test.YtpcokafalmafgaaQ8
import Derived.Test.YtpcokafalmafgaaPVolC
set_option linter.unusedVariables false
namespace Go.Proofs.Ytpcokafalmafgaa.Pure
open Go.RowKit Go.Proofs.Ytpcokafalmafgaa.P Go.Proofs.Ytpcokafalmafgaa.H Go.Proofs.Ytpcokafalmafgaa.Q Go.Proofs.YtpcokafalmafgaaW.PrintWords Go.Proofs.YtpcokafalmafgaaW.PrintLast
theorem VolCuts : nautiluslaw17_VolCuts.Pure := by
  intro was now l n h1 h2 h3 h4 hw
  obtain ⟨n0, n1⟩ := u32_wf hw
  refine ⟨700000, ?_⟩
  obtain ⟨m, hm, hm2, hm3⟩ : ∃ m : Nat, mn (l.length : Int) 30 = m ∧ m ≤ 30 ∧ m ≤ l.length := ⟨min l.length 30, by unfold mn; omega, by omega, by omega⟩
  have hl : (l.take m).length ≤ 1000 := by rw [List.length_take]; omega
  have a1 : (was.extract 0 (min was.size 10000)).size ≤ 10000 := by rw [ByteArray.size_extract]; omega
  have a2 : (now.extract 0 (min now.size 10000)).size ≤ 10000 := by rw [ByteArray.size_extract]; omega
  unfold nautiluslaw17_VolCuts.f
  rw [shown_f 700000 (by omega), Option.bind_some, cutV_f was (by omega), Option.bind_some, cutV_f now (by omega), Option.bind_some, hm, if_pos (by omega), if_pos (by omega), Int.toNat_natCast,
    paste_f _ n hl n0 n1 700000 (by omega), Option.bind_some, refPaste_f _ n hl n0 n1 700000 (by omega), Option.bind_some, if_pos rfl]
  generalize was.extract 0 (min was.size 10000) = s at a1 ⊢
  generalize now.extract 0 (min now.size 10000) = t at a2 ⊢
  have p1 : pieces s ≤ 20 := by unfold pieces; omega
  have p2 : pieces t ≤ 20 := by unfold pieces; omega
  have d1 := diffL_le s t (pieces t)
  rw [cut_f t (by omega), Option.bind_some, refCut_f t (by omega) 700000 (by omega), Option.bind_some, sameTexts_f _ (by simp [pieceL]; omega) 700000 (by simp [pieceL]; omega), Option.bind_some,
    if_pos rfl, if_pos rfl, if_pos rfl, changed_f s t (by omega) (by omega), Option.bind_some, refChanged_f s t (by omega) (by omega) 700000 (by omega) (by omega), Option.bind_some,
    sameInts_f _ _ (by rw [List.length_map]; omega) 700000 (by rw [List.length_map]; omega), Option.bind_some]
  simp
end Go.Proofs.Ytpcokafalmafgaa.Pure
