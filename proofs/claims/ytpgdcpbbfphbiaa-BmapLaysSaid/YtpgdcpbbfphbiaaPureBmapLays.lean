/- The law BmapLays, in plain words: both lay the same. -/
import Derived.Test.YtpgdcpbbfphbiaaQ21
import Derived.Test.YtpgdcpbbfphbiaaPBmF
set_option linter.unusedVariables false
namespace Go.Proofs.Ytpgdcpbbfphbiaa.Pure
open Go.RowKit Go.Proofs.Ytpgdcpbbfphbiaa.P Go.Proofs.Ytpgdcpbbfphbiaa.H Go.Proofs.Ytpgdcpbbfphbiaa.Q Go.Proofs.YtpgdcpbbfphbiaaW.PrintWords Go.Proofs.YtpgdcpbbfphbiaaW.PrintLast Go.Proofs.YtpgdcpbbfphbiaaW.PrintMore
theorem BmapLays : nautiluslaw13_BmapLays.Pure := by
  intro size a ids hs _ _ ha _ _ hi
  obtain ⟨h0, h1⟩ := u32_wf hs
  have fa := fine_of ha
  have fi := fine_of hi
  refine ⟨5000 + 1, ?_⟩
  unfold nautiluslaw13_BmapLays.f
  rw [shown_f _ (by omega), Option.bind_some]
  have no (x : Bool) (hx : x = true) : nautiluslaw13_BmapLays.j0 (5000 + 1) size a ids true x = some true := by rw [nautiluslaw13_BmapLays.j0, if_pos hx]
  by_cases l1 : (a.length : Int) > 1000
  · rw [if_pos l1, no true rfl]
  rw [if_neg l1]
  by_cases l2 : (ids.length : Int) > 1000
  · rw [no _ (decide_eq_true l2)]
  rw [decide_eq_false l2, nautiluslaw13_BmapLays.j0, if_neg (by decide), lay_f size a ids h0 h1 (by omega) (by omega) fa fi, Option.bind_some, layR_f size a ids h0 h1 (by omega) (by omega) fa fi, Option.bind_some, if_pos rfl, if_pos (by simp)]
  have hlen : (if goodLay size a ids then layOk a ids else layErr).2.2.2.2.2.2.1.length ≤ 2000 := by
    split
    · rename_i g
      have hg := g.2.2.1
      have hc := cnt_cases size g.1
      have hlo := low_le size g.1
      unfold layOk
      by_cases hi0 : ids.length = 0
      · rw [if_pos hi0]; simp
      · rw [if_neg hi0]
        have hll := lay_len g hi0
        show (layN a ids (partN 127 a)).length ≤ 2000
        omega
    · decide
  generalize (if goodLay size a ids then layOk a ids else layErr) = X at hlen ⊢
  rw [sameT_f _ _ (by omega) _ (by omega), Option.bind_some, if_pos (by simp)]
  simp
end Go.Proofs.Ytpgdcpbbfphbiaa.Pure
