/- drop of a bag's node over string: what it leaves, on every level. -/
import Derived.Test.YtkfcflflgecljaaHBagFS
set_option linter.unusedVariables false
namespace Go.Proofs.Ytkfcflflgecljaa.H
open Go.RowKit Go.Proofs.YtkfcflflgecljaaW.PrintWords Go.Proofs.YtkfcflflgecljaaW.PrintLast
theorem dropS.calls (d : Nat) : DropAtS d := by
  induction d with
  | zero => exact drop0S
  | succ d ih =>
    intro own H lo t at_ w hH ho hn hr h1
    have h1' := h1 (by omega)
    have hes := own_rise ho.kids hr
    obtain ⟨L, R, he, hl, hL, hR, hcc⟩ := cut_at t.es hes at_
    obtain ⟨A, k, B, hs, hA, hB⟩ := kid_at ho.2.1 he
    by_cases hc : (t.es.map Prod.fst).contains at_ = true
    · obtain ⟨u, R', rfl⟩ := hcc.1 hc
      obtain ⟨q, B', rfl⟩ : ∃ q B', B = q :: B' := by
        cases B with
        | nil => simp at hB
        | cons q B' => exact ⟨q, B', rfl⟩
      have hB' : B'.length = R'.length := by simpa using hB
      by_cases hk : 3 < k.es.length
      · exact drop2S d lo ih t k q at_ u L R' A B' w hH ho hn hr he hl hs hA hB' hc hk
      by_cases hq : 3 < q.es.length
      · exact drop3S d lo ih t k q at_ u L R' A B' w hH ho hn hr he hl hs hA hB' hc (by omega) hq
      · exact drop4S d lo ih t k q at_ u L R' A B' w hH ho hn hr he hl hs hA hB' hL hc (by omega) (by omega)
    · have hcf : (t.es.map Prod.fst).contains at_ = false := by simpa using hc
      have hgt := gt_of_not (hes.sub (by rw [he]; exact List.sublist_append_right _ _)) hR (fun h => hc (hcc.2 h))
      exact drop1S d lo ih t k at_ L R A B w hH ho hn hr h1' he hl hs hA hB hL hgt hcf
end Go.Proofs.Ytkfcflflgecljaa.H
