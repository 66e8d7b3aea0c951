/- The law RootBack, in plain words: a root is read from its content as it was, and a content that is read is written so again. -/
import Derived.Test.YtmpcpcfdomlehaaQ11
import Derived.Test.YtmpcpcfdomlehaaPRootL
set_option linter.unusedVariables false
namespace Go.Proofs.Ytmpcpcfdomlehaa.Pure
open Go.RowKit Go.Proofs.Ytmpcpcfdomlehaa.P Go.Proofs.Ytmpcpcfdomlehaa.H Go.Proofs.Ytmpcpcfdomlehaa.Q Go.Proofs.YtmpcpcfdomlehaaW.PrintWords Go.Proofs.YtmpcpcfdomlehaaW.PrintLast Go.Proofs.YtmpcpcfdomlehaaW.PrintMore
theorem RootBack : nautiluslaw16_RootBack.Pure := by
  intro a b d c s ha hb hd _ hc _ hs
  refine ⟨9000, ?_⟩
  obtain ⟨n, en, n1, n2⟩ := cut_at d
  obtain ⟨m, em, m1, m2⟩ := cut_at c
  have l1 : (d.take n).length = n := by rw [List.length_take]; omega
  have l2 : (c.take m).length = m := by rw [List.length_take]; omega
  have ha := u64_range ha
  have hb := u64_range hb
  obtain ⟨g1, g2⟩ := decV_pos s
  unfold nautiluslaw16_RootBack.f
  rw [shown_f _ (by omega), Option.bind_some, en, em, if_pos (by omega), if_pos (by omega), if_pos (by omega), if_pos (by omega), Int.toNat_natCast, Int.toNat_natCast]
  generalize d.take n = D at l1 ⊢
  generalize c.take m = C at l2 ⊢
  rw [encode_f _ _ _ _ ha hb, Option.bind_some, decode_f _ _ (by omega), Option.bind_some, decode_f _ _ (by omega), Option.bind_some, encode_f _ _ _ _ g1 g2, Option.bind_some, if_pos rfl, right_f, Option.bind_some]
  have tail : (if (decV s).2.2.2.2 = 0 then (if (encV (decV s).1 (decV s).2.1 (decV s).2.2.1 (decV s).2.2.2.1).2 = 0 then some ((encV (decV s).1 (decV s).2.1 (decV s).2.2.1 (decV s).2.2.2.1).1.toList == s.toList) else none) else some true) = some true := by
    by_cases h : (decV s).2.2.2.2 = 0
    · rw [if_pos h, dec_back s h]; simp
    · rw [if_neg h]
  by_cases hr : rightV a b D C = true
  · have e : encV a b D C = (rootB a b D C, 0) := by unfold encV; rw [if_pos hr]
    obtain ⟨r1, r2, r3, r4, r5⟩ := right_facts hr
    rw [e, hr]
    show (if ((0 : Int) == 0) == true then (if (0 : Int) = 0 then (if (decV (rootB a b D C)).2.2.2.2 = 0 then _ else _) else _) else _) = _
    rw [if_pos (by rfl), if_pos rfl, decode_own ha hb hr, if_pos rfl]
    show (nautilusref16_Same.f 9000 a b D C a b D C).bind _ = _
    rw [same_f _ _ _ _ _ _ _ _ (by omega) (by omega) _ (by omega), Option.bind_some, if_pos (by simp), if_pos (by rw [rootB_size _ _ _ _ (by omega)]; rfl)]
    exact tail
  · have e : encV a b D C = (⟨#[]⟩, 153) := by unfold encV; rw [if_neg hr]
    rw [e, show rightV a b D C = false by simpa using hr]
    show (if ((153 : Int) == 0) == false then (if (153 : Int) = 0 then _ else _) else _) = _
    rw [if_pos (by rfl), if_neg (by decide)]
    exact tail
end Go.Proofs.Ytmpcpcfdomlehaa.Pure
