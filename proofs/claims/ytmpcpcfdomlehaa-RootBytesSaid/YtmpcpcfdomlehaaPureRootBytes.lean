/- The law RootBytes, in plain words: roots as contents, and contents as roots, are as the document says. -/
import Derived.Test.YtmpcpcfdomlehaaQ10
import Derived.Test.YtmpcpcfdomlehaaPRootD
set_option linter.unusedVariables false
namespace Go.Proofs.Ytmpcpcfdomlehaa.Pure
open Go.RowKit Go.Proofs.Ytmpcpcfdomlehaa.P Go.Proofs.Ytmpcpcfdomlehaa.H Go.Proofs.Ytmpcpcfdomlehaa.Q Go.Proofs.YtmpcpcfdomlehaaW.PrintWords Go.Proofs.YtmpcpcfdomlehaaW.PrintLast Go.Proofs.YtmpcpcfdomlehaaW.PrintMore
theorem RootBytes : nautiluslaw16_RootBytes.Pure := by
  intro a b d c s ha hb hd _ hc _ hs
  refine ⟨9000, ?_⟩
  obtain ⟨n, en, n1, n2⟩ := cut_at d
  obtain ⟨m, em, m1, m2⟩ := cut_at c
  have l1 : (d.take n).length = n := by rw [List.length_take]; omega
  have l2 : (c.take m).length = m := by rw [List.length_take]; omega
  have ha := u64_range ha
  have hb := u64_range hb
  obtain ⟨g1, g2⟩ := decV_len s
  unfold nautiluslaw16_RootBytes.f
  rw [shown_f _ (by omega), Option.bind_some, en, em, if_pos (by omega), if_pos (by omega), if_pos (by omega), if_pos (by omega), Int.toNat_natCast, Int.toNat_natCast]
  generalize d.take n = D at l1 ⊢
  generalize c.take m = C at l2 ⊢
  rw [encode_f _ _ _ _ ha hb, Option.bind_some, refEncode_f _ _ _ _ ha hb (by omega) (by omega) _ (by omega), Option.bind_some, decode_f _ _ (by omega), Option.bind_some, refDecode_f _ _ (by omega), Option.bind_some, if_pos rfl,
    right_f, Option.bind_some, refRight_f _ _ _ _ ha (by omega) (by omega) _ (by omega), Option.bind_some, if_pos (by simp), if_pos rfl, if_pos rfl, same_f _ _ _ _ _ _ _ _ g1 g2 _ (by omega), Option.bind_some]
  simp
end Go.Proofs.Ytmpcpcfdomlehaa.Pure
