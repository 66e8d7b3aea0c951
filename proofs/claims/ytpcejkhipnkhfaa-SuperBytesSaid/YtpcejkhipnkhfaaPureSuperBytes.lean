/- The law SuperBytes, in plain words: super blocks as bytes, and bytes as super blocks, are the document's. -/
import Derived.Test.YtpcejkhipnkhfaaQ15
import Derived.Test.YtpcejkhipnkhfaaPSup
set_option linter.unusedVariables false
namespace Go.Proofs.Ytpcejkhipnkhfaa.Pure
open Go.RowKit Go.Proofs.Ytpcejkhipnkhfaa.P Go.Proofs.Ytpcejkhipnkhfaa.H Go.Proofs.Ytpcejkhipnkhfaa.Q Go.Proofs.YtpcejkhipnkhfaaW.PrintWords Go.Proofs.YtpcejkhipnkhfaaW.PrintLast
theorem SuperBytes : nautiluslaw05_SuperBytes.Pure := by
  intro a b c d x h0 h1 h2 h3 hx
  refine ⟨12, ?_⟩
  unfold nautiluslaw05_SuperBytes.f
  rw [shown_f, Option.bind_some, encode_f, Option.bind_some, refEncode_f a b c d 12 (by omega), Option.bind_some, decode_f x hx, Option.bind_some, refDecode_f x hx 12 (by omega), Option.bind_some,
    if_pos rfl, right_f, Option.bind_some, refRight_f, Option.bind_some]
  simp
end Go.Proofs.Ytpcejkhipnkhfaa.Pure
