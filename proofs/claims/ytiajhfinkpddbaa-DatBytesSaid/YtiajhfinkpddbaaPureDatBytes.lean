/- The law DatBytes, in plain words: tables as blocks, and how many lie in each segment, are the document's. -/
import Derived.Test.YtiajhfinkpddbaaQ15
import Derived.Test.YtiajhfinkpddbaaPDatB
set_option linter.unusedVariables false
namespace Go.Proofs.Ytiajhfinkpddbaa.Pure
open Go.RowKit Go.Proofs.Ytiajhfinkpddbaa.P Go.Proofs.Ytiajhfinkpddbaa.H Go.Proofs.Ytiajhfinkpddbaa.Q Go.Proofs.YtiajhfinkpddbaaW.PrintWords Go.Proofs.YtiajhfinkpddbaaW.PrintLast
theorem DatBytes : nautiluslaw08_DatBytes.Pure := by
  intro l0 s hl0 hw _
  obtain ⟨l, hl, hlw, hle⟩ : ∃ l : List E, l0.take (min l0.length 2000) = l ∧ (∀ x ∈ l, 0 ≤ x.f0 ∧ x.f0 < 4294967296) ∧ l.length ≤ 2000 := by
    refine ⟨_, rfl, fun x hx => u32_wf (hw x (List.mem_of_mem_take hx)).1, ?_⟩
    rw [List.length_take]; omega
  obtain ⟨k0, hk0⟩ := refEncode_f l (by omega)
  refine ⟨k0 + 200000, ?_⟩
  have hen : (encodeV l).1.length ≤ 100000 := by
    unfold encodeV
    split
    · simp [encN, partN]; omega
    · simp
  have hcl := counts_len l s
  unfold nautiluslaw08_DatBytes.f
  rw [shown_f _ (by omega), Option.bind_some, cut_e, if_pos (by omega), if_pos (by omega), Option.bind_some]
  simp only [Int.toNat_natCast]
  rw [hl, encode_f l (by omega), Option.bind_some, hk0 _ (by omega), Option.bind_some, counts_f l s (by omega) hlw _ (by omega), Option.bind_some, refCounts_f l s (by omega) hlw _ (by omega), Option.bind_some,
    if_pos rfl, sameTexts_f _ (by omega) _ (by omega), Option.bind_some, if_pos rfl, if_pos trivial, sameInts_f _ (by omega) _ (by omega), Option.bind_some, if_pos rfl]
  simp
end Go.Proofs.Ytiajhfinkpddbaa.Pure
