/- What the head of every law of layer 1 comes to, and what Text answers. -/
import Derived.Test.YtigpedehlpdagaaQ1
import Derived.Test.YtigpedehlpdagaaPNum
import Derived.KernelRfl
namespace Go.Proofs.Ytigpedehlpdagaa.P
open Go.RowKit Go.Proofs.Ytigpedehlpdagaa.H Go.Proofs.Ytigpedehlpdagaa.Q Go.Proofs.YtigpedehlpdagaaW.PrintWords Go.Proofs.YtigpedehlpdagaaW.PrintLast Go.Proofs.YtigpedehlpdagaaW.PrintMore

def textV (s : ByteArray) : ByteArray × Int := if 65535 < s.size then (⟨#[]⟩, 2) else (leB s.size 2 ++ s, 0)
theorem text_f (s : ByteArray) : num_Text.f s = some (textV s) := by unfold num_Text.f textV; split <;> rfl
theorem put_shown : putV 258 3 = (⟨#[2, 1, 0]⟩, 0) := by decide +kernel
theorem text_shown : textV ⟨#[97, 98]⟩ = (⟨#[2, 0, 97, 98]⟩, 0) := by decide +kernel
theorem shown_f : nautiluslaw01_shown.f = some true := by
  unfold nautiluslaw01_shown.f
  rw [put_f 258 3 (by omega) (by omega), text_f, put_shown, text_shown]
  simp only [Option.bind_some, if_true]
  rw [ByteArray.toList_eq, ByteArray.toList_eq]
  rfl
end Go.Proofs.Ytigpedehlpdagaa.P
