/- What Wrap and Unwrap answer. -/
import Derived.Test.YthgefgjaihagoaaQ13
import Derived.Test.YthgefgjaihagoaaHNum
import Derived.Test.YthgefgjaihagoaaQ13
set_option linter.unusedVariables false
namespace Go.Proofs.Ythgefgjaihagoaa.Q
open Go.RowKit Go.Proofs.Ythgefgjaihagoaa.H Go.Proofs.YthgefgjaihagoaaW.PrintWords
def preB : ByteArray := ⟨#[80, 0, 0, 0]⟩
def padB (c : ByteArray) : ByteArray := c ++ zerosB (508 - c.size)
def wrapB (c : ByteArray) : ByteArray := preB ++ padB c
theorem zerosB_size (n : Nat) : (zerosB n).size = n := by
  show (List.replicate n (0 : UInt8)).toArray.size = n
  simp
theorem padB_size (c : ByteArray) (h : c.size ≤ 508) : (padB c).size = 508 := by
  unfold padB; rw [ByteArray.size_append, zerosB_size]; omega
theorem wrapB_size (c : ByteArray) (h : c.size ≤ 508) : (wrapB c).size = 512 := by
  unfold wrapB; rw [ByteArray.size_append, padB_size c h]; rfl
theorem wrap_yes (c : ByteArray) (h : c.size ≤ 508) : record_Wrap.f c = some (wrapB c, 0) := by
  have h4 : (⟨#[80, 0, 0, 0]⟩ : ByteArray).size = 4 := rfl
  unfold record_Wrap.f num_Fit.f
  rw [if_neg (by omega), if_pos (by omega), if_neg (by rw [ByteArray.size_append, h4]; omega), if_neg (by rw [ByteArray.size_append, h4]; omega), if_neg (by omega), Option.bind_some]
  unfold wrapB padB preB
  rw [ByteArray.append_assoc, ByteArray.size_append, h4, show (512 - ((4 + c.size : Nat) : Int)).toNat = 508 - c.size by omega]
theorem wrap_no (c : ByteArray) (h : 508 < c.size) : record_Wrap.f c = some (⟨#[]⟩, 70) := by
  unfold record_Wrap.f
  rw [if_pos (by omega)]
theorem unwrap_yes (c : ByteArray) (h : c.size ≤ 508) : record_Unwrap.f (wrapB c) = some (padB c, 0) := by
  have h4 : (⟨#[80, 0, 0, 0]⟩ : ByteArray).size = 4 := rfl
  have h5 := wrapB_size c h
  have e1 : (wrapB c).extract 0 4 = ⟨#[80, 0, 0, 0]⟩ := by unfold wrapB preB; exact ByteArray.extract_append_eq_left rfl
  have e2 : (wrapB c).extract 4 512 = padB c := by unfold wrapB preB; exact ByteArray.extract_append_eq_right rfl (by rw [padB_size c h]; rfl)
  unfold record_Unwrap.f strings_CutPrefix.f stringslite_CutPrefix.f stringslite_HasPrefix.f
  rw [h4, h5]
  simp only [Int.toNat_natCast, e1, e2]
  simp
theorem padB_cut (c : ByteArray) : (padB c).extract 0 c.size = c := by
  unfold padB; exact ByteArray.extract_append_eq_left rfl
theorem shown_true : nautilustop_shownTables.f = some true := by kernel_rfl
end Go.Proofs.Ythgefgjaihagoaa.Q
