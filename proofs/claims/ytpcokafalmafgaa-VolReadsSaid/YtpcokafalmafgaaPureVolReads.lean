/- Plain laws of layer 10: an inode is read as it was. -/
import Derived.Test.YtpcokafalmafgaaPIno
import Derived.Test.YtpcokafalmafgaaPVal
import Derived.Test.YtpcokafalmafgaaPVolT
import Derived.Test.YtpcokafalmafgaaQ22
import Derived.Test.YtpcokafalmafgaaPVolI
set_option linter.unusedVariables false
set_option linter.unusedSimpArgs false
set_option maxRecDepth 100000
namespace Go.Proofs.Ytpcokafalmafgaa.P
open Go.RowKit Go.Proofs.Ytpcokafalmafgaa.H Go.Proofs.Ytpcokafalmafgaa.Q Go.Proofs.YtpcokafalmafgaaW.PrintWords Go.Proofs.YtpcokafalmafgaaW.PrintLast Go.Proofs.YtpcokafalmafgaaW.PrintMore

/-! ### An inode is read as it was -/
theorem valB_list (p q : List UInt8) (n : Int) (w at_ : Nat) (hp : p.length = at_) (h0 : 0 ≤ n) (h1 : n < 256 ^ w) : valB ⟨(p ++ lowBytes n w ++ q).toArray⟩ at_ w = n := by
 have h := valB_put ⟨p.toArray⟩ ⟨q.toArray⟩ n w h0 h1
 have hs : (⟨p.toArray⟩ : ByteArray).size = at_ := by rw [← hp]; rfl
 rw [hs] at h
 refine Eq.trans ?_ h
 congr 1
theorem inoN_inoB (a0 a1 a2 a3 a4 a5 a6 a7 a8 a9 a10 a11 : Int) (h : inoOk a0 a1 a2 a3 a4 a5 a6 a7 a8 a9 a10 a11) : inoN (inoB a0 a1 a2 a3 a4 a5 a6 a7 a8 a9 a10 a11) 0 = a0 ∧ inoN (inoB a0 a1 a2 a3 a4 a5 a6 a7 a8 a9 a10 a11) 1 = a1 ∧ inoN (inoB a0 a1 a2 a3 a4 a5 a6 a7 a8 a9 a10 a11) 2 = a2 ∧ inoN (inoB a0 a1 a2 a3 a4 a5 a6 a7 a8 a9 a10 a11) 3 = a3 ∧ inoN (inoB a0 a1 a2 a3 a4 a5 a6 a7 a8 a9 a10 a11) 4 = a4 ∧ inoN (inoB a0 a1 a2 a3 a4 a5 a6 a7 a8 a9 a10 a11) 5 = a5 ∧ inoN (inoB a0 a1 a2 a3 a4 a5 a6 a7 a8 a9 a10 a11) 6 = a6 ∧ inoN (inoB a0 a1 a2 a3 a4 a5 a6 a7 a8 a9 a10 a11) 7 = a7 ∧ inoN (inoB a0 a1 a2 a3 a4 a5 a6 a7 a8 a9 a10 a11) 8 = a8 ∧ inoN (inoB a0 a1 a2 a3 a4 a5 a6 a7 a8 a9 a10 a11) 9 = a9 ∧ inoN (inoB a0 a1 a2 a3 a4 a5 a6 a7 a8 a9 a10 a11) 10 = a10 ∧ inoN (inoB a0 a1 a2 a3 a4 a5 a6 a7 a8 a9 a10 a11) 11 = a11 := by
 unfold inoOk at h
 refine ⟨?_, ?_, ?_, ?_, ?_, ?_, ?_, ?_, ?_, ?_, ?_, ?_⟩
 ·show valB (inoB a0 a1 a2 a3 a4 a5 a6 a7 a8 a9 a10 a11) 0 1 = a0
  rw [show inoB a0 a1 a2 a3 a4 a5 a6 a7 a8 a9 a10 a11 = ⟨(([] : List UInt8) ++ lowBytes a0 1 ++ (lowBytes a1 2 ++ lowBytes a2 2 ++ lowBytes a3 4 ++ lowBytes a4 6 ++ lowBytes a5 1 ++ lowBytes a6 4 ++ lowBytes a7 4 ++ lowBytes a8 4 ++ lowBytes a9 4 ++ lowBytes a10 4 ++ lowBytes a11 4 ++ [0, 0] : List UInt8)).toArray⟩ by unfold inoB inoL; apply ByteArray.ext; simp]
  exact valB_list _ _ _ _ _ (by simp [lowBytes_length]) (by omega) (by rw [show (256 : Int) ^ 1 = 256 by decide]; omega)
 ·show valB (inoB a0 a1 a2 a3 a4 a5 a6 a7 a8 a9 a10 a11) 1 2 = a1
  rw [show inoB a0 a1 a2 a3 a4 a5 a6 a7 a8 a9 a10 a11 = ⟨((lowBytes a0 1 : List UInt8) ++ lowBytes a1 2 ++ (lowBytes a2 2 ++ lowBytes a3 4 ++ lowBytes a4 6 ++ lowBytes a5 1 ++ lowBytes a6 4 ++ lowBytes a7 4 ++ lowBytes a8 4 ++ lowBytes a9 4 ++ lowBytes a10 4 ++ lowBytes a11 4 ++ [0, 0] : List UInt8)).toArray⟩ by unfold inoB inoL; apply ByteArray.ext; simp]
  exact valB_list _ _ _ _ _ (by simp [lowBytes_length]) (by omega) (by rw [show (256 : Int) ^ 2 = 65536 by decide]; omega)
 ·show valB (inoB a0 a1 a2 a3 a4 a5 a6 a7 a8 a9 a10 a11) 3 2 = a2
  rw [show inoB a0 a1 a2 a3 a4 a5 a6 a7 a8 a9 a10 a11 = ⟨((lowBytes a0 1 ++ lowBytes a1 2 : List UInt8) ++ lowBytes a2 2 ++ (lowBytes a3 4 ++ lowBytes a4 6 ++ lowBytes a5 1 ++ lowBytes a6 4 ++ lowBytes a7 4 ++ lowBytes a8 4 ++ lowBytes a9 4 ++ lowBytes a10 4 ++ lowBytes a11 4 ++ [0, 0] : List UInt8)).toArray⟩ by unfold inoB inoL; apply ByteArray.ext; simp]
  exact valB_list _ _ _ _ _ (by simp [lowBytes_length]) (by omega) (by rw [show (256 : Int) ^ 2 = 65536 by decide]; omega)
 ·show valB (inoB a0 a1 a2 a3 a4 a5 a6 a7 a8 a9 a10 a11) 5 4 = a3
  rw [show inoB a0 a1 a2 a3 a4 a5 a6 a7 a8 a9 a10 a11 = ⟨((lowBytes a0 1 ++ lowBytes a1 2 ++ lowBytes a2 2 : List UInt8) ++ lowBytes a3 4 ++ (lowBytes a4 6 ++ lowBytes a5 1 ++ lowBytes a6 4 ++ lowBytes a7 4 ++ lowBytes a8 4 ++ lowBytes a9 4 ++ lowBytes a10 4 ++ lowBytes a11 4 ++ [0, 0] : List UInt8)).toArray⟩ by unfold inoB inoL; apply ByteArray.ext; simp]
  exact valB_list _ _ _ _ _ (by simp [lowBytes_length]) (by omega) (by rw [show (256 : Int) ^ 4 = 4294967296 by decide]; omega)
 ·show valB (inoB a0 a1 a2 a3 a4 a5 a6 a7 a8 a9 a10 a11) 9 6 = a4
  rw [show inoB a0 a1 a2 a3 a4 a5 a6 a7 a8 a9 a10 a11 = ⟨((lowBytes a0 1 ++ lowBytes a1 2 ++ lowBytes a2 2 ++ lowBytes a3 4 : List UInt8) ++ lowBytes a4 6 ++ (lowBytes a5 1 ++ lowBytes a6 4 ++ lowBytes a7 4 ++ lowBytes a8 4 ++ lowBytes a9 4 ++ lowBytes a10 4 ++ lowBytes a11 4 ++ [0, 0] : List UInt8)).toArray⟩ by unfold inoB inoL; apply ByteArray.ext; simp]
  exact valB_list _ _ _ _ _ (by simp [lowBytes_length]) (by omega) (by rw [show (256 : Int) ^ 6 = 281474976710656 by decide]; omega)
 ·show valB (inoB a0 a1 a2 a3 a4 a5 a6 a7 a8 a9 a10 a11) 15 1 = a5
  rw [show inoB a0 a1 a2 a3 a4 a5 a6 a7 a8 a9 a10 a11 = ⟨((lowBytes a0 1 ++ lowBytes a1 2 ++ lowBytes a2 2 ++ lowBytes a3 4 ++ lowBytes a4 6 : List UInt8) ++ lowBytes a5 1 ++ (lowBytes a6 4 ++ lowBytes a7 4 ++ lowBytes a8 4 ++ lowBytes a9 4 ++ lowBytes a10 4 ++ lowBytes a11 4 ++ [0, 0] : List UInt8)).toArray⟩ by unfold inoB inoL; apply ByteArray.ext; simp]
  exact valB_list _ _ _ _ _ (by simp [lowBytes_length]) (by omega) (by rw [show (256 : Int) ^ 1 = 256 by decide]; omega)
 ·show valB (inoB a0 a1 a2 a3 a4 a5 a6 a7 a8 a9 a10 a11) 16 4 = a6
  rw [show inoB a0 a1 a2 a3 a4 a5 a6 a7 a8 a9 a10 a11 = ⟨((lowBytes a0 1 ++ lowBytes a1 2 ++ lowBytes a2 2 ++ lowBytes a3 4 ++ lowBytes a4 6 ++ lowBytes a5 1 : List UInt8) ++ lowBytes a6 4 ++ (lowBytes a7 4 ++ lowBytes a8 4 ++ lowBytes a9 4 ++ lowBytes a10 4 ++ lowBytes a11 4 ++ [0, 0] : List UInt8)).toArray⟩ by unfold inoB inoL; apply ByteArray.ext; simp]
  exact valB_list _ _ _ _ _ (by simp [lowBytes_length]) (by omega) (by rw [show (256 : Int) ^ 4 = 4294967296 by decide]; omega)
 ·show valB (inoB a0 a1 a2 a3 a4 a5 a6 a7 a8 a9 a10 a11) 20 4 = a7
  rw [show inoB a0 a1 a2 a3 a4 a5 a6 a7 a8 a9 a10 a11 = ⟨((lowBytes a0 1 ++ lowBytes a1 2 ++ lowBytes a2 2 ++ lowBytes a3 4 ++ lowBytes a4 6 ++ lowBytes a5 1 ++ lowBytes a6 4 : List UInt8) ++ lowBytes a7 4 ++ (lowBytes a8 4 ++ lowBytes a9 4 ++ lowBytes a10 4 ++ lowBytes a11 4 ++ [0, 0] : List UInt8)).toArray⟩ by unfold inoB inoL; apply ByteArray.ext; simp]
  exact valB_list _ _ _ _ _ (by simp [lowBytes_length]) (by omega) (by rw [show (256 : Int) ^ 4 = 4294967296 by decide]; omega)
 ·show valB (inoB a0 a1 a2 a3 a4 a5 a6 a7 a8 a9 a10 a11) 24 4 = a8
  rw [show inoB a0 a1 a2 a3 a4 a5 a6 a7 a8 a9 a10 a11 = ⟨((lowBytes a0 1 ++ lowBytes a1 2 ++ lowBytes a2 2 ++ lowBytes a3 4 ++ lowBytes a4 6 ++ lowBytes a5 1 ++ lowBytes a6 4 ++ lowBytes a7 4 : List UInt8) ++ lowBytes a8 4 ++ (lowBytes a9 4 ++ lowBytes a10 4 ++ lowBytes a11 4 ++ [0, 0] : List UInt8)).toArray⟩ by unfold inoB inoL; apply ByteArray.ext; simp]
  exact valB_list _ _ _ _ _ (by simp [lowBytes_length]) (by omega) (by rw [show (256 : Int) ^ 4 = 4294967296 by decide]; omega)
 ·show valB (inoB a0 a1 a2 a3 a4 a5 a6 a7 a8 a9 a10 a11) 28 4 = a9
  rw [show inoB a0 a1 a2 a3 a4 a5 a6 a7 a8 a9 a10 a11 = ⟨((lowBytes a0 1 ++ lowBytes a1 2 ++ lowBytes a2 2 ++ lowBytes a3 4 ++ lowBytes a4 6 ++ lowBytes a5 1 ++ lowBytes a6 4 ++ lowBytes a7 4 ++ lowBytes a8 4 : List UInt8) ++ lowBytes a9 4 ++ (lowBytes a10 4 ++ lowBytes a11 4 ++ [0, 0] : List UInt8)).toArray⟩ by unfold inoB inoL; apply ByteArray.ext; simp]
  exact valB_list _ _ _ _ _ (by simp [lowBytes_length]) (by omega) (by rw [show (256 : Int) ^ 4 = 4294967296 by decide]; omega)
 ·show valB (inoB a0 a1 a2 a3 a4 a5 a6 a7 a8 a9 a10 a11) 32 4 = a10
  rw [show inoB a0 a1 a2 a3 a4 a5 a6 a7 a8 a9 a10 a11 = ⟨((lowBytes a0 1 ++ lowBytes a1 2 ++ lowBytes a2 2 ++ lowBytes a3 4 ++ lowBytes a4 6 ++ lowBytes a5 1 ++ lowBytes a6 4 ++ lowBytes a7 4 ++ lowBytes a8 4 ++ lowBytes a9 4 : List UInt8) ++ lowBytes a10 4 ++ (lowBytes a11 4 ++ [0, 0] : List UInt8)).toArray⟩ by unfold inoB inoL; apply ByteArray.ext; simp]
  exact valB_list _ _ _ _ _ (by simp [lowBytes_length]) (by omega) (by rw [show (256 : Int) ^ 4 = 4294967296 by decide]; omega)
 ·show valB (inoB a0 a1 a2 a3 a4 a5 a6 a7 a8 a9 a10 a11) 36 4 = a11
  rw [show inoB a0 a1 a2 a3 a4 a5 a6 a7 a8 a9 a10 a11 = ⟨((lowBytes a0 1 ++ lowBytes a1 2 ++ lowBytes a2 2 ++ lowBytes a3 4 ++ lowBytes a4 6 ++ lowBytes a5 1 ++ lowBytes a6 4 ++ lowBytes a7 4 ++ lowBytes a8 4 ++ lowBytes a9 4 ++ lowBytes a10 4 : List UInt8) ++ lowBytes a11 4 ++ ([0, 0] : List UInt8)).toArray⟩ by unfold inoB inoL; apply ByteArray.ext; simp]
  exact valB_list _ _ _ _ _ (by simp [lowBytes_length]) (by omega) (by rw [show (256 : Int) ^ 4 = 4294967296 by decide]; omega)
theorem dec_enc (a0 a1 a2 a3 a4 a5 a6 a7 a8 a9 a10 a11 : Int) (hw : inoWf a0 a1 a2 a3 a4 a5 a6 a7 a8 a9 a10 a11) (hr : rightV a0 a1 a2 a3 a4 a5 a6 a7 a8 a9 a10 a11 = true) : decV (inoB a0 a1 a2 a3 a4 a5 a6 a7 a8 a9 a10 a11) = (a0, a1, a2, a3, a4, a5, a6, a7, a8, a9, a10, a11, 0) := by
 have hok := right_ok a0 a1 a2 a3 a4 a5 a6 a7 a8 a9 a10 a11 hw hr
 obtain ⟨h0, h1, h2, h3, h4, h5, h6, h7, h8, h9, h10, h11⟩ := inoN_inoB a0 a1 a2 a3 a4 a5 a6 a7 a8 a9 a10 a11 hok
 unfold decV
 rw [inoB_size]
 rw [h0, h1, h2, h3, h4, h5, h6, h7, h8, h9, h10, h11]
 rw [if_pos ⟨rfl, hr, rfl⟩]
end Go.Proofs.Ytpcokafalmafgaa.P

set_option linter.unusedVariables false
set_option linter.unusedSimpArgs false
set_option maxRecDepth 100000
namespace Go.Proofs.Ytpcokafalmafgaa.P
open Go.RowKit Go.Proofs.Ytpcokafalmafgaa.H Go.Proofs.Ytpcokafalmafgaa.Q Go.Proofs.YtpcokafalmafgaaW.PrintWords Go.Proofs.YtpcokafalmafgaaW.PrintLast Go.Proofs.YtpcokafalmafgaaW.PrintMore
theorem extract_mid (p q r : ByteArray) : (p ++ q ++ r).extract p.size (p.size + q.size) = q := by
 apply ByteArray.ext
 rw [ByteArray.data_extract]
 apply Array.toList_inj.1
 rw [Array.toList_extract, ByteArray.data_append, ByteArray.data_append, Array.toList_append, Array.toList_append]
 have e1 : p.data.toList.length = p.size := by rw [Array.length_toList]; rfl
 have e2 : q.data.toList.length = q.size := by rw [Array.length_toList]; rfl
 rw [List.extract_eq_take_drop, List.append_assoc, List.drop_append_of_le_length (by omega), ← e1, List.drop_length, List.nil_append, Nat.add_sub_cancel_left, ← e2, List.take_append_of_le_length (Nat.le_refl _), List.take_length]
theorem bytes_ext {s t : ByteArray} (hs : s.size = t.size) (h : ∀ i, i < s.size → s.data.toList[i]? = t.data.toList[i]?) : s = t := by
 apply ByteArray.ext
 apply Array.toList_inj.1
 apply List.ext_getElem?
 intro i
 by_cases hi : i < s.size
 ·exact h i hi
 ·rw [List.getElem?_eq_none (by rw [Array.length_toList]; show s.size ≤ i; omega), List.getElem?_eq_none (by rw [Array.length_toList]; show t.size ≤ i; omega)]
theorem extract_get (s : ByteArray) (a b i : Nat) (hb : b ≤ s.size) (hi : a + i < b) : (s.extract a b).data.toList[i]? = s.data.toList[a + i]? := by
 rw [ByteArray.data_extract, Array.toList_extract, List.extract_eq_take_drop, List.getElem?_take_of_lt (by omega), List.getElem?_drop]
/-- What is put at one place leaves the others. -/
theorem extract_other (s b : ByteArray) (k o : Nat) (hs : s.size = 508) (hb : b.size = 42) (hk : k < 12) (ho : o < 12) (hne : o ≠ k) :
  (s.extract 0 (42 * k) ++ b ++ s.extract (42 * k + 42) s.size).extract (42 * o) (42 * o + 42) = s.extract (42 * o) (42 * o + 42) := by
 have z1 : (s.extract 0 (42 * k)).size = 42 * k := by rw [ByteArray.size_extract]; omega
 have z2 : (s.extract (42 * k + 42) s.size).size = 508 - (42 * k + 42) := by rw [ByteArray.size_extract]; omega
 have z3 : (s.extract 0 (42 * k) ++ b).size = 42 * k + 42 := by rw [ByteArray.size_append, z1, hb]
 have z : (s.extract 0 (42 * k) ++ b ++ s.extract (42 * k + 42) s.size).size = 508 := by rw [ByteArray.size_append, z3, z2]; omega
 apply bytes_ext
 ·rw [ByteArray.size_extract, ByteArray.size_extract, z, hs]
 ·intro i hi
  rw [ByteArray.size_extract, z] at hi
  rw [extract_get _ _ _ _ (by omega) (by omega), extract_get s _ _ _ (by omega) (by omega), ByteArray.data_append, ByteArray.data_append, Array.toList_append, Array.toList_append]
  have l1 : (s.extract 0 (42 * k)).data.toList.length = 42 * k := by rw [Array.length_toList]; exact z1
  have l2 : b.data.toList.length = 42 := by rw [Array.length_toList]; exact hb
  by_cases h : o < k
  ·rw [List.getElem?_append_left (by rw [List.length_append, l1, l2]; omega), List.getElem?_append_left (by omega), extract_get s _ _ _ (by omega) (by omega), Nat.zero_add]
  ·rw [List.getElem?_append_right (by rw [List.length_append, l1, l2]; omega), List.length_append, l1, l2, extract_get s _ _ _ (by omega) (by omega)]
   rw [show 42 * k + 42 + (42 * o + i - (42 * k + 42)) = 42 * o + i by omega]

def tupI (x : S42) : Int × Int × Int × Int × Int × Int × Int × Int × Int × Int × Int × Int × Int := (x.f0, x.f1, x.f2, x.f3, x.f4, x.f5, x.f6.f0, x.f6.f1, x.f6.f2, x.f6.f3, x.f6.f4, x.f6.f5, 0)
def mkI (g : Int × Int × Int × Int × Int × Int × Int × Int × Int × Int × Int × Int × Int) : S42 := (⟨g.1, g.2.1, g.2.2.1, g.2.2.2.1, g.2.2.2.2.1, g.2.2.2.2.2.1, (⟨g.2.2.2.2.2.2.1, g.2.2.2.2.2.2.2.1, g.2.2.2.2.2.2.2.2.1, g.2.2.2.2.2.2.2.2.2.1, g.2.2.2.2.2.2.2.2.2.2.1, g.2.2.2.2.2.2.2.2.2.2.2.1⟩ : S40)⟩ : S42)
theorem mk_tup (x : S42) : mkI (tupI x) = x := rfl
def zI : S42 := (⟨0, 0, 0, 0, 0, 0, (⟨0, 0, 0, 0, 0, 0⟩ : S40)⟩ : S42)
theorem mk_zero : mkI ((0, 0, 0, 0, 0, 0, 0, 0, 0, 0, 0, 0, 0) : Int × Int × Int × Int × Int × Int × Int × Int × Int × Int × Int × Int × Int) = zI := rfl
/-- What stands behind i inodes. -/
def InvB (l : List S42) (i b : Nat) (s : ByteArray) : Prop := s.size = 508 ∧ bareV17 s = true ∧ ∀ k : Nat, k < 12 → inoGetV s (k : Int) = if 12 * b + k < i then tupI (l.getD (12 * b + k) zI) else ((0, 0, 0, 0, 0, 0, 0, 0, 0, 0, 0, 0, 0) : Int × Int × Int × Int × Int × Int × Int × Int × Int × Int × Int × Int × Int)
def InvT (l : List S42) (i : Nat) (out : List ByteArray) : Prop := out.length = (i + 11) / 12 ∧ ∀ (b : Nat) (hb : b < out.length), InvB l i b out[b]
theorem z508_size : (zerosB 508).size = 508 := by simp [zerosB, ByteArray.size]
theorem z42 : inoB 0 0 0 0 0 0 0 0 0 0 0 0 = zerosB 42 := by
 apply ByteArray.ext; apply Array.toList_inj.1; decide
theorem z508_cut (k : Nat) (hk : k < 12) : (zerosB 508).extract (42 * k) (42 * k + 42) = zerosB 42 := by
 apply ByteArray.ext; apply Array.toList_inj.1
 rw [ByteArray.data_extract, Array.toList_extract, List.extract_eq_take_drop]
 simp only [zerosB, List.drop_replicate, List.take_replicate]
 congr 1; omega
theorem dec_zero : decV (zerosB 42) = ((0, 0, 0, 0, 0, 0, 0, 0, 0, 0, 0, 0, 0) : Int × Int × Int × Int × Int × Int × Int × Int × Int × Int × Int × Int × Int) := by
 have := dec_enc 0 0 0 0 0 0 0 0 0 0 0 0 (zero_wf 0 0 (by omega)) (by decide)
 rwa [z42] at this
theorem z508_inv (l : List S42) (i b : Nat) (h : i ≤ 12 * b) : InvB l i b (zerosB 508) := by
 refine ⟨z508_size, ?_, ?_⟩
 ·unfold bareV17
  rw [List.all_eq_true]
  intro x hx
  have := List.mem_of_mem_drop hx
  simp [zerosB] at this
  simp [this]
 ·intro k hk
  rw [if_neg (by omega)]
  unfold inoGetV
  rw [if_pos ⟨z508_size, by omega, by omega⟩, Int.toNat_natCast, z508_cut k hk, dec_zero]
theorem put_bare (s B : ByteArray) (k : Nat) (hk : k < 12) (hs : s.size = 508) (hB : B.size = 42) (h : bareV17 s = true) : bareV17 (s.extract 0 (42 * k) ++ B ++ s.extract (42 * k + 42) s.size) = true := by
 have l1 : (s.extract 0 (42 * k)).data.toList.length = 42 * k := by rw [Array.length_toList]; show (s.extract 0 (42 * k)).size = _; rw [ByteArray.size_extract]; omega
 have l2 : B.data.toList.length = 42 := by rw [Array.length_toList]; exact hB
 have l3 : s.data.toList.length = 508 := by rw [Array.length_toList]; exact hs
 have e : (s.extract 0 (42 * k) ++ B ++ s.extract (42 * k + 42) s.size).data.toList.drop 504 = s.data.toList.drop 504 := by
  rw [ByteArray.data_append, Array.toList_append, List.drop_append, ByteArray.data_append, Array.toList_append, List.drop_of_length_le (by rw [List.length_append, l1, l2]; omega), List.nil_append, List.length_append, l1, l2,
   ByteArray.data_extract, Array.toList_extract, List.extract_eq_take_drop, hs, List.take_of_length_le (by rw [List.length_drop, l3]; omega), List.drop_drop]
  congr 1; omega
 unfold bareV17 at h ⊢
 rw [e]; exact h
theorem put_inv (l : List S42) (i b : Nat) (s : ByteArray) (x : S42) (hb : b = i / 12) (hx : l.getD i zI = x) (hw : wfI x) (h : InvB l i b s) (hr : (inoPutV s ((i % 12 : Nat) : Int) x.f0 x.f1 x.f2 x.f3 x.f4 x.f5 x.f6.f0 x.f6.f1 x.f6.f2 x.f6.f3 x.f6.f4 x.f6.f5).2 = 0) : InvB l (i + 1) b (inoPutV s ((i % 12 : Nat) : Int) x.f0 x.f1 x.f2 x.f3 x.f4 x.f5 x.f6.f0 x.f6.f1 x.f6.f2 x.f6.f3 x.f6.f4 x.f6.f5).1 := by
 obtain ⟨h1, h2, h3⟩ := h
 have hk : i % 12 < 12 := Nat.mod_lt _ (by omega)
 have hi : 12 * b + i % 12 = i := by omega
 have hp : s.size = 508 ∧ (0 : Int) ≤ ((i % 12 : Nat) : Int) ∧ ((i % 12 : Nat) : Int) < 12 := ⟨h1, by omega, by omega⟩
 unfold inoPutV at hr ⊢
 rw [if_pos hp] at hr ⊢
 by_cases hrr : rightV x.f0 x.f1 x.f2 x.f3 x.f4 x.f5 x.f6.f0 x.f6.f1 x.f6.f2 x.f6.f3 x.f6.f4 x.f6.f5 = true
 ·rw [if_pos hrr, Int.toNat_natCast]
  generalize i % 12 = k at hk hi hp ⊢
  have hz := put_size s k x.f0 x.f1 x.f2 x.f3 x.f4 x.f5 x.f6.f0 x.f6.f1 x.f6.f2 x.f6.f3 x.f6.f4 x.f6.f5 hp
  rw [Int.toNat_natCast] at hz
  have hs : (s.extract 0 (42 * k) ++ inoB x.f0 x.f1 x.f2 x.f3 x.f4 x.f5 x.f6.f0 x.f6.f1 x.f6.f2 x.f6.f3 x.f6.f4 x.f6.f5 ++ s.extract (42 * k + 42) s.size).size = 508 := by rw [ByteArray.size_append, ByteArray.size_append, hz.1, hz.2, inoB_size]; omega
  refine ⟨hs, put_bare s _ k hk h1 (inoB_size ..) h2, ?_⟩
  intro j hj
  by_cases hjk : j = k
  ·subst hjk
   rw [if_pos (by omega), hi, hx]
   unfold inoGetV
   rw [if_pos ⟨hs, by omega, by omega⟩, Int.toNat_natCast]
   have := extract_mid (s.extract 0 (42 * j)) (inoB x.f0 x.f1 x.f2 x.f3 x.f4 x.f5 x.f6.f0 x.f6.f1 x.f6.f2 x.f6.f3 x.f6.f4 x.f6.f5) (s.extract (42 * j + 42) s.size)
   rw [hz.1, inoB_size] at this
   rw [this]
   exact dec_enc x.f0 x.f1 x.f2 x.f3 x.f4 x.f5 x.f6.f0 x.f6.f1 x.f6.f2 x.f6.f3 x.f6.f4 x.f6.f5 hw hrr
  ·have := h3 j hj
   unfold inoGetV at this ⊢
   rw [if_pos ⟨h1, by omega, by omega⟩, Int.toNat_natCast] at this
   rw [if_pos ⟨hs, by omega, by omega⟩, Int.toNat_natCast, extract_other s (inoB x.f0 x.f1 x.f2 x.f3 x.f4 x.f5 x.f6.f0 x.f6.f1 x.f6.f2 x.f6.f3 x.f6.f4 x.f6.f5) k j h1 (inoB_size ..) hk hj hjk, this]
   by_cases hl : 12 * b + j < i
   ·rw [if_pos hl, if_pos (by omega)]
   ·rw [if_neg hl, if_neg (by omega)]
 ·rw [if_neg hrr] at hr; cases hr
theorem inv_up {l : List S42} {i b : Nat} {s : ByteArray} (hb : b < i / 12) (h : InvB l i b s) : InvB l (i + 1) b s := by
 refine ⟨h.1, h.2.1, fun k hk => ?_⟩
 rw [h.2.2 k hk, if_pos (by omega), if_pos (by omega)]
theorem tabV_inv (l : List S42) (hw : ∀ x ∈ l, wfI x) : ∀ d i out, i + d = l.length → InvT l i out → (tabV (l.drop i) out i).2 = 0 → InvT l l.length (tabV (l.drop i) out i).1
 | 0, i, out, hi, h, hr => by
  rw [List.drop_of_length_le (by omega)]
  obtain rfl : i = l.length := by omega
  exact h
 | d + 1, i, out, hi, h, hr => by
  have hlt : i < l.length := by omega
  rw [List.drop_eq_getElem_cons hlt] at hr ⊢
  simp only [tabV] at hr ⊢
  have hy : (if i % 12 = 0 then out ++ [zerosB 508] else out).length = i / 12 + 1 ∧ ∀ (b : Nat) (hb : b < (if i % 12 = 0 then out ++ [zerosB 508] else out).length), InvB l i b (if i % 12 = 0 then out ++ [zerosB 508] else out)[b] := by
   have ho := h.1
   by_cases hm : i % 12 = 0
   ·simp only [if_pos hm]
    refine ⟨by rw [List.length_append, List.length_singleton]; omega, fun b hb => ?_⟩
    rw [List.length_append, List.length_singleton] at hb
    by_cases hbo : b < out.length
    ·rw [List.getElem_append_left hbo]; exact h.2 b hbo
    ·rw [List.getElem_append_right (by omega)]
     have : b - out.length = 0 := by omega
     simp only [this, List.getElem_cons_zero]
     exact z508_inv l i b (by omega)
   ·simp only [if_neg hm]
    exact ⟨by omega, h.2⟩
  generalize (if i % 12 = 0 then out ++ [zerosB 508] else out) = y at hy hr ⊢
  by_cases hp : (tabPut y l[i] i).2 = 0
  ·rw [if_pos hp] at hr ⊢
   refine tabV_inv l hw d (i + 1) _ (by omega) ⟨by rw [List.length_set]; omega, fun b hb => ?_⟩ hr
   rw [List.length_set] at hb
   by_cases hbl : b = y.length - 1
   ·subst hbl
    rw [List.getElem_set_self]
    have hg : y.getD (y.length - 1) ByteArray.empty = y[y.length - 1] := by rw [List.getD_eq_getElem?_getD, List.getElem?_eq_getElem hb]; rfl
    unfold tabPut at hp ⊢
    rw [hg] at hp ⊢
    exact put_inv l i (y.length - 1) _ l[i] (by omega) (by rw [List.getD_eq_getElem?_getD, List.getElem?_eq_getElem hlt]; rfl) (hw _ (List.getElem_mem hlt)) (hy.2 _ hb) hp
   ·rw [List.getElem_set_ne (by omega)]
    exact inv_up (by omega) (hy.2 b hb)
  ·rw [if_neg hp] at hr; cases hr
/-! ### Read again -/
def blkL (s : ByteArray) : List S42 := (List.range 12).map fun k => mkI (inoGetV s ((k : Nat) : Int))
theorem blk_all (s : ByteArray) (h : ∀ k : Nat, k < 12 → (inoGetV s (k : Int)).2.2.2.2.2.2.2.2.2.2.2.2 = 0) : ∀ d j acc, j + d = 12 → blkV s d j acc = some (acc ++ (List.range' j d).map fun k => mkI (inoGetV s ((k : Nat) : Int)))
 | 0, j, acc, hj => by simp [blkV]
 | d + 1, j, acc, hj => by
  simp only [blkV]
  rw [if_pos (h j (by omega))]
  have := blk_all s h d (j + 1) (acc ++ [mkI (inoGetV s (j : Int))]) (by omega)
  rw [show ([(⟨(inoGetV s (j : Int)).1, (inoGetV s (j : Int)).2.1, (inoGetV s (j : Int)).2.2.1, (inoGetV s (j : Int)).2.2.2.1, (inoGetV s (j : Int)).2.2.2.2.1, (inoGetV s (j : Int)).2.2.2.2.2.1, (⟨(inoGetV s (j : Int)).2.2.2.2.2.2.1, (inoGetV s (j : Int)).2.2.2.2.2.2.2.1, (inoGetV s (j : Int)).2.2.2.2.2.2.2.2.1, (inoGetV s (j : Int)).2.2.2.2.2.2.2.2.2.1, (inoGetV s (j : Int)).2.2.2.2.2.2.2.2.2.2.1, (inoGetV s (j : Int)).2.2.2.2.2.2.2.2.2.2.2.1⟩ : S40)⟩ : S42)] : List S42) = [mkI (inoGetV s (j : Int))] from rfl, this, List.range'_succ, List.map_cons, List.append_assoc, List.singleton_append]
theorem inosV_all : ∀ (L : List ByteArray) (acc : List S42), (∀ s ∈ L, s.size = 508 ∧ bareV17 s = true ∧ ∀ k : Nat, k < 12 → (inoGetV s (k : Int)).2.2.2.2.2.2.2.2.2.2.2.2 = 0) → inosV L acc = (acc ++ L.flatMap blkL, 0)
 | [], acc, _ => by simp [inosV]
 | s :: ss, acc, h => by
  obtain ⟨h1, h2, h3⟩ := h s (List.mem_cons_self ..)
  simp only [inosV]
  rw [if_pos h1, if_pos h2, blk_all s h3 12 0 acc (by omega)]
  show inosV ss _ = _
  rw [inosV_all ss _ (fun t ht => h t (List.mem_cons_of_mem _ ht)), List.flatMap_cons, ← List.append_assoc]
  rfl
theorem flat_len : ∀ L : List ByteArray, (L.flatMap blkL).length = 12 * L.length
 | [] => rfl
 | s :: ss => by rw [List.flatMap_cons, List.length_append, flat_len ss, List.length_cons]; simp [blkL]; omega
theorem flat_get : ∀ (L : List ByteArray) (b k : Nat) (hb : b < L.length), k < 12 → (L.flatMap blkL)[12 * b + k]? = some (mkI (inoGetV L[b] ((k : Nat) : Int)))
 | [], b, k, hb, _ => absurd hb (Nat.not_lt_zero _)
 | s :: ss, 0, k, _, hk => by
  rw [List.flatMap_cons, List.getElem?_append_left (by simp [blkL]; omega)]
  simp [blkL, hk]
 | s :: ss, b + 1, k, hb, hk => by
  have hl : (blkL s).length = 12 := by simp [blkL]
  rw [List.flatMap_cons, List.getElem?_append_right (by omega), hl, show 12 * (b + 1) + k - 12 = 12 * b + k by omega]
  exact flat_get ss b k (by simpa using hb) hk
theorem read_back (l : List S42) (out : List ByteArray) (h : InvT l l.length out) : (inosV out []).2 = 0 ∧ (inosV out []).1.length = 12 * ((l.length + 11) / 12) ∧ (inosV out []).1.take l.length = l ∧ ∀ j, l.length ≤ j → j < (inosV out []).1.length → (inosV out []).1[j]? = some zI := by
 have hall : ∀ s ∈ out, s.size = 508 ∧ bareV17 s = true ∧ ∀ k : Nat, k < 12 → (inoGetV s (k : Int)).2.2.2.2.2.2.2.2.2.2.2.2 = 0 := by
  intro s hs
  obtain ⟨b, hb, rfl⟩ := List.mem_iff_getElem.1 hs
  obtain ⟨h1, h2, h3⟩ := h.2 b hb
  refine ⟨h1, h2, fun k hk => ?_⟩
  rw [h3 k hk]
  split <;> rfl
 rw [inosV_all out [] hall]
 simp only [List.nil_append]
 have hlen := flat_len out
 have hol := h.1
 have hget : ∀ j, j < 12 * out.length → (out.flatMap blkL)[j]? = some (if j < l.length then l.getD j zI else zI) := by
  intro j hj
  have hb : j / 12 < out.length := by omega
  have e : j = 12 * (j / 12) + j % 12 := by omega
  rw [e, flat_get out (j / 12) (j % 12) hb (Nat.mod_lt _ (by omega)), (h.2 (j / 12) hb).2.2 (j % 12) (Nat.mod_lt _ (by omega)), ← e]
  by_cases hjl : j < l.length
  ·rw [if_pos hjl, if_pos hjl, mk_tup]
  ·rw [if_neg hjl, if_neg hjl, mk_zero]
 refine ⟨trivial, by rw [hlen, hol], ?_, ?_⟩
 ·apply List.ext_getElem?
  intro j
  by_cases hj : j < l.length
  ·rw [List.getElem?_take_of_lt hj, hget j (by omega), if_pos hj, List.getD_eq_getElem?_getD, List.getElem?_eq_getElem hj]; rfl
  ·rw [List.getElem?_eq_none (by rw [List.length_take]; omega), List.getElem?_eq_none (by omega)]
 ·intro j h1 h2
  rw [hlen] at h2
  rw [hget j h2, if_neg (by omega)]
theorem reads (l : List S42) (hw : ∀ x ∈ l, wfI x) (hr : (tableV l).2 = 0) : l.length ≤ 240 ∧ (inodesV (tableV l).1).2 = 0 ∧ (inodesV (tableV l).1).1.length = 12 * ((l.length + 11) / 12) ∧ (inodesV (tableV l).1).1.take l.length = l ∧ ∀ j, l.length ≤ j → j < (inodesV (tableV l).1).1.length → (inodesV (tableV l).1).1[j]? = some zI := by
 unfold tableV at hr ⊢
 by_cases h : (l.length : Int) > 240
 ·rw [if_pos h] at hr; cases hr
 ·rw [if_neg h] at hr ⊢
  have hi := tabV_inv l hw l.length 0 [] (by omega) ⟨rfl, fun b hb => absurd hb (Nat.not_lt_zero _)⟩ hr
  have h1 := hi.1
  rw [List.drop_zero] at hi h1
  unfold inodesV
  rw [if_neg (by omega)]
  exact ⟨by omega, read_back l _ hi⟩
end Go.Proofs.Ytpcokafalmafgaa.P

set_option linter.unusedVariables false
set_option linter.unusedSimpArgs false
set_option maxRecDepth 100000
namespace Go.Proofs.Ytpcokafalmafgaa.Pure
open Go.RowKit Go.Proofs.Ytpcokafalmafgaa.P Go.Proofs.Ytpcokafalmafgaa.H Go.Proofs.Ytpcokafalmafgaa.Q Go.Proofs.YtpcokafalmafgaaW.PrintWords Go.Proofs.YtpcokafalmafgaaW.PrintLast
set_option maxHeartbeats 4000000 in
theorem VolReads : nautiluslaw17_VolReads.Pure := by
 intro l n0 n1 n2 n3 dd m0 m1 m2 m3 m4 m5 hl h2 wn0 wn1 wn2 wn3 wd wm0 wm1 wm2 wm3 wm4 wm5
 have hw : ∀ x ∈ l, wfI x := fun x hx => by
  obtain ⟨w0, w1, w2, w3, w4, w5, w6, w7, w8, w9, w10, w11⟩ := h2 x hx
  have q1 := u16_wf w1; have q2 := u16_wf w2; have q3 := u32_wf w3; have q4 := u64_wf w4; have q6 := u32_wf w6; have q7 := u32_wf w7; have q8 := u32_wf w8; have q9 := u32_wf w9; have q10 := u32_wf w10; have q11 := u32_wf w11
  unfold wfI inoWf; omega
 obtain ⟨K, hK⟩ : ∃ K : Nat, 2000 ≤ K := ⟨2000, by omega⟩
 refine ⟨K + 1, ?_⟩
 obtain ⟨m, hm, hm2, hm3⟩ : ∃ m : Nat, mn (l.length : Int) 250 = m ∧ m ≤ 250 ∧ m ≤ l.length := ⟨min l.length 250, by unfold mn; omega, by omega, by omega⟩
 have hwt : ∀ x ∈ l.take m, wfI x := fun x hx => hw x (List.mem_of_mem_take hx)
 have a1 : (dd.extract 0 (min dd.size 10000)).size ≤ 10000 := by rw [ByteArray.size_extract]; omega
 unfold nautiluslaw17_VolReads.f
 rw [shown_f (K + 1) (by omega), Option.bind_some, hm, if_pos (by omega), if_pos (by omega), Option.bind_some, Int.toNat_natCast, cut17_f dd, Option.bind_some]
 generalize dd.extract 0 (min dd.size 10000) = d at a1 ⊢
 have hy : (l.take m).length ≤ 250 := by rw [List.length_take]; omega
 generalize l.take m = y at hwt hy ⊢
 rw [table_f y hwt (K + 1) (by omega), Option.bind_some, inodes_f _ (K + 1) (by omega), Option.bind_some]
 have fin : ((vol_Inode.f n0 n1 n2 n3 d m0 m1 m2 m3 m4 m5).bind fun bt274 => ((vol_Node.f bt274.1 bt274.2.1 bt274.2.2.1 bt274.2.2.2.1 bt274.2.2.2.2.1 bt274.2.2.2.2.2.1 bt274.2.2.2.2.2.2.1 bt274.2.2.2.2.2.2.2.1 bt274.2.2.2.2.2.2.2.2.1 bt274.2.2.2.2.2.2.2.2.2.1 bt274.2.2.2.2.2.2.2.2.2.2.1 bt274.2.2.2.2.2.2.2.2.2.2.2.1 d).bind fun bt288 => (if true = true then (if bt274.2.2.2.2.2.2.2.2.2.2.2.2 = 0 then (if bt288.2.2.2.2.2 = 0 then (some (bt288.1 == n0 && (bt288.2.1 == n1 && (bt288.2.2.1 == n2 && (bt288.2.2.2.1 == n3 && (bt288.2.2.2.2.1.toList == d.toList)))))) else (none)) else (some true)) else (none)))) = some true := by
  rw [vin_f _ _ _ _ d _ _ _ _ _ _ a1, Option.bind_some]
  have hr3 : 0 ≤ (vinV n0 n1 n2 n3 d m0 m1 m2 m3 m4 m5).2.2.2.1 ∧ (vinV n0 n1 n2 n3 d m0 m1 m2 m3 m4 m5).2.2.2.1 < 4294967296 := by
   by_cases h0 : (vinV n0 n1 n2 n3 d m0 m1 m2 m3 m4 m5).2.2.2.2.2.2.2.2.2.2.2.2 = 0
   ·rw [(vin_ok h0).2]; simp only; omega
   ·unfold vinV at h0 ⊢
    split
    ·simp
    ·split
     ·split
      ·simp
      ·simp only; omega
     ·simp
  rw [vno_f _ _ _ _ _ _ _ _ _ _ _ _ d hr3.1 hr3.2 a1, Option.bind_some, if_pos rfl]
  by_cases h0 : (vinV n0 n1 n2 n3 d m0 m1 m2 m3 m4 m5).2.2.2.2.2.2.2.2.2.2.2.2 = 0
  ·rw [if_pos h0]
   obtain ⟨hr, he⟩ := vin_ok h0
   rw [he]
   simp only
   unfold vnoV
   rw [if_pos hr, if_pos rfl]
   simp
  ·rw [if_neg h0]
 by_cases hc : (tableV y).2 = 0
 ·obtain ⟨h1, h2', h3, h4, h5⟩ := reads y hwt hc
  rw [if_pos hc, if_pos h2']
  generalize (inodesV (tableV y).1).1 = xs at h3 h4 h5 ⊢
  have c1 : ¬ ((xs.length : Int) < (y.length : Int)) := by omega
  have c2 : ¬ ((xs.length : Int) ≥ wrap64 ((y.length : Int) + 12)) := by rw [IntWalk.wrap64_in _ (by omega)]; omega
  have c3 : (0 : Int) ≤ (y.length : Int) := by omega
  have c4 : (y.length : Int) ≤ (xs.length : Int) := by omega
  refine (if_neg c1).trans ?_
  refine (if_neg c2).trans ?_
  refine (if_pos c3).trans ?_
  refine (if_pos c4).trans ?_
  have e5 : nautilusref17_SameInodes.f (K + 1) (xs.take (y.length : Int).toNat) y = some true := by rw [Int.toNat_natCast, h4]; exact inos_f17 _ (by omega) (K + 1) (by omega)
  refine (congrArg (fun o => Option.bind o _) e5).trans ?_
  show nautiluslaw17_VolReads.j0 (K + 1) y true xs (!true) n0 n1 n2 n3 d m0 m1 m2 m3 m4 m5 = some true
  simp only [nautiluslaw17_VolReads.j0, Bool.not_true, Bool.false_eq_true, if_false]
  have loop : ∀ e i k, i + e = xs.length → y.length ≤ i → e < k → nautiluslaw17_VolReads.l0 k true xs (i : Int) n0 n1 n2 n3 d m0 m1 m2 m3 m4 m5 = some true := by
   intro e
   induction e with
   | zero =>
    intro i k hi hyi hk
    obtain ⟨k, rfl⟩ : ∃ q, k = q + 1 := ⟨k - 1, by omega⟩
    simp only [nautiluslaw17_VolReads.l0]
    rw [if_neg (by omega)]
    exact fin
   | succ e ih =>
    intro i k hi hyi hk
    obtain ⟨k, rfl⟩ : ∃ q, k = q + 1 := ⟨k - 1, by omega⟩
    have hz : rd_T42 xs (i : Int) = zI := by
     unfold rd_T42; rw [Int.toNat_natCast, List.getD_eq_getElem?_getD, h5 i hyi (by omega)]; rfl
    simp only [nautiluslaw17_VolReads.l0]
    rw [if_pos (by omega), if_pos (by omega), hz, if_neg (by decide), show wrap64 ((i : Int) + 1) = ((i + 1 : Nat) : Int) by rw [IntWalk.wrap64_in _ (by omega)]; omega]
    exact ih (i + 1) k (by omega) (by omega) (by omega)
  exact loop (xs.length - y.length) y.length K (by omega) (by omega) (by omega)
 ·rw [if_neg hc]
  exact fin
end Go.Proofs.Ytpcokafalmafgaa.Pure
