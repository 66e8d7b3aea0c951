/- Plain laws of layer 10: what an inode is, its bytes, and back. -/
import Derived.Test.YtpcokafalmafgaaQ4
import Derived.Test.YtpcokafalmafgaaHIDec
import Derived.Test.YtpcokafalmafgaaPNum
set_option linter.unusedVariables false
set_option linter.unusedSimpArgs false
set_option maxRecDepth 100000
namespace Go.Proofs.Ytpcokafalmafgaa.P
open Go.RowKit Go.Proofs.Ytpcokafalmafgaa.H Go.Proofs.Ytpcokafalmafgaa.Q Go.Proofs.YtpcokafalmafgaaW.PrintWords Go.Proofs.YtpcokafalmafgaaW.PrintLast Go.Proofs.YtpcokafalmafgaaW.PrintMore

/-- How many blocks a size has, and how deep they lie. -/
def blk (a : Int) : Int := (a + 507) / 508
def dep (a : Int) : Int := if blk a ≤ 6 then 0 else if blk a ≤ 127 then 1 else 2
theorem u32_wf {n : Int} (h : (Lit.int .u32 n).wf = true) : 0 ≤ n ∧ n < 4294967296 := by
 simp [Lit.wf, IntKind.min, IntKind.max, IntKind.bits, IntKind.signed] at h; omega
theorem u16_wf {n : Int} (h : (Lit.int .u16 n).wf = true) : 0 ≤ n ∧ n < 65536 := by
 simp [Lit.wf, IntKind.min, IntKind.max, IntKind.bits, IntKind.signed] at h; omega
theorem blk_range (a : Int) (h0 : 0 ≤ a) (h1 : a < 4294967296) : 0 ≤ blk a ∧ blk a < 8460000 := by unfold blk; omega
theorem dep_range (a : Int) : 0 ≤ dep a ∧ dep a ≤ 2 := by
 unfold dep
 by_cases h : blk a ≤ 6
 ·rw [if_pos h]; omega
 ·rw [if_neg h]
  by_cases h' : blk a ≤ 127
  ·rw [if_pos h']; omega
  ·rw [if_neg h']; omega
theorem blocks_f (a : Int) (h0 : 0 ≤ a) (h1 : a < 4294967296) : inode_Blocks.f a = some (blk a) := by
 unfold inode_Blocks.f blk
 rw [IntWalk.u64_in a (by omega), IntWalk.u64_in (a + 508) (by omega), IntWalk.u64_in (a + 508 - 1) (by omega), Int.tdiv_eq_ediv_of_nonneg (by omega), IntWalk.u64_in _ (by omega), IntWalk.wrap64_in _ (by omega), show a + 508 - 1 = a + 507 by omega]
theorem depth_f (a : Int) (h0 : 0 ≤ a) (h1 : a < 4294967296) : inode_Depth.f a = some (dep a) := by
 unfold inode_Depth.f dep
 rw [blocks_f a h0 h1, Option.bind_some]
 by_cases h : blk a ≤ 6
 ·rw [if_pos h, if_pos h]
 ·rw [if_neg h, if_neg h]
  by_cases h' : blk a ≤ 127
  ·rw [if_pos h', if_pos h']
  ·rw [if_neg h', if_neg h']
/-- May a map be? -/
def mapV (m0 m1 m2 m3 m4 m5 sz : Int) : Bool := if dep sz > 0 then (decide (m0 > 0) && (m1 == 0 && (m2 == 0 && (m3 == 0 && (m4 == 0 && m5 == 0))))) else noneF [m0, m1, m2, m3, m4, m5] (blk sz).toNat
theorem isMap_f (m0 m1 m2 m3 m4 m5 sz : Int) (h0 : 0 ≤ sz) (h1 : sz < 4294967296) : inode_isMap.f m0 m1 m2 m3 m4 m5 sz = some (mapV m0 m1 m2 m3 m4 m5 sz) := by
 unfold inode_isMap.f mapV
 rw [depth_f sz h0 h1, Option.bind_some, blocks_f sz h0 h1, Option.bind_some]
 by_cases hd : dep sz > 0
 ·rw [if_pos hd, if_pos hd]
  by_cases hm : m0 > 0
  ·rw [if_pos hm, decide_eq_true hm, Bool.true_and]
  ·rw [if_neg hm, decide_eq_false hm, Bool.false_and]
 ·have hb := blk_range sz h0 h1
  rw [if_neg hd, if_neg hd, if_pos (by omega)]
/-- May an inode be? -/
def rightV (a0 a1 a2 a3 a4 a5 a6 a7 a8 a9 a10 a11 : Int) : Bool := (a0 == 0 && (a1 == 0 && (a2 == 0 && (a3 == 0 && (a4 == 0 && (a5 == 0 && ((a6 == 0 && (a7 == 0 && (a8 == 0 && (a9 == 0 && (a10 == 0 && (a11 == 0))))))))))))) || (decide (1 ≤ a0) && (decide (a0 ≤ 3) && (decide (a1 ≤ 4095) && (decide (a3 ≤ 8193532) && (decide (a4 < 281474976710656) && ((a5 == dep a3) && mapV a6 a7 a8 a9 a10 a11 a3))))))
theorem right_f (a0 a1 a2 a3 a4 a5 a6 a7 a8 a9 a10 a11 : Int) (h0 : 0 ≤ a3) (h1 : a3 < 4294967296) : inode_Right.f a0 a1 a2 a3 a4 a5 a6 a7 a8 a9 a10 a11 = some (rightV a0 a1 a2 a3 a4 a5 a6 a7 a8 a9 a10 a11) := by
 unfold inode_Right.f rightV
 by_cases hz : (a0 == 0 && (a1 == 0 && (a2 == 0 && (a3 == 0 && (a4 == 0 && (a5 == 0 && ((a6 == 0 && (a7 == 0 && (a8 == 0 && (a9 == 0 && (a10 == 0 && (a11 == 0))))))))))))) = true
 ·rw [if_pos hz, hz, Bool.true_or]
 ·rw [if_neg hz]
  rw [show (a0 == 0 && (a1 == 0 && (a2 == 0 && (a3 == 0 && (a4 == 0 && (a5 == 0 && ((a6 == 0 && (a7 == 0 && (a8 == 0 && (a9 == 0 && (a10 == 0 && (a11 == 0))))))))))))) = false by simpa using hz, Bool.false_or]
  by_cases c1 : a0 < 1
  ·rw [if_pos c1, decide_eq_false (show ¬ 1 ≤ a0 by omega), Bool.false_and]
  ·rw [if_neg c1, decide_eq_true (show 1 ≤ a0 by omega), Bool.true_and]
   by_cases c2 : a0 > 3
   ·rw [if_pos c2, decide_eq_false (show ¬ a0 ≤ 3 by omega), Bool.false_and]
   ·rw [if_neg c2, decide_eq_true (show a0 ≤ 3 by omega), Bool.true_and]
    by_cases c3 : a1 > 4095
    ·rw [if_pos c3, decide_eq_false (show ¬ a1 ≤ 4095 by omega), Bool.false_and]
    ·rw [if_neg c3, decide_eq_true (show a1 ≤ 4095 by omega), Bool.true_and]
     by_cases c4 : a3 ≤ 8193532
     ·rw [if_pos c4, decide_eq_true c4, Bool.true_and]
      by_cases c5 : a4 < 281474976710656
      ·rw [if_pos c5, decide_eq_true c5, Bool.true_and, depth_f a3 h0 h1, Option.bind_some]
       by_cases c6 : a5 = dep a3
       ·rw [if_pos c6, isMap_f _ _ _ _ _ _ _ h0 h1, beq_iff_eq.2 c6, Bool.true_and]
       ·rw [if_neg c6, beq_false_of_ne c6, Bool.false_and]
      ·rw [if_neg c5, decide_eq_false c5, Bool.false_and]
     ·rw [if_neg c4, decide_eq_false c4, Bool.false_and]
/-- The numbers of an inode in their kinds. -/
def inoWf (a0 a1 a2 a3 a4 a5 a6 a7 a8 a9 a10 a11 : Int) : Prop := (0 ≤ a1 ∧ a1 < 65536) ∧ (0 ≤ a2 ∧ a2 < 65536) ∧ (0 ≤ a3 ∧ a3 < 4294967296) ∧ 0 ≤ a4 ∧ (0 ≤ a6 ∧ a6 < 4294967296) ∧ (0 ≤ a7 ∧ a7 < 4294967296) ∧ (0 ≤ a8 ∧ a8 < 4294967296) ∧ (0 ≤ a9 ∧ a9 < 4294967296) ∧ (0 ≤ a10 ∧ a10 < 4294967296) ∧ (0 ≤ a11 ∧ a11 < 4294967296)
theorem right_ok (a0 a1 a2 a3 a4 a5 a6 a7 a8 a9 a10 a11 : Int) (hw : inoWf a0 a1 a2 a3 a4 a5 a6 a7 a8 a9 a10 a11) (hr : rightV a0 a1 a2 a3 a4 a5 a6 a7 a8 a9 a10 a11 = true) : inoOk a0 a1 a2 a3 a4 a5 a6 a7 a8 a9 a10 a11 := by
 unfold inoWf at hw
 unfold rightV at hr
 unfold inoOk
 have hd := dep_range a3
 simp only [Bool.or_eq_true, Bool.and_eq_true, beq_iff_eq, decide_eq_true_eq] at hr
 rcases hr with hz | hr
 ·omega
 ·omega
theorem zero_wf (a0 a3 : Int) (h : 0 ≤ a3 ∧ a3 < 4294967296) : inoWf a0 0 0 a3 0 0 0 0 0 0 0 0 := by unfold inoWf; omega
/-- What an inode is as bytes. -/
def encV (a0 a1 a2 a3 a4 a5 a6 a7 a8 a9 a10 a11 : Int) : ByteArray × Int := if rightV a0 a1 a2 a3 a4 a5 a6 a7 a8 a9 a10 a11 = true then (inoB a0 a1 a2 a3 a4 a5 a6 a7 a8 a9 a10 a11, 0) else (⟨#[]⟩, 100)
theorem encode_f (a0 a1 a2 a3 a4 a5 a6 a7 a8 a9 a10 a11 : Int) (hw : inoWf a0 a1 a2 a3 a4 a5 a6 a7 a8 a9 a10 a11) : inode_Encode.f a0 a1 a2 a3 a4 a5 a6 a7 a8 a9 a10 a11 = some (encV a0 a1 a2 a3 a4 a5 a6 a7 a8 a9 a10 a11) := by
 unfold inode_Encode.f encV
 rw [right_f a0 a1 a2 a3 a4 a5 a6 a7 a8 a9 a10 a11 hw.2.2.1.1 hw.2.2.1.2, Option.bind_some]
 by_cases h : rightV a0 a1 a2 a3 a4 a5 a6 a7 a8 a9 a10 a11 = true
 ·rw [if_pos h, if_pos h, if_pos (right_ok a0 a1 a2 a3 a4 a5 a6 a7 a8 a9 a10 a11 hw h)]
 ·rw [if_neg h, if_neg h]
theorem encV_of {a0 a1 a2 a3 a4 a5 a6 a7 a8 a9 a10 a11 : Int} (h : rightV a0 a1 a2 a3 a4 a5 a6 a7 a8 a9 a10 a11 = true) : encV a0 a1 a2 a3 a4 a5 a6 a7 a8 a9 a10 a11 = (inoB a0 a1 a2 a3 a4 a5 a6 a7 a8 a9 a10 a11, 0) := by unfold encV; rw [if_pos h]
theorem inoB_size (a0 a1 a2 a3 a4 a5 a6 a7 a8 a9 a10 a11 : Int) : (inoB a0 a1 a2 a3 a4 a5 a6 a7 a8 a9 a10 a11).size = 42 := by
 show List.length _ = _
 simp [inoL, lowBytes_length]
theorem inoN_wf (b : ByteArray) : inoWf (inoN b 0) (inoN b 1) (inoN b 2) (inoN b 3) (inoN b 4) (inoN b 5) (inoN b 6) (inoN b 7) (inoN b 8) (inoN b 9) (inoN b 10) (inoN b 11) := by
 have h := inoN_range b
 have m0 := inoN_map b 0
 have m1 := inoN_map b 1
 have m2 := inoN_map b 2
 have m3 := inoN_map b 3
 have m4 := inoN_map b 4
 have m5 := inoN_map b 5
 unfold inoWf
 simp only [Nat.add_zero, Nat.reduceAdd] at m0 m1 m2 m3 m4 m5
 omega
/-- What bytes are as an inode. -/
def decV (b : ByteArray) : Int × Int × Int × Int × Int × Int × Int × Int × Int × Int × Int × Int × Int := if b.size = 42 ∧ rightV (inoN b 0) (inoN b 1) (inoN b 2) (inoN b 3) (inoN b 4) (inoN b 5) (inoN b 6) (inoN b 7) (inoN b 8) (inoN b 9) (inoN b 10) (inoN b 11) = true ∧ inoB (inoN b 0) (inoN b 1) (inoN b 2) (inoN b 3) (inoN b 4) (inoN b 5) (inoN b 6) (inoN b 7) (inoN b 8) (inoN b 9) (inoN b 10) (inoN b 11) = b then (inoN b 0, inoN b 1, inoN b 2, inoN b 3, inoN b 4, inoN b 5, inoN b 6, inoN b 7, inoN b 8, inoN b 9, inoN b 10, inoN b 11, 0) else (0, 0, 0, 0, 0, 0, 0, 0, 0, 0, 0, 0, 100)
theorem decode_f (b : ByteArray) : inode_Decode.f b = some (decV b) := by
 unfold inode_Decode.f decV
 by_cases hs : b.size = 42
 ·rw [if_pos hs, encode_f _ _ _ _ _ _ _ _ _ _ _ _ (inoN_wf b), Option.bind_some]
  unfold encV
  by_cases hr : rightV (inoN b 0) (inoN b 1) (inoN b 2) (inoN b 3) (inoN b 4) (inoN b 5) (inoN b 6) (inoN b 7) (inoN b 8) (inoN b 9) (inoN b 10) (inoN b 11) = true
  ·rw [if_pos hr]
   show (if (0 : Int) = 0 then _ else _) = _
   rw [if_pos rfl]
   by_cases hb : inoB (inoN b 0) (inoN b 1) (inoN b 2) (inoN b 3) (inoN b 4) (inoN b 5) (inoN b 6) (inoN b 7) (inoN b 8) (inoN b 9) (inoN b 10) (inoN b 11) = b
   ·rw [if_pos hb, if_pos ⟨hs, hr, hb⟩]
   ·rw [if_neg hb, if_neg (fun h => hb h.2.2)]
  ·rw [if_neg hr]
   show (if (100 : Int) = 0 then _ else _) = _
   rw [if_neg (by decide), if_neg (fun h => hr h.2.1)]
 ·rw [if_neg hs, if_neg (fun h => hs h.1)]

end Go.Proofs.Ytpcokafalmafgaa.P
