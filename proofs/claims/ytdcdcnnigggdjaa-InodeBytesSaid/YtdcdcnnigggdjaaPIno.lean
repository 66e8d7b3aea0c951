/- Plain laws of layer 10: what an inode is, its bytes, and back. -/
import Derived.Test.YtdcdcnnigggdjaaQ2
import Derived.Test.YtdcdcnnigggdjaaQ3
import Derived.Test.YtdcdcnnigggdjaaQ6
import Derived.Test.YtdcdcnnigggdjaaHIDec
import Derived.Test.YtdcdcnnigggdjaaPVal
set_option linter.unusedVariables false
set_option linter.unusedSimpArgs false
set_option maxRecDepth 100000
namespace Go.Proofs.Ytdcdcnnigggdjaa.P
open Go.RowKit Go.Proofs.Ytdcdcnnigggdjaa.H Go.Proofs.Ytdcdcnnigggdjaa.Q Go.Proofs.YtdcdcnnigggdjaaW.PrintWords Go.Proofs.YtdcdcnnigggdjaaW.PrintLast Go.Proofs.YtdcdcnnigggdjaaW.PrintMore

/-- How many blocks a size has, and how deep they lie. -/
def blk (a : Int) : Int := (a + 507) / 508
def dep (a : Int) : Int := if blk a ≤ 6 then 0 else if blk a ≤ 127 then 1 else 2
theorem u32_wf {n : Int} (h : (Lit.int .u32 n).wf = true) : 0 ≤ n ∧ n < 4294967296 := by
  simp [Lit.wf, IntKind.min, IntKind.max, IntKind.bits, IntKind.signed] at h; omega
theorem u16_wf {n : Int} (h : (Lit.int .u16 n).wf = true) : 0 ≤ n ∧ n < 65536 := by
  simp [Lit.wf, IntKind.min, IntKind.max, IntKind.bits, IntKind.signed] at h; omega
theorem blk_range (a : Int) (h0 : 0 ≤ a) (h1 : a < 4294967296) : 0 ≤ blk a ∧ blk a < 8460000 := by unfold blk; omega
theorem dep_range (a : Int) : 0 ≤ dep a ∧ dep a ≤ 2 := by
  unfold dep
  by_cases h : blk a ≤ 6
  · rw [if_pos h]; omega
  · rw [if_neg h]
    by_cases h' : blk a ≤ 127
    · rw [if_pos h']; omega
    · rw [if_neg h']; omega
theorem blocks_f (a : Int) (h0 : 0 ≤ a) (h1 : a < 4294967296) : inode_Blocks.f a = some (blk a) := by
  unfold inode_Blocks.f blk
  rw [IntWalk.u64_in a (by omega), IntWalk.u64_in (a + 508) (by omega), IntWalk.u64_in (a + 508 - 1) (by omega), Int.tdiv_eq_ediv_of_nonneg (by omega), IntWalk.u64_in _ (by omega), IntWalk.wrap64_in _ (by omega), show a + 508 - 1 = a + 507 by omega]
theorem depth_f (a : Int) (h0 : 0 ≤ a) (h1 : a < 4294967296) : inode_Depth.f a = some (dep a) := by
  unfold inode_Depth.f dep
  rw [blocks_f a h0 h1, Option.bind_some]
  by_cases h : blk a ≤ 6
  · rw [if_pos h, if_pos h]
  · rw [if_neg h, if_neg h]
    by_cases h' : blk a ≤ 127
    · rw [if_pos h', if_pos h']
    · rw [if_neg h', if_neg h']
/-- May a map be? -/
def mapV (m0 m1 m2 m3 m4 m5 sz : Int) : Bool := if dep sz > 0 then (decide (m0 > 0) && (m1 == 0 && (m2 == 0 && (m3 == 0 && (m4 == 0 && m5 == 0))))) else noneF [m0, m1, m2, m3, m4, m5] (blk sz).toNat
theorem isMap_f (m0 m1 m2 m3 m4 m5 sz : Int) (h0 : 0 ≤ sz) (h1 : sz < 4294967296) : inode_isMap.f m0 m1 m2 m3 m4 m5 sz = some (mapV m0 m1 m2 m3 m4 m5 sz) := by
  unfold inode_isMap.f mapV
  rw [depth_f sz h0 h1, Option.bind_some, blocks_f sz h0 h1, Option.bind_some]
  by_cases hd : dep sz > 0
  · rw [if_pos hd, if_pos hd]
    by_cases hm : m0 > 0
    · rw [if_pos hm, decide_eq_true hm, Bool.true_and]
    · rw [if_neg hm, decide_eq_false hm, Bool.false_and]
  · have hb := blk_range sz h0 h1
    rw [if_neg hd, if_neg hd, if_pos (by omega)]
/-- May an inode be? -/
def rightV (a0 a1 a2 a3 a4 a5 a6 a7 a8 a9 a10 a11 : Int) : Bool := (a0 == 0 && (a1 == 0 && (a2 == 0 && (a3 == 0 && (a4 == 0 && (a5 == 0 && ((a6 == 0 && (a7 == 0 && (a8 == 0 && (a9 == 0 && (a10 == 0 && (a11 == 0))))))))))))) || (decide (1 ≤ a0) && (decide (a0 ≤ 3) && (decide (a1 ≤ 4095) && (decide (a3 ≤ 8193532) && (decide (a4 < 281474976710656) && ((a5 == dep a3) && mapV a6 a7 a8 a9 a10 a11 a3))))))
theorem j0_true (k : Nat) (a0 a1 a2 a3 a4 a5 a6 a7 a8 a9 a10 a11 : Int) : inode_Right.j0 (k + 1) true a0 a1 a2 a3 a4 a5 a6 a7 a8 a9 a10 a11 = some false := rfl
theorem j0_false (k : Nat) (a0 a1 a2 a3 a4 a5 a6 a7 a8 a9 a10 a11 : Int) : inode_Right.j0 (k + 1) false a0 a1 a2 a3 a4 a5 a6 a7 a8 a9 a10 a11 = (if a3 ≤ 8193532 then (if a4 < 281474976710656 then ((inode_Depth.f a3).bind fun t104 => (if a5 = t104 then ((inode_isMap.f a6 a7 a8 a9 a10 a11 a3).bind fun t105 => (some t105)) else (some false))) else (some false)) else (some false)) := rfl
theorem right_f (a0 a1 a2 a3 a4 a5 a6 a7 a8 a9 a10 a11 : Int) (k : Nat) (hk : 1 ≤ k) (h0 : 0 ≤ a3) (h1 : a3 < 4294967296) : inode_Right.f k a0 a1 a2 a3 a4 a5 a6 a7 a8 a9 a10 a11 = some (rightV a0 a1 a2 a3 a4 a5 a6 a7 a8 a9 a10 a11) := by
  obtain ⟨k, rfl⟩ : ∃ m, k = m + 1 := ⟨k - 1, by omega⟩
  unfold inode_Right.f rightV
  by_cases hz : (a0 == 0 && (a1 == 0 && (a2 == 0 && (a3 == 0 && (a4 == 0 && (a5 == 0 && ((a6 == 0 && (a7 == 0 && (a8 == 0 && (a9 == 0 && (a10 == 0 && (a11 == 0))))))))))))) = true
  · rw [if_pos hz, hz, Bool.true_or]
  · rw [if_neg hz]
    rw [show (a0 == 0 && (a1 == 0 && (a2 == 0 && (a3 == 0 && (a4 == 0 && (a5 == 0 && ((a6 == 0 && (a7 == 0 && (a8 == 0 && (a9 == 0 && (a10 == 0 && (a11 == 0))))))))))))) = false by simpa using hz, Bool.false_or]
    by_cases c1 : a0 < 1
    · rw [if_pos c1, j0_true, decide_eq_false (show ¬ 1 ≤ a0 by omega), Bool.false_and]
    · rw [if_neg c1, decide_eq_true (show 1 ≤ a0 by omega), Bool.true_and]
      by_cases c2 : a0 > 3
      · rw [if_pos c2, j0_true, decide_eq_false (show ¬ a0 ≤ 3 by omega), Bool.false_and]
      · rw [if_neg c2, decide_eq_true (show a0 ≤ 3 by omega), Bool.true_and]
        by_cases c3 : a1 > 4095
        · rw [decide_eq_true c3, j0_true, decide_eq_false (show ¬ a1 ≤ 4095 by omega), Bool.false_and]
        · rw [decide_eq_false c3, j0_false, decide_eq_true (show a1 ≤ 4095 by omega), Bool.true_and]
          by_cases c4 : a3 ≤ 8193532
          · rw [if_pos c4, decide_eq_true c4, Bool.true_and]
            by_cases c5 : a4 < 281474976710656
            · rw [if_pos c5, decide_eq_true c5, Bool.true_and, depth_f a3 h0 h1, Option.bind_some]
              by_cases c6 : a5 = dep a3
              · rw [if_pos c6, isMap_f _ _ _ _ _ _ _ h0 h1, Option.bind_some, beq_iff_eq.2 c6, Bool.true_and]
              · rw [if_neg c6, beq_false_of_ne c6, Bool.false_and]
            · rw [if_neg c5, decide_eq_false c5, Bool.false_and]
          · rw [if_neg c4, decide_eq_false c4, Bool.false_and]
/-- The numbers of an inode in their kinds. -/
def inoWf (a0 a1 a2 a3 a4 a5 a6 a7 a8 a9 a10 a11 : Int) : Prop := (0 ≤ a1 ∧ a1 < 65536) ∧ (0 ≤ a2 ∧ a2 < 65536) ∧ (0 ≤ a3 ∧ a3 < 4294967296) ∧ 0 ≤ a4 ∧ (0 ≤ a6 ∧ a6 < 4294967296) ∧ (0 ≤ a7 ∧ a7 < 4294967296) ∧ (0 ≤ a8 ∧ a8 < 4294967296) ∧ (0 ≤ a9 ∧ a9 < 4294967296) ∧ (0 ≤ a10 ∧ a10 < 4294967296) ∧ (0 ≤ a11 ∧ a11 < 4294967296)
theorem right_ok (a0 a1 a2 a3 a4 a5 a6 a7 a8 a9 a10 a11 : Int) (hw : inoWf a0 a1 a2 a3 a4 a5 a6 a7 a8 a9 a10 a11) (hr : rightV a0 a1 a2 a3 a4 a5 a6 a7 a8 a9 a10 a11 = true) : inoOk a0 a1 a2 a3 a4 a5 a6 a7 a8 a9 a10 a11 := by
  unfold inoWf at hw
  unfold rightV at hr
  unfold inoOk
  have hd := dep_range a3
  simp only [Bool.or_eq_true, Bool.and_eq_true, beq_iff_eq, decide_eq_true_eq] at hr
  rcases hr with hz | hr
  · omega
  · omega
/-- What an inode is as bytes. -/
def encV (a0 a1 a2 a3 a4 a5 a6 a7 a8 a9 a10 a11 : Int) : ByteArray × Int := if rightV a0 a1 a2 a3 a4 a5 a6 a7 a8 a9 a10 a11 = true then (inoB a0 a1 a2 a3 a4 a5 a6 a7 a8 a9 a10 a11, 0) else (⟨#[]⟩, 100)
theorem encode_f (a0 a1 a2 a3 a4 a5 a6 a7 a8 a9 a10 a11 : Int) (hw : inoWf a0 a1 a2 a3 a4 a5 a6 a7 a8 a9 a10 a11) : inode_Encode.f a0 a1 a2 a3 a4 a5 a6 a7 a8 a9 a10 a11 = some (encV a0 a1 a2 a3 a4 a5 a6 a7 a8 a9 a10 a11) := by
  unfold inode_Encode.f encV
  rw [right_f a0 a1 a2 a3 a4 a5 a6 a7 a8 a9 a10 a11 5 (by omega) hw.2.2.1.1 hw.2.2.1.2, Option.bind_some]
  by_cases h : rightV a0 a1 a2 a3 a4 a5 a6 a7 a8 a9 a10 a11 = true
  · rw [if_pos h, if_pos h, if_pos (right_ok a0 a1 a2 a3 a4 a5 a6 a7 a8 a9 a10 a11 hw h)]
  · rw [if_neg h, if_neg h]
theorem encV_ok {a0 a1 a2 a3 a4 a5 a6 a7 a8 a9 a10 a11 : Int} (h : (encV a0 a1 a2 a3 a4 a5 a6 a7 a8 a9 a10 a11).2 = 0) : rightV a0 a1 a2 a3 a4 a5 a6 a7 a8 a9 a10 a11 = true ∧ (encV a0 a1 a2 a3 a4 a5 a6 a7 a8 a9 a10 a11).1 = inoB a0 a1 a2 a3 a4 a5 a6 a7 a8 a9 a10 a11 := by
  unfold encV at h ⊢
  by_cases hr : rightV a0 a1 a2 a3 a4 a5 a6 a7 a8 a9 a10 a11 = true
  · rw [if_pos hr]; exact ⟨hr, rfl⟩
  · rw [if_neg hr] at h; cases h
theorem encV_of {a0 a1 a2 a3 a4 a5 a6 a7 a8 a9 a10 a11 : Int} (h : rightV a0 a1 a2 a3 a4 a5 a6 a7 a8 a9 a10 a11 = true) : encV a0 a1 a2 a3 a4 a5 a6 a7 a8 a9 a10 a11 = (inoB a0 a1 a2 a3 a4 a5 a6 a7 a8 a9 a10 a11, 0) := by unfold encV; rw [if_pos h]
theorem inoB_size (a0 a1 a2 a3 a4 a5 a6 a7 a8 a9 a10 a11 : Int) : (inoB a0 a1 a2 a3 a4 a5 a6 a7 a8 a9 a10 a11).size = 42 := by
  show List.length _ = _
  simp [inoL, lowBytes_length]
theorem inoN_wf (b : ByteArray) : inoWf (inoN b 0) (inoN b 1) (inoN b 2) (inoN b 3) (inoN b 4) (inoN b 5) (inoN b 6) (inoN b 7) (inoN b 8) (inoN b 9) (inoN b 10) (inoN b 11) := by
  have h := inoN_range b
  have m0 := inoN_map b 0
  have m1 := inoN_map b 1
  have m2 := inoN_map b 2
  have m3 := inoN_map b 3
  have m4 := inoN_map b 4
  have m5 := inoN_map b 5
  unfold inoWf
  simp only [Nat.add_zero, Nat.reduceAdd] at m0 m1 m2 m3 m4 m5
  omega
/-- What bytes are as an inode. -/
def decV (b : ByteArray) : Int × Int × Int × Int × Int × Int × Int × Int × Int × Int × Int × Int × Int := if b.size = 42 ∧ rightV (inoN b 0) (inoN b 1) (inoN b 2) (inoN b 3) (inoN b 4) (inoN b 5) (inoN b 6) (inoN b 7) (inoN b 8) (inoN b 9) (inoN b 10) (inoN b 11) = true ∧ inoB (inoN b 0) (inoN b 1) (inoN b 2) (inoN b 3) (inoN b 4) (inoN b 5) (inoN b 6) (inoN b 7) (inoN b 8) (inoN b 9) (inoN b 10) (inoN b 11) = b then (inoN b 0, inoN b 1, inoN b 2, inoN b 3, inoN b 4, inoN b 5, inoN b 6, inoN b 7, inoN b 8, inoN b 9, inoN b 10, inoN b 11, 0) else (0, 0, 0, 0, 0, 0, 0, 0, 0, 0, 0, 0, 100)
theorem decode_f (b : ByteArray) : inode_Decode.f b = some (decV b) := by
  unfold inode_Decode.f decV
  by_cases hs : b.size = 42
  · rw [if_pos hs, encode_f _ _ _ _ _ _ _ _ _ _ _ _ (inoN_wf b), Option.bind_some]
    unfold encV
    by_cases hr : rightV (inoN b 0) (inoN b 1) (inoN b 2) (inoN b 3) (inoN b 4) (inoN b 5) (inoN b 6) (inoN b 7) (inoN b 8) (inoN b 9) (inoN b 10) (inoN b 11) = true
    · rw [if_pos hr]
      show (if (0 : Int) = 0 then _ else _) = _
      rw [if_pos rfl]
      by_cases hb : inoB (inoN b 0) (inoN b 1) (inoN b 2) (inoN b 3) (inoN b 4) (inoN b 5) (inoN b 6) (inoN b 7) (inoN b 8) (inoN b 9) (inoN b 10) (inoN b 11) = b
      · rw [if_pos hb, if_pos ⟨hs, hr, hb⟩]
      · rw [if_neg hb, if_neg (fun h => hb h.2.2)]
    · rw [if_neg hr]
      show (if (100 : Int) = 0 then _ else _) = _
      rw [if_neg (by decide), if_neg (fun h => hr h.2.1)]
  · rw [if_neg hs, if_neg (fun h => hs h.1)]

/-! ### An inode is read as it was -/
theorem valB_list (p q : List UInt8) (n : Int) (w at_ : Nat) (hp : p.length = at_) (h0 : 0 ≤ n) (h1 : n < 256 ^ w) : valB ⟨(p ++ lowBytes n w ++ q).toArray⟩ at_ w = n := by
  have h := valB_put ⟨p.toArray⟩ ⟨q.toArray⟩ n w h0 h1
  have hs : (⟨p.toArray⟩ : ByteArray).size = at_ := by rw [← hp]; rfl
  rw [hs] at h
  refine Eq.trans ?_ h
  congr 1
theorem inoN_inoB (a0 a1 a2 a3 a4 a5 a6 a7 a8 a9 a10 a11 : Int) (h : inoOk a0 a1 a2 a3 a4 a5 a6 a7 a8 a9 a10 a11) : inoN (inoB a0 a1 a2 a3 a4 a5 a6 a7 a8 a9 a10 a11) 0 = a0 ∧ inoN (inoB a0 a1 a2 a3 a4 a5 a6 a7 a8 a9 a10 a11) 1 = a1 ∧ inoN (inoB a0 a1 a2 a3 a4 a5 a6 a7 a8 a9 a10 a11) 2 = a2 ∧ inoN (inoB a0 a1 a2 a3 a4 a5 a6 a7 a8 a9 a10 a11) 3 = a3 ∧ inoN (inoB a0 a1 a2 a3 a4 a5 a6 a7 a8 a9 a10 a11) 4 = a4 ∧ inoN (inoB a0 a1 a2 a3 a4 a5 a6 a7 a8 a9 a10 a11) 5 = a5 ∧ inoN (inoB a0 a1 a2 a3 a4 a5 a6 a7 a8 a9 a10 a11) 6 = a6 ∧ inoN (inoB a0 a1 a2 a3 a4 a5 a6 a7 a8 a9 a10 a11) 7 = a7 ∧ inoN (inoB a0 a1 a2 a3 a4 a5 a6 a7 a8 a9 a10 a11) 8 = a8 ∧ inoN (inoB a0 a1 a2 a3 a4 a5 a6 a7 a8 a9 a10 a11) 9 = a9 ∧ inoN (inoB a0 a1 a2 a3 a4 a5 a6 a7 a8 a9 a10 a11) 10 = a10 ∧ inoN (inoB a0 a1 a2 a3 a4 a5 a6 a7 a8 a9 a10 a11) 11 = a11 := by
  unfold inoOk at h
  refine ⟨?_, ?_, ?_, ?_, ?_, ?_, ?_, ?_, ?_, ?_, ?_, ?_⟩
  · show valB (inoB a0 a1 a2 a3 a4 a5 a6 a7 a8 a9 a10 a11) 0 1 = a0
    rw [show inoB a0 a1 a2 a3 a4 a5 a6 a7 a8 a9 a10 a11 = ⟨(([] : List UInt8) ++ lowBytes a0 1 ++ (lowBytes a1 2 ++ lowBytes a2 2 ++ lowBytes a3 4 ++ lowBytes a4 6 ++ lowBytes a5 1 ++ lowBytes a6 4 ++ lowBytes a7 4 ++ lowBytes a8 4 ++ lowBytes a9 4 ++ lowBytes a10 4 ++ lowBytes a11 4 ++ [0, 0] : List UInt8)).toArray⟩ by unfold inoB inoL; apply ByteArray.ext; simp]
    exact valB_list _ _ _ _ _ (by simp [lowBytes_length]) (by omega) (by rw [show (256 : Int) ^ 1 = 256 by decide]; omega)
  · show valB (inoB a0 a1 a2 a3 a4 a5 a6 a7 a8 a9 a10 a11) 1 2 = a1
    rw [show inoB a0 a1 a2 a3 a4 a5 a6 a7 a8 a9 a10 a11 = ⟨((lowBytes a0 1 : List UInt8) ++ lowBytes a1 2 ++ (lowBytes a2 2 ++ lowBytes a3 4 ++ lowBytes a4 6 ++ lowBytes a5 1 ++ lowBytes a6 4 ++ lowBytes a7 4 ++ lowBytes a8 4 ++ lowBytes a9 4 ++ lowBytes a10 4 ++ lowBytes a11 4 ++ [0, 0] : List UInt8)).toArray⟩ by unfold inoB inoL; apply ByteArray.ext; simp]
    exact valB_list _ _ _ _ _ (by simp [lowBytes_length]) (by omega) (by rw [show (256 : Int) ^ 2 = 65536 by decide]; omega)
  · show valB (inoB a0 a1 a2 a3 a4 a5 a6 a7 a8 a9 a10 a11) 3 2 = a2
    rw [show inoB a0 a1 a2 a3 a4 a5 a6 a7 a8 a9 a10 a11 = ⟨((lowBytes a0 1 ++ lowBytes a1 2 : List UInt8) ++ lowBytes a2 2 ++ (lowBytes a3 4 ++ lowBytes a4 6 ++ lowBytes a5 1 ++ lowBytes a6 4 ++ lowBytes a7 4 ++ lowBytes a8 4 ++ lowBytes a9 4 ++ lowBytes a10 4 ++ lowBytes a11 4 ++ [0, 0] : List UInt8)).toArray⟩ by unfold inoB inoL; apply ByteArray.ext; simp]
    exact valB_list _ _ _ _ _ (by simp [lowBytes_length]) (by omega) (by rw [show (256 : Int) ^ 2 = 65536 by decide]; omega)
  · show valB (inoB a0 a1 a2 a3 a4 a5 a6 a7 a8 a9 a10 a11) 5 4 = a3
    rw [show inoB a0 a1 a2 a3 a4 a5 a6 a7 a8 a9 a10 a11 = ⟨((lowBytes a0 1 ++ lowBytes a1 2 ++ lowBytes a2 2 : List UInt8) ++ lowBytes a3 4 ++ (lowBytes a4 6 ++ lowBytes a5 1 ++ lowBytes a6 4 ++ lowBytes a7 4 ++ lowBytes a8 4 ++ lowBytes a9 4 ++ lowBytes a10 4 ++ lowBytes a11 4 ++ [0, 0] : List UInt8)).toArray⟩ by unfold inoB inoL; apply ByteArray.ext; simp]
    exact valB_list _ _ _ _ _ (by simp [lowBytes_length]) (by omega) (by rw [show (256 : Int) ^ 4 = 4294967296 by decide]; omega)
  · show valB (inoB a0 a1 a2 a3 a4 a5 a6 a7 a8 a9 a10 a11) 9 6 = a4
    rw [show inoB a0 a1 a2 a3 a4 a5 a6 a7 a8 a9 a10 a11 = ⟨((lowBytes a0 1 ++ lowBytes a1 2 ++ lowBytes a2 2 ++ lowBytes a3 4 : List UInt8) ++ lowBytes a4 6 ++ (lowBytes a5 1 ++ lowBytes a6 4 ++ lowBytes a7 4 ++ lowBytes a8 4 ++ lowBytes a9 4 ++ lowBytes a10 4 ++ lowBytes a11 4 ++ [0, 0] : List UInt8)).toArray⟩ by unfold inoB inoL; apply ByteArray.ext; simp]
    exact valB_list _ _ _ _ _ (by simp [lowBytes_length]) (by omega) (by rw [show (256 : Int) ^ 6 = 281474976710656 by decide]; omega)
  · show valB (inoB a0 a1 a2 a3 a4 a5 a6 a7 a8 a9 a10 a11) 15 1 = a5
    rw [show inoB a0 a1 a2 a3 a4 a5 a6 a7 a8 a9 a10 a11 = ⟨((lowBytes a0 1 ++ lowBytes a1 2 ++ lowBytes a2 2 ++ lowBytes a3 4 ++ lowBytes a4 6 : List UInt8) ++ lowBytes a5 1 ++ (lowBytes a6 4 ++ lowBytes a7 4 ++ lowBytes a8 4 ++ lowBytes a9 4 ++ lowBytes a10 4 ++ lowBytes a11 4 ++ [0, 0] : List UInt8)).toArray⟩ by unfold inoB inoL; apply ByteArray.ext; simp]
    exact valB_list _ _ _ _ _ (by simp [lowBytes_length]) (by omega) (by rw [show (256 : Int) ^ 1 = 256 by decide]; omega)
  · show valB (inoB a0 a1 a2 a3 a4 a5 a6 a7 a8 a9 a10 a11) 16 4 = a6
    rw [show inoB a0 a1 a2 a3 a4 a5 a6 a7 a8 a9 a10 a11 = ⟨((lowBytes a0 1 ++ lowBytes a1 2 ++ lowBytes a2 2 ++ lowBytes a3 4 ++ lowBytes a4 6 ++ lowBytes a5 1 : List UInt8) ++ lowBytes a6 4 ++ (lowBytes a7 4 ++ lowBytes a8 4 ++ lowBytes a9 4 ++ lowBytes a10 4 ++ lowBytes a11 4 ++ [0, 0] : List UInt8)).toArray⟩ by unfold inoB inoL; apply ByteArray.ext; simp]
    exact valB_list _ _ _ _ _ (by simp [lowBytes_length]) (by omega) (by rw [show (256 : Int) ^ 4 = 4294967296 by decide]; omega)
  · show valB (inoB a0 a1 a2 a3 a4 a5 a6 a7 a8 a9 a10 a11) 20 4 = a7
    rw [show inoB a0 a1 a2 a3 a4 a5 a6 a7 a8 a9 a10 a11 = ⟨((lowBytes a0 1 ++ lowBytes a1 2 ++ lowBytes a2 2 ++ lowBytes a3 4 ++ lowBytes a4 6 ++ lowBytes a5 1 ++ lowBytes a6 4 : List UInt8) ++ lowBytes a7 4 ++ (lowBytes a8 4 ++ lowBytes a9 4 ++ lowBytes a10 4 ++ lowBytes a11 4 ++ [0, 0] : List UInt8)).toArray⟩ by unfold inoB inoL; apply ByteArray.ext; simp]
    exact valB_list _ _ _ _ _ (by simp [lowBytes_length]) (by omega) (by rw [show (256 : Int) ^ 4 = 4294967296 by decide]; omega)
  · show valB (inoB a0 a1 a2 a3 a4 a5 a6 a7 a8 a9 a10 a11) 24 4 = a8
    rw [show inoB a0 a1 a2 a3 a4 a5 a6 a7 a8 a9 a10 a11 = ⟨((lowBytes a0 1 ++ lowBytes a1 2 ++ lowBytes a2 2 ++ lowBytes a3 4 ++ lowBytes a4 6 ++ lowBytes a5 1 ++ lowBytes a6 4 ++ lowBytes a7 4 : List UInt8) ++ lowBytes a8 4 ++ (lowBytes a9 4 ++ lowBytes a10 4 ++ lowBytes a11 4 ++ [0, 0] : List UInt8)).toArray⟩ by unfold inoB inoL; apply ByteArray.ext; simp]
    exact valB_list _ _ _ _ _ (by simp [lowBytes_length]) (by omega) (by rw [show (256 : Int) ^ 4 = 4294967296 by decide]; omega)
  · show valB (inoB a0 a1 a2 a3 a4 a5 a6 a7 a8 a9 a10 a11) 28 4 = a9
    rw [show inoB a0 a1 a2 a3 a4 a5 a6 a7 a8 a9 a10 a11 = ⟨((lowBytes a0 1 ++ lowBytes a1 2 ++ lowBytes a2 2 ++ lowBytes a3 4 ++ lowBytes a4 6 ++ lowBytes a5 1 ++ lowBytes a6 4 ++ lowBytes a7 4 ++ lowBytes a8 4 : List UInt8) ++ lowBytes a9 4 ++ (lowBytes a10 4 ++ lowBytes a11 4 ++ [0, 0] : List UInt8)).toArray⟩ by unfold inoB inoL; apply ByteArray.ext; simp]
    exact valB_list _ _ _ _ _ (by simp [lowBytes_length]) (by omega) (by rw [show (256 : Int) ^ 4 = 4294967296 by decide]; omega)
  · show valB (inoB a0 a1 a2 a3 a4 a5 a6 a7 a8 a9 a10 a11) 32 4 = a10
    rw [show inoB a0 a1 a2 a3 a4 a5 a6 a7 a8 a9 a10 a11 = ⟨((lowBytes a0 1 ++ lowBytes a1 2 ++ lowBytes a2 2 ++ lowBytes a3 4 ++ lowBytes a4 6 ++ lowBytes a5 1 ++ lowBytes a6 4 ++ lowBytes a7 4 ++ lowBytes a8 4 ++ lowBytes a9 4 : List UInt8) ++ lowBytes a10 4 ++ (lowBytes a11 4 ++ [0, 0] : List UInt8)).toArray⟩ by unfold inoB inoL; apply ByteArray.ext; simp]
    exact valB_list _ _ _ _ _ (by simp [lowBytes_length]) (by omega) (by rw [show (256 : Int) ^ 4 = 4294967296 by decide]; omega)
  · show valB (inoB a0 a1 a2 a3 a4 a5 a6 a7 a8 a9 a10 a11) 36 4 = a11
    rw [show inoB a0 a1 a2 a3 a4 a5 a6 a7 a8 a9 a10 a11 = ⟨((lowBytes a0 1 ++ lowBytes a1 2 ++ lowBytes a2 2 ++ lowBytes a3 4 ++ lowBytes a4 6 ++ lowBytes a5 1 ++ lowBytes a6 4 ++ lowBytes a7 4 ++ lowBytes a8 4 ++ lowBytes a9 4 ++ lowBytes a10 4 : List UInt8) ++ lowBytes a11 4 ++ ([0, 0] : List UInt8)).toArray⟩ by unfold inoB inoL; apply ByteArray.ext; simp]
    exact valB_list _ _ _ _ _ (by simp [lowBytes_length]) (by omega) (by rw [show (256 : Int) ^ 4 = 4294967296 by decide]; omega)
theorem dec_enc (a0 a1 a2 a3 a4 a5 a6 a7 a8 a9 a10 a11 : Int) (hw : inoWf a0 a1 a2 a3 a4 a5 a6 a7 a8 a9 a10 a11) (hr : rightV a0 a1 a2 a3 a4 a5 a6 a7 a8 a9 a10 a11 = true) : decV (inoB a0 a1 a2 a3 a4 a5 a6 a7 a8 a9 a10 a11) = (a0, a1, a2, a3, a4, a5, a6, a7, a8, a9, a10, a11, 0) := by
  have hok := right_ok a0 a1 a2 a3 a4 a5 a6 a7 a8 a9 a10 a11 hw hr
  obtain ⟨h0, h1, h2, h3, h4, h5, h6, h7, h8, h9, h10, h11⟩ := inoN_inoB a0 a1 a2 a3 a4 a5 a6 a7 a8 a9 a10 a11 hok
  unfold decV
  rw [inoB_size]
  rw [h0, h1, h2, h3, h4, h5, h6, h7, h8, h9, h10, h11]
  rw [if_pos ⟨rfl, hr, rfl⟩]
theorem decV_ok {b : ByteArray} (h : (decV b).2.2.2.2.2.2.2.2.2.2.2.2 = 0) : b.size = 42 ∧ rightV (inoN b 0) (inoN b 1) (inoN b 2) (inoN b 3) (inoN b 4) (inoN b 5) (inoN b 6) (inoN b 7) (inoN b 8) (inoN b 9) (inoN b 10) (inoN b 11) = true ∧ inoB (inoN b 0) (inoN b 1) (inoN b 2) (inoN b 3) (inoN b 4) (inoN b 5) (inoN b 6) (inoN b 7) (inoN b 8) (inoN b 9) (inoN b 10) (inoN b 11) = b ∧ decV b = (inoN b 0, inoN b 1, inoN b 2, inoN b 3, inoN b 4, inoN b 5, inoN b 6, inoN b 7, inoN b 8, inoN b 9, inoN b 10, inoN b 11, 0) := by
  unfold decV at h ⊢
  by_cases hc : b.size = 42 ∧ rightV (inoN b 0) (inoN b 1) (inoN b 2) (inoN b 3) (inoN b 4) (inoN b 5) (inoN b 6) (inoN b 7) (inoN b 8) (inoN b 9) (inoN b 10) (inoN b 11) = true ∧ inoB (inoN b 0) (inoN b 1) (inoN b 2) (inoN b 3) (inoN b 4) (inoN b 5) (inoN b 6) (inoN b 7) (inoN b 8) (inoN b 9) (inoN b 10) (inoN b 11) = b
  · rw [if_pos hc]; exact ⟨hc.1, hc.2.1, hc.2.2, rfl⟩
  · rw [if_neg hc] at h; cases h
theorem inoB_inj (a0 a1 a2 a3 a4 a5 a6 a7 a8 a9 a10 a11 b0 b1 b2 b3 b4 b5 b6 b7 b8 b9 b10 b11 : Int) (ha : inoOk a0 a1 a2 a3 a4 a5 a6 a7 a8 a9 a10 a11) (hb : inoOk b0 b1 b2 b3 b4 b5 b6 b7 b8 b9 b10 b11) (h : inoB a0 a1 a2 a3 a4 a5 a6 a7 a8 a9 a10 a11 = inoB b0 b1 b2 b3 b4 b5 b6 b7 b8 b9 b10 b11) : a0 = b0 ∧ a1 = b1 ∧ a2 = b2 ∧ a3 = b3 ∧ a4 = b4 ∧ a5 = b5 ∧ a6 = b6 ∧ a7 = b7 ∧ a8 = b8 ∧ a9 = b9 ∧ a10 = b10 ∧ a11 = b11 := by
  obtain ⟨h0, h1, h2, h3, h4, h5, h6, h7, h8, h9, h10, h11⟩ := inoN_inoB a0 a1 a2 a3 a4 a5 a6 a7 a8 a9 a10 a11 ha
  rw [h] at h0 h1 h2 h3 h4 h5 h6 h7 h8 h9 h10 h11
  obtain ⟨k0, k1, k2, k3, k4, k5, k6, k7, k8, k9, k10, k11⟩ := inoN_inoB b0 b1 b2 b3 b4 b5 b6 b7 b8 b9 b10 b11 hb
  exact ⟨h0.symm.trans k0, h1.symm.trans k1, h2.symm.trans k2, h3.symm.trans k3, h4.symm.trans k4, h5.symm.trans k5, h6.symm.trans k6, h7.symm.trans k7, h8.symm.trans k8, h9.symm.trans k9, h10.symm.trans k10, h11.symm.trans k11⟩
end Go.Proofs.Ytdcdcnnigggdjaa.P
