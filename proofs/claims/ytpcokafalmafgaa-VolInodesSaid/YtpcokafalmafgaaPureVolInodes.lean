/- Plain laws of layer 10: the reference answers as the program does. -/
import Derived.Test.YtpcokafalmafgaaQ6
import Derived.Test.YtpcokafalmafgaaHIDecR
import Derived.Test.YtpcokafalmafgaaPIno
import Derived.Test.YtpcokafalmafgaaHVInoR
import Derived.Test.YtpcokafalmafgaaPVolI
import Derived.Test.YtpcokafalmafgaaQ21
import Derived.Test.YtpcokafalmafgaaHTrimR
set_option linter.unusedVariables false
set_option linter.unusedSimpArgs false
set_option maxRecDepth 100000
namespace Go.Proofs.Ytpcokafalmafgaa.P
open Go.RowKit Go.Proofs.Ytpcokafalmafgaa.H Go.Proofs.Ytpcokafalmafgaa.Q Go.Proofs.YtpcokafalmafgaaW.PrintWords Go.Proofs.YtpcokafalmafgaaW.PrintLast Go.Proofs.YtpcokafalmafgaaW.PrintMore

theorem refBlocks_f (a : Int) (h0 : 0 ≤ a) (h1 : a < 4294967296) : nautilusref10_Blocks.f a = some (blk a) := by
 unfold nautilusref10_Blocks.f blk
 rw [IntWalk.u64_in a (by omega), Int.tmod_eq_emod_of_nonneg h0, Int.tdiv_eq_ediv_of_nonneg h0, IntWalk.u64_in (a / 508) (by omega), IntWalk.u64_in (a / 508 + 1) (by omega), IntWalk.wrap64_in _ (by omega), IntWalk.wrap64_in _ (by omega)]
 by_cases h : a % 508 = 0
 ·rw [if_pos h]; congr 1; omega
 ·rw [if_neg h]; congr 1; omega
theorem refDepth_f (a : Int) (h0 : 0 ≤ a) (h1 : a < 4294967296) : nautilusref10_Depth.f a = some (dep a) := by
 unfold nautilusref10_Depth.f dep
 rw [refBlocks_f a h0 h1, Option.bind_some]
 by_cases h : blk a ≤ 6
 ·rw [if_pos h, if_pos h]
 ·rw [if_neg h, if_neg h]
  by_cases h' : blk a ≤ 127
  ·rw [if_pos h', if_pos h']
  ·rw [if_neg h', if_neg h']
theorem zeroF_noneF (l : List Int) (i : Nat) (h : ∀ x ∈ l, 0 ≤ x) : zeroF l i = noneF l i := by
 unfold zeroF noneF
 rw [Bool.eq_iff_iff, List.all_eq_true, List.all_eq_true]
 constructor
 ·intro hz x hx
  have := hz x hx
  simp only [beq_iff_eq] at this
  simp [this]
 ·intro hz x hx
  have := hz x hx
  have h0 := h x (List.mem_of_mem_drop hx)
  simp only [Bool.not_eq_true', decide_eq_false_iff_not] at this
  simp only [beq_iff_eq]
  omega
theorem mapped_f (m0 m1 m2 m3 m4 m5 sz : Int) (h0 : 0 ≤ sz) (h1 : sz < 4294967296) (hm : 0 ≤ m0 ∧ 0 ≤ m1 ∧ 0 ≤ m2 ∧ 0 ≤ m3 ∧ 0 ≤ m4 ∧ 0 ≤ m5) : nautilusref10_mapped.f m0 m1 m2 m3 m4 m5 sz = some (mapV m0 m1 m2 m3 m4 m5 sz) := by
 unfold nautilusref10_mapped.f mapV
 rw [refBlocks_f sz h0 h1, Option.bind_some, refDepth_f sz h0 h1, Option.bind_some]
 by_cases hd : dep sz > 0
 ·rw [if_pos hd, if_pos hd]
  by_cases hz : m0 = 0
  ·rw [if_pos hz, decide_eq_false (by omega), Bool.false_and]
  ·rw [if_neg hz, decide_eq_true (show m0 > 0 by omega), Bool.true_and]
   simp [zeroF]
 ·have hb := blk_range sz h0 h1
  rw [if_neg hd, if_neg hd, if_pos (by omega), zeroF_noneF _ _ (by simp; omega)]
theorem refRight_f (a0 a1 a2 a3 a4 a5 a6 a7 a8 a9 a10 a11 : Int) (hw : inoWf a0 a1 a2 a3 a4 a5 a6 a7 a8 a9 a10 a11) : nautilusref10_Right.f a0 a1 a2 a3 a4 a5 a6 a7 a8 a9 a10 a11 = some (rightV a0 a1 a2 a3 a4 a5 a6 a7 a8 a9 a10 a11) := by
 have h0 := hw.2.2.1.1
 have h1 := hw.2.2.1.2
 unfold nautilusref10_Right.f rightV
 by_cases hz : (a0 == 0 && (a1 == 0 && (a2 == 0 && (a3 == 0 && (a4 == 0 && (a5 == 0 && ((a6 == 0 && (a7 == 0 && (a8 == 0 && (a9 == 0 && (a10 == 0 && (a11 == 0))))))))))))) = true
 ·rw [if_pos hz, hz, Bool.true_or]
 ·rw [if_neg hz]
  rw [show (a0 == 0 && (a1 == 0 && (a2 == 0 && (a3 == 0 && (a4 == 0 && (a5 == 0 && ((a6 == 0 && (a7 == 0 && (a8 == 0 && (a9 == 0 && (a10 == 0 && (a11 == 0))))))))))))) = false by simpa using hz, Bool.false_or]
  by_cases c1 : 1 ≤ a0
  ·rw [if_pos c1, decide_eq_true c1, Bool.true_and]
   by_cases c2 : a0 ≤ 3
   ·rw [if_pos c2, decide_eq_true c2, Bool.true_and]
    by_cases c3 : a1 ≤ 4095
    ·rw [if_pos c3, decide_eq_true c3, Bool.true_and]
     by_cases c4 : a3 ≤ 8193532
     ·rw [if_pos c4, decide_eq_true c4, Bool.true_and]
      by_cases c5 : a4 < 281474976710656
      ·rw [if_pos c5, decide_eq_true c5, Bool.true_and, refDepth_f a3 h0 h1, Option.bind_some]
       by_cases c6 : a5 = dep a3
       ·rw [if_pos c6, mapped_f _ _ _ _ _ _ _ h0 h1 (by unfold inoWf at hw; omega), beq_iff_eq.2 c6, Bool.true_and]
       ·rw [if_neg c6, beq_false_of_ne c6, Bool.false_and]
      ·rw [if_neg c5, decide_eq_false c5, Bool.false_and]
     ·rw [if_neg c4, decide_eq_false c4, Bool.false_and]
    ·rw [if_neg c3, decide_eq_false c3, Bool.false_and]
   ·rw [if_neg c2, decide_eq_false c2, Bool.false_and]
  ·rw [if_neg c1, decide_eq_false c1, Bool.false_and]
theorem refEncode_f (a0 a1 a2 a3 a4 a5 a6 a7 a8 a9 a10 a11 : Int) (hw : inoWf a0 a1 a2 a3 a4 a5 a6 a7 a8 a9 a10 a11) : nautilusref10_Encode.f a0 a1 a2 a3 a4 a5 a6 a7 a8 a9 a10 a11 = some (encV a0 a1 a2 a3 a4 a5 a6 a7 a8 a9 a10 a11) := by
 unfold nautilusref10_Encode.f encV
 rw [refRight_f a0 a1 a2 a3 a4 a5 a6 a7 a8 a9 a10 a11 hw, Option.bind_some]
 by_cases h : rightV a0 a1 a2 a3 a4 a5 a6 a7 a8 a9 a10 a11 = true
 ·rw [if_pos h, if_pos h, if_pos (right_ok a0 a1 a2 a3 a4 a5 a6 a7 a8 a9 a10 a11 hw h)]
 ·rw [if_neg h, if_neg h]
theorem refDecode_f (b : ByteArray) : nautilusref10_Decode.f b = some (decV b) := by
 rw [← decode_f]
 unfold nautilusref10_Decode.f inode_Decode.f
 by_cases hs : b.size = 42
 ·rw [if_pos hs, if_pos hs, refEncode_f _ _ _ _ _ _ _ _ _ _ _ _ (inoN_wf b), encode_f _ _ _ _ _ _ _ _ _ _ _ _ (inoN_wf b)]
 ·rw [if_neg hs, if_neg hs]
end Go.Proofs.Ytpcokafalmafgaa.P

set_option linter.unusedVariables false
set_option linter.unusedSimpArgs false
set_option maxRecDepth 100000
namespace Go.Proofs.Ytpcokafalmafgaa.P
open Go.RowKit Go.Proofs.Ytpcokafalmafgaa.H Go.Proofs.Ytpcokafalmafgaa.Q Go.Proofs.YtpcokafalmafgaaW.PrintWords Go.Proofs.YtpcokafalmafgaaW.PrintLast Go.Proofs.YtpcokafalmafgaaW.PrintMore

theorem refVin_f (n0 n1 n2 n3 : Int) (d : ByteArray) (m0 m1 m2 m3 m4 m5 : Int) (hd : d.size ≤ 10000) (h1 : 0 ≤ n1 ∧ n1 < 65536) (h2 : 0 ≤ n2 ∧ n2 < 65536) (h3 : 0 ≤ n3) (hm : (0 ≤ m0 ∧ m0 < 4294967296) ∧ (0 ≤ m1 ∧ m1 < 4294967296) ∧ (0 ≤ m2 ∧ m2 < 4294967296) ∧ (0 ≤ m3 ∧ m3 < 4294967296) ∧ (0 ≤ m4 ∧ m4 < 4294967296) ∧ (0 ≤ m5 ∧ m5 < 4294967296)) :
  nautilusref17_Inode.f n0 n1 n2 n3 d m0 m1 m2 m3 m4 m5 = some (vinV n0 n1 n2 n3 d m0 m1 m2 m3 m4 m5) := by
 unfold nautilusref17_Inode.f vinV
 by_cases c0 : (n0 == 0 && (n1 == 0 && (n2 == 0 && (n3 == 0 && (d.toList == ([] : List UInt8)))))) = true
 ·rw [if_pos c0]
  by_cases c1 : (m0 == 0 && (m1 == 0 && (m2 == 0 && (m3 == 0 && (m4 == 0 && (m5 == 0)))))) = true
  ·rw [if_pos c1, if_neg (fun h => by rw [c1] at h; cases h.2)]
   simp only [Bool.and_eq_true, beq_iff_eq] at c0 c1
   obtain ⟨rfl, rfl, rfl, rfl, hd0⟩ := c0
   obtain ⟨rfl, rfl, rfl, rfl, rfl, rfl⟩ := c1
   have hz : d.size = 0 := by rw [ByteArray.toList_eq] at hd0; have := congrArg List.length hd0; simpa using this
   rw [hz, if_pos (by decide), if_neg (fun h => by simp [hd0] at h)]
   rfl
  ·rw [if_neg c1, if_pos ⟨c0, by simpa using c1⟩]
 ·rw [if_neg c0, if_neg (by omega), if_neg (fun h => c0 h.1), refDepth_f _ (by omega) (by omega), Option.bind_some, refRight_f _ _ _ _ _ _ _ _ _ _ _ _ (by unfold inoWf; omega), Option.bind_some]
  by_cases h2 : rightV n0 n1 n2 d.size n3 (dep d.size) m0 m1 m2 m3 m4 m5 = true
  ·rw [if_pos h2, if_pos h2]
   by_cases hx : (n0 == 0 && (n1 == 0 && (n2 == 0 && ((d.size : Int) == 0 && (n3 == 0 && (dep d.size == 0 && ((m0 == 0 && (m1 == 0 && (m2 == 0 && (m3 == 0 && (m4 == 0 && (m5 == 0))))))))))))) = true
   ·rw [if_pos hx, if_pos ⟨by simpa using c0, hx⟩]
   ·rw [if_neg hx, if_neg (fun h => hx h.2)]
  ·rw [if_neg h2, if_neg h2]
theorem refVno_f (a0 a1 a2 a3 a4 a5 a6 a7 a8 a9 a10 a11 : Int) (d : ByteArray) (hw : inoWf a0 a1 a2 a3 a4 a5 a6 a7 a8 a9 a10 a11) (hd : d.size ≤ 10000) : nautilusref17_Node.f a0 a1 a2 a3 a4 a5 a6 a7 a8 a9 a10 a11 d = some (vnoV a0 a1 a2 a3 a4 a5 a6 a7 a8 a9 a10 a11 d) := by
 unfold nautilusref17_Node.f vnoV
 have h0 := hw.2.2.1.1
 have h1 := hw.2.2.1.2
 rw [refRight_f _ _ _ _ _ _ _ _ _ _ _ _ hw, Option.bind_some, IntWalk.u64_in (d.size : Int) (by omega), IntWalk.u64_in a3 (by omega)]
 by_cases h2 : rightV a0 a1 a2 a3 a4 a5 a6 a7 a8 a9 a10 a11 = true
 ·rw [if_pos h2, if_pos h2]
  by_cases h3 : (d.size : Int) = a3
  ·rw [if_pos h3, if_pos h3]
  ·rw [if_neg h3, if_neg h3]
 ·rw [if_neg h2, if_neg h2]
theorem nodes_loop17 (a : List S35) (hl : a.length ≤ 1000000000) : ∀ d i k, i + d = a.length → d < k → nautilusref14_Same.l0 k a a (i : Int) = some true
 | 0, i, k + 1, hi, _ => by rw [nautilusref14_Same.l0, if_neg (by omega)]
 | d + 1, i, k + 1, hi, hk => by
  rw [nautilusref14_Same.l0, if_pos (by omega), if_pos (by omega), if_pos (by omega), if_neg (by simp), show wrap64 ((i : Int) + 1) = ((i + 1 : Nat) : Int) by rw [IntWalk.wrap64_in _ (by omega)]; omega]
  exact nodes_loop17 a hl d (i + 1) k (by omega) (by omega)
theorem nodes_f17 (a : List S35) (k : Nat) (hl : a.length ≤ 1000000000) (hk : a.length < k) : nautilusref14_Same.f k a a = some true := by
 unfold nautilusref14_Same.f
 rw [if_pos rfl]
 exact nodes_loop17 a hl a.length 0 k (by omega) hk
end Go.Proofs.Ytpcokafalmafgaa.P

set_option linter.unusedVariables false
set_option maxRecDepth 100000
namespace Go.Proofs.Ytpcokafalmafgaa.Pure
open Go.RowKit Go.Proofs.Ytpcokafalmafgaa.P Go.Proofs.Ytpcokafalmafgaa.H Go.Proofs.Ytpcokafalmafgaa.Q Go.Proofs.YtpcokafalmafgaaW.PrintWords Go.Proofs.YtpcokafalmafgaaW.PrintLast
theorem VolInodes : nautiluslaw17_VolInodes.Pure := by
 intro n0 n1 n2 n3 dd m0 m1 m2 m3 m4 m5 x0 x1 x2 x3 x4 x5 x6 x7 x8 x9 x10 x11 e l wn0 wn1 wn2 wn3 wd wm0 wm1 wm2 wm3 wm4 wm5 wx0 wx1 wx2 wx3 wx4 wx5 wx6 wx7 wx8 wx9 wx10 wx11 we wl wls
 have q1 := u16_wf wn1; have q2 := u16_wf wn2; have q3 := u64_wf wn3
 have r0 := u32_wf wm0; have r1 := u32_wf wm1; have r2 := u32_wf wm2; have r3 := u32_wf wm3; have r4 := u32_wf wm4; have r5 := u32_wf wm5
 have hx : inoWf x0 x1 x2 x3 x4 x5 x6 x7 x8 x9 x10 x11 := by
  have q1 := u16_wf wx1; have q2 := u16_wf wx2; have q3 := u32_wf wx3; have q4 := u64_wf wx4; have q6 := u32_wf wx6; have q7 := u32_wf wx7; have q8 := u32_wf wx8; have q9 := u32_wf wx9; have q10 := u32_wf wx10; have q11 := u32_wf wx11
  unfold inoWf; omega
 refine ⟨200, ?_⟩
 obtain ⟨m, hm, hm2, hm3⟩ : ∃ m : Nat, mn (l.length : Int) 100 = m ∧ m ≤ 100 ∧ m ≤ l.length := ⟨min l.length 100, by unfold mn; omega, by omega, by omega⟩
 have a1 : (dd.extract 0 (min dd.size 10000)).size ≤ 10000 := by rw [ByteArray.size_extract]; omega
 have a2 : (e.extract 0 (min e.size 10000)).size ≤ 10000 := by rw [ByteArray.size_extract]; omega
 unfold nautiluslaw17_VolInodes.f
 rw [shown_f 200 (by omega), Option.bind_some, cut17_f dd, Option.bind_some, cut17_f e, Option.bind_some, hm, if_pos (by omega), if_pos (by omega), Option.bind_some, Int.toNat_natCast]
 generalize dd.extract 0 (min dd.size 10000) = d at a1 ⊢
 generalize e.extract 0 (min e.size 10000) = c at a2 ⊢
 have hlt : (l.take m).length ≤ 100 := by rw [List.length_take]; omega
 generalize l.take m = y at hlt ⊢
 have ht := trimTo_le y y.length
 have e1 : vol_Trim.n y = ((trimTo y y.length : Nat) : Int) := rfl
 have e2 : nautilusref17_Trim.n y = ((trimTo y y.length : Nat) : Int) := rfl
 rw [vin_f _ _ _ _ d _ _ _ _ _ _ a1, Option.bind_some, refVin_f _ _ _ _ d _ _ _ _ _ _ a1 q1 q2 q3.1 ⟨r0, r1, r2, r3, r4, r5⟩, Option.bind_some, vno_f _ _ _ _ _ _ _ _ _ _ _ _ c hx.2.2.1.1 hx.2.2.1.2 a2, Option.bind_some, refVno_f _ _ _ _ _ _ _ _ _ _ _ _ c hx a2, Option.bind_some, if_pos rfl,
  if_pos (by simp), if_pos rfl, if_pos (by simp), if_pos rfl, e1, e2, if_pos (by omega), if_pos (by omega), if_pos (by omega), if_pos (by omega), Int.toNat_natCast, nodes_f17 _ 200 (by rw [List.length_take]; omega) (by rw [List.length_take]; omega)]
 rfl
end Go.Proofs.Ytpcokafalmafgaa.Pure
