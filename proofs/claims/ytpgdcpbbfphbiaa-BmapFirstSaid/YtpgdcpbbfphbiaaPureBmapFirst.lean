/- The law BmapFirst, in plain words: where a map has blocks, the inode has the first one's number alone, and the top those of the lower ones. -/
import Derived.Test.YtpgdcpbbfphbiaaQ25
import Derived.Test.YtpgdcpbbfphbiaaPBmC
set_option linter.unusedVariables false
namespace Go.Proofs.Ytpgdcpbbfphbiaa.Pure
open Go.RowKit Go.Proofs.Ytpgdcpbbfphbiaa.P Go.Proofs.Ytpgdcpbbfphbiaa.H Go.Proofs.Ytpgdcpbbfphbiaa.Q Go.Proofs.YtpgdcpbbfphbiaaW.PrintWords Go.Proofs.YtpgdcpbbfphbiaaW.PrintLast Go.Proofs.YtpgdcpbbfphbiaaW.PrintMore
theorem BmapFirst : nautiluslaw13_BmapFirst.Pure := by
  intro size l ids hs _ _ hl _ _ hi
  obtain ⟨h0, h1⟩ := u32_wf hs
  have fl := fine_of hl
  have fi := fine_of hi
  refine ⟨5000 + 3, ?_⟩
  unfold nautiluslaw13_BmapFirst.f
  rw [shown_f _ (by omega), Option.bind_some]
  have no (x : Bool) (hx : x = true) : nautiluslaw13_BmapFirst.j0 (5000 + 3) size l ids true x = some true := by rw [nautiluslaw13_BmapFirst.j0, if_pos hx]
  by_cases l1 : (l.length : Int) > 1000
  · rw [if_pos l1, no true rfl]
  rw [if_neg l1]
  by_cases l3 : (ids.length : Int) > 1000
  · rw [no _ (decide_eq_true l3)]
  rw [decide_eq_false l3, nautiluslaw13_BmapFirst.j0, if_neg (by decide), lay_f size l ids h0 h1 (by omega) (by omega) fl fi, Option.bind_some]
  by_cases g : goodLay size l ids
  · rw [if_pos g]
    have hlo := low_le size g.1
    have hcc := cnt_cases size g.1
    have g2 := g.2.1
    have g3 := g.2.2.1
    by_cases hi0 : ids.length = 0
    · unfold layOk
      rw [if_pos hi0]
      show (if (0 : Int) = 0 then nautiluslaw13_BmapFirst.j1 (5000 + 2) size l ids true [] 0 ((ids.length : Int) == 0) _ _ _ _ _ _ else _) = _
      rw [if_pos rfl, nautiluslaw13_BmapFirst.j1, if_pos (by simp [hi0]), if_pos rfl, if_pos rfl]
      rfl
    · have hll := lay_len g hi0
      unfold layOk
      rw [if_neg hi0]
      show (if (0 : Int) = 0 then nautiluslaw13_BmapFirst.j1 (5000 + 2) size l ids true (layN l ids (partN 127 l)) 0 ((ids.length : Int) == 0) (ids.getD 0 0) 0 0 0 0 0 else _) = _
      rw [if_pos rfl, nautiluslaw13_BmapFirst.j1, if_neg (by rw [beq_eq_false_iff_ne.2 (by omega)]; decide), if_pos (by omega), if_pos (by omega), show rd ids 0 = ids.getD 0 0 from rfl]
      have hb : (!(ids.getD 0 0 == ids.getD 0 0) || (!((0 : Int) == 0) || (!((0 : Int) == 0) || (!((0 : Int) == 0) || (!((0 : Int) == 0) || (!((0 : Int) == 0))))))) = false := by simp
      rw [hb, nautiluslaw13_BmapFirst.j2, if_neg (by decide)]
      have hr : rdOf ByteArray.empty (layN l ids (partN 127 l)) 0 = (layN l ids (partN 127 l))[0]'(by omega) := rdB_in _ 0 (by omega)
      by_cases h1i : ids.length = 1
      · rw [if_pos (by omega), if_pos (by omega), hr]
        have hl127 : l.length ≤ 127 := by omega
        have hp1 : partN 127 l = 1 := by unfold partN; omega
        have e : (layN l ids (partN 127 l))[0]'(by omega) = blkB l := by
          have : layN l ids (partN 127 l) = [blkB l] := by
            unfold layN topB
            rw [if_neg (by omega), hp1, List.nil_append]
            show [blkB (partL 127 l 0)] = _
            rw [part_whole l hl127]
          simp only [this]; rfl
        rw [e, numbers_f, Option.bind_some, if_pos (blkB_size l hl127), if_pos rfl, if_pos rfl, numsN_blk l hl127 fl]
        show (if ((padL l).length : Int) = 127 then _ else _) = _
        rw [padL_len l hl127, if_pos (by rfl), if_pos (by omega), if_pos (by omega), if_pos (by omega)]
        rw [show (padL l).take ((l.length : Int)).toNat = l by rw [Int.toNat_natCast]; unfold padL; exact List.take_left' rfl, same_f l l (by omega) _ (by omega), Option.bind_some, decide_eq_true rfl]
      · rw [if_neg (by omega), if_pos (by omega), hr]
        have e : (layN l ids (partN 127 l))[0]'(by omega) = blkB (ids.drop 1) := by
          have : layN l ids (partN 127 l) = blkB (ids.drop 1) :: (List.range (partN 127 l)).map fun j => blkB (partL 127 l j) := by
            unfold layN topB
            rw [if_pos (by omega)]; rfl
          simp only [this]; rfl
        have hdl : ((ids.drop 1).length : Int) = low size := by rw [List.length_drop]; omega
        rw [e, below_blk size (ids.drop 1) h0 h1 g.1 (by omega) hdl (fun x hx => fi x (List.mem_of_mem_drop hx)) (fun x hx => pos_of g.2.2.2 fi x (List.mem_of_mem_drop hx)), Option.bind_some, if_pos rfl, if_pos rfl, if_pos (by omega), show ((ids.drop 1, (0 : Int)).1) = ids.drop 1 from rfl, same_f _ _ (by omega) _ (by omega), Option.bind_some, decide_eq_true rfl]
  · rw [if_neg g, if_neg (show ¬ layErr.2.2.2.2.2.2.2 = 0 by decide), nautiluslaw13_BmapFirst.j1, if_pos rfl, if_pos rfl, if_neg (show ¬ layErr.2.2.2.2.2.2.2 = 0 by decide)]
end Go.Proofs.Ytpgdcpbbfphbiaa.Pure
