/- Plain laws on maps: what is joined. -/
import Derived.Test.YtpgdcpbbfphbiaaPBmC
namespace Go.Proofs.Ytpgdcpbbfphbiaa.P
open Go.RowKit Go.Proofs.Ytpgdcpbbfphbiaa.H Go.Proofs.Ytpgdcpbbfphbiaa.Q Go.Proofs.YtpgdcpbbfphbiaaW.PrintWords Go.Proofs.YtpgdcpbbfphbiaaW.PrintLast Go.Proofs.YtpgdcpbbfphbiaaW.PrintMore
set_option linter.unusedVariables false

def mapOk (size m0 m1 m2 m3 m4 m5 : Int) : Bool := if dep size > 0 then (if m0 > 0 then (m1 == 0 && (m2 == 0 && (m3 == 0 && (m4 == 0 && m5 == 0)))) else false) else noneF [m0, m1, m2, m3, m4, m5] (blk size).toNat
theorem isMap_f (size m0 m1 m2 m3 m4 m5 : Int) (h0 : 0 ≤ size) (h1 : size < 4294967296) : inode_isMap.f m0 m1 m2 m3 m4 m5 size = some (mapOk size m0 m1 m2 m3 m4 m5) := by
  have hb := blk_range size h0 h1
  unfold inode_isMap.f mapOk
  rw [depth_f size h0 h1, Option.bind_some]
  by_cases h : dep size > 0
  · rw [if_pos h, if_pos h]; split <;> rfl
  · rw [if_neg h, if_neg h, blocks_f size h0 h1, Option.bind_some, if_pos (by omega)]
theorem right_f (size m0 m1 m2 m3 m4 m5 : Int) (h0 : 0 ≤ size) (h1 : size < 4294967296) : inode_Right.f 1 0 0 size 0 (depV size) m0 m1 m2 m3 m4 m5 = some (if size ≤ 8193532 then mapOk size m0 m1 m2 m3 m4 m5 else false) := by
  unfold inode_Right.f
  rw [if_neg (by simp), if_neg (by decide), if_neg (by decide), if_neg (by decide)]
  by_cases h : size ≤ 8193532
  · rw [if_pos h, if_pos h, if_pos (by decide), depth_f size h0 h1, Option.bind_some, depV_eq _ h0 h1, if_pos rfl, isMap_f size _ _ _ _ _ _ h0 h1]
  · rw [if_neg h, if_neg h]
theorem joinL_tot : ∀ (bs : List ByteArray) (out : List Int), ∃ r, joinL bs out = some r ∧ (r.2 = 0 → r.1.length = out.length + 127 * bs.length)
  | [], out => ⟨(out, 0), rfl, fun _ => by simp⟩
  | b :: bs, out => by
    by_cases h : b.size = 508
    · obtain ⟨r, h1, h2⟩ := joinL_tot bs (out ++ numsN b 127)
      exact ⟨r, by rw [joinL_cons b h]; exact h1, fun e => by rw [h2 e, List.length_append, numsN_len, List.length_cons]; omega⟩
    · refine ⟨([], 130), ?_, fun e => absurd e (by decide)⟩
      rw [joinL, numbers_f, Option.bind_some, if_neg h, if_neg (by decide)]
theorem joinEnd_tot (many : Int) (r : List Int × Int) (h0 : 0 ≤ many) (h : r.2 = 0 → many ≤ (r.1.length : Int)) : ∃ q, joinEnd many r = some q := by
  obtain ⟨l, e⟩ := r
  by_cases he : e = 0
  · subst he
    exact ⟨_, end_f many l ⟨h0, h rfl⟩⟩
  · exact ⟨_, by unfold joinEnd; rw [if_neg he]⟩
theorem below_tot (size : Int) (b : ByteArray) : ∃ r, bmap_Below.f size b = some r := by
  unfold bmap_Below.f
  split
  · exact ⟨_, rfl⟩
  · split
    · split
      · rename_i h
        rw [if_pos (okN_all b h)]
        split <;> exact ⟨_, rfl⟩
      · exact ⟨_, rfl⟩
    · exact ⟨_, rfl⟩
/-- A map is joined, whatever it is. -/
theorem join_tot (size m0 m1 m2 m3 m4 m5 : Int) (bs : List ByteArray) (h0 : 0 ≤ size) (h1 : size < 4294967296) (hb : bs.length ≤ 1000) : ∃ r, bmap_Join.f size m0 m1 m2 m3 m4 m5 bs = some r := by
  unfold bmap_Join.f
  rw [right_f size _ _ _ _ _ _ h0 h1, Option.bind_some]
  by_cases hsn : ¬ size ≤ 8193532
  · rw [if_neg hsn, if_neg (by decide)]; exact ⟨_, rfl⟩
  have hs : size ≤ 8193532 := Decidable.not_not.1 hsn
  rw [if_pos hs]
  cases hm : mapOk size m0 m1 m2 m3 m4 m5 with
  | false => rw [if_neg (by decide)]; exact ⟨_, rfl⟩
  | true =>
    rw [if_pos rfl, cntV_eq _ h0 h1]
    by_cases hcn : ¬ (bs.length : Int) = cnt size
    · rw [if_neg hcn]; exact ⟨_, rfl⟩
    have hc : (bs.length : Int) = cnt size := Decidable.not_not.1 hcn
    rw [if_pos hc, if_pos hb]
    have hbk := blk_range size h0 h1
    unfold joinGood
    rw [depV_eq _ h0 h1, blocksV_eq _ h0 h1]
    rcases cnt_cases size hs with ⟨d, b1, c⟩ | ⟨d, b1, b2, c⟩ | ⟨d, b1, c, c2⟩
    · rw [d, if_neg (by decide)]
      obtain ⟨r, r1, r2⟩ := joinL_tot bs [m0, m1, m2, m3, m4, m5]
      rw [r1, Option.bind_some]
      exact joinEnd_tot _ r hbk.1 (fun e => by rw [r2 e]; simp; omega)
    · rw [d, if_pos (by decide), if_neg (by decide)]
      obtain ⟨r, r1, r2⟩ := joinL_tot bs []
      rw [r1, Option.bind_some]
      exact joinEnd_tot _ r hbk.1 (fun e => by rw [r2 e]; simp; omega)
    · rw [d, if_pos (by decide), if_pos rfl, if_neg (by omega)]
      obtain ⟨⟨xl, xe⟩, q⟩ := below_tot size (bs.getD 0 ByteArray.empty)
      rw [q, Option.bind_some]
      by_cases hx : xe = 0
      · rw [if_pos hx]
        obtain ⟨r, r1, r2⟩ := joinL_tot (bs.drop 1) []
        rw [r1, Option.bind_some]
        refine joinEnd_tot _ r hbk.1 (fun e => ?_)
        rw [r2 e, List.length_drop]
        have : low size = (blk size + 126) / 127 := rfl
        simp; omega
      · rw [if_neg hx]; exact ⟨_, rfl⟩
/-! ### What was laid is joined as it was -/
theorem flat_parts (l : List Int) : ∀ k, 127 * k ≤ l.length → ((List.range k).map fun j => padL (partL 127 l j)).flatten = l.take (127 * k)
  | 0, _ => rfl
  | k + 1, h => by
    rw [List.range_succ, List.map_append, List.flatten_append, flat_parts l k (by omega)]
    have hp : padL (partL 127 l k) = partL 127 l k := by
      unfold padL
      rw [partL_len, show 127 - (min (127 * k + 127) l.length - 127 * k) = 0 by omega, List.replicate_zero, List.append_nil]
    simp only [List.map_cons, List.map_nil, List.flatten_cons, List.flatten_nil, List.append_nil, hp]
    unfold partL
    rw [show min (127 * k + 127) l.length = 127 * (k + 1) by omega]
    have : l.take (127 * k) = (l.take (127 * (k + 1))).take (127 * k) := by rw [List.take_take, show min (127 * k) (127 * (k + 1)) = 127 * k by omega]
    rw [this, List.take_append_drop]
/-- The padded parts of a list are the list, with 0 behind it. -/
theorem flat_all (l : List Int) (h : 0 < l.length) : ∃ z, ((List.range (partN 127 l)).map fun j => padL (partL 127 l j)).flatten = l ++ List.replicate z 0 := by
  obtain ⟨n, hn⟩ : ∃ n, partN 127 l = n + 1 := ⟨partN 127 l - 1, by unfold partN; omega⟩
  have h1 : 127 * n < l.length := (partN_lt (by omega) l n).1 (by omega)
  have h2 : ¬ 127 * (n + 1) < l.length := fun q => by have := (partN_lt (by omega) l (n + 1)).2 q; omega
  refine ⟨127 - (partL 127 l n).length, ?_⟩
  rw [hn, List.range_succ, List.map_append, List.flatten_append, flat_parts l n (by omega)]
  simp only [List.map_cons, List.map_nil, List.flatten_cons, List.flatten_nil, List.append_nil]
  have hp : partL 127 l n = l.drop (127 * n) := by
    unfold partL
    rw [show min (127 * n + 127) l.length = l.length by omega, List.take_length]
  unfold padL
  rw [← List.append_assoc, hp, List.take_append_drop]
theorem joinL_blocks : ∀ (ps : List (List Int)) (out : List Int), (∀ p ∈ ps, p.length ≤ 127 ∧ fineL p) → joinL (ps.map blkB) out = some (out ++ (ps.map padL).flatten, 0)
  | [], out, _ => by simp [joinL]
  | p :: ps, out, h => by
    obtain ⟨h1, h2⟩ := h p (by simp)
    rw [List.map_cons, joinL_cons _ (blkB_size p h1), numsN_blk p h1 h2, joinL_blocks ps _ (fun q hq => h q (by simp [hq]))]
    simp
theorem end_zeros (l : List Int) (z : Nat) (many : Int) (hm : many = (l.length : Int)) : joinEnd many (l ++ List.replicate z 0, 0) = some (l, 0) := by
  subst hm
  rw [end_f _ _ ⟨by omega, by rw [List.length_append]; omega⟩, Int.toNat_natCast, List.drop_left' rfl, any_zeros, if_neg (by decide), List.take_left' rfl]
theorem none_pad (l : List Int) (h : l.length ≤ 6) : noneF [l.getD 0 0, l.getD 1 0, l.getD 2 0, l.getD 3 0, l.getD 4 0, l.getD 5 0] l.length = true ∧ ∃ z, [l.getD 0 0, l.getD 1 0, l.getD 2 0, l.getD 3 0, l.getD 4 0, l.getD 5 0] = l ++ List.replicate z 0 := by
  match l, h with
  | [], _ => exact ⟨by decide, 6, rfl⟩
  | [a], _ => exact ⟨by simp [noneF], 5, rfl⟩
  | [a, b], _ => exact ⟨by simp [noneF], 4, rfl⟩
  | [a, b, c], _ => exact ⟨by simp [noneF], 3, rfl⟩
  | [a, b, c, d], _ => exact ⟨by simp [noneF], 2, rfl⟩
  | [a, b, c, d, e], _ => exact ⟨by simp [noneF], 1, rfl⟩
  | [a, b, c, d, e, f], _ => exact ⟨by simp [noneF], 0, rfl⟩
  | _ :: _ :: _ :: _ :: _ :: _ :: _ :: _, h => simp at h
theorem join_lay (size : Int) (l ids : List Int) (h0 : 0 ≤ size) (h1 : size < 4294967296) (g : goodLay size l ids) (fl : fineL l) (fi : fineL ids) (hi : ids.length ≤ 1000) :
    bmap_Join.f size (layOk l ids).1 (layOk l ids).2.1 (layOk l ids).2.2.1 (layOk l ids).2.2.2.1 (layOk l ids).2.2.2.2.1 (layOk l ids).2.2.2.2.2.1 (layOk l ids).2.2.2.2.2.2.1 = some (l, 0) := by
  have gs := g.1
  have g2 := g.2.1
  have g3 := g.2.2.1
  have hlo := low_le size gs
  unfold bmap_Join.f
  rw [right_f size _ _ _ _ _ _ h0 h1, Option.bind_some, if_pos gs, cntV_eq _ h0 h1]
  unfold joinGood
  rw [depV_eq _ h0 h1, blocksV_eq _ h0 h1]
  rcases cnt_cases size gs with ⟨d, b1, c⟩ | ⟨d, b1, b2, c⟩ | ⟨d, b1, c, c2⟩
  · have hi0 : ids.length = 0 := by omega
    obtain ⟨q1, z, q2⟩ := none_pad l (by omega)
    rw [show layOk l ids = (l.getD 0 0, l.getD 1 0, l.getD 2 0, l.getD 3 0, l.getD 4 0, l.getD 5 0, [], 0) by unfold layOk; rw [if_pos hi0]]
    show (if mapOk size (l.getD 0 0) (l.getD 1 0) (l.getD 2 0) (l.getD 3 0) (l.getD 4 0) (l.getD 5 0) = true then (if ((([] : List ByteArray).length : Nat) : Int) = cnt size then (if ([] : List ByteArray).length ≤ 1000 then (if 0 < dep size then _ else (joinL [] [l.getD 0 0, l.getD 1 0, l.getD 2 0, l.getD 3 0, l.getD 4 0, l.getD 5 0]).bind (joinEnd (blk size))) else _) else _) else _) = _
    have hm : mapOk size (l.getD 0 0) (l.getD 1 0) (l.getD 2 0) (l.getD 3 0) (l.getD 4 0) (l.getD 5 0) = true := by
      unfold mapOk
      rw [if_neg (by omega), ← g2, Int.toNat_natCast]; exact q1
    rw [if_pos hm, if_pos (by rw [c]; rfl), if_pos (by decide), if_neg (by omega), joinL, Option.bind_some, q2]
    exact end_zeros l z _ g2.symm
  · have hi1 : ids.length = 1 := by omega
    have hl127 : l.length ≤ 127 := by omega
    have hlay : layN l ids (partN 127 l) = [l].map blkB := by
      unfold layN topB
      rw [if_neg (by omega), show partN 127 l = 1 by unfold partN; omega, List.nil_append]
      show [blkB (partL 127 l 0)] = _
      rw [part_whole l hl127]; rfl
    rw [show layOk l ids = (ids.getD 0 0, 0, 0, 0, 0, 0, layN l ids (partN 127 l), 0) by unfold layOk; rw [if_neg (by omega)], hlay]
    have hp0 : ids.getD 0 0 > 0 := by
      have := pos_of g.2.2.2 fi _ (List.getElem_mem (show 0 < ids.length by omega))
      simpa [show 0 < ids.length by omega] using this
    show (if mapOk size (ids.getD 0 0) 0 0 0 0 0 = true then (if (1 : Int) = cnt size then (if 1 ≤ 1000 then (if 0 < dep size then (if dep size = 2 then _ else (joinL ([l].map blkB) []).bind (joinEnd (blk size))) else _) else _) else _) else _) = _
    have hm : mapOk size (ids.getD 0 0) 0 0 0 0 0 = true := by
      unfold mapOk
      rw [if_pos (by omega), if_pos hp0]; rfl
    rw [if_pos hm, if_pos (by omega), if_pos (by omega), if_pos (by omega), if_neg (by omega), joinL_blocks [l] [] (fun p hp => by rw [show p = l by simpa using hp]; exact ⟨hl127, fl⟩), Option.bind_some]
    have e : ([] : List Int) ++ ([l].map padL).flatten = l ++ List.replicate (127 - l.length) 0 := by simp [padL]
    rw [e]
    exact end_zeros l _ _ g2.symm
  · have hdl : ((ids.drop 1).length : Int) = low size := by rw [List.length_drop]; omega
    have hlay : layN l ids (partN 127 l) = blkB (ids.drop 1) :: (((List.range (partN 127 l)).map fun j => partL 127 l j).map blkB) := by
      unfold layN topB
      rw [if_pos (by omega), List.map_map]; rfl
    have hpn : (partN 127 l : Int) = low size := by unfold partN low; rw [← g2]; omega
    rw [show layOk l ids = (ids.getD 0 0, 0, 0, 0, 0, 0, layN l ids (partN 127 l), 0) by unfold layOk; rw [if_neg (by omega)], hlay]
    have hp0 : ids.getD 0 0 > 0 := by
      have := pos_of g.2.2.2 fi _ (List.getElem_mem (show 0 < ids.length by omega))
      simpa [show 0 < ids.length by omega] using this
    have hm : mapOk size (ids.getD 0 0) 0 0 0 0 0 = true := by
      unfold mapOk
      rw [if_pos (by omega), if_pos hp0]; rfl
    generalize hP : ((List.range (partN 127 l)).map fun j => partL 127 l j) = P
    have hPl : P.length = partN 127 l := by rw [← hP]; simp
    show (if mapOk size (ids.getD 0 0) 0 0 0 0 0 = true then (if (((blkB (ids.drop 1) :: P.map blkB).length : Nat) : Int) = cnt size then (if (blkB (ids.drop 1) :: P.map blkB).length ≤ 1000 then (if 0 < dep size then (if dep size = 2 then (if (blkB (ids.drop 1) :: P.map blkB).length = 0 then none else (bmap_Below.f size (blkB (ids.drop 1))).bind fun t => if t.2 = 0 then (joinL (P.map blkB) []).bind (joinEnd (blk size)) else some ([], t.2)) else _) else _) else _) else _) else _) = _
    rw [if_pos hm, if_pos (by rw [List.length_cons, List.length_map]; omega), if_pos (by rw [List.length_cons, List.length_map]; omega), if_pos (by omega), if_pos d, if_neg (by simp),
      below_blk size (ids.drop 1) h0 h1 gs d hdl (fun x hx => fi x (List.mem_of_mem_drop hx)) (fun x hx => pos_of g.2.2.2 fi x (List.mem_of_mem_drop hx)), Option.bind_some, if_pos rfl,
      joinL_blocks P [] (by rw [← hP]; intro p hp; obtain ⟨j, _, rfl⟩ := List.mem_map.1 hp; exact ⟨part_le l j, part_fine fl j⟩), Option.bind_some, List.nil_append, ← hP, List.map_map]
    obtain ⟨z, hz⟩ := flat_all l (by omega)
    show joinEnd (blk size) (((List.range (partN 127 l)).map fun j => padL (partL 127 l j)).flatten, 0) = _
    rw [hz]
    exact end_zeros l z _ g2.symm
end Go.Proofs.Ytpgdcpbbfphbiaa.P
