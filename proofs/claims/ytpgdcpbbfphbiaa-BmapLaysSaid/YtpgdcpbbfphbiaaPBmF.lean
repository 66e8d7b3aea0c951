/- Plain laws on maps: what the reference lays. -/
import Derived.Test.YtpgdcpbbfphbiaaQ15
import Derived.Test.YtpgdcpbbfphbiaaPBmC
import Derived.Test.YtpgdcpbbfphbiaaHBLayR
namespace Go.Proofs.Ytpgdcpbbfphbiaa.P
open Go.RowKit Go.Proofs.Ytpgdcpbbfphbiaa.H Go.Proofs.Ytpgdcpbbfphbiaa.Q Go.Proofs.YtpgdcpbbfphbiaaW.PrintWords Go.Proofs.YtpgdcpbbfphbiaaW.PrintLast Go.Proofs.YtpgdcpbbfphbiaaW.PrintMore
set_option linter.unusedVariables false

theorem zeros_str (n : Nat) : strOfNums (List.replicate n 0) = ⟨(List.replicate n (0 : UInt8)).toArray⟩ := by
  simp [strOfNums, List.map_replicate]
theorem ba_append (a b : List UInt8) : (⟨a.toArray⟩ : ByteArray) ++ ⟨b.toArray⟩ = ⟨(a ++ b).toArray⟩ := by
  apply ByteArray.ext
  simp
theorem block_loop (l : List Int) (hl : l.length ≤ 127) (fl : fineL l) : ∀ d j k, j + d = l.length → d + 12 ≤ k → nautilusref13_block.l0 k l ⟨(numsB (l.take j)).toArray⟩ (j : Int) = some (blkB l) := by
  intro d
  induction d with
  | zero =>
    intro j k hj hk
    obtain ⟨k, rfl⟩ : ∃ k', k = k' + 1 := ⟨k - 1, by omega⟩
    obtain rfl : j = l.length := by omega
    have hn := numsB_len l
    simp only [nautilusref13_block.l0]
    rw [if_neg (by omega), List.take_length]
    have hs : (⟨(numsB l).toArray⟩ : ByteArray).size = 4 * l.length := by rw [← hn]; simp [ByteArray.size]
    rw [hs, IntWalk.wrap64_in _ (by omega), if_pos (by omega), if_pos (by omega), Option.bind_some, zeros_str, ba_append]
    have hz : (⟨(List.replicate ((508 : Int) - ((4 * l.length : Nat) : Int)).toNat (0 : UInt8)).toArray⟩ : ByteArray).size = ((508 : Int) - ((4 * l.length : Nat) : Int)).toNat := by simp [ByteArray.size]
    rw [hz, if_pos (by omega)]
    unfold blkB
    rw [hn, show ((508 : Int) - ((4 * l.length : Nat) : Int)).toNat = 508 - 4 * l.length by omega]
  | succ d ih =>
    intro j k hj hk
    obtain ⟨k, rfl⟩ : ∃ k', k = k' + 1 := ⟨k - 1, by omega⟩
    have hjl : j < l.length := by omega
    have hx := fl _ (List.getElem_mem hjl)
    have hr : rd l (j : Int) = l[j] := by simp [rd, hjl]
    simp only [nautilusref13_block.l0]
    rw [if_pos (by omega), if_pos (by omega), hr, IntWalk.u64_in _ (by omega), refBytes_f _ 4 (by omega) (by omega) k (by omega), Option.bind_some]
    have hn := numsB_len (l.take j)
    rw [List.length_take] at hn
    have hs : (⟨(numsB (l.take j)).toArray⟩ : ByteArray).size = 4 * min j l.length := by rw [← hn]; simp [ByteArray.size]
    have hb : (leB l[j] 4).size = 4 := leB_size _ _
    rw [if_pos (show (⟨(numsB (l.take j)).toArray⟩ : ByteArray).size + (leB l[j] (4 : Int).toNat).size ≤ 9223372036854775807 by rw [hs]; show _ + (leB l[j] 4).size ≤ _; rw [hb]; omega)]
    rw [IntWalk.wrap64_in _ (by omega)]
    have hst : (⟨(numsB (l.take j)).toArray⟩ : ByteArray) ++ leB l[j] (4 : Int).toNat = ⟨(numsB (l.take (j + 1))).toArray⟩ := by
      rw [numsB_take l j hjl, show l.getD j 0 = l[j] by simp [hjl]]
      exact ba_append _ _
    rw [hst, show (j : Int) + 1 = ((j + 1 : Nat) : Int) by omega]
    exact ih (j + 1) k (by omega) (by omega)
theorem fine_sub' {l m : List Int} (h : fineL m) (hs : ∀ x ∈ l, x ∈ m) : fineL l := fun x hx => h x (hs x hx)
theorem blockR_f (l : List Int) (hl : l.length ≤ 127) (fl : fineL l) (k : Nat) (hk : 200 ≤ k) : nautilusref13_block.f k l = some (blkB l) := by
  unfold nautilusref13_block.f
  have := block_loop l hl fl l.length 0 k (by omega) (by omega)
  simpa [numsB] using this
theorem partsR_f (l : List Int) (fl : fineL l) (k : Nat) (hk : 200 ≤ k) : ∀ n j, partsR k l n j = some ((List.range n).map fun i => blkB (partL 127 l (j + i))) := by
  intro n
  induction n with
  | zero => intro j; rfl
  | succ n ih =>
    intro j
    rw [partsR, blockR_f _ (part_le l j) (fine_sub' fl fun x hx => List.mem_of_mem_take (List.mem_of_mem_drop hx)) k hk, Option.bind_some, ih, Option.bind_some, List.range_succ_eq_map, List.map_cons, List.map_map]
    simp only [Function.comp_def]
    congr 2
    exact List.map_congr_left fun i _ => by rw [show j + 1 + i = j + i.succ by omega]
theorem layR_f (size : Int) (l ids : List Int) (h0 : 0 ≤ size) (h1 : size < 4294967296) (hl : l.length ≤ 100000) (hi : ids.length ≤ 100000) (fl : fineL l) (fi : fineL ids) : nautilusref13_Lay.f size l ids = some (if goodLay size l ids then layOk l ids else layErr) := by
  unfold nautilusref13_Lay.f
  by_cases c0 : size > 8193532
  · rw [if_pos c0, if_neg (show ¬ goodLay size l ids by unfold goodLay; omega)]
  rw [if_neg c0, refBlocks_f _ h0 h1, Option.bind_some]
  by_cases c1 : (l.length : Int) = blk size
  case neg => rw [if_neg c1, if_neg (show ¬ goodLay size l ids by unfold goodLay; exact fun h => c1 h.2.1)]
  rw [if_pos c1, refCount_f _ h0 h1, Option.bind_some]
  by_cases c2 : (ids.length : Int) = cnt size
  case neg => rw [if_neg c2, if_neg (show ¬ goodLay size l ids by unfold goodLay; exact fun h => c2 h.2.2.1)]
  rw [if_pos c2, if_pos ⟨by omega, by omega⟩]
  by_cases c3 : (0 : Int) ∈ ids
  · rw [if_pos (List.any_eq_true.2 ⟨0, c3, rfl⟩), if_neg (show ¬ goodLay size l ids by unfold goodLay; exact fun h => h.2.2.2 c3)]
  have hany : ¬ (ids.any fun x => x == 0) = true := fun h => by
    obtain ⟨x, hx, e⟩ := List.any_eq_true.1 h
    exact c3 (by rwa [beq_iff_eq.1 e] at hx)
  rw [if_neg hany, refDepth_f _ h0 h1, Option.bind_some, if_pos (show goodLay size l ids from ⟨by omega, c1, c2, c3⟩)]
  have hlo := low_le size (by omega)
  unfold layTail layOk
  rcases cnt_cases size (by omega) with ⟨d, b1, c⟩ | ⟨d, b1, b2, c⟩ | ⟨d, b1, c, c4⟩
  · rw [d, if_pos rfl, if_pos (by omega), if_pos (by omega)]
  · have hp : partN 127 l = 1 := by unfold partN; omega
    rw [d, if_neg (by decide), if_neg (by omega), if_pos rfl, if_neg (by omega), blockR_f l (by omega) fl _ (by omega), Option.bind_some, hp]
    unfold layN topB
    rw [if_neg (by omega)]
    show some (_, _, _, _, _, _, [blkB l], _) = some (_, _, _, _, _, _, [] ++ [blkB (partL 127 l 0)], _)
    rw [part_whole l (by omega)]; rfl
  · rw [d, if_neg (by decide), if_neg (by omega), if_neg (by decide), if_neg (by omega), blockR_f (ids.drop 1) (by rw [List.length_drop]; omega) (fine_sub' fi fun x hx => List.mem_of_mem_drop hx) _ (by omega), Option.bind_some, partsR_f l fl _ (by omega), Option.bind_some]
    unfold layN topB
    rw [if_pos (by omega)]
    simp
end Go.Proofs.Ytpgdcpbbfphbiaa.P
