/- The law VolJoins, in plain words: the contents of whole ones, and of what is behind them, are those of both; what was trimmed is trimmed. -/
import Derived.Test.YtpcokafalmafgaaQ2
import Derived.Test.YtpcokafalmafgaaQ3
import Derived.Test.YtpcokafalmafgaaQ7
import Derived.Test.YtpcokafalmafgaaPVol
import Derived.Test.YtpcokafalmafgaaHTrim
set_option linter.unusedVariables false
namespace Go.Proofs.Ytpcokafalmafgaa.Pure
open Go.RowKit Go.Proofs.Ytpcokafalmafgaa.P Go.Proofs.Ytpcokafalmafgaa.H Go.Proofs.Ytpcokafalmafgaa.Q Go.Proofs.YtpcokafalmafgaaW.PrintWords Go.Proofs.YtpcokafalmafgaaW.PrintLast

theorem w64 (i : Nat) (h : i ≤ 4000000000000) : wrap64 ((i : Int) + 1) = ((i + 1 : Nat) : Int) := by rw [IntWalk.wrap64_in _ (by omega)]; omega
theorem rd_at (l : List NdE) (i : Nat) (h : i < l.length) : rd_T35 l (i : Int) = l[i] := by simp [rd_T35, h]
theorem NF : ¬ (false = true) := by decide

/-! ### Contents -/
theorem pieces_add {s t : ByteArray} {q : Nat} (hs : s.size = 508 * q) : pieces (s ++ t) = q + pieces t := by
  unfold pieces; rw [ByteArray.size_append, hs]; omega
theorem pieces_whole {s : ByteArray} {q : Nat} (hs : s.size = 508 * q) : pieces s = q := by unfold pieces; rw [hs]; omega
theorem piece_left {s t : ByteArray} {q k : Nat} (hs : s.size = 508 * q) (hk : k < q) : piece (s ++ t) k = piece s k := by
  apply bl_inj
  have hl : (bl s).length = 508 * q := by rw [bl_len, hs]
  rw [piece_bl, piece_bl, bl_add, List.drop_append_of_le_length (by rw [hl]; omega), List.take_append_of_le_length (by rw [List.length_drop, hl]; omega)]
theorem piece_right {s t : ByteArray} {q : Nat} (hs : s.size = 508 * q) (j : Nat) : piece (s ++ t) (q + j) = piece t j := by
  apply bl_inj
  have hl : (bl s).length = 508 * q := by rw [bl_len, hs]
  rw [piece_bl, piece_bl, bl_add, List.drop_append, List.drop_of_length_le (by rw [hl]; omega), hl, List.nil_append]
  congr 2; omega
theorem pieceL_add {s t : ByteArray} {q : Nat} (hs : s.size = 508 * q) : pieceL (s ++ t) (pieces (s ++ t)) = pieceL s (pieces s) ++ pieceL t (pieces t) := by
  rw [pieces_add hs, pieces_whole hs]
  unfold pieceL
  rw [List.range_add, List.map_append, List.map_map]
  rw [List.map_congr_left (fun k hk => piece_left (t := t) hs (List.mem_range.1 hk))]
  refine congrArg (List.map (piece s) (List.range q) ++ ·) ?_
  exact List.map_congr_left fun j _ => piece_right hs j
theorem texts_loop (a : List ByteArray) (hl : a.length ≤ 1000000000) : ∀ d i k, i + d = a.length → d < k → nautilusref17_SameTexts.l0 k a a (i : Int) = some true
  | _, i, 0, _, h => by omega
  | 0, i, k + 1, hi, _ => by rw [nautilusref17_SameTexts.l0, if_neg (by omega)]
  | d + 1, i, k + 1, hi, h => by
    rw [nautilusref17_SameTexts.l0, if_pos (by omega), if_pos (by omega), if_pos (by omega), if_pos rfl, w64 i (by omega)]
    exact texts_loop a hl d (i + 1) k (by omega) (by omega)
theorem texts_refl (a : List ByteArray) (k : Nat) (hl : a.length ≤ 1000000000) (hk : a.length < k) : nautilusref17_SameTexts.f k a a = some true := by
  unfold nautilusref17_SameTexts.f
  rw [if_pos rfl]
  exact texts_loop a hl a.length 0 k (by omega) hk

/-! ### Files -/
theorem nodes_loop (a : List NdE) (hl : a.length ≤ 1000000000) : ∀ d i k, i + d = a.length → d < k → nautilusref14_Same.l0 k a a (i : Int) = some true
  | _, i, 0, _, h => by omega
  | 0, i, k + 1, hi, _ => by rw [nautilusref14_Same.l0, if_neg (by omega)]
  | d + 1, i, k + 1, hi, h => by
    rw [nautilusref14_Same.l0, if_pos (by omega), if_pos (by omega), if_pos (by omega), if_neg (by simp), w64 i (by omega)]
    exact nodes_loop a hl d (i + 1) k (by omega) (by omega)
theorem nodes_refl (a : List NdE) (k : Nat) (hl : a.length ≤ 1000000000) (hk : a.length < k) : nautilusref14_Same.f k a a = some true := by
  unfold nautilusref14_Same.f
  rw [if_pos rfl]
  exact nodes_loop a hl a.length 0 k (by omega) hk
theorem trim_end (l : List NdE) : ∀ n, n ≤ l.length → ∀ i, (h : i < l.length) → trimTo l n ≤ i → i < n → noneN l[i] = true
  | 0, _, i, _, _, h => by omega
  | n + 1, hn, i, hi, h1, h => by
    rw [trimTo] at h1
    split at h1
    · split at h1
      · rename_i hf
        rw [rd_at l n (by omega)] at hf
        by_cases e : i = n
        · subst e; exact hf
        · exact trim_end l n (by omega) i hi h1 (by omega)
      · omega
    · omega
theorem trim_fix (l : List NdE) : ∀ n, n ≤ l.length → trimTo l n ≤ 3 ∨ ∃ j, ∃ h : j < l.length, trimTo l n = j + 1 ∧ noneN l[j] = false
  | 0, _ => by simp [trimTo]
  | n + 1, hn => by
    rw [trimTo]
    split
    · split
      · exact trim_fix l n (by omega)
      · rename_i hf
        rw [rd_at l n (by omega)] at hf
        exact .inr ⟨n, by omega, rfl, by simpa using hf⟩
    · left; omega
theorem trim_twice (l : List NdE) : trimTo (l.take (trimTo l l.length)) (trimTo l l.length) = trimTo l l.length := by
  have hle := trimTo_le l l.length
  rcases trim_fix l l.length (by omega) with h | ⟨j, hj, h, hf⟩
  · generalize trimTo l l.length = t at h hle ⊢
    cases t with
    | zero => rfl
    | succ t => rw [trimTo, if_neg (by omega)]
  · rw [h, trimTo]
    split
    · rw [rd_at _ j (by rw [List.length_take]; omega), List.getElem_take, hf, if_neg NF]
    · rfl
theorem none_ne (x : NdE) : (!(x.f0 == 0) || (!(x.f1 == 0) || (!(x.f2 == 0) || (!(x.f3 == 0) || (!(x.f4.toList == ([] : List UInt8))))))) = !noneN x := by
  unfold noneN; simp [Bool.not_and]
theorem joins_loop (s t : ByteArray) (l m n : List NdE) (both : List ByteArray) (hl : l.length ≤ 1000) (hbl : both.length ≤ 1000) (ht : s.size + t.size ≤ 100000) (hm : m = l.take (trimTo l l.length)) (hn : n = m) (hb : pieceL (s ++ t) (pieces (s ++ t)) = both) :
    ∀ d i k, i + d = l.length → trimTo l l.length ≤ i → d + 3000 < k → nautiluslaw17_VolJoins.l0 k s t l true both m n (i : Int) = some true
  | _, i, 0, _, _, h => by omega
  | 0, i, k + 1, hi, hti, h => by
    subst hn
    have hlen : n.length = trimTo l l.length := by
      have := trimTo_le l l.length
      rw [hm, List.length_take]; omega
    have hle := trimTo_le l l.length
    rw [nautiluslaw17_VolJoins.l0, if_neg (by omega), if_pos rfl, if_pos (by omega), cut_f _ (by rw [ByteArray.size_append]; omega), Option.bind_some, hb, texts_refl both k (by omega) (by omega), Option.bind_some, if_pos rfl, if_pos (by omega), if_pos (by omega)]
    have e : l.take ((n.length : Int)).toNat = n := by rw [Int.toNat_natCast, hlen, hm]
    rw [e, nodes_refl n k (by omega) (by omega), Option.bind_some, if_pos rfl]; rfl
  | d + 1, i, k + 1, hi, hti, h => by
    have hlt : i < l.length := by omega
    have ih := joins_loop s t l m n both hl hbl ht hm hn hb d (i + 1) k (by omega) (by omega) (by omega)
    rw [nautiluslaw17_VolJoins.l0, if_pos (by omega), if_pos (by omega), rd_at l i hlt, none_ne, trim_end l l.length (by omega) i hlt hti hlt, if_neg (by decide), w64 i (by omega)]
    exact ih

/-- YOURS -/
theorem VolJoins : nautiluslaw17_VolJoins.Pure := by
  intro a0 a1 l2 h0 h1 hl hx
  refine ⟨9000, ?_⟩
  unfold nautiluslaw17_VolJoins.f
  have c0 : mn (a0.size : Int) 5000 = ((min a0.size 5000 : Nat) : Int) := by unfold mn; split <;> omega
  have c1 : mn (a1.size : Int) 5000 = ((min a1.size 5000 : Nat) : Int) := by unfold mn; split <;> omega
  have c2 : mn (l2.length : Int) 100 = ((min l2.length 100 : Nat) : Int) := by unfold mn; split <;> omega
  rw [shown_f _ (by omega), Option.bind_some, c0, if_pos (by omega), if_pos (by omega), c1, if_pos (by omega), if_pos (by omega), c2, if_pos (by omega), if_pos (by omega), Option.bind_some]
  simp only [Int.toNat_natCast]
  have hs0 : (a0.extract 0 (min a0.size 5000)).size ≤ 5000 := by rw [ByteArray.size_extract]; omega
  generalize a0.extract 0 (min a0.size 5000) = s0 at hs0 ⊢
  have ht0 : (a1.extract 0 (min a1.size 5000)).size ≤ 5000 := by rw [ByteArray.size_extract]; omega
  generalize a1.extract 0 (min a1.size 5000) = t at ht0 ⊢
  have hl0 : (l2.take (min l2.length 100)).length ≤ 100 := by rw [List.length_take]; omega
  generalize l2.take (min l2.length 100) = l at hl0 ⊢
  have e1 : wrap64 ((wrap64 ((s0.size : Int) / 508)) * 508) = ((508 * (s0.size / 508) : Nat) : Int) := by
    rw [IntWalk.wrap64_in ((s0.size : Int) / 508) (by omega), IntWalk.wrap64_in _ (by omega)]; omega
  rw [e1, if_pos (by omega), if_pos (by omega)]
  simp only [Int.toNat_natCast]
  have hs : (s0.extract 0 (508 * (s0.size / 508))).size = 508 * (s0.size / 508) := by rw [ByteArray.size_extract]; omega
  have hq : s0.size / 508 ≤ 9 := by omega
  generalize s0.size / 508 = q at hs hq ⊢
  generalize s0.extract 0 (508 * q) = s at hs ⊢
  have p1 : (pieceL s (pieces s)).length = pieces s := by simp [pieceL]
  have p2 : (pieceL t (pieces t)).length = pieces t := by simp [pieceL]
  have p3 : pieces s = q := pieces_whole hs
  have p4 : pieces t ≤ 10 := by unfold pieces; omega
  rw [cut_f _ (by omega), Option.bind_some, cut_f _ (by omega), Option.bind_some, p1, p2, IntWalk.wrap64_in _ (by omega), if_pos (by omega), if_pos (by omega), Option.bind_some]
  simp only [List.replicate_zero, List.nil_append, List.length_nil]
  rw [if_pos (by omega), Option.bind_some, p1, if_pos (by omega)]
  have hle := trimTo_le l l.length
  have en : vol_Trim.n l = ((trimTo l l.length : Nat) : Int) := rfl
  rw [en, if_pos (by omega), if_pos (by omega), Option.bind_some]
  simp only [Int.toNat_natCast]
  have hml : (l.take (trimTo l l.length)).length = trimTo l l.length := by rw [List.length_take]; omega
  have en2 : vol_Trim.n (l.take (trimTo l l.length)) = ((trimTo l l.length : Nat) : Int) := by
    unfold vol_Trim.n; rw [hml, trim_twice]
  rw [en2, hml, if_pos (by omega), if_pos (by omega)]
  simp only [Int.toNat_natCast]
  exact joins_loop s t l _ _ _ (by omega) (by rw [List.length_append, p1, p2]; omega) (by omega) rfl (by rw [List.take_take, Nat.min_self]) (pieceL_add hs) (l.length - trimTo l l.length) (trimTo l l.length) 9000 (by omega) (by omega) (by omega)
end Go.Proofs.Ytpcokafalmafgaa.Pure
