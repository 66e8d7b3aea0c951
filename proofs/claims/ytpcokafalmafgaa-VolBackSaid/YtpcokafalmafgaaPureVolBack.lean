/- The law VolBack, in plain words: what was cut is pasted as it was; of what did not change nothing is told; what is told makes one file of the other one. -/
import Derived.Test.YtpcokafalmafgaaQ9
import Derived.Test.YtpcokafalmafgaaPVolC
set_option linter.unusedVariables false
namespace Go.Proofs.Ytpcokafalmafgaa.Pure
open Go.RowKit Go.Proofs.Ytpcokafalmafgaa.P Go.Proofs.Ytpcokafalmafgaa.H Go.Proofs.Ytpcokafalmafgaa.Q Go.Proofs.YtpcokafalmafgaaW.PrintWords Go.Proofs.YtpcokafalmafgaaW.PrintLast

/-! ### What was cut is pasted -/
theorem cat_pieces (t : ByteArray) : ∀ k, bl (catB (pieceL t k)) = (bl t).take (508 * k)
  | 0 => by simp [catB_bl, pieceL]
  | k + 1 => by
    have ih := cat_pieces t k
    rw [catB_bl] at ih ⊢
    rw [pieceL_next, List.map_append, List.flatten_append, ih]
    simp only [List.map_cons, List.map_nil, List.flatten_cons, List.flatten_nil, List.append_nil]
    rw [piece_bl, Nat.mul_add, Nat.mul_one, List.take_add]
theorem cat_all (t : ByteArray) : catB (pieceL t (pieces t)) = t := by
  apply bl_inj
  rw [cat_pieces, List.take_of_length_le (by rw [bl_len]; unfold pieces; omega)]
theorem ok_pieces (t : ByteArray) : ∀ d i, i + d = pieces t → okFrom (pieceL t (pieces t)) i d = true
  | 0, _, _ => rfl
  | d + 1, i, h => by
    have hl : (pieceL t (pieces t)).length = pieces t := by simp [pieceL]
    have hg : (pieceL t (pieces t)).getD i ByteArray.empty = piece t i := by
      rw [List.getD_eq_getElem?_getD, List.getElem?_eq_getElem (by rw [hl]; omega)]; simp [pieceL]
    have hs := piece_sz t i
    have ho : okP (pieceL t (pieces t)) i = true := by
      unfold okP
      rw [hg, hl, decide_eq_false (by omega)]
      by_cases hc : i + 1 < pieces t
      · rw [decide_eq_true hc, decide_eq_false (by unfold pieces at hc; omega)]; rfl
      · rw [decide_eq_false hc]; rfl
    show (okP _ i && okFrom _ (i + 1) d) = true
    rw [ho, ok_pieces t d (i + 1) (by omega)]; rfl
theorem paste_back (t : ByteArray) (ht : t.size ≤ 10000) : pasteV (pieceL t (pieces t)) (t.size : Int) = (t, 0) := by
  have hl : (pieceL t (pieces t)).length = pieces t := by simp [pieceL]
  unfold pasteV
  rw [if_neg (by omega), if_neg (by rw [hl]; unfold blocksV pieces; omega), hl, if_pos (ok_pieces t (pieces t) 0 (by omega)), cat_all]
  unfold endP
  have hb : bareV t (t.size : Int) = true := by
    unfold bareV
    rw [Int.toNat_natCast, List.drop_of_length_le (by rw [bl_len]; exact Nat.le_refl _)]; rfl
  rw [if_neg (by omega), if_pos hb, Int.toNat_natCast]
  congr 1
  apply bl_inj
  rw [bl_cut, List.drop_zero, List.take_of_length_le (by rw [bl_len]; omega)]

/-! ### What is told -/
theorem diff_split (s t : ByteArray) (i : Nat) : ∀ d, ∃ r : List Nat, diffL s t (i + d) = diffL s t i ++ r ∧ ∀ x ∈ r, i ≤ x
  | 0 => ⟨[], by simp, by simp⟩
  | d + 1 => by
    obtain ⟨r, hr, hx⟩ := diff_split s t i d
    cases hd : diffB s t (i + d) with
    | true =>
      refine ⟨r ++ [i + d], by rw [← Nat.add_assoc, diffL_yes s t _ hd, hr, List.append_assoc], fun x hm => ?_⟩
      rcases List.mem_append.1 hm with h | h
      · exact hx x h
      · have : x = i + d := by simpa using h
        omega
    | false => exact ⟨r, by rw [← Nat.add_assoc, diffL_no s t _ hd, hr], hx⟩
theorem same_self (a : ByteArray) : sameB a a = true := by rw [sameB_size rfl]; simp
theorem diff_self (t : ByteArray) : ∀ k, k ≤ pieces t → diffL t t k = []
  | 0, _ => rfl
  | k + 1, h => by
    have : diffB t t k = false := by
      unfold diffB
      rw [same_self, decide_eq_true (by omega)]; rfl
    rw [diffL_no t t k this, diff_self t k (by omega)]
def tell (s t : ByteArray) : List Int := (diffL s t (pieces t)).map fun k : Nat => (k : Int)
theorem tell_len (s t : ByteArray) : (tell s t).length = (diffL s t (pieces t)).length := by simp [tell]
theorem tell_yes {s t : ByteArray} {i : Nat} (hi : i < pieces t) (h : diffB s t i = true) : (diffL s t i).length < (tell s t).length ∧ rd (tell s t) ((diffL s t i).length : Int) = (i : Int) := by
  obtain ⟨r, hr, _⟩ := diff_split s t (i + 1) (pieces t - (i + 1))
  rw [show i + 1 + (pieces t - (i + 1)) = pieces t by omega, diffL_yes s t i h, List.append_assoc] at hr
  have hl : (diffL s t i).length < (diffL s t (pieces t)).length := by rw [hr]; simp
  refine ⟨by rw [tell_len]; exact hl, ?_⟩
  have hg : (diffL s t (pieces t))[(diffL s t i).length]? = some i := by
    rw [hr, List.getElem?_append_right (Nat.le_refl _)]; simp
  unfold tell
  simp [rd, List.getElem?_map, hg]
theorem tell_no {s t : ByteArray} {i : Nat} (hi : i < pieces t) (h : diffB s t i = false) (hl : (diffL s t i).length < (tell s t).length) : (rd (tell s t) ((diffL s t i).length : Int) == (i : Int)) = false := by
  obtain ⟨r, hr, hx⟩ := diff_split s t (i + 1) (pieces t - (i + 1))
  rw [show i + 1 + (pieces t - (i + 1)) = pieces t by omega, diffL_no s t i h] at hr
  rw [tell_len, hr, List.length_append] at hl
  obtain ⟨y, hy⟩ : ∃ y, r[0]? = some y := ⟨r[0]'(by omega), List.getElem?_eq_getElem (by omega)⟩
  have hyi := hx y (List.mem_of_getElem? hy)
  have hg : (diffL s t (pieces t))[(diffL s t i).length]? = some y := by
    rw [hr, List.getElem?_append_right (Nat.le_refl _), Nat.sub_self]; exact hy
  have : rd (tell s t) ((diffL s t i).length : Int) = (y : Int) := by
    unfold tell
    simp [rd, List.getElem?_map, hg]
  rw [this, beq_eq_false_iff_ne]
  omega
theorem tell_all (s t : ByteArray) : (diffL s t (pieces t)).length = (tell s t).length := (tell_len s t).symm
theorem pad (s : ByteArray) (i : Nat) : (508 - mn 508 ((piece s i).size : Int) : Int).toNat = 508 - (piece s i).size ∧ 0 ≤ (508 - mn 508 ((piece s i).size : Int)) := by
  have := piece_sz s i
  unfold mn; omega
theorem str_len (n : Nat) : (strOfNums (List.replicate n 0)).size = n := by
  rw [strz]; show (List.replicate _ (0 : UInt8)).toArray.size = _; rw [List.size_toArray, List.length_replicate]
theorem back_end (s t : ByteArray) (ht : t.size ≤ 10000) (a : List ByteArray) (ha : a.length = pieces t) (old : List ByteArray) (k : Nat) :
    nautiluslaw17_VolBack.l0 (k + 1) t true a t 0 old (tell s t) ((diffL s t (pieces t)).length : Int) (pieces t : Int) = some true := by
  have e1 : ¬ ((pieces t : Int) < (a.length : Int)) := by omega
  have e2 : ((diffL s t (pieces t)).length : Int) = ((tell s t).length : Int) := by rw [tell_all]
  rw [nautiluslaw17_VolBack.l0, if_neg e1, if_pos (Eq.refl true), if_pos (Eq.refl (0 : Int)), if_pos (Eq.refl t.toList), if_pos e2, changed_f t t (by omega) (by omega), Option.bind_some, diff_self t _ (Nat.le_refl _)]
  rfl
theorem back_yes (s t : ByteArray) (ht : t.size ≤ 10000) (a : List ByteArray) (ha : a.length = pieces t) (old : List ByteArray) (k i : Nat) (hlt : i < pieces t) (hd : diffB s t i = true) :
    nautiluslaw17_VolBack.l0 (k + 1 + 1) t true a t 0 old (tell s t) ((diffL s t i).length : Int) (i : Int) = nautiluslaw17_VolBack.l0 k t true a t 0 old (tell s t) ((diffL s t (i + 1)).length : Int) ((i + 1 : Nat) : Int) := by
  have hpb : pieces t ≤ 20 := by unfold pieces; omega
  have hdl := diffL_le s t i
  have w1 := w64s i (by omega)
  have w2 := w64s (diffL s t i).length (by omega)
  obtain ⟨y1, y2⟩ := tell_yes hlt hd
  have e1 : (i : Int) < (a.length : Int) := by omega
  have e2 : ((diffL s t i).length : Int) < ((tell s t).length : Int) := by omega
  have e3 : (0 : Int) ≤ ((diffL s t i).length : Int) := by omega
  have e4 : ((i : Int) == (i : Int)) = true := by simp
  have e5 : (diffL s t (i + 1)).length = (diffL s t i).length + 1 := by rw [diffL_yes s t i hd, List.length_append]; rfl
  rw [nautiluslaw17_VolBack.l0, if_pos e1, if_pos e2, if_pos e3, y2, e4, nautiluslaw17_VolBack.j1, if_pos (Eq.refl true), w1, w2, e5]
theorem back_same (s t : ByteArray) (hs : s.size ≤ 10000) (ht : t.size ≤ 10000) (k i : Nat) (hlt : i < pieces t) (hd : diffB s t i = false) :
    nautiluslaw17_VolBack.j1 (k + 1) t true (pieceL t (pieces t)) t 0 (pieceL s (pieces s)) (tell s t) ((diffL s t i).length : Int) (i : Int) false = nautiluslaw17_VolBack.l0 k t true (pieceL t (pieces t)) t 0 (pieceL s (pieces s)) (tell s t) ((diffL s t i).length : Int) ((i + 1 : Nat) : Int) := by
  have hpb : pieces t ≤ 20 := by unfold pieces; omega
  have w1 := w64s i (by omega)
  have hl : (pieceL t (pieces t)).length = pieces t := by simp [pieceL]
  have hls : (pieceL s (pieces s)).length = pieces s := by simp [pieceL]
  have his : i < pieces s := by
    refine Classical.byContradiction fun h => ?_
    unfold diffB at hd
    rw [decide_eq_false h] at hd
    simp at hd
  obtain ⟨p1, p2⟩ := pad s i
  obtain ⟨q1, q2⟩ := pad t i
  have z1 := piece_sz s i
  have z2 := piece_sz t i
  have hf := (full_diff s t i hlt).2 hd
  unfold fullV at hf
  rw [if_neg (by omega), if_neg (by omega), ← strz, ← strz] at hf
  have s1 := str_len (508 - (piece s i).size)
  have s2 := str_len (508 - (piece t i).size)
  have a1 := pieceL_at s i his
  have a2 := pieceL_at t i hlt
  have c1 : ¬ ((i : Int) ≥ (pieces s : Int)) := by omega
  have c2 : (0 : Int) ≤ (i : Int) := by omega
  have c3 : (i : Int) < (pieces s : Int) := by omega
  have c4 : (i : Int) < (pieces t : Int) := by omega
  have c5 : 508 - (piece s i).size ≤ 281474976710656 := by omega
  have c6 : 508 - (piece t i).size ≤ 281474976710656 := by omega
  have c7 : (piece s i).size + (508 - (piece s i).size) ≤ 9223372036854775807 := by omega
  have c8 : (piece t i).size + (508 - (piece t i).size) ≤ 9223372036854775807 := by omega
  rw [nautiluslaw17_VolBack.j1, if_neg (by decide), hls, hl, if_neg c1, if_pos c2, if_pos c3, a1, a2, p1, q1, if_pos p2, if_pos c5, Option.bind_some, if_pos (by rw [s1]; exact c7), if_pos c4, if_pos q2, if_pos c6, Option.bind_some, if_pos (by rw [s2]; exact c8), if_pos hf, w1]
theorem back_loop (s t : ByteArray) (hs : s.size ≤ 10000) (ht : t.size ≤ 10000) : ∀ d i k, i + d = pieces t →
    nautiluslaw17_VolBack.l0 (k + 2 * d + 1) t true (pieceL t (pieces t)) t 0 (pieceL s (pieces s)) (tell s t) ((diffL s t i).length : Int) (i : Int) = some true := by
  intro d
  induction d with
  | zero =>
    intro i k hi
    obtain rfl : i = pieces t := by omega
    exact back_end s t ht _ (by simp [pieceL]) _ k
  | succ d ih =>
    intro i k hi
    have ih := ih (i + 1) k (by omega)
    have hlt : i < pieces t := by omega
    have hf : k + 2 * (d + 1) + 1 = k + 2 * d + 1 + 1 + 1 := by omega
    rw [hf]
    cases hd : diffB s t i with
    | true => rw [back_yes s t ht _ (by simp [pieceL]) _ _ i hlt hd]; exact ih
    | false =>
      have key := back_same s t hs ht (k + 2 * d + 1) i hlt hd
      rw [diffL_no s t i hd] at ih
      rw [ih] at key
      have e1 : (i : Int) < ((pieceL t (pieces t)).length : Int) := by simp [pieceL]; omega
      rw [nautiluslaw17_VolBack.l0, if_pos e1]
      by_cases hm : (diffL s t i).length < (tell s t).length
      · have e2 : ((diffL s t i).length : Int) < ((tell s t).length : Int) := by omega
        have e3 : (0 : Int) ≤ ((diffL s t i).length : Int) := by omega
        rw [if_pos e2, if_pos e3, tell_no hlt hd hm]; exact key
      · have e2 : ¬ ((diffL s t i).length : Int) < ((tell s t).length : Int) := by omega
        rw [if_neg e2]; exact key
theorem VolBack : nautiluslaw17_VolBack.Pure := by
  intro was now h1 h2
  refine ⟨2000 + 2 * pieces (now.extract 0 (min now.size 10000)) + 1, ?_⟩
  have a1 : (was.extract 0 (min was.size 10000)).size ≤ 10000 := by rw [ByteArray.size_extract]; omega
  have a2 : (now.extract 0 (min now.size 10000)).size ≤ 10000 := by rw [ByteArray.size_extract]; omega
  unfold nautiluslaw17_VolBack.f
  rw [shown_f _ (by omega), Option.bind_some, cutV_f was (by omega), Option.bind_some, cutV_f now (by omega), Option.bind_some]
  generalize was.extract 0 (min was.size 10000) = s at a1 ⊢
  generalize now.extract 0 (min now.size 10000) = t at a2 ⊢
  have p2 : pieces t ≤ 20 := by unfold pieces; omega
  have e : ((t.size : Int)) % 4294967296 = (t.size : Int) := by omega
  rw [cut_f t (by omega), Option.bind_some, e, paste_f _ _ (by simp [pieceL]; omega) (by omega) (by omega) _ (by omega), Option.bind_some, paste_back t a2, cut_f s (by omega), Option.bind_some, changed_f s t (by omega) (by omega), Option.bind_some]
  exact back_loop s t a1 a2 (pieces t) 0 2000 (by omega)
end Go.Proofs.Ytpcokafalmafgaa.Pure
