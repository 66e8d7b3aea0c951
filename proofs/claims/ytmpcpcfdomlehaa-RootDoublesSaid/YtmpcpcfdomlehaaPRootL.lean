/- Plain laws on roots, as far as the program alone needs them. -/
import Derived.Test.YtmpcpcfdomlehaaQ2
import Derived.Test.YtmpcpcfdomlehaaQ3
import Derived.Test.YtmpcpcfdomlehaaQ4
import Derived.Test.YtmpcpcfdomlehaaHRootE
import Derived.Test.YtmpcpcfdomlehaaPNum
import Derived.Test.YtmpcpcfdomlehaaPVal
namespace Go.Proofs.Ytmpcpcfdomlehaa.P
open Go.RowKit Go.Proofs.Ytmpcpcfdomlehaa.H Go.Proofs.Ytmpcpcfdomlehaa.Q Go.Proofs.YtmpcpcfdomlehaaW.PrintWords Go.Proofs.YtmpcpcfdomlehaaW.PrintLast Go.Proofs.YtmpcpcfdomlehaaW.PrintMore
set_option linter.unusedVariables false

theorem okL_iff : ∀ (l pre : List Int), okL pre l = true ↔ ((∀ x ∈ l, (16 ≤ x ∧ x < 4096) ∧ x ∉ pre) ∧ l.Nodup)
  | [], pre => by simp [okL]
  | x :: xs, pre => by
    rw [okL]
    simp only [Bool.and_eq_true, Bool.not_eq_true', decide_eq_false_iff_not, okL_iff xs (pre ++ [x]), List.mem_append, List.mem_singleton, List.nodup_cons, List.forall_mem_cons]
    constructor
    · rintro ⟨h1, h2, h3, h4, h5⟩
      exact ⟨⟨⟨by omega, h3⟩, fun y hy => ⟨(h4 y hy).1, fun h => (h4 y hy).2 (.inl h)⟩⟩, fun hx => (h4 x hx).2 (.inr rfl), h5⟩
    · rintro ⟨⟨⟨h1, h3⟩, h4⟩, h5, h6⟩
      exact ⟨by omega, by omega, h3, fun y hy => ⟨(h4 y hy).1, fun h => h.elim (h4 y hy).2 (fun e => h5 (e ▸ hy))⟩, h6⟩
theorem rd_in (l : List Int) (i : Nat) (h : i < l.length) : rd l (i : Int) = l[i] := by simp [rd, h]
def ofL (l : List UInt8) : ByteArray := ⟨l.toArray⟩
theorem ofL_size (l : List UInt8) : (ofL l).size = l.length := by simp [ofL, ByteArray.size]
theorem ofL_append (l m : List UInt8) : ofL l ++ ofL m = ofL (l ++ m) := by apply ByteArray.ext; simp [ofL]
theorem ofL_leB (n : Int) (w : Nat) : leB n w = ofL (lowBytes n w) := rfl
theorem zeros_str (n : Nat) : strOfNums (List.replicate n 0) = ofL (List.replicate n (0 : UInt8)) := by
  simp [strOfNums, List.map_replicate, ofL]
def encV (a b : Int) (d c : List Int) : ByteArray × Int := if rightV a b d c = true then (rootB a b d c, 0) else (⟨#[]⟩, 153)
theorem encode_f (a b : Int) (d c : List Int) (ha : 0 ≤ a) (hb : 0 ≤ b) : root_Encode.f a b d c = some (encV a b d c) := by
  unfold root_Encode.f encV
  split
  · rw [if_pos ⟨ha, hb⟩]
  · rfl
theorem numsB_cons (x : Int) (l : List Int) : numsB (x :: l) = lowBytes x 4 ++ numsB l := rfl
theorem numsB_append (l m : List Int) : numsB (l ++ m) = numsB l ++ numsB m := by simp [numsB]
theorem numsB_drop (l : List Int) (i : Nat) (h : i < l.length) : numsB (l.drop i) = lowBytes l[i] 4 ++ numsB (l.drop (i + 1)) := by rw [List.drop_eq_getElem_cons h, numsB_cons]
theorem rootB_eq (a b : Int) (d c : List Int) : rootB a b d c = ofL (rootH a b d c ++ numsB d ++ numsB c ++ List.replicate (508 - (14 + 4 * d.length + 4 * c.length)) 0) := by
  unfold rootB
  rw [rootL_len]
  show ofL (rootH a b d c ++ numsB (d ++ c) ++ _) = _
  rw [numsB_append, show 14 + 4 * (d.length + c.length) = 14 + 4 * d.length + 4 * c.length by omega]
  simp only [List.append_assoc]
def numsV (s : ByteArray) (a n : Nat) : List Int := (List.range n).map fun j => valB s (a + 4 * j) 4
theorem numsV_len (s : ByteArray) (a n : Nat) : (numsV s a n).length = n := by simp [numsV]
theorem numsV_succ (s : ByteArray) (a n : Nat) : numsV s a (n + 1) = numsV s a n ++ [valB s (a + 4 * n) 4] := by simp [numsV, List.range_succ]
theorem numsV_get (s : ByteArray) (a n j : Nat) (h : j < (numsV s a n).length) : (numsV s a n)[j] = valB s (a + 4 * j) 4 := by simp [numsV]
def nOf (s : ByteArray) (i : Nat) : Nat := (bt s i).toNat
theorem nOf_eq (s : ByteArray) (i : Nat) : bt s i = nOf s i ∧ nOf s i < 256 := by have := bt_range s i; unfold nOf; omega
abbrev dD (s : ByteArray) : List Int := numsV s 14 (nOf s 12)
abbrev dC (s : ByteArray) : List Int := numsV s (14 + 4 * nOf s 12) (nOf s 13)
def errV : Int × Int × List Int × List Int × Int := (0, 0, [], [], 153)
def finV (s : ByteArray) (a b : Int) (d c : List Int) : Int × Int × List Int × List Int × Int := if rightV a b d c = true ∧ rootB a b d c = s then (a, b, d, c, 0) else errV
def decV (s : ByteArray) : Int × Int × List Int × List Int × Int := if s.size = 508 then finV s (valB s 0 6) (valB s 6 6) (dD s) (dC s) else errV
theorem bytes_eq {s t : ByteArray} (h : s.toList = t.toList) : s = t := by rw [ByteArray.toList_eq, ByteArray.toList_eq] at h; exact ByteArray.ext (Array.toList_inj.1 h)
theorem fin_eq (s : ByteArray) (a b : Int) (d c : List Int) : ((some (encV a b d c)).bind fun t => (if t.2 = 0 then (if t.1.toList = s.toList then some (a, b, d, c, (0 : Int)) else some errV) else some errV)) = some (finV s a b d c) := by
  rw [Option.bind_some]
  by_cases hr : rightV a b d c = true
  · have e : encV a b d c = (rootB a b d c, 0) := by unfold encV; rw [if_pos hr]
    rw [e]
    show (if (0 : Int) = 0 then (if (rootB a b d c).toList = s.toList then some (a, b, d, c, (0 : Int)) else some errV) else some errV) = _
    rw [if_pos (show (0 : Int) = 0 from rfl)]
    unfold finV
    by_cases he : rootB a b d c = s
    · rw [if_pos (show rightV a b d c = true ∧ rootB a b d c = s from ⟨hr, he⟩), if_pos (by rw [he])]
    · rw [if_neg (show ¬ (rightV a b d c = true ∧ rootB a b d c = s) from fun h => he h.2), if_neg (fun h => he (bytes_eq h))]
  · have e : encV a b d c = (⟨#[]⟩, 153) := by unfold encV; rw [if_neg hr]
    rw [e]
    unfold finV
    rw [if_neg (show ¬ (rightV a b d c = true ∧ rootB a b d c = s) from fun h => hr h.1)]
    rfl
theorem takeV_in (s : ByteArray) (a w : Int) (h1 : 1 ≤ w) (h2 : w ≤ 8) (h3 : 0 ≤ a) (h4 : a + w ≤ s.size) : takeV s a w = (valB s a.toNat w.toNat, 0) := by
  unfold takeV; rw [if_pos ⟨h1, h2, h3, h4⟩]
theorem val4 (s : ByteArray) (a : Nat) : valB s a 4 % 4294967296 = valB s a 4 := by
  have := valB_range s a 4
  have e : (256 : Int) ^ 4 = 4294967296 := by decide
  rw [e] at this
  exact Int.emod_eq_of_lt this.1 this.2
theorem take4 (s : ByteArray) (hs : s.size = 508) (at0 i : Nat) (h : at0 + 4 * i + 4 ≤ 508) (k : Nat) (hk : 12 ≤ k) : num_Take.f k s (wrap64 ((at0 : Int) + wrap64 (4 * (i : Int)))) 4 = some (valB s (at0 + 4 * i) 4, 0) := by
  rw [IntWalk.wrap64_in (4 * (i : Int)) (by omega), IntWalk.wrap64_in _ (by omega), take_f s _ 4 (by omega) (by omega) (by omega) k hk, takeV_in s _ 4 (by omega) (by omega) (by omega) (by omega)]
  rw [show ((at0 : Int) + 4 * (i : Int)).toNat = at0 + 4 * i by omega]; rfl
theorem dec_loop (s : ByteArray) (hs : s.size = 508) (n m : Nat) (hn : n ≤ 60) (hm : m ≤ 12) (a b : Int) (ha : 0 ≤ a) (hb : 0 ≤ b) : ∀ d i k, i + d = n + m → d + 20 < k →
    root_Decode.l0 k s n ((n + m : Nat) : Int) i a b (numsV s 14 (min i n)) (numsV s (14 + 4 * n) (i - n)) = some (finV s a b (numsV s 14 n) (numsV s (14 + 4 * n) m))
  | 0, i, k + 1, hi, hk => by
    rw [root_Decode.l0, if_neg (by omega), show min i n = n by omega, show i - n = m by omega, encode_f _ _ _ _ ha hb]
    exact fin_eq s a b _ _
  | d + 1, i, k + 1, hi, hk => by
    rw [root_Decode.l0, if_pos (by omega)]
    have ht := take4 s hs 14 i (by omega) k (by omega)
    rw [show ((14 : Nat) : Int) = 14 from rfl] at ht
    rw [ht, Option.bind_some]
    have ih := dec_loop s hs n m hn hm a b ha hb d (i + 1) k (by omega) (by omega)
    by_cases h : i < n
    · rw [if_pos (by omega), if_pos (by rw [numsV_len]; omega), IntWalk.wrap64_in _ (by omega), val4, show (i : Int) + 1 = ((i + 1 : Nat) : Int) by omega, show min i n = i by omega, show i - n = 0 by omega, ← numsV_succ]
      rw [show min (i + 1) n = i + 1 by omega, show i + 1 - n = 0 by omega] at ih
      exact ih
    · rw [if_neg (by omega), if_pos (by rw [numsV_len]; omega), IntWalk.wrap64_in _ (by omega), val4, show (i : Int) + 1 = ((i + 1 : Nat) : Int) by omega, show min i n = n by omega]
      rw [show min (i + 1) n = n by omega, show i + 1 - n = (i - n) + 1 by omega, numsV_succ, show 14 + 4 * n + 4 * (i - n) = 14 + 4 * i by omega] at ih
      exact ih
  | 0, _, 0, _, hk => by omega
  | d + 1, _, 0, _, hk => by omega
theorem fin_long (s : ByteArray) (a b : Int) (d c : List Int) (h : 60 < d.length ∨ 12 < c.length) : finV s a b d c = errV := by
  unfold finV
  rw [if_neg]
  rintro ⟨h1, h2⟩
  have := right_facts h1
  omega
theorem wrap_n (s : ByteArray) (i : Nat) : wrap64 (bt s i) = (nOf s i : Int) := by
  have := nOf_eq s i
  rw [IntWalk.wrap64_in _ (by omega)]; exact this.1
theorem decode_f (s : ByteArray) (k : Nat) (hk : 200 ≤ k) : root_Decode.f k s = some (decV s) := by
  obtain ⟨k, rfl⟩ : ∃ m, k = m + 1 := ⟨k - 1, by omega⟩
  unfold root_Decode.f decV
  by_cases hs : s.size = 508
  · have hv0 := (valB_range s 0 6).1
    have hv6 := (valB_range s 6 6).1
    have w12 := wrap_n s 12
    have w13 := wrap_n s 13
    have r12 := (nOf_eq s 12).2
    have r13 := (nOf_eq s 13).2
    rw [show ((12 : Nat) : Int) = 12 from rfl] at w12
    rw [show ((13 : Nat) : Int) = 13 from rfl] at w13
    rw [if_pos (by omega), if_pos hs, take_f s 0 6 (by omega) (by omega) (by omega) (k + 1) (by omega), takeV_in s 0 6 (by omega) (by omega) (by omega) (by omega), Option.bind_some,
      take_f s 6 6 (by omega) (by omega) (by omega) (k + 1) (by omega), takeV_in s 6 6 (by omega) (by omega) (by omega) (by omega), Option.bind_some, if_pos (by omega), if_pos (by omega), w12, w13]
    have no (x : Bool) (hx : x = true) : root_Decode.j0 (k + 1) s (nOf s 12) (nOf s 13) x (valB s (0 : Int).toNat (6 : Int).toNat) (valB s (6 : Int).toNat (6 : Int).toNat) = some errV := by rw [root_Decode.j0, if_pos hx]; rfl
    by_cases h1 : (nOf s 12 : Int) > 60
    · rw [if_pos h1, no true rfl, fin_long _ _ _ _ _ (.inl (by rw [numsV_len]; omega))]
    · rw [if_neg h1]
      by_cases h2 : (nOf s 13 : Int) > 12
      · rw [no _ (decide_eq_true h2), fin_long _ _ _ _ _ (.inr (by rw [numsV_len]; omega))]
      · rw [decide_eq_false h2, root_Decode.j0, if_neg (by decide), IntWalk.wrap64_in _ (by omega)]
        have := dec_loop s hs (nOf s 12) (nOf s 13) (by omega) (by omega) (valB s 0 6) (valB s 6 6) hv0 hv6 (nOf s 12 + nOf s 13) 0 k (by omega) (by omega)
        rw [show ((0 : Nat) : Int) = 0 from rfl, show min 0 (nOf s 12) = 0 by omega, show 0 - nOf s 12 = 0 by omega, Int.natCast_add] at this
        exact this
  · rw [if_neg (by omega), if_neg hs]; rfl

/-! ### What was encoded is decoded as it was -/
theorem valB_mid (p q : List UInt8) (x : Int) (w i : Nat) (hi : p.length = i) (h0 : 0 ≤ x) (h1 : x < 256 ^ w) : valB (ofL (p ++ lowBytes x w ++ q)) i w = x := by
  rw [← ofL_append, ← ofL_append, ← hi, ← ofL_size p]
  exact valB_put (ofL p) (ofL q) x w h0 h1
theorem bt_val (s : ByteArray) (i : Nat) : bt s i = valB s i 1 := by simp [valB]
theorem rootB_size (a b : Int) (d c : List Int) (h : d.length + c.length ≤ 72) : (rootB a b d c).size = 508 := by
  rw [rootB_eq, ofL_size]
  simp only [List.length_append, rootH_len, numsB_len, List.length_replicate]
  omega
theorem val_root {a b : Int} {d c : List Int} (ha : 0 ≤ a) (hb : 0 ≤ b) (h : rightV a b d c = true) :
    valB (rootB a b d c) 0 6 = a ∧ valB (rootB a b d c) 6 6 = b ∧ nOf (rootB a b d c) 12 = d.length ∧ nOf (rootB a b d c) 13 = c.length ∧ ∀ i (hi : i < (d ++ c).length), valB (rootB a b d c) (14 + 4 * i) 4 = (d ++ c)[i] := by
  obtain ⟨r1, r2, r3, r4, r5⟩ := right_facts h
  have e6 : (256 : Int) ^ 6 = 281474976710656 := by decide
  have e1 : (256 : Int) ^ 1 = 256 := by decide
  have e4 : (256 : Int) ^ 4 = 4294967296 := by decide
  have hB : rootB a b d c = ofL (rootH a b d c ++ numsB (d ++ c) ++ List.replicate (508 - (14 + 4 * d.length + 4 * c.length)) 0) := by rw [rootB_eq, numsB_append]; simp only [List.append_assoc]
  generalize List.replicate (508 - (14 + 4 * d.length + 4 * c.length)) (0 : UInt8) = z at hB
  have q (p u : List UInt8) (x : Int) (w i : Nat) (hi : p.length = i) (h0 : 0 ≤ x) (h1 : x < 256 ^ w) (he : rootH a b d c ++ numsB (d ++ c) ++ z = p ++ lowBytes x w ++ u) : valB (rootB a b d c) i w = x := by
    rw [hB, he]; exact valB_mid p u x w i hi h0 h1
  refine ⟨q [] (lowBytes b 6 ++ lowBytes d.length 1 ++ lowBytes c.length 1 ++ numsB (d ++ c) ++ z) a 6 0 rfl ha (by rw [e6]; omega) (by simp [rootH]),
    q (lowBytes a 6) (lowBytes d.length 1 ++ lowBytes c.length 1 ++ numsB (d ++ c) ++ z) b 6 6 (lowBytes_length _ _) hb (by rw [e6]; omega) (by simp [rootH]), ?_, ?_, ?_⟩
  · have := q (lowBytes a 6 ++ lowBytes b 6) (lowBytes c.length 1 ++ numsB (d ++ c) ++ z) d.length 1 12 (by simp [lowBytes_length]) (by omega) (by rw [e1]; omega) (by simp [rootH])
    unfold nOf
    rw [bt_val, this]; omega
  · have := q (lowBytes a 6 ++ lowBytes b 6 ++ lowBytes d.length 1) (numsB (d ++ c) ++ z) c.length 1 13 (by simp [lowBytes_length]) (by omega) (by rw [e1]; omega) (by simp [rootH])
    unfold nOf
    rw [bt_val, this]; omega
  · intro i hi
    have hx := r5 _ (List.getElem_mem hi)
    refine q (rootH a b d c ++ numsB ((d ++ c).take i)) (numsB ((d ++ c).drop (i + 1)) ++ z) _ 4 (14 + 4 * i) ?_ (by omega) (by rw [e4]; omega) ?_
    · rw [List.length_append, rootH_len, numsB_len, List.length_take]; omega
    · have e : numsB (d ++ c) = numsB ((d ++ c).take i) ++ (lowBytes (d ++ c)[i] 4 ++ numsB ((d ++ c).drop (i + 1))) := by
        rw [← numsB_cons, ← numsB_append, List.getElem_cons_drop, List.take_append_drop]
      rw [e]; simp only [List.append_assoc]
theorem decode_own {a b : Int} {d c : List Int} (ha : 0 ≤ a) (hb : 0 ≤ b) (h : rightV a b d c = true) : decV (rootB a b d c) = (a, b, d, c, 0) := by
  obtain ⟨v1, v2, v3, v4, v5⟩ := val_root ha hb h
  obtain ⟨r1, r2, r3, r4, r5⟩ := right_facts h
  have hd : dD (rootB a b d c) = d := by
    apply List.ext_getElem
    · rw [numsV_len, v3]
    · intro j h1 h2
      rw [numsV_get, v5 j (by rw [List.length_append]; omega), List.getElem_append_left h2]
  have hc : dC (rootB a b d c) = c := by
    apply List.ext_getElem
    · rw [numsV_len, v4]
    · intro j h1 h2
      rw [numsV_get, v3, show 14 + 4 * d.length + 4 * j = 14 + 4 * (d.length + j) by omega, v5 (d.length + j) (by rw [List.length_append]; omega), List.getElem_append_right (by omega)]
      simp
  unfold decV
  rw [if_pos (rootB_size a b d c (by omega)), v1, v2, hd, hc]
  unfold finV
  rw [if_pos ⟨h, rfl⟩]
theorem decode_not {s : ByteArray} (h : s.size ≠ 508) : decV s = errV := by unfold decV; rw [if_neg h]
/-- Unlike roots have unlike contents. -/
theorem rootB_inj {a b a' b' : Int} {d c d' c' : List Int} (ha : 0 ≤ a) (hb : 0 ≤ b) (ha' : 0 ≤ a') (hb' : 0 ≤ b') (h : rightV a b d c = true) (h' : rightV a' b' d' c' = true) (e : rootB a b d c = rootB a' b' d' c') : a = a' ∧ b = b' ∧ d = d' ∧ c = c' := by
  have := decode_own ha hb h
  rw [e, decode_own ha' hb' h'] at this
  simp only [Prod.mk.injEq] at this
  exact ⟨this.1.symm, this.2.1.symm, this.2.2.1.symm, this.2.2.2.1.symm⟩

/-! ### Are two roots the same? -/
theorem same_l1 (a b a' b' : Int) (d c d' c' : List Int) (hl : c.length = c'.length) (hc : c.length ≤ 1000) : ∀ m i k, i + m = c.length → m < k → nautilusref16_Same.l1 k i a b d c a' b' d' c' = some (decide (c.drop i = c'.drop i))
  | 0, i, k + 1, hi, hk => by rw [nautilusref16_Same.l1, if_neg (by omega), List.drop_of_length_le (by omega), List.drop_of_length_le (by omega)]; simp
  | m + 1, i, k + 1, hi, hk => by
    have h1 : i < c.length := by omega
    have h2 : i < c'.length := by omega
    rw [nautilusref16_Same.l1, if_pos (by omega), if_pos (by omega), if_pos (by omega), rd_in c i h1, rd_in c' i h2, List.drop_eq_getElem_cons h1, List.drop_eq_getElem_cons h2, IntWalk.wrap64_in _ (by omega), show (i : Int) + 1 = ((i + 1 : Nat) : Int) by omega]
    by_cases e : c[i] = c'[i]
    · rw [if_pos e, same_l1 a b a' b' d c d' c' hl hc m (i + 1) k (by omega) (by omega)]
      simp only [List.cons.injEq, e, true_and]
    · rw [if_neg e]; simp only [List.cons.injEq, e, false_and, decide_false]
theorem same_l0 (a b a' b' : Int) (d c d' c' : List Int) (hl : d.length = d'.length) (hc : d.length ≤ 1000) : ∀ m i k, i + m = d.length → m < k → nautilusref16_Same.l0 k i a b d c a' b' d' c' = if d.drop i = d'.drop i then nautilusref16_Same.l1 (k - m - 1) 0 a b d c a' b' d' c' else some false
  | 0, i, k + 1, hi, hk => by rw [nautilusref16_Same.l0, if_neg (by omega), List.drop_of_length_le (by omega), List.drop_of_length_le (by omega)]; simp
  | m + 1, i, k + 1, hi, hk => by
    have h1 : i < d.length := by omega
    have h2 : i < d'.length := by omega
    rw [nautilusref16_Same.l0, if_pos (by omega), if_pos (by omega), if_pos (by omega), rd_in d i h1, rd_in d' i h2, List.drop_eq_getElem_cons h1, List.drop_eq_getElem_cons h2, IntWalk.wrap64_in _ (by omega), show (i : Int) + 1 = ((i + 1 : Nat) : Int) by omega]
    by_cases e : d[i] = d'[i]
    · rw [if_pos e, same_l0 a b a' b' d c d' c' hl hc m (i + 1) k (by omega) (by omega)]
      simp only [List.cons.injEq, e, true_and, show k + 1 - (m + 1) - 1 = k - m - 1 by omega]
    · rw [if_neg e]; simp only [List.cons.injEq, e, false_and, if_false]
theorem same_f (a b a' b' : Int) (d c d' c' : List Int) (hd : d.length ≤ 1000) (hc : c.length ≤ 1000) (k : Nat) (hk : 3000 ≤ k) : nautilusref16_Same.f k a b d c a' b' d' c' = some (decide (a = a' ∧ b = b' ∧ d = d' ∧ c = c')) := by
  obtain ⟨k, rfl⟩ : ∃ m, k = m + 1 := ⟨k - 1, by omega⟩
  unfold nautilusref16_Same.f
  have no : nautilusref16_Same.j0 (k + 1) true a b d c a' b' d' c' = some false := by rw [nautilusref16_Same.j0, if_pos rfl]
  by_cases h1 : a = a'
  · rw [if_pos h1]
    by_cases h2 : b = b'
    · rw [if_pos h2]
      by_cases h3 : d.length = d'.length
      · rw [if_pos (by omega)]
        by_cases h4 : c.length = c'.length
        · rw [show (((c.length : Int) != (c'.length : Int)) = false) by simp; omega, nautilusref16_Same.j0, if_neg (by decide)]
          have g0 := same_l0 a b a' b' d c d' c' h3 hd d.length 0 k (by omega) (by omega)
          have g1 := same_l1 a b a' b' d c d' c' h4 hc c.length 0 (k - d.length - 1) (by omega) (by omega)
          rw [show ((0 : Nat) : Int) = 0 from rfl, List.drop_zero, List.drop_zero] at g0 g1
          rw [g0, g1]
          by_cases h5 : d = d'
          · rw [if_pos h5]; simp [h1, h2, h5]
          · rw [if_neg h5]; simp [h5]
        · rw [show (((c.length : Int) != (c'.length : Int)) = true) by simp; omega, no, decide_eq_false (fun h => h4 (by rw [h.2.2.2]))]
      · rw [if_neg (by omega), no, decide_eq_false (fun h => h3 (by rw [h.2.2.1]))]
    · rw [if_neg h2, no, decide_eq_false (fun h => h2 h.2.1)]
  · rw [if_neg h1, no, decide_eq_false (fun h => h1 h.1)]

theorem shown_f (k : Nat) (hk : 8000 ≤ k) : nautiluslaw16_shown.f k = some true := by
  have h1 : rightV 2 3 [17] [18] = true := by decide
  have h2 : rightV 2 0 [17] [17] = false := by decide
  unfold nautiluslaw16_shown.f nautiluslaw16_first.f
  rw [Option.bind_some]
  show (root_Encode.f 2 3 [17] [18]).bind _ = _
  rw [encode_f _ _ _ _ (by omega) (by omega), Option.bind_some]
  unfold encV
  rw [if_pos h1]
  show (root_Decode.f k (rootB 2 3 [17] [18])).bind _ = _
  rw [decode_f _ k (by omega), decode_own (by omega) (by omega) h1, Option.bind_some, encode_f _ _ _ _ (by omega) (by omega), Option.bind_some]
  unfold encV
  rw [h2, if_pos rfl, if_pos rfl, if_pos (by rw [rootB_size _ _ _ _ (by decide)]; rfl), Option.bind_some]
  show (nautilusref16_Same.f k 2 3 [17] [18] 2 3 [17] [18]).bind _ = _
  rw [same_f _ _ _ _ _ _ _ _ (by decide) (by decide) k (by omega)]
  rfl
theorem right_f (a b : Int) (d c : List Int) : root_Right.f a b d c = some (rightV a b d c) := rfl
theorem decV_len (s : ByteArray) : (decV s).2.2.1.length ≤ 1000 ∧ (decV s).2.2.2.1.length ≤ 1000 := by
  unfold decV
  split
  · unfold finV
    split
    · have h1 := (nOf_eq s 12).2
      have h2 := (nOf_eq s 13).2
      exact ⟨by show (dD s).length ≤ 1000; rw [numsV_len]; omega, by show (dC s).length ≤ 1000; rw [numsV_len]; omega⟩
    · exact ⟨by decide, by decide⟩
  · exact ⟨by decide, by decide⟩
theorem decV_pos (s : ByteArray) : 0 ≤ (decV s).1 ∧ 0 ≤ (decV s).2.1 := by
  unfold decV
  split
  · unfold finV
    split
    · exact ⟨(valB_range s 0 6).1, (valB_range s 6 6).1⟩
    · exact ⟨by decide, by decide⟩
  · exact ⟨by decide, by decide⟩
theorem dec_back (s : ByteArray) (h : (decV s).2.2.2.2 = 0) : encV (decV s).1 (decV s).2.1 (decV s).2.2.1 (decV s).2.2.2.1 = (s, 0) := by
  unfold decV at h ⊢
  split at h
  · rename_i h1
    rw [if_pos h1]
    unfold finV at h ⊢
    split at h
    · rename_i h2
      rw [if_pos h2]
      unfold encV
      rw [if_pos h2.1, h2.2]
    · exact absurd h (by decide)
  · exact absurd h (by decide)
theorem cut_at (l : List Int) : ∃ n : Nat, mn (l.length : Int) 100 = n ∧ n ≤ 100 ∧ n ≤ l.length := ⟨min l.length 100, by unfold mn; split <;> omega, by omega, by omega⟩
theorem u64_range {n : Int} (h : (Lit.int .u64 n).wf = true) : 0 ≤ n := (u64_wf h).1
end Go.Proofs.Ytmpcpcfdomlehaa.P
