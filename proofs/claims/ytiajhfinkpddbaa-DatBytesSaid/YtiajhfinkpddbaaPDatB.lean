/- Plain laws on the blocks of a table of virtual numbers, and on counts. -/
import Derived.Test.YtiajhfinkpddbaaQ10
import Derived.Test.YtiajhfinkpddbaaQ12
import Derived.Test.YtiajhfinkpddbaaQ13
import Derived.Test.YtiajhfinkpddbaaQ14
import Derived.Test.YtiajhfinkpddbaaPDatR
import Derived.Test.YtiajhfinkpddbaaPBytes
import Derived.Test.YtiajhfinkpddbaaHEncD
namespace Go.Proofs.Ytiajhfinkpddbaa.P
open Go.RowKit Go.Proofs.Ytiajhfinkpddbaa.H Go.Proofs.Ytiajhfinkpddbaa.Q Go.Proofs.YtiajhfinkpddbaaW.PrintWords Go.Proofs.YtiajhfinkpddbaaW.PrintLast Go.Proofs.YtiajhfinkpddbaaW.PrintMore
set_option linter.unusedVariables false

/-! ### What is the same -/
theorem sameTexts_loop (a : List ByteArray) (ha : a.length ≤ 1000000000) : ∀ d i k, i + d = a.length → d < k → nautilusref08_SameTexts.l0 k a a i = some true
  | 0, i, 0, _, h => by omega
  | 0, i, k + 1, hi, _ => by
    unfold nautilusref08_SameTexts.l0
    rw [if_neg (by omega)]
  | d + 1, i, 0, _, h => by omega
  | d + 1, i, k + 1, hi, h => by
    unfold nautilusref08_SameTexts.l0
    rw [if_pos (by omega), if_pos (by omega), if_pos (by omega), if_pos rfl, w64 i (by omega)]
    exact sameTexts_loop a ha d (i + 1) k (by omega) (by omega)
theorem sameTexts_f (a : List ByteArray) (ha : a.length ≤ 1000000000) (k : Nat) (hk : a.length < k) : nautilusref08_SameTexts.f k a a = some true := by
  unfold nautilusref08_SameTexts.f
  rw [if_pos rfl]
  exact sameTexts_loop a ha a.length 0 k (by omega) hk
theorem sameInts_loop (a : List Int) (ha : a.length ≤ 1000000000) : ∀ d i k, i + d = a.length → d < k → nautilusref08_SameInts.l0 k a a i = some true
  | 0, i, 0, _, h => by omega
  | 0, i, k + 1, hi, _ => by
    unfold nautilusref08_SameInts.l0
    rw [if_neg (by omega)]
  | d + 1, i, 0, _, h => by omega
  | d + 1, i, k + 1, hi, h => by
    unfold nautilusref08_SameInts.l0
    rw [if_pos (by omega), if_pos (by omega), if_pos (by omega), if_pos rfl, w64 i (by omega)]
    exact sameInts_loop a ha d (i + 1) k (by omega) (by omega)
theorem sameInts_f (a : List Int) (ha : a.length ≤ 1000000000) (k : Nat) (hk : a.length < k) : nautilusref08_SameInts.f k a a = some true := by
  unfold nautilusref08_SameInts.f
  rw [if_pos rfl]
  exact sameInts_loop a ha a.length 0 k (by omega) hk

/-! ### Counts -/
def cntL (s : Int) : List E → List Int → List Int × Int
  | [], c => (c, 0)
  | x :: xs, c => if freeE x = true then cntL s xs c else if x.f0 / 16 ≥ s then ([], 80) else cntL s xs (c.set (x.f0 / 16).toNat (wrap64 (rd c (x.f0 / 16) + 1)))
theorem cnt_len (s : Int) : ∀ (l : List E) (c : List Int), (cntL s l c).1.length ≤ c.length
  | [], c => Nat.le_refl _
  | x :: xs, c => by
    unfold cntL
    split
    · exact cnt_len s xs c
    · split
      · simp
      · have := cnt_len s xs (c.set (x.f0 / 16).toNat (wrap64 (rd c (x.f0 / 16) + 1)))
        rwa [List.length_set] at this
theorem dat_loop (l : List E) (s : Int) (hl : l.length ≤ 100000) (hs1 : 1 ≤ s) (hw : ∀ x ∈ l, 0 ≤ x.f0 ∧ x.f0 < 4294967296) : ∀ d i k (c : List Int), i + d = l.length → d < k → (c.length : Int) = s →
    dat_Counts.l0 k s c l (l.length : Int) (i : Int) = some (cntL s (l.drop i) c)
  | _, i, 0, _, _, h, _ => by omega
  | 0, i, k + 1, c, hi, h, hc => by
    rw [dat_Counts.l0, if_neg (by omega), List.drop_of_length_le (by omega)]; rfl
  | d + 1, i, k + 1, c, hi, h, hc => by
    have hlt : i < l.length := by omega
    obtain ⟨w0, w1⟩ := hw _ (List.getElem_mem hlt)
    have e : Int.tdiv l[i].f0 16 % 4294967296 = l[i].f0 / 16 := by rw [Int.tdiv_eq_ediv_of_nonneg (by omega)]; omega
    rw [dat_Counts.l0, if_pos (by omega), if_pos (by omega), if_pos (by omega), rd_at l i hlt, isfree_f, Option.bind_some, w64 i (by omega), List.drop_eq_getElem_cons hlt, cntL, e]
    cases hf : freeE l[i] with
    | true =>
      rw [if_pos rfl, if_pos rfl]
      exact dat_loop l s hl hs1 hw d (i + 1) k c (by omega) (by omega) hc
    | false =>
      rw [if_neg NF, if_neg NF]
      by_cases hg : l[i].f0 / 16 ≥ s
      · rw [if_pos hg, if_pos hg]
      · rw [if_neg hg, if_neg hg, if_pos (by omega), if_pos (by omega)]
        exact dat_loop l s hl hs1 hw d (i + 1) k _ (by omega) (by omega) (by rw [List.length_set]; exact hc)
theorem ref_loop (l : List E) (s : Int) (hl : l.length ≤ 100000) (hs1 : 1 ≤ s) (hw : ∀ x ∈ l, 0 ≤ x.f0 ∧ x.f0 < 4294967296) : ∀ d i k (c : List Int), i + d = l.length → d < k → (c.length : Int) = s →
    nautilusref08_Counts.l0 k l s c (i : Int) = some (cntL s (l.drop i) c)
  | _, i, 0, _, _, h, _ => by omega
  | 0, i, k + 1, c, hi, h, hc => by
    rw [nautilusref08_Counts.l0, if_neg (by omega), List.drop_of_length_le (by omega)]; rfl
  | d + 1, i, k + 1, c, hi, h, hc => by
    have hlt : i < l.length := by omega
    obtain ⟨w0, w1⟩ := hw _ (List.getElem_mem hlt)
    have e : wrap64 (Int.tdiv (wrap64 l[i].f0) 16) = l[i].f0 / 16 := by rw [IntWalk.wrap64_in _ (show -9223372036854775808 ≤ l[i].f0 ∧ l[i].f0 ≤ 9223372036854775807 by omega), Int.tdiv_eq_ediv_of_nonneg (by omega), IntWalk.wrap64_in _ (by omega)]
    rw [nautilusref08_Counts.l0, if_pos (by omega), if_pos (by omega), rd_at l i hlt, reffree_f, w64 i (by omega), List.drop_eq_getElem_cons hlt, cntL, e]
    cases hf : freeE l[i] with
    | true =>
      have h0 : l[i].f0 = 0 := by unfold freeE freeB at hf; simp at hf; exact hf.1
      rw [if_neg (by omega), Option.bind_some, if_pos rfl, if_pos rfl]
      exact ref_loop l s hl hs1 hw d (i + 1) k c (by omega) (by omega) hc
    | false =>
      rw [if_neg NF]
      by_cases hg : l[i].f0 / 16 ≥ s
      · rw [if_pos hg, if_pos hg]
      · rw [if_neg hg, if_neg hg, Option.bind_some, if_neg NF, if_pos (by omega), if_pos (by omega)]
        exact ref_loop l s hl hs1 hw d (i + 1) k _ (by omega) (by omega) (by rw [List.length_set]; exact hc)
def countsV (l : List E) (s : Int) : List Int × Int := if rightV l = true then (if s < 1 then ([], 80) else if s > 256 then ([], 80) else cntL s l (List.replicate s.toNat 0)) else ([], 80)
theorem counts_len (l : List E) (s : Int) : (countsV l s).1.length ≤ 1000 := by
  unfold countsV
  split
  · split
    · simp
    · split
      · simp
      · have := cnt_len s l (List.replicate s.toNat 0)
        rw [List.length_replicate] at this; omega
  · simp
theorem counts_f (l : List E) (s : Int) (hl : l.length ≤ 100000) (hw : ∀ x ∈ l, 0 ≤ x.f0 ∧ x.f0 < 4294967296) (k : Nat) (hk : 100002 < k) : dat_Counts.f k l s = some (countsV l s) := by
  obtain ⟨k, rfl⟩ : ∃ z, k = z + 1 := ⟨k - 1, by omega⟩
  unfold dat_Counts.f countsV
  rw [right_f, Option.bind_some]
  cases hr : rightV l with
  | false => rw [if_neg NF, if_neg NF, dat_Counts.j0, if_pos rfl]
  | true =>
    rw [if_pos rfl, if_pos rfl]
    by_cases h1 : s < 1
    · rw [if_pos h1, if_pos h1, dat_Counts.j0, if_pos rfl]
    · rw [if_neg h1, if_neg h1]
      by_cases h2 : s > 256
      · rw [if_pos h2, decide_eq_true h2, dat_Counts.j0, if_pos rfl]
      · rw [if_neg h2, decide_eq_false h2, dat_Counts.j0, if_neg (by decide), if_pos (by omega), if_pos (by omega)]
        exact dat_loop l s hl (by omega) hw l.length 0 k _ (by omega) (by omega) (by rw [List.length_replicate]; omega)
theorem refCounts_f (l : List E) (s : Int) (hl : l.length ≤ 100000) (hw : ∀ x ∈ l, 0 ≤ x.f0 ∧ x.f0 < 4294967296) (k : Nat) (hk : 100002 < k) : nautilusref08_Counts.f k l s = some (countsV l s) := by
  obtain ⟨k, rfl⟩ : ∃ z, k = z + 1 := ⟨k - 1, by omega⟩
  unfold nautilusref08_Counts.f countsV
  rw [refRight_f l (k + 1) (by omega) (by omega), Option.bind_some]
  cases hr : rightV l with
  | false => rw [if_neg NF, if_neg NF, nautilusref08_Counts.j0, if_pos rfl]
  | true =>
    rw [if_pos rfl, if_pos rfl]
    by_cases h1 : s < 1
    · rw [if_pos h1, if_pos h1, nautilusref08_Counts.j0, if_pos rfl]
    · rw [if_neg h1, if_neg h1]
      by_cases h2 : s > 256
      · rw [if_pos h2, decide_eq_true h2, nautilusref08_Counts.j0, if_pos rfl]
      · rw [if_neg h2, decide_eq_false h2, nautilusref08_Counts.j0, if_neg (by decide), if_pos (by omega), if_pos (by omega)]
        exact ref_loop l s hl (by omega) hw l.length 0 k _ (by omega) (by omega) (by rw [List.length_replicate]; omega)

/-! ### Encode -/
def fits (x : E) : Prop := (0 ≤ x.f0 ∧ x.f0 < 4096) ∧ (0 ≤ x.f1 ∧ x.f1 < 281474976710656) ∧ (0 ≤ x.f2 ∧ x.f2 < 281474976710656)
theorem fits_of {x : E} (h : oneE x = true) : fits x := by
  unfold oneE freeE freeB at h
  unfold fits
  simp only [Bool.or_eq_true, Bool.and_eq_true, decide_eq_true_eq, beq_iff_eq] at h
  rcases h with ⟨h1, h2, h3⟩ | ⟨h1, h2, h3, h4, h5⟩
  · omega
  · rcases h5 with h5 | h5 <;> omega
theorem put_leB {n : Int} {w : Nat} (hw1 : 1 ≤ w) (hw8 : w ≤ 8) (h0 : 0 ≤ n) (h1 : n < 256 ^ w) (h2 : n < 18446744073709551616) : num_Put.f n (w : Int) = some (leB n w, 0) := by
  unfold num_Put.f
  rw [if_pos ⟨h0, h2⟩, if_pos ⟨by omega, by omega⟩, Int.toNat_natCast, if_pos (Int.ediv_eq_zero_of_lt h0 h1)]; rfl
theorem put4 {n : Int} (h0 : 0 ≤ n) (h1 : n < 4096) : num_Put.f n 4 = some (leB n 4, 0) := by
  have e : (256 : Int) ^ 4 = 4294967296 := by decide
  exact put_leB (w := 4) (by omega) (by omega) h0 (by rw [e]; omega) (by omega)
theorem put6 {n : Int} (h0 : 0 ≤ n) (h1 : n < 281474976710656) : num_Put.f n 6 = some (leB n 6, 0) := by
  have e : (256 : Int) ^ 6 = 281474976710656 := by decide
  exact put_leB (w := 6) (by omega) (by omega) h0 (by rw [e]; omega) (by omega)
theorem putV4 {n : Int} (h0 : 0 ≤ n) (h1 : n < 4096) : Q.putV n 4 = leB n 4 := by unfold Q.putV; rw [put4 h0 h1]; rfl
theorem putV6 {n : Int} (h0 : 0 ≤ n) (h1 : n < 281474976710656) : Q.putV n 6 = leB n 6 := by unfold Q.putV; rw [put6 h0 h1]; rfl
theorem fits_fine {x : E} (h : fits x) : fineE x = true := by
  obtain ⟨⟨a1, a2⟩, ⟨b1, b2⟩, ⟨c1, c2⟩⟩ := h
  have ew : IntKind.u64.wrap x.f0 = x.f0 := IntWalk.u64_in _ (by omega)
  unfold fineE fineP
  rw [ew, put4 a1 a2, put6 b1 b2, put6 c1 c2, putV4 a1 a2, putV6 b1 b2, putV6 c1 c2, leB_size, leB_size, leB_size]
  rfl
theorem oneV_eq {x : E} (h : fits x) : oneV x = (leB x.f0 4 ++ leB x.f1 6) ++ leB x.f2 6 := by
  obtain ⟨⟨a1, a2⟩, ⟨b1, b2⟩, ⟨c1, c2⟩⟩ := h
  have ew : IntKind.u64.wrap x.f0 = x.f0 := IntWalk.u64_in _ (by omega)
  unfold oneV
  rw [ew, putV4 a1 a2, putV6 b1 b2, putV6 c1 c2]
theorem oneV_size {x : E} (h : fits x) : (oneV x).size = 16 := by rw [oneV_eq h, ByteArray.size_append, ByteArray.size_append, leB_size, leB_size, leB_size]
def catB (p : List E) : ByteArray := ⟨(catV p).toArray⟩
theorem catB_size : ∀ (p : List E), (∀ x ∈ p, fits x) → (catB p).size = 16 * p.length
  | [], _ => rfl
  | x :: xs, h => by
    have h1 := oneV_size (h x (by simp))
    have h2 := catB_size xs (fun y hy => h y (by simp [hy]))
    have e : (catB (x :: xs)).size = (oneV x).size + (catB xs).size := by
      have e1 : catV (x :: xs) = (oneV x).data.toList ++ catV xs := by unfold catV; rw [List.map_cons, List.flatten_cons]
      show (catV (x :: xs)).toArray.size = (oneV x).data.size + (catV xs).toArray.size
      rw [e1, List.size_toArray, List.length_append, Array.length_toList]; rfl
    rw [e, h1, h2, List.length_cons]; omega
theorem catB_next (p : List E) (j : Nat) (h : j < p.length) : catB (p.take (j + 1)) = catB (p.take j) ++ oneV p[j] := by
  unfold catB
  rw [catV_take p j h]
  apply ByteArray.ext; simp
theorem zeros_str (n : Nat) : strOfNums (List.replicate n 0) = zerosB n := by unfold strOfNums zerosB; rw [List.map_replicate]; rfl
theorem block_eq (p : List E) (h : ∀ x ∈ p, fits x) (hp : p.length ≤ 31) : blockV p = catB p ++ zerosB (508 - 16 * p.length) := by
  have hs := catB_size p h
  unfold blockV
  show ((num_Fit.f (catB p) 508).getD (⟨#[]⟩, 0)).1 = _
  unfold num_Fit.f
  rw [if_neg (by omega), if_neg (by omega), if_neg (by omega), hs, show ((508 : Int) - ((16 * p.length : Nat) : Int)).toNat = 508 - 16 * p.length by omega]
  rfl
theorem part_at (l : List E) (q j : Nat) (h : j < (partL 31 l q).length) : 31 * q + j < l.length ∧ (partL 31 l q)[j]'h = l[31 * q + j]'(by rw [partL_len] at h; omega) := by
  have h' := h
  rw [partL_len] at h'
  refine ⟨by omega, ?_⟩
  simp [partL]
theorem enc_row (l : List E) (hl : l.length ≤ 100000) (hf : ∀ x ∈ l, fits x) (q : Nat) (hq : q < partN 31 l) (out : List ByteArray) (ho : out.length ≤ 100000) : ∀ d j k, j + d = (partL 31 l q).length → 12 ≤ k →
    nautilusref08_Encode.l1 (k + 2 * d + 2) l out ((31 * q : Nat) : Int) (catB ((partL 31 l q).take j)) ((31 * q + j : Nat) : Int) = nautilusref08_Encode.l0 k l (out ++ [blockV (partL 31 l q)]) ((31 * (q + 1) : Nat) : Int)
  | 0, j, k, hj, hk => by
    have hpl := partL_len 31 l q
    have hlt := (partN_lt (by omega) l q).1 hq
    have ht : (partL 31 l q).take j = partL 31 l q := List.take_of_length_le (by omega)
    have hz := catB_size (partL 31 l q) (fun x hx => hf x (List.mem_of_mem_take (List.mem_of_mem_drop hx)))
    have hw : wrap64 (((31 * q : Nat) : Int) + 31) = ((31 * (q + 1) : Nat) : Int) := by rw [IntWalk.wrap64_in _ (by omega)]; omega
    have key : nautilusref08_Encode.j2 (k + 1) l out ((31 * q : Nat) : Int) (catB ((partL 31 l q).take j)) ((31 * q + j : Nat) : Int) false = nautilusref08_Encode.l0 k l (out ++ [blockV (partL 31 l q)]) ((31 * (q + 1) : Nat) : Int) := by
      have e1 : wrap64 (508 - ((catB (partL 31 l q)).size : Int)) = ((508 - 16 * (partL 31 l q).length : Nat) : Int) := by rw [IntWalk.wrap64_in _ (by omega)]; omega
      have e2 : (zerosB (508 - 16 * (partL 31 l q).length)).size = 508 - 16 * (partL 31 l q).length := by show (List.replicate _ (0 : UInt8)).toArray.size = _; rw [List.size_toArray, List.length_replicate]
      rw [nautilusref08_Encode.j2, if_neg (by decide), ht, e1, if_pos (by omega), Int.toNat_natCast, if_pos (by omega), Option.bind_some, zeros_str, if_pos (by rw [e2]; omega), if_pos (by omega), hw]
      rw [block_eq (partL 31 l q) (fun x hx => hf x (List.mem_of_mem_take (List.mem_of_mem_drop hx))) (by omega)]
    show nautilusref08_Encode.l1 (k + 1 + 1) _ _ _ _ _ = _
    rw [nautilusref08_Encode.l1]
    by_cases hb : 31 * q + j < l.length
    · rw [if_pos (by omega), hw, decide_eq_false (by omega)]; exact key
    · rw [if_neg (by omega)]; exact key
  | d + 1, j, k, hj, hk => by
    have hpl := partL_len 31 l q
    obtain ⟨hb, hg⟩ := part_at l q j (by omega)
    have hw : wrap64 (((31 * q : Nat) : Int) + 31) = ((31 * (q + 1) : Nat) : Int) := by rw [IntWalk.wrap64_in _ (by omega)]; omega
    have hx := hf _ (List.getElem_mem hb)
    have hxo := oneV_eq hx
    have hz := catB_size ((partL 31 l q).take j) (fun x hx => hf x (List.mem_of_mem_take (List.mem_of_mem_drop (List.mem_of_mem_take hx))))
    rw [List.length_take] at hz
    obtain ⟨⟨a1, a2⟩, ⟨b1, b2⟩, ⟨c1, c2⟩⟩ := hx
    have ew : IntKind.u64.wrap (l[31 * q + j]).f0 = (l[31 * q + j]).f0 := IntWalk.u64_in _ (by omega)
    have z4 (n : Int) : (leB n (4 : Int).toNat).size = 4 := leB_size _ _
    have z6 (n : Int) : (leB n (6 : Int).toNat).size = 6 := leB_size _ _
    show nautilusref08_Encode.l1 (k + 2 * d + 2 + 1 + 1) _ _ _ _ _ = _
    rw [nautilusref08_Encode.l1, if_pos (by omega), hw, decide_eq_true (by omega), nautilusref08_Encode.j2, if_pos rfl, if_pos (by omega), if_pos (by omega), rd_at l (31 * q + j) hb, ew,
      refBytes_f _ 4 (by omega) (by omega) (k + 2 * d + 2) (by omega), Option.bind_some, if_pos (by rw [z4]; omega), refBytes_f _ 6 (by omega) (by omega) (k + 2 * d + 2) (by omega), Option.bind_some, if_pos (by rw [ByteArray.size_append, z4, z6]; omega),
      refBytes_f _ 6 (by omega) (by omega) (k + 2 * d + 2) (by omega), Option.bind_some, if_pos (by rw [ByteArray.size_append, ByteArray.size_append, z4, z6, z6]; omega), w64 _ (by omega)]
    have hn := catB_next (partL 31 l q) j (by omega)
    rw [hg, hxo] at hn
    have e : ((catB ((partL 31 l q).take j) ++ leB (l[31 * q + j]).f0 (4 : Int).toNat) ++ leB (l[31 * q + j]).f1 (6 : Int).toNat) ++ leB (l[31 * q + j]).f2 (6 : Int).toNat = catB ((partL 31 l q).take (j + 1)) := by
      rw [hn, ← ByteArray.append_assoc, ← ByteArray.append_assoc]; rfl
    rw [e]
    exact enc_row l hl hf q hq out ho d (j + 1) k (by omega) hk
theorem enc_rows (l : List E) (hl : l.length ≤ 100000) (hf : ∀ x ∈ l, fits x) : ∀ d q, q + d = partN 31 l → ∃ k, 12 ≤ k ∧ nautilusref08_Encode.l0 k l (encN l q) ((31 * q : Nat) : Int) = some (encN l (partN 31 l), 0)
  | 0, q, hq => by
    refine ⟨13, by omega, ?_⟩
    obtain rfl : q = partN 31 l := by omega
    have : ¬ 31 * partN 31 l < l.length := fun h => absurd ((partN_lt (by omega) l _).2 h) (Nat.lt_irrefl _)
    rw [nautilusref08_Encode.l0, if_neg (by omega)]
  | d + 1, q, hq => by
    obtain ⟨k, hk, h⟩ := enc_rows l hl hf d (q + 1) (by omega)
    have hlt := (partN_lt (m := 31) (by omega) l q).1 (by omega)
    have hql : q ≤ 100000 := by omega
    refine ⟨k + 2 * (partL 31 l q).length + 2 + 1, by omega, ?_⟩
    rw [nautilusref08_Encode.l0, if_pos (by omega)]
    have := enc_row l hl hf q (by omega) (encN l q) (by simp [encN]; omega) (partL 31 l q).length 0 k (by omega) hk
    rw [Nat.add_zero] at this
    have hz : catB ((partL 31 l q).take 0) = ⟨#[]⟩ := rfl
    rw [hz, ← encN_succ, h] at this
    exact this
theorem enc_up (l : List E) {r : List ByteArray × Int} : ∀ d k, nautilusref08_Encode.f k l = some r → nautilusref08_Encode.f (k + d) l = some r
  | 0, k, h => h
  | d + 1, k, h => nautilusref08_Encode.mono l (k + d) r (enc_up l d k h)
def encodeV (l : List E) : List ByteArray × Int := if rightV l = true then (encN l (partN 31 l), 0) else ([], 80)
theorem right_fits {l : List E} (h : rightV l = true) : ∀ x ∈ l, fits x := by
  obtain ⟨_, _, _, ho⟩ := rightV_iff.1 h
  exact fun x hx => fits_of (ho x hx)
theorem encode_f (l : List E) (hl : l.length ≤ 100000) : dat_Encode.f l = some (encodeV l) := by
  unfold dat_Encode.f encodeV
  rw [right_f, Option.bind_some]
  cases hr : rightV l with
  | false => rw [if_neg NF, if_neg NF]
  | true =>
    rw [if_pos rfl, if_pos rfl, if_pos hl, if_pos (List.all_eq_true.2 (fun x hx => fits_fine (right_fits hr x hx)))]
theorem refEncode_f (l : List E) (hl : l.length ≤ 100000) : ∃ k0, ∀ k, k0 ≤ k → nautilusref08_Encode.f k l = some (encodeV l) := by
  cases hr : rightV l with
  | false =>
    refine ⟨l.length + 2, fun k hk => ?_⟩
    unfold nautilusref08_Encode.f encodeV
    rw [refRight_f l k (by omega) (by omega), Option.bind_some, hr, if_neg NF, if_neg NF]
  | true =>
    obtain ⟨k, _, h⟩ := enc_rows l hl (right_fits hr) (partN 31 l) 0 (by omega)
    refine ⟨k + (l.length + 2), fun k' hk' => ?_⟩
    have hm : ∀ d, nautilusref08_Encode.l0 (k + d) l [] 0 = some (encN l (partN 31 l), 0) := by
      intro d
      induction d with
      | zero => exact h
      | succ d ih => exact (nautilusref08_Encode.mono_l (k + d)).1 _ _ _ _ ih
    unfold nautilusref08_Encode.f encodeV
    rw [refRight_f l k' (by omega) (by omega), Option.bind_some, hr, if_pos rfl, if_pos rfl]
    have := hm (k' - k)
    rwa [show k + (k' - k) = k' by omega] at this
end Go.Proofs.Ytiajhfinkpddbaa.P
