/- The blocks of a table of checkpoints, and the table of blocks: what the code and the document tell, in plain words. -/
import Derived.Test.YtllcmalgahnnhaaQ11
import Derived.Test.YtllcmalgahnnhaaQ12
import Derived.Test.YtllcmalgahnnhaaQ7
import Derived.Test.YtllcmalgahnnhaaPCpsE
import Derived.Test.YtllcmalgahnnhaaHDecT
set_option linter.unusedVariables false
set_option linter.unusedSimpArgs false
namespace Go.Proofs.Ytllcmalgahnnhaa.P
open Go.RowKit Go.Proofs.Ytllcmalgahnnhaa.H Go.Proofs.Ytllcmalgahnnhaa.Q Go.Proofs.YtllcmalgahnnhaaW.PrintWords Go.Proofs.YtllcmalgahnnhaaW.PrintLast Go.Proofs.YtllcmalgahnnhaaW.PrintMore

theorem nf : ¬ (false = true) := by decide
theorem rdO (l : List ByteArray) (i : Nat) (h : i < l.length) : rdOf ByteArray.empty l (i : Int) = l[i] := by simp [rdOf, h]
theorem texts_loop (a b : List ByteArray) (hab : a.length = b.length) (hl : a.length ≤ 1000000000) : ∀ d i k, i + d = a.length → d < k → ∃ r, nautilusref09_SameTexts.l0 k a b (i : Int) = some r ∧ (r = true ↔ a.drop i = b.drop i)
  | _, i, 0, _, h => by omega
  | 0, i, k + 1, hi, _ => ⟨true, by rw [nautilusref09_SameTexts.l0, if_neg (by omega)], by rw [List.drop_of_length_le (by omega), List.drop_of_length_le (by omega)]; simp⟩
  | d + 1, i, k + 1, hi, h => by
    have h1 : i < a.length := by omega
    have h2 : i < b.length := by omega
    obtain ⟨r, hr, hd⟩ := texts_loop a b hab hl d (i + 1) k (by omega) (by omega)
    rw [nautilusref09_SameTexts.l0, if_pos (by omega), if_pos (by omega), if_pos (by omega), rdO a i h1, rdO b i h2, w64 i (by omega), List.drop_eq_getElem_cons h1, List.drop_eq_getElem_cons h2]
    by_cases e : a[i].toList = b[i].toList
    · have e' := toList_inj e
      rw [if_pos e]
      exact ⟨r, hr, by rw [hd, e']; exact ⟨fun z => by rw [z], fun z => (List.cons.inj z).2⟩⟩
    · rw [if_neg e]
      refine ⟨false, rfl, ⟨fun z => (nf z).elim, fun z => (e ?_).elim⟩⟩
      rw [(List.cons.inj z).1]
theorem texts_f (a b : List ByteArray) (k : Nat) (hl : a.length ≤ 1000000000) (hk : a.length < k) : ∃ r, nautilusref09_SameTexts.f k a b = some r ∧ (r = true ↔ a = b) := by
  unfold nautilusref09_SameTexts.f
  by_cases h : a.length = b.length
  · rw [if_pos (by omega)]
    obtain ⟨r, hr, hd⟩ := texts_loop a b h hl a.length 0 k (by omega) hk
    exact ⟨r, hr, by simpa using hd⟩
  · rw [if_neg (by omega)]
    exact ⟨false, rfl, by simp; intro e; exact h (by rw [e])⟩
theorem equal_loop (a b : List ByteArray) (hab : a.length = b.length) (hl : a.length ≤ 1000000000) : ∀ d i k, i + d = a.length → d < k → ∃ r, slices_Equal_string_string_50.l0 k a b (a.length : Int) (i : Int) = some r ∧ (r = true ↔ a.drop i = b.drop i)
  | _, i, 0, _, h => by omega
  | 0, i, k + 1, hi, _ => ⟨true, by rw [slices_Equal_string_string_50.l0, if_neg (by omega)], by rw [List.drop_of_length_le (by omega), List.drop_of_length_le (by omega)]; simp⟩
  | d + 1, i, k + 1, hi, h => by
    have h1 : i < a.length := by omega
    have h2 : i < b.length := by omega
    obtain ⟨r, hr, hd⟩ := equal_loop a b hab hl d (i + 1) k (by omega) (by omega)
    rw [slices_Equal_string_string_50.l0, if_pos (by omega), if_pos (by omega), if_pos (by omega), if_pos (by omega), rdO a i h1, rdO b i h2, w64 i (by omega), List.drop_eq_getElem_cons h1, List.drop_eq_getElem_cons h2]
    by_cases e : a[i].toList = b[i].toList
    · have e' := toList_inj e
      rw [if_pos e]
      exact ⟨r, hr, by rw [hd, e']; exact ⟨fun z => by rw [z], fun z => (List.cons.inj z).2⟩⟩
    · rw [if_neg e]
      refine ⟨false, rfl, ⟨fun z => (nf z).elim, fun z => (e ?_).elim⟩⟩
      rw [(List.cons.inj z).1]
theorem equal_f (a b : List ByteArray) (k : Nat) (hl : a.length ≤ 1000000000) (hk : a.length < k) : ∃ r, slices_Equal_string_string_50.f k a b = some r ∧ (r = true ↔ a = b) := by
  unfold slices_Equal_string_string_50.f
  by_cases h : a.length = b.length
  · rw [if_pos (by omega)]
    obtain ⟨r, hr, hd⟩ := equal_loop a b h hl a.length 0 k (by omega) hk
    exact ⟨r, hr, by simpa using hd⟩
  · rw [if_neg (by omega)]
    exact ⟨false, rfl, by simp; intro e; exact h (by rw [e])⟩

/-! ### What the document's Encode tells -/
theorem leB_eq (n : Int) (k : Nat) : leB n k = ⟨(lowBytes n k).toArray⟩ := by
  apply ByteArray.ext; apply Array.toList_inj.1
  have := leB_toList n k
  rw [ByteArray.toList_eq] at this
  simpa using this
def flagV (x : CkE) : Int := if x.f2 = true then 1 else 0
theorem oneV_eq {x : CkE} (h : fitE x) : oneV x = ((leB x.f0 6 ++ leB x.f1 6) ++ leB (flagV x) 1) ++ x.f3 := by
  obtain ⟨h0, h1, h2⟩ := h
  have e := (oneV_right h0 h1 h2).2
  apply ByteArray.ext; apply Array.toList_inj.1
  rw [e]
  unfold oneL flagV
  rw [leB_eq, leB_eq, leB_eq]
  cases x.f2 <;> simp [lowBytes]
theorem oneV_size {x : CkE} (h : fitE x) : (oneV x).size = 55 := by
  have := h.2.2.2.2
  rw [oneV_eq h, ByteArray.size_append, ByteArray.size_append, ByteArray.size_append, leB_size, leB_size, leB_size]; omega
def catB (p : List CkE) : ByteArray := ⟨(catV p).toArray⟩
theorem catB_size : ∀ (p : List CkE), (∀ x ∈ p, fitE x) → (catB p).size = 55 * p.length
  | [], _ => rfl
  | x :: xs, h => by
    have h1 := oneV_size (h x (by simp))
    have h2 := catB_size xs (fun y hy => h y (by simp [hy]))
    have e : (catB (x :: xs)).size = (oneV x).size + (catB xs).size := by
      have e1 : catV (x :: xs) = (oneV x).data.toList ++ catV xs := by unfold catV; rw [List.map_cons, List.flatten_cons]
      show (catV (x :: xs)).toArray.size = (oneV x).data.size + (catV xs).toArray.size
      rw [e1, List.size_toArray, List.length_append, Array.length_toList]; rfl
    rw [e, h1, h2, List.length_cons]; omega
theorem catB_next (p : List CkE) (j : Nat) (h : j < p.length) : catB (p.take (j + 1)) = catB (p.take j) ++ oneV p[j] := by
  unfold catB
  rw [catV_take p j h]
  apply ByteArray.ext; simp
theorem zeros_str (n : Nat) : strOfNums (List.replicate n 0) = zerosB n := by unfold strOfNums zerosB; rw [List.map_replicate]; rfl
theorem block_eq (p : List CkE) (h : ∀ x ∈ p, fitE x) (hp : p.length ≤ 9) : blockV p = catB p ++ zerosB (508 - 55 * p.length) := by
  have hs := catB_size p h
  unfold blockV
  show ((num_Fit.f (catB p) 508).getD (⟨#[]⟩, 0)).1 = _
  unfold num_Fit.f
  rw [if_neg (by omega), if_neg (by omega), if_neg (by omega), hs, show ((508 : Int) - ((55 * p.length : Nat) : Int)).toNat = 508 - 55 * p.length by omega]
  rfl
theorem part_at (l : List CkE) (q j : Nat) (h : j < (partL 9 l q).length) : 9 * q + j < l.length ∧ (partL 9 l q)[j]'h = l[9 * q + j]'(by rw [partL_len] at h; omega) := by
  have h' := h
  rw [partL_len] at h'
  refine ⟨by omega, ?_⟩
  simp [partL]
theorem enc_row (l : List CkE) (hl : l.length ≤ 100000) (hf : ∀ x ∈ l, fitE x) (q : Nat) (hq : q < partN 9 l) (out : List ByteArray) (ho : out.length ≤ 100000) : ∀ d j k, j + d = (partL 9 l q).length → 12 ≤ k →
    nautilusref09_Encode.l1 (k + 2 * d + 2) l out ((9 * q : Nat) : Int) (catB ((partL 9 l q).take j)) ((9 * q + j : Nat) : Int) = nautilusref09_Encode.l0 k l (out ++ [blockV (partL 9 l q)]) ((9 * (q + 1) : Nat) : Int)
  | 0, j, k, hj, hk => by
    have hpl := partL_len 9 l q
    have hlt := (partN_lt (by omega) l q).1 hq
    have ht : (partL 9 l q).take j = partL 9 l q := List.take_of_length_le (by omega)
    have hz := catB_size (partL 9 l q) (fun x hx => hf x (part_mem hx))
    have hw : wrap64 (((9 * q : Nat) : Int) + 9) = ((9 * (q + 1) : Nat) : Int) := by rw [IntWalk.wrap64_in _ (by omega)]; omega
    have key : nautilusref09_Encode.j2 (k + 1) l out ((9 * q : Nat) : Int) (catB ((partL 9 l q).take j)) ((9 * q + j : Nat) : Int) false = nautilusref09_Encode.l0 k l (out ++ [blockV (partL 9 l q)]) ((9 * (q + 1) : Nat) : Int) := by
      have e1 : wrap64 (508 - ((catB (partL 9 l q)).size : Int)) = ((508 - 55 * (partL 9 l q).length : Nat) : Int) := by rw [IntWalk.wrap64_in _ (by omega)]; omega
      have e2 : (zerosB (508 - 55 * (partL 9 l q).length)).size = 508 - 55 * (partL 9 l q).length := by show (List.replicate _ (0 : UInt8)).toArray.size = _; rw [List.size_toArray, List.length_replicate]
      rw [nautilusref09_Encode.j2, if_neg (by decide), ht, e1, if_pos (by omega), Int.toNat_natCast, if_pos (by omega), Option.bind_some, zeros_str, if_pos (by rw [e2]; omega), if_pos (by omega), hw]
      rw [block_eq (partL 9 l q) (fun x hx => hf x (part_mem hx)) (by omega)]
    show nautilusref09_Encode.l1 (k + 1 + 1) _ _ _ _ _ = _
    rw [nautilusref09_Encode.l1]
    by_cases hb : 9 * q + j < l.length
    · rw [if_pos (by omega), hw, decide_eq_false (by omega)]; exact key
    · rw [if_neg (by omega)]; exact key
  | d + 1, j, k, hj, hk => by
    have hpl := partL_len 9 l q
    obtain ⟨hb, hg⟩ := part_at l q j (by omega)
    have hw : wrap64 (((9 * q : Nat) : Int) + 9) = ((9 * (q + 1) : Nat) : Int) := by rw [IntWalk.wrap64_in _ (by omega)]; omega
    have hx := hf _ (List.getElem_mem hb)
    have hxo := oneV_eq hx
    have hz := catB_size ((partL 9 l q).take j) (fun x hx => hf x (part_mem (List.mem_of_mem_take hx)))
    rw [List.length_take] at hz
    have hx42 := hx.2.2.2.2
    have z6 (n : Int) : (leB n (6 : Int).toNat).size = 6 := leB_size _ _
    have z1 (n : Int) : (leB n (1 : Int).toNat).size = 1 := leB_size _ _
    have hn := catB_next (partL 9 l q) j (by omega)
    rw [hg, hxo] at hn
    show nautilusref09_Encode.l1 (k + 2 * d + 2 + 1 + 1) _ _ _ _ _ = _
    rw [nautilusref09_Encode.l1, if_pos (by omega), hw, decide_eq_true (by omega), nautilusref09_Encode.j2, if_pos rfl, if_pos (by omega), if_pos (by omega), rd_at l (9 * q + j) hb]
    cases hfl : l[9 * q + j].f2 with
    | true =>
      have hfv : flagV l[9 * q + j] = 1 := by unfold flagV; rw [if_pos hfl]
      rw [hfv] at hn
      rw [if_pos rfl, refBytes_f _ 6 (by omega) (by omega) (k + 2 * d + 2) (by omega), Option.bind_some, if_pos (by rw [z6]; omega), refBytes_f _ 6 (by omega) (by omega) (k + 2 * d + 2) (by omega), Option.bind_some, if_pos (by rw [ByteArray.size_append, z6, z6]; omega),
        refBytes_f _ 1 (by omega) (by omega) (k + 2 * d + 2) (by omega), Option.bind_some, if_pos (by rw [ByteArray.size_append, ByteArray.size_append, z6, z6, z1]; omega), if_pos (by rw [ByteArray.size_append, ByteArray.size_append, ByteArray.size_append, z6, z6, z1]; omega), w64 _ (by omega)]
      have e : (((catB ((partL 9 l q).take j) ++ leB (l[9 * q + j]).f0 (6 : Int).toNat) ++ leB (l[9 * q + j]).f1 (6 : Int).toNat) ++ leB 1 (1 : Int).toNat) ++ l[9 * q + j].f3 = catB ((partL 9 l q).take (j + 1)) := by
        rw [hn, ← ByteArray.append_assoc, ← ByteArray.append_assoc, ← ByteArray.append_assoc]; rfl
      rw [e]
      exact enc_row l hl hf q hq out ho d (j + 1) k (by omega) hk
    | false =>
      have hfv : flagV l[9 * q + j] = 0 := by unfold flagV; rw [hfl, if_neg nf]
      rw [hfv] at hn
      rw [if_neg nf, refBytes_f _ 6 (by omega) (by omega) (k + 2 * d + 2) (by omega), Option.bind_some, if_pos (by rw [z6]; omega), refBytes_f _ 6 (by omega) (by omega) (k + 2 * d + 2) (by omega), Option.bind_some, if_pos (by rw [ByteArray.size_append, z6, z6]; omega),
        refBytes_f _ 1 (by omega) (by omega) (k + 2 * d + 2) (by omega), Option.bind_some, if_pos (by rw [ByteArray.size_append, ByteArray.size_append, z6, z6, z1]; omega), if_pos (by rw [ByteArray.size_append, ByteArray.size_append, ByteArray.size_append, z6, z6, z1]; omega), w64 _ (by omega)]
      have e : (((catB ((partL 9 l q).take j) ++ leB (l[9 * q + j]).f0 (6 : Int).toNat) ++ leB (l[9 * q + j]).f1 (6 : Int).toNat) ++ leB 0 (1 : Int).toNat) ++ l[9 * q + j].f3 = catB ((partL 9 l q).take (j + 1)) := by
        rw [hn, ← ByteArray.append_assoc, ← ByteArray.append_assoc, ← ByteArray.append_assoc]; rfl
      rw [e]
      exact enc_row l hl hf q hq out ho d (j + 1) k (by omega) hk
theorem enc_rows (l : List CkE) (hl : l.length ≤ 100000) (hf : ∀ x ∈ l, fitE x) : ∀ d q, q + d = partN 9 l → ∃ k, 12 ≤ k ∧ nautilusref09_Encode.l0 k l (encN l q) ((9 * q : Nat) : Int) = some (encN l (partN 9 l), 0)
  | 0, q, hq => by
    refine ⟨13, by omega, ?_⟩
    obtain rfl : q = partN 9 l := by omega
    have : ¬ 9 * partN 9 l < l.length := fun h => absurd ((partN_lt (by omega) l _).2 h) (Nat.lt_irrefl _)
    rw [nautilusref09_Encode.l0, if_neg (by omega)]
  | d + 1, q, hq => by
    obtain ⟨k, hk, h⟩ := enc_rows l hl hf d (q + 1) (by omega)
    have hlt := (partN_lt (m := 9) (by omega) l q).1 (by omega)
    have hql : q ≤ 100000 := by omega
    refine ⟨k + 2 * (partL 9 l q).length + 2 + 1, by omega, ?_⟩
    rw [nautilusref09_Encode.l0, if_pos (by omega)]
    have := enc_row l hl hf q (by omega) (encN l q) (by simp [encN]; omega) (partL 9 l q).length 0 k (by omega) hk
    rw [Nat.add_zero] at this
    have hz : catB ((partL 9 l q).take 0) = ⟨#[]⟩ := rfl
    rw [hz, ← encN_succ, h] at this
    exact this
theorem refEncode_f (l : List CkE) (hl : l.length ≤ 100000) (hw : ∀ x ∈ l, 0 ≤ x.f1) : ∃ k0, ∀ k, k0 ≤ k → nautilusref09_Encode.f k l = some (encodeV l) := by
  cases hr : rightB l with
  | false =>
    refine ⟨l.length + 2, fun k hk => ?_⟩
    unfold nautilusref09_Encode.f encodeV
    rw [refRight_f l k (by omega) (by omega), Option.bind_some, hr, if_neg nf, if_neg nf]
  | true =>
    obtain ⟨k, _, h⟩ := enc_rows l hl (right_fit hr hw) (partN 9 l) 0 (by omega)
    refine ⟨k + (l.length + 2), fun k' hk' => ?_⟩
    have hm : ∀ d, nautilusref09_Encode.l0 (k + d) l [] 0 = some (encN l (partN 9 l), 0) := by
      intro d
      induction d with
      | zero => exact h
      | succ d ih => exact (nautilusref09_Encode.mono_l (k + d)).1 _ _ _ _ ih
    unfold nautilusref09_Encode.f encodeV
    rw [refRight_f l k' (by omega) (by omega), Option.bind_some, hr, if_pos rfl, if_pos rfl]
    have := hm (k' - k)
    rwa [show k + (k' - k) = k' by omega] at this

/-! ### What Decode tells -/
theorem chkAt_range (b : ByteArray) (k : Nat) : 0 ≤ (chkAt b k).f1 := (valB_range b (55 * k + 6) 6).1
theorem chkCat_range (bs : List ByteArray) : ∀ x ∈ chkCat bs, 0 ≤ x.f1 := by
  intro x hx
  unfold chkCat chkL at hx
  simp only [List.mem_flatten, List.mem_map, List.mem_range] at hx
  obtain ⟨_, ⟨b, _, rfl⟩, hx⟩ := hx
  simp only [List.mem_map, List.mem_range] at hx
  obtain ⟨k, _, rfl⟩ := hx
  exact chkAt_range b k
def decodeV (bs : List ByteArray) : List CkE × Int :=
  if 108 < bs.length then ([], 90) else if bs.all (fun b => decide (b.size = 508)) = true then (if (encodeV (chkCat bs)).2 = 0 then (if (encodeV (chkCat bs)).1 = bs then (chkCat bs, 0) else ([], 90)) else ([], 90)) else ([], 90)
theorem encodeV_len (l : List CkE) (hl : l.length ≤ 100000) : (encodeV l).1.length ≤ 100000 := by
  unfold encodeV
  split
  · simp only [encN, List.length_map, List.length_range]; unfold partN; omega
  · simp
theorem decode_f (bs : List ByteArray) : cps_Decode.f bs = some (decodeV bs) := by
  unfold cps_Decode.f decodeV
  by_cases h1 : 108 < bs.length
  · rw [if_pos h1, if_pos h1]
  · rw [if_neg h1, if_neg h1]
    by_cases h2 : bs.all (fun b => decide (b.size = 508)) = true
    · have hl := chkCat_len bs
      rw [if_pos h2, if_pos h2, encode_f (chkCat bs) (by omega) (chkCat_range bs), Option.bind_some]
      by_cases h3 : (encodeV (chkCat bs)).2 = 0
      · rw [if_pos h3, if_pos h3]
        by_cases h5 : (encodeV (chkCat bs)).1.length = bs.length
        · obtain ⟨r, hr, hri⟩ := equal_f (encodeV (chkCat bs)).1 bs (bs.length + 2) (by omega) (by omega)
          rw [hr, Option.bind_some]
          by_cases h4 : (encodeV (chkCat bs)).1 = bs
          · rw [if_pos h4, if_pos (hri.2 h4)]
          · rw [if_neg h4, if_neg (fun e => h4 (hri.1 e))]
        · have e : slices_Equal_string_string_50.f (bs.length + 2) (encodeV (chkCat bs)).1 bs = some false := by unfold slices_Equal_string_string_50.f; rw [if_neg (by omega)]
          rw [e, Option.bind_some, if_neg nf, if_neg (fun e => h5 (by rw [e]))]
      · rw [if_neg h3, if_neg h3]
    · rw [if_neg h2, if_neg h2]
theorem decodeV_len (bs : List ByteArray) : (decodeV bs).1.length ≤ 1000 := by
  have := chkCat_len bs
  unfold decodeV
  split
  · simp
  · split
    · split
      · split
        · show (chkCat bs).length ≤ 1000; omega
        · simp
      · simp
    · simp
end Go.Proofs.Ytllcmalgahnnhaa.P
