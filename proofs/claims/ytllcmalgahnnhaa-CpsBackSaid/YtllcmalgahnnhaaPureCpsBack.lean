/- The law CpsBack, in plain words: a table is read from its blocks as it was, and blocks that are read are written so again. -/
import Derived.Test.YtllcmalgahnnhaaQ11
import Derived.Test.YtllcmalgahnnhaaQ17
import Derived.Test.YtllcmalgahnnhaaQ9
import Derived.Test.YtllcmalgahnnhaaPCpsD
set_option linter.unusedVariables false
set_option linter.unusedSimpArgs false
namespace Go.Proofs.Ytllcmalgahnnhaa.P
open Go.RowKit Go.Proofs.Ytllcmalgahnnhaa.H Go.Proofs.Ytllcmalgahnnhaa.Q Go.Proofs.YtllcmalgahnnhaaW.PrintWords Go.Proofs.YtllcmalgahnnhaaW.PrintLast Go.Proofs.YtllcmalgahnnhaaW.PrintMore

theorem bodyL_split (p : List CkE) (k : Nat) : bodyL p = bodyL (p.take k) ++ bodyL (p.drop k) := by
  unfold bodyL
  rw [← List.flatten_append, ← List.map_append, List.take_append_drop]
theorem block_drop {p : List CkE} (h : ∀ x ∈ p, fitE x) (hp : p.length ≤ 9) (k : Nat) (hk : k ≤ p.length) : (blockV p).data.toList.drop (55 * k) = bodyL (p.drop k) ++ List.replicate (508 - 55 * p.length) 0 := by
  have hl := bodyL_len (p.take k) (fun x hx => h x (List.mem_of_mem_take hx))
  rw [List.length_take, Nat.min_eq_left hk] at hl
  rw [blockV_bytes h hp, bodyL_split p k, List.append_assoc, List.drop_left' hl]
theorem block_size {p : List CkE} (h : ∀ x ∈ p, fitE x) (hp : p.length ≤ 9) : (blockV p).size = 508 := by
  have := congrArg List.length (blockV_bytes h hp)
  rw [toList_length, List.length_append, bodyL_len p h, List.length_replicate] at this
  omega
theorem block_cut {p : List CkE} (h : ∀ x ∈ p, fitE x) (hp : p.length ≤ 9) (k : Nat) (hk : k < p.length) : ∃ R, (blockV p).data.toList.drop (55 * k) = oneL p[k] ++ R := by
  rw [block_drop h hp k (by omega), List.drop_eq_getElem_cons hk]
  exact ⟨_, by unfold bodyL; rw [List.map_cons, List.flatten_cons, List.append_assoc]⟩
theorem all_zero {l : List UInt8} (h : l.all (· == 0) = true) : l = List.replicate l.length 0 := by
  rw [List.eq_replicate_iff]
  refine ⟨rfl, fun x hx => ?_⟩
  have := List.all_eq_true.1 h x hx
  simpa using this
theorem block_stop {p : List CkE} (h : ∀ x ∈ p, fitE x) (hp : p.length ≤ 9) : (∀ k, k < p.length → chkStop (blockV p) k = false) ∧ chkStop (blockV p) p.length = true := by
  refine ⟨fun k hk => ?_, ?_⟩
  · obtain ⟨R, hR⟩ := block_cut h hp k hk
    unfold chkStop
    rw [hR, Bool.eq_false_iff]
    intro e
    exact zeros_first (h _ (List.getElem_mem hk)) R _ (all_zero e)
  · unfold chkStop
    rw [block_drop h hp p.length (Nat.le_refl _), List.drop_of_length_le (Nat.le_refl _)]
    simp [bodyL]
theorem block_chkN {p : List CkE} (h : ∀ x ∈ p, fitE x) (hp : p.length ≤ 9) : chkN (blockV p) = p.length := by
  obtain ⟨h1, h2⟩ := block_stop h hp
  have h9 := chkN_le (blockV p)
  rcases Nat.lt_trichotomy (chkN (blockV p)) p.length with hlt | he | hgt
  · have a := chkN_end (b := blockV p) (by omega)
    rw [h1 _ hlt] at a; cases a
  · exact he
  · have a := chkN_run (b := blockV p) hgt
    rw [h2] at a; cases a
theorem ext_list (b : ByteArray) (i n : Nat) (h : i + n ≤ b.size) : (b.extract i (i + n)).data.toList = (b.data.toList.drop i).take n := by
  simp [ByteArray.data_extract]
theorem block_at {p : List CkE} (h : ∀ x ∈ p, fitE x) (hp : p.length ≤ 9) (k : Nat) (hk : k < p.length) : chkAt (blockV p) k = p[k] := by
  obtain ⟨R, hR⟩ := block_cut h hp k hk
  have hz := block_size h hp
  obtain ⟨x, hx⟩ : ∃ x, p[k] = x := ⟨_, rfl⟩
  have hf : fitE x := by rw [← hx]; exact h _ (List.getElem_mem hk)
  rw [hx] at hR ⊢
  generalize blockV p = b at hR hz
  obtain ⟨h0, h1, h2, h3, h4⟩ := hf
  have e6 : (256 : Int) ^ 6 = 281474976710656 := by decide
  have l42 : x.f3.data.toList.length = 42 := by rw [toList_length]; exact h4
  have d0 : b.data.toList.drop (55 * k) = lowBytes x.f0 6 ++ (lowBytes x.f1 6 ++ ([if x.f2 = true then 1 else 0] ++ (x.f3.data.toList ++ R))) := by
    rw [hR]; unfold oneL; simp only [List.append_assoc]
  have d6 : b.data.toList.drop (55 * k + 6) = lowBytes x.f1 6 ++ ([if x.f2 = true then 1 else 0] ++ (x.f3.data.toList ++ R)) := by
    rw [← List.drop_drop, d0, List.drop_left' (by rw [lowBytes_length])]
  have d12 : b.data.toList.drop (55 * k + 12) = [if x.f2 = true then 1 else 0] ++ (x.f3.data.toList ++ R) := by
    rw [show 55 * k + 12 = 55 * k + 6 + 6 by omega, ← List.drop_drop, d6, List.drop_left' (by rw [lowBytes_length])]
  have d13 : b.data.toList.drop (55 * k + 13) = x.f3.data.toList ++ R := by
    rw [show 55 * k + 13 = 55 * k + 12 + 1 by omega, ← List.drop_drop, d12]; rfl
  have a0 : valB b (55 * k) 6 = x.f0 := by
    have hr := valB_range b (55 * k) 6
    refine lowBytes_inj _ _ 6 hr.1 (by omega) hr.2 (by rw [e6]; exact h2) ?_
    rw [low_val b (55 * k) 6 (by omega), d0, List.take_left' (by rw [lowBytes_length])]
  have a1 : valB b (55 * k + 6) 6 = x.f1 := by
    have hr := valB_range b (55 * k + 6) 6
    refine lowBytes_inj _ _ 6 hr.1 h1 hr.2 (by rw [e6]; exact h3) ?_
    rw [low_val b (55 * k + 6) 6 (by omega), d6, List.take_left' (by rw [lowBytes_length])]
  have a2 : decide (0 < bt b ((55 * k + 12 : Nat) : Int)) = x.f2 := by
    have hl : 55 * k + 12 < b.data.toList.length := by rw [toList_length]; omega
    have hg : b.data.toList[55 * k + 12] = if x.f2 = true then 1 else 0 := by
      have := congrArg List.head? d12
      rw [List.drop_eq_getElem_cons hl] at this
      simpa using this
    rw [bt_getElem b (55 * k + 12) (by omega), hg]
    cases x.f2 <;> rfl
  have a3 : b.extract (55 * k + 13) (55 * k + 55) = x.f3 := by
    apply ByteArray.ext; apply Array.toList_inj.1
    rw [show 55 * k + 55 = 55 * k + 13 + 42 by omega, ext_list b _ 42 (by omega), d13, List.take_left' l42]
  unfold chkAt
  rw [a0, a1, a2, a3]
theorem block_chk {p : List CkE} (h : ∀ x ∈ p, fitE x) (hp : p.length ≤ 9) : chkL (blockV p) (chkN (blockV p)) = p := by
  rw [block_chkN h hp]
  unfold chkL
  apply List.ext_getElem
  · rw [List.length_map, List.length_range]
  · intro i h1 h2
    rw [List.getElem_map, List.getElem_range]
    exact block_at h hp i h2
theorem parts_join (l : List CkE) (h : ∀ x ∈ l, fitE x) : ∀ q, chkCat (encN l q) = l.take (9 * q)
  | 0 => by simp [encN, chkCat]
  | q + 1 => by
    have ih := parts_join l h q
    have e : chkCat (encN l q ++ [blockV (partL 9 l q)]) = chkCat (encN l q) ++ chkL (blockV (partL 9 l q)) (chkN (blockV (partL 9 l q))) := by unfold chkCat; rw [List.map_append, List.flatten_append]; simp
    rw [encN_succ, e, ih, block_chk (fun x hx => h x (part_mem hx)) (by rw [partL_len]; omega)]
    unfold partL
    by_cases hq : 9 * q ≤ l.length
    · have e2 : l.take (min (9 * q + 9) l.length) = l.take (9 * (q + 1)) := by
        by_cases h3 : 9 * q + 9 ≤ l.length
        · rw [Nat.min_eq_left h3]; rfl
        · rw [Nat.min_eq_right (by omega), List.take_of_length_le (Nat.le_refl _), List.take_of_length_le (by omega)]
      have e3 : l.take (9 * q) = (l.take (9 * (q + 1))).take (9 * q) := by rw [List.take_take, Nat.min_eq_left (by omega)]
      rw [e2, e3, List.take_append_drop]
    · rw [Nat.min_eq_right (by omega), List.take_of_length_le (by omega), List.take_of_length_le (Nat.le_refl _), List.drop_of_length_le (by omega), List.append_nil, List.take_of_length_le (by omega)]
theorem decode_encode {l : List CkE} (hr : rightB l = true) (hw : ∀ x ∈ l, 0 ≤ x.f1) : decodeV (encN l (partN 9 l)) = (l, 0) := by
  have hlen := rightB_len hr
  have hf := right_fit hr hw
  have hN : partN 9 l ≤ 12 := by unfold partN; omega
  have hc : chkCat (encN l (partN 9 l)) = l := by rw [parts_join l hf, List.take_of_length_le (by unfold partN; omega)]
  have he : encodeV l = (encN l (partN 9 l), 0) := by unfold encodeV; rw [if_pos hr]
  have hall : (encN l (partN 9 l)).all (fun b => decide (b.size = 508)) = true := by
    rw [List.all_eq_true]
    intro b hb
    unfold encN at hb
    obtain ⟨j, _, rfl⟩ := List.mem_map.1 hb
    exact decide_eq_true (block_size (fun x hx => hf x (part_mem hx)) (by rw [partL_len]; omega))
  unfold decodeV
  rw [hc, he, if_neg (by simp only [encN, List.length_map, List.length_range]; omega), if_pos hall, if_pos rfl, if_pos rfl]
theorem decodeV_ok {bs : List ByteArray} (h : (decodeV bs).2 = 0) : encodeV (decodeV bs).1 = (bs, 0) := by
  unfold decodeV at h ⊢
  by_cases h1 : 108 < bs.length
  · rw [if_pos h1] at h; simp at h
  · rw [if_neg h1] at h ⊢
    by_cases h2 : bs.all (fun b => decide (b.size = 508)) = true
    · rw [if_pos h2] at h ⊢
      by_cases h3 : (encodeV (chkCat bs)).2 = 0
      · rw [if_pos h3] at h ⊢
        by_cases h4 : (encodeV (chkCat bs)).1 = bs
        · rw [if_pos h4]
          exact Prod.ext h4 h3
        · rw [if_neg h4] at h; simp at h
      · rw [if_neg h3] at h; simp at h
    · rw [if_neg h2] at h; simp at h
theorem decodeV_range (bs : List ByteArray) : ∀ x ∈ (decodeV bs).1, 0 ≤ x.f1 := by
  unfold decodeV
  split
  · simp
  · split
    · split
      · split
        · exact chkCat_range bs
        · simp
      · simp
    · simp
end Go.Proofs.Ytllcmalgahnnhaa.P
namespace Go.Proofs.Ytllcmalgahnnhaa.Pure
open Go.RowKit Go.Proofs.Ytllcmalgahnnhaa.P Go.Proofs.Ytllcmalgahnnhaa.H Go.Proofs.Ytllcmalgahnnhaa.Q Go.Proofs.YtllcmalgahnnhaaW.PrintWords Go.Proofs.YtllcmalgahnnhaaW.PrintLast

theorem back_rest (k : Nat) (a : List CkE) (t : List ByteArray) (ha : a.length ≤ 200) (ht : t.length ≤ 20) (hk : 300000 < k) : nautiluslaw09_CpsBack.j0 k a t true (encodeV a).2 (decodeV t).2 (encodeV (decodeV t).1).1 (encodeV (decodeV t).1).2 false = some true := by
  obtain ⟨k, rfl⟩ : ∃ z, k = z + 1 := ⟨k - 1, by omega⟩
  rw [nautiluslaw09_CpsBack.j0, if_neg nf, if_pos rfl, right_f a k (by omega) (by omega), Option.bind_some]
  have e : (((encodeV a).2 == 0) == rightB a) = true := by
    unfold encodeV
    cases rightB a <;> rfl
  rw [if_pos e]
  by_cases h : (decodeV t).2 = 0
  · have h2 := decodeV_ok h
    rw [if_pos h, h2, if_pos rfl]
    obtain ⟨r, hr, hri⟩ := texts_f t t k (by omega) (by omega)
    rw [hr, hri.2 rfl]; rfl
  · rw [if_neg h]
/-- YOURS -/
theorem CpsBack : nautiluslaw09_CpsBack.Pure := by
  intro l0 l1 hl0 hx0 hl1 hx1
  have wa : ∀ x ∈ List.take ((min l0.length 200 : Nat) : Int).toNat l0, 0 ≤ x.f1 := fun x hx => (u64_wfC (hx0 x (List.mem_of_mem_take hx)).2.1).1
  have hza : (List.take ((min l0.length 200 : Nat) : Int).toNat l0).length ≤ 200 := by rw [List.length_take]; omega
  have e20 : mn (l1.length : Int) 20 = ((min l1.length 20 : Nat) : Int) := by unfold mn; split <;> omega
  have hzt : (l1.take ((min l1.length 20 : Nat) : Int).toNat).length ≤ 20 := by rw [List.length_take]; omega
  refine ⟨400000, ?_⟩
  unfold nautiluslaw09_CpsBack.f
  rw [shown_f _ (by omega), Option.bind_some, cut_e, if_pos (by omega), if_pos (by omega), Option.bind_some, e20, if_pos (by omega), if_pos (by omega)]
  generalize l1.take ((min l1.length 20 : Nat) : Int).toNat = t at hzt ⊢
  generalize List.take ((min l0.length 200 : Nat) : Int).toNat l0 = a at wa hza ⊢
  have hd := decodeV_len t
  rw [encode_f a (by omega) wa, Option.bind_some, decode_f, Option.bind_some, decode_f, Option.bind_some, encode_f _ hd (decodeV_range t), Option.bind_some]
  have rest := back_rest 400000 a t hza hzt (by omega)
  by_cases hr : rightB a = true
  · have he : encodeV a = (encN a (partN 9 a), 0) := by unfold encodeV; rw [if_pos hr]
    have hde := decode_encode hr wa
    rw [he] at rest ⊢
    rw [hde, if_pos rfl, if_pos rfl, same_refl a _ (by omega) (by omega), Option.bind_some]
    exact rest
  · have he : encodeV a = ([], 90) := by unfold encodeV; rw [if_neg hr]
    rw [he] at rest ⊢
    rw [if_neg (by decide)]
    exact rest
end Go.Proofs.Ytllcmalgahnnhaa.Pure
