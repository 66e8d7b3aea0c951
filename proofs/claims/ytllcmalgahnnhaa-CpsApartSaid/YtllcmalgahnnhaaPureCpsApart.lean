/- The law CpsApart, in plain words: unlike tables have unlike blocks; what was added is the newest, and all others stay. -/
import Derived.Test.YtllcmalgahnnhaaQ14
import Derived.Test.YtllcmalgahnnhaaQ8
import Derived.Test.YtllcmalgahnnhaaPCpsE
import Derived.Test.YtllcmalgahnnhaaPCpsA
set_option linter.unusedVariables false
namespace Go.Proofs.Ytllcmalgahnnhaa.Pure
open Go.RowKit Go.Proofs.Ytllcmalgahnnhaa.P Go.Proofs.Ytllcmalgahnnhaa.H Go.Proofs.Ytllcmalgahnnhaa.Q Go.Proofs.YtllcmalgahnnhaaW.PrintWords Go.Proofs.YtllcmalgahnnhaaW.PrintLast

theorem NF : ¬ (false = true) := by decide
theorem rdO (l : List ByteArray) (i : Nat) (h : i < l.length) : rdOf ByteArray.empty l (i : Int) = l[i] := by simp [rdOf, h]
theorem texts_loop (a b : List ByteArray) (hab : a.length = b.length) (hl : a.length ≤ 1000000000) : ∀ d i k, i + d = a.length → d < k → ∃ r, nautilusref09_SameTexts.l0 k a b (i : Int) = some r ∧ (r = true ↔ a.drop i = b.drop i)
  | _, i, 0, _, h => by omega
  | 0, i, k + 1, hi, _ => ⟨true, by rw [nautilusref09_SameTexts.l0, if_neg (by omega)], by rw [List.drop_of_length_le (by omega), List.drop_of_length_le (by omega)]; simp⟩
  | d + 1, i, k + 1, hi, h => by
    have h1 : i < a.length := by omega
    have h2 : i < b.length := by omega
    obtain ⟨r, hr, hd⟩ := texts_loop a b hab hl d (i + 1) k (by omega) (by omega)
    rw [nautilusref09_SameTexts.l0, if_pos (by omega), if_pos (by omega), if_pos (by omega), rdO a i h1, rdO b i h2, w64 i (by omega), List.drop_eq_getElem_cons h1, List.drop_eq_getElem_cons h2]
    by_cases e : a[i].toList = b[i].toList
    · have e' := toList_inj e
      rw [if_pos e]
      exact ⟨r, hr, by rw [hd, e']; exact ⟨fun z => by rw [z], fun z => (List.cons.inj z).2⟩⟩
    · rw [if_neg e]
      refine ⟨false, rfl, ⟨fun z => (NF z).elim, fun z => (e ?_).elim⟩⟩
      rw [(List.cons.inj z).1]
theorem texts_f (a b : List ByteArray) (k : Nat) (hl : a.length ≤ 1000000000) (hk : a.length < k) : ∃ r, nautilusref09_SameTexts.f k a b = some r ∧ (r = true ↔ a = b) := by
  unfold nautilusref09_SameTexts.f
  by_cases h : a.length = b.length
  · rw [if_pos (by omega)]
    obtain ⟨r, hr, hd⟩ := texts_loop a b h hl a.length 0 k (by omega) hk
    exact ⟨r, hr, by simpa using hd⟩
  · rw [if_neg (by omega)]
    exact ⟨false, rfl, by simp; intro e; exact h (by rw [e])⟩
theorem apart_rest (l : List CkE) (c : CkE) (hl : l.length ≤ 200) (k : Nat) (hk : 1000 < k) : nautiluslaw09_CpsApart.j0 k l true false c.f0 c.f1 c.f2 c.f3 = some true := by
  obtain ⟨k, rfl⟩ : ∃ z, k = z + 1 := ⟨k - 1, by omega⟩
  rw [nautiluslaw09_CpsApart.j0, if_neg NF, add_f l c.f0 c.f1 c.f2 c.f3 k (by omega) (by omega), Option.bind_some]
  show (if (addV l c).2 = 0 then _ else _) = _
  by_cases h : (addV l c).2 = 0
  · have hm : (addV l c).1 = l ++ [c] := by
      unfold addV at h ⊢
      split at h
      · split at h
        · simp at h
        · split at h
          · rename_i a b d
            rw [if_pos a, if_neg b, if_pos d]
          · simp at h
      · simp at h
    rw [if_pos h, if_pos rfl]
    show (if ((addV l c).1.length : Int) = _ then _ else _) = _
    have hlen : (l ++ [c]).length = l.length + 1 := by simp
    have hr : rd_T33 (l ++ [c]) (l.length : Int) = c := by rw [rd_at _ _ (by omega)]; simp
    rw [hm, w64 _ (by omega), hlen, if_pos rfl, if_pos (by omega), if_pos (by omega), hr, if_pos (by simp), if_pos (by omega)]
    simp only [Int.toNat_natCast, List.take_left]
    rw [same_refl l k (by omega) (by omega)]; rfl
  · rw [if_neg h]

/-- YOURS -/
theorem CpsApart : nautiluslaw09_CpsApart.Pure := by
  intro l0 l1 c0 c1 c2 c3 hl0 hx0 hl1 hx1 _ _ _
  refine ⟨9000, ?_⟩
  unfold nautiluslaw09_CpsApart.f
  rw [shown_f _ (by omega), Option.bind_some, cut_e, if_pos (by omega), if_pos (by omega), Option.bind_some, cut_e, if_pos (by omega), if_pos (by omega), Option.bind_some]
  have wa : ∀ x ∈ List.take ((min l0.length 200 : Nat) : Int).toNat l0, 0 ≤ x.f1 := fun x hx => (u64_wf (hx0 x (List.mem_of_mem_take hx)).2.1).1
  have wb : ∀ x ∈ List.take ((min l1.length 200 : Nat) : Int).toNat l1, 0 ≤ x.f1 := fun x hx => (u64_wf (hx1 x (List.mem_of_mem_take hx)).2.1).1
  have hza : (List.take ((min l0.length 200 : Nat) : Int).toNat l0).length ≤ 200 := by rw [List.length_take]; omega
  have hzb : (List.take ((min l1.length 200 : Nat) : Int).toNat l1).length ≤ 200 := by rw [List.length_take]; omega
  generalize List.take ((min l0.length 200 : Nat) : Int).toNat l0 = a at wa hza ⊢
  generalize List.take ((min l1.length 200 : Nat) : Int).toNat l1 = b at wb hzb ⊢
  have rest := apart_rest a ⟨c0, c1, c2, c3⟩ hza 9000 (by omega)
  rw [encode_f a (by omega) wa, Option.bind_some, encode_f b (by omega) wb, Option.bind_some]
  unfold encodeV
  by_cases ha : rightB a = true
  · by_cases hb : rightB b = true
    · rw [if_pos ha, if_pos hb, if_pos rfl, if_pos rfl]
      have hla : (encN a (partN 9 a)).length ≤ 1000 := by simp only [encN, List.length_map, List.length_range]; unfold partN; omega
      obtain ⟨r, hr, hri⟩ := texts_f (encN a (partN 9 a)) (encN b (partN 9 b)) 9000 (by omega) (by omega)
      obtain ⟨q, hq, hqi⟩ := same_f a b 9000 (by omega) (by omega)
      rw [hr, Option.bind_some, hq, Option.bind_some]
      have e : (r != q) = false := by
        have : r = true ↔ q = true := by
          rw [hri, hqi]
          exact ⟨fun e => enc_inj (right_fit ha wa) (right_fit hb wb) e, fun e => by rw [e]⟩
        cases r <;> cases q <;> simp at this ⊢
      rw [e]; exact rest
    · rw [if_pos ha, if_neg hb, if_pos rfl, if_neg (by decide)]; exact rest
  · rw [if_neg ha, if_neg (by decide)]; exact rest
end Go.Proofs.Ytllcmalgahnnhaa.Pure
