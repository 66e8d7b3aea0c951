/- The pure law InodeBack. -/
import Derived.Test.YtdcdcnnigggdjaaQ21
import Derived.Test.YtdcdcnnigggdjaaPInoG
set_option linter.unusedVariables false
set_option linter.unusedSimpArgs false
set_option maxRecDepth 100000
namespace Go.Proofs.Ytdcdcnnigggdjaa.Pure
open Go.RowKit Go.Proofs.Ytdcdcnnigggdjaa.H Go.Proofs.Ytdcdcnnigggdjaa.Q Go.Proofs.Ytdcdcnnigggdjaa.P Go.Proofs.YtdcdcnnigggdjaaW.PrintWords Go.Proofs.YtdcdcnnigggdjaaW.PrintLast Go.Proofs.YtdcdcnnigggdjaaW.PrintMore
theorem extract_mid (p q r : ByteArray) : (p ++ q ++ r).extract p.size (p.size + q.size) = q := by
  apply ByteArray.ext
  rw [ByteArray.data_extract]
  apply Array.toList_inj.1
  rw [Array.toList_extract, ByteArray.data_append, ByteArray.data_append, Array.toList_append, Array.toList_append]
  have e1 : p.data.toList.length = p.size := by rw [Array.length_toList]; rfl
  have e2 : q.data.toList.length = q.size := by rw [Array.length_toList]; rfl
  rw [List.extract_eq_take_drop, List.append_assoc, List.drop_append_of_le_length (by omega), ← e1, List.drop_length, List.nil_append, Nat.add_sub_cancel_left, ← e2, List.take_append_of_le_length (Nat.le_refl _), List.take_length]
theorem bytes_ext {s t : ByteArray} (hs : s.size = t.size) (h : ∀ i, i < s.size → s.data.toList[i]? = t.data.toList[i]?) : s = t := by
  apply ByteArray.ext
  apply Array.toList_inj.1
  apply List.ext_getElem?
  intro i
  by_cases hi : i < s.size
  · exact h i hi
  · rw [List.getElem?_eq_none (by rw [Array.length_toList]; show s.size ≤ i; omega), List.getElem?_eq_none (by rw [Array.length_toList]; show t.size ≤ i; omega)]
theorem extract_get (s : ByteArray) (a b i : Nat) (hb : b ≤ s.size) (hi : a + i < b) : (s.extract a b).data.toList[i]? = s.data.toList[a + i]? := by
  rw [ByteArray.data_extract, Array.toList_extract, List.extract_eq_take_drop, List.getElem?_take_of_lt (by omega), List.getElem?_drop]
/-- What is put at one place leaves the others. -/
theorem extract_other (s b : ByteArray) (k o : Nat) (hs : s.size = 508) (hb : b.size = 42) (hk : k < 12) (ho : o < 12) (hne : o ≠ k) :
    (s.extract 0 (42 * k) ++ b ++ s.extract (42 * k + 42) s.size).extract (42 * o) (42 * o + 42) = s.extract (42 * o) (42 * o + 42) := by
  have z1 : (s.extract 0 (42 * k)).size = 42 * k := by rw [ByteArray.size_extract]; omega
  have z2 : (s.extract (42 * k + 42) s.size).size = 508 - (42 * k + 42) := by rw [ByteArray.size_extract]; omega
  have z3 : (s.extract 0 (42 * k) ++ b).size = 42 * k + 42 := by rw [ByteArray.size_append, z1, hb]
  have z : (s.extract 0 (42 * k) ++ b ++ s.extract (42 * k + 42) s.size).size = 508 := by rw [ByteArray.size_append, z3, z2]; omega
  apply bytes_ext
  · rw [ByteArray.size_extract, ByteArray.size_extract, z, hs]
  · intro i hi
    rw [ByteArray.size_extract, z] at hi
    rw [extract_get _ _ _ _ (by omega) (by omega), extract_get s _ _ _ (by omega) (by omega), ByteArray.data_append, ByteArray.data_append, Array.toList_append, Array.toList_append]
    have l1 : (s.extract 0 (42 * k)).data.toList.length = 42 * k := by rw [Array.length_toList]; exact z1
    have l2 : b.data.toList.length = 42 := by rw [Array.length_toList]; exact hb
    by_cases h : o < k
    · rw [List.getElem?_append_left (by rw [List.length_append, l1, l2]; omega), List.getElem?_append_left (by omega), extract_get s _ _ _ (by omega) (by omega), Nat.zero_add]
    · rw [List.getElem?_append_right (by rw [List.length_append, l1, l2]; omega), List.length_append, l1, l2, extract_get s _ _ _ (by omega) (by omega)]
      rw [show 42 * k + 42 + (42 * o + i - (42 * k + 42)) = 42 * o + i by omega]
theorem decV_cases (b : ByteArray) : (b.size = 42 ∧ rightV (inoN b 0) (inoN b 1) (inoN b 2) (inoN b 3) (inoN b 4) (inoN b 5) (inoN b 6) (inoN b 7) (inoN b 8) (inoN b 9) (inoN b 10) (inoN b 11) = true ∧ inoB (inoN b 0) (inoN b 1) (inoN b 2) (inoN b 3) (inoN b 4) (inoN b 5) (inoN b 6) (inoN b 7) (inoN b 8) (inoN b 9) (inoN b 10) (inoN b 11) = b ∧ decV b = (inoN b 0, inoN b 1, inoN b 2, inoN b 3, inoN b 4, inoN b 5, inoN b 6, inoN b 7, inoN b 8, inoN b 9, inoN b 10, inoN b 11, 0)) ∨ decV b = (0, 0, 0, 0, 0, 0, 0, 0, 0, 0, 0, 0, 100) := by
  unfold decV
  by_cases hc : b.size = 42 ∧ rightV (inoN b 0) (inoN b 1) (inoN b 2) (inoN b 3) (inoN b 4) (inoN b 5) (inoN b 6) (inoN b 7) (inoN b 8) (inoN b 9) (inoN b 10) (inoN b 11) = true ∧ inoB (inoN b 0) (inoN b 1) (inoN b 2) (inoN b 3) (inoN b 4) (inoN b 5) (inoN b 6) (inoN b 7) (inoN b 8) (inoN b 9) (inoN b 10) (inoN b 11) = b
  · rw [if_pos hc]; exact .inl ⟨hc.1, hc.2.1, hc.2.2, rfl⟩
  · rw [if_neg hc]; exact .inr rfl
theorem InodeBack : nautiluslaw10_InodeBack.Pure := by
  intro a0_0 a0_1 a0_2 a0_3 a0_4 a0_5 a0_6 a0_7 a0_8 a0_9 a0_10 a0_11 s c k o w0_0 w0_1 w0_2 w0_3 w0_4 w0_5 w0_6 w0_7 w0_8 w0_9 w0_10 w0_11 ws wc wk wo
  have h0 : inoWf a0_0 a0_1 a0_2 a0_3 a0_4 a0_5 a0_6 a0_7 a0_8 a0_9 a0_10 a0_11 := (by have q1 := u16_wf w0_1; have q2 := u16_wf w0_2; have q3 := u32_wf w0_3; have q4 := u64_wf w0_4; have q6 := u32_wf w0_6; have q7 := u32_wf w0_7; have q8 := u32_wf w0_8; have q9 := u32_wf w0_9; have q10 := u32_wf w0_10; have q11 := u32_wf w0_11; unfold inoWf; omega)
  refine ⟨5, ?_⟩
  have tail : ∀ b, b = false → nautiluslaw10_InodeBack.j0 5 c k o true b a0_0 a0_1 a0_2 a0_3 a0_4 a0_5 a0_6 a0_7 a0_8 a0_9 a0_10 a0_11 = some true := by
    rintro _ rfl
    simp only [nautiluslaw10_InodeBack.j0, Bool.false_eq_true, if_false]
    rw [inoPut_f c k a0_0 a0_1 a0_2 a0_3 a0_4 a0_5 a0_6 a0_7 a0_8 a0_9 a0_10 a0_11 h0, Option.bind_some]
    by_cases hp : c.size = 508 ∧ 0 ≤ k ∧ k < 12
    · by_cases hr : rightV a0_0 a0_1 a0_2 a0_3 a0_4 a0_5 a0_6 a0_7 a0_8 a0_9 a0_10 a0_11 = true
      · have hz := put_size c k a0_0 a0_1 a0_2 a0_3 a0_4 a0_5 a0_6 a0_7 a0_8 a0_9 a0_10 a0_11 hp
        have hs : (c.extract 0 (42 * k.toNat) ++ inoB a0_0 a0_1 a0_2 a0_3 a0_4 a0_5 a0_6 a0_7 a0_8 a0_9 a0_10 a0_11 ++ c.extract (42 * k.toNat + 42) c.size).size = 508 := by rw [ByteArray.size_append, ByteArray.size_append, hz.1, hz.2, inoB_size]; omega
        have hx : (c.extract 0 (42 * k.toNat) ++ inoB a0_0 a0_1 a0_2 a0_3 a0_4 a0_5 a0_6 a0_7 a0_8 a0_9 a0_10 a0_11 ++ c.extract (42 * k.toNat + 42) c.size).extract (42 * k.toNat) (42 * k.toNat + 42) = inoB a0_0 a0_1 a0_2 a0_3 a0_4 a0_5 a0_6 a0_7 a0_8 a0_9 a0_10 a0_11 := by
          have := extract_mid (c.extract 0 (42 * k.toNat)) (inoB a0_0 a0_1 a0_2 a0_3 a0_4 a0_5 a0_6 a0_7 a0_8 a0_9 a0_10 a0_11) (c.extract (42 * k.toNat + 42) c.size)
          rwa [hz.1, inoB_size] at this
        have hg : inoGetV (c.extract 0 (42 * k.toNat) ++ inoB a0_0 a0_1 a0_2 a0_3 a0_4 a0_5 a0_6 a0_7 a0_8 a0_9 a0_10 a0_11 ++ c.extract (42 * k.toNat + 42) c.size) k = (a0_0, a0_1, a0_2, a0_3, a0_4, a0_5, a0_6, a0_7, a0_8, a0_9, a0_10, a0_11, 0) := by
          unfold inoGetV
          rw [if_pos ⟨hs, hp.2⟩, hx, dec_enc a0_0 a0_1 a0_2 a0_3 a0_4 a0_5 a0_6 a0_7 a0_8 a0_9 a0_10 a0_11 h0 hr]
        have hput : inoPutV c k a0_0 a0_1 a0_2 a0_3 a0_4 a0_5 a0_6 a0_7 a0_8 a0_9 a0_10 a0_11 = (c.extract 0 (42 * k.toNat) ++ inoB a0_0 a0_1 a0_2 a0_3 a0_4 a0_5 a0_6 a0_7 a0_8 a0_9 a0_10 a0_11 ++ c.extract (42 * k.toNat + 42) c.size, 0) := by
          unfold inoPutV; rw [if_pos hp, if_pos hr]
        have ho : o ≠ k → inoGetV (c.extract 0 (42 * k.toNat) ++ inoB a0_0 a0_1 a0_2 a0_3 a0_4 a0_5 a0_6 a0_7 a0_8 a0_9 a0_10 a0_11 ++ c.extract (42 * k.toNat + 42) c.size) o = inoGetV c o := by
          intro hne
          unfold inoGetV
          by_cases hob : 0 ≤ o ∧ o < 12
          · rw [if_pos ⟨hs, hob⟩, if_pos ⟨hp.1, hob⟩, extract_other c (inoB a0_0 a0_1 a0_2 a0_3 a0_4 a0_5 a0_6 a0_7 a0_8 a0_9 a0_10 a0_11) k.toNat o.toNat hp.1 (inoB_size ..) (by omega) (by omega) (by omega)]
          · rw [if_neg (fun h => hob h.2), if_neg (fun h => hob h.2)]
        rw [hput]
        generalize c.extract 0 (42 * k.toNat) ++ inoB a0_0 a0_1 a0_2 a0_3 a0_4 a0_5 a0_6 a0_7 a0_8 a0_9 a0_10 a0_11 ++ c.extract (42 * k.toNat + 42) c.size = c' at hs hg ho ⊢
        rw [get_f, hg, Option.bind_some, get_f, Option.bind_some, get_f, Option.bind_some]
        by_cases hok : o = k
        · simp [hok, hs, hp.1]
        · rw [ho hok]
          simp [hok, hs, hp.1]
      · unfold inoPutV
        rw [if_pos hp, if_neg hr]
        exact if_neg (show ¬ (100 : Int) = 0 by decide)
    · unfold inoPutV
      rw [if_neg hp]
      exact if_neg (show ¬ (2 : Int) = 0 by decide)
  have rest : ∀ b, b = false → (if (decV s).2.2.2.2.2.2.2.2.2.2.2.2 = 0 then (if (encV (decV s).1 (decV s).2.1 (decV s).2.2.1 (decV s).2.2.2.1 (decV s).2.2.2.2.1 (decV s).2.2.2.2.2.1 (decV s).2.2.2.2.2.2.1 (decV s).2.2.2.2.2.2.2.1 (decV s).2.2.2.2.2.2.2.2.1 (decV s).2.2.2.2.2.2.2.2.2.1 (decV s).2.2.2.2.2.2.2.2.2.2.1 (decV s).2.2.2.2.2.2.2.2.2.2.2.1).2 = 0 then nautiluslaw10_InodeBack.j0 5 c k o true ((encV (decV s).1 (decV s).2.1 (decV s).2.2.1 (decV s).2.2.2.1 (decV s).2.2.2.2.1 (decV s).2.2.2.2.2.1 (decV s).2.2.2.2.2.2.1 (decV s).2.2.2.2.2.2.2.1 (decV s).2.2.2.2.2.2.2.2.1 (decV s).2.2.2.2.2.2.2.2.2.1 (decV s).2.2.2.2.2.2.2.2.2.2.1 (decV s).2.2.2.2.2.2.2.2.2.2.2.1).1.toList != s.toList) a0_0 a0_1 a0_2 a0_3 a0_4 a0_5 a0_6 a0_7 a0_8 a0_9 a0_10 a0_11 else nautiluslaw10_InodeBack.j0 5 c k o true true a0_0 a0_1 a0_2 a0_3 a0_4 a0_5 a0_6 a0_7 a0_8 a0_9 a0_10 a0_11) else nautiluslaw10_InodeBack.j0 5 c k o true b a0_0 a0_1 a0_2 a0_3 a0_4 a0_5 a0_6 a0_7 a0_8 a0_9 a0_10 a0_11) = some true := by
    intro b hb
    rcases decV_cases s with ⟨h1, h2, h3, h4⟩ | h4
    · rw [h4]
      simp only
      rw [encV_of h2]
      simp only [if_true]
      exact tail _ (by rw [h3]; simp)
    · rw [h4]
      simp only
      rw [if_neg (by decide)]
      exact tail _ hb
  have hwd : inoWf (decV s).1 (decV s).2.1 (decV s).2.2.1 (decV s).2.2.2.1 (decV s).2.2.2.2.1 (decV s).2.2.2.2.2.1 (decV s).2.2.2.2.2.2.1 (decV s).2.2.2.2.2.2.2.1 (decV s).2.2.2.2.2.2.2.2.1 (decV s).2.2.2.2.2.2.2.2.2.1 (decV s).2.2.2.2.2.2.2.2.2.2.1 (decV s).2.2.2.2.2.2.2.2.2.2.2.1 := by
    rcases decV_cases s with ⟨h1, h2, h3, h4⟩ | h4
    · rw [h4]; exact inoN_wf s
    · rw [h4]; exact zero_wf 0 0 (by omega)
  unfold nautiluslaw10_InodeBack.f
  rw [shown_f, Option.bind_some, encode_f a0_0 a0_1 a0_2 a0_3 a0_4 a0_5 a0_6 a0_7 a0_8 a0_9 a0_10 a0_11 h0, Option.bind_some, decode_f, Option.bind_some, decode_f, Option.bind_some, encode_f _ _ _ _ _ _ _ _ _ _ _ _ hwd, Option.bind_some, right_f a0_0 a0_1 a0_2 a0_3 a0_4 a0_5 a0_6 a0_7 a0_8 a0_9 a0_10 a0_11 5 (by omega) h0.2.2.1.1 h0.2.2.1.2, Option.bind_some]
  by_cases hr : rightV a0_0 a0_1 a0_2 a0_3 a0_4 a0_5 a0_6 a0_7 a0_8 a0_9 a0_10 a0_11 = true
  · rw [encV_of hr, hr]
    simp only [dec_enc a0_0 a0_1 a0_2 a0_3 a0_4 a0_5 a0_6 a0_7 a0_8 a0_9 a0_10 a0_11 h0 hr, if_true]
    rw [if_neg (by decide), if_neg (by simp)]
    exact rest false rfl
  · rw [show encV a0_0 a0_1 a0_2 a0_3 a0_4 a0_5 a0_6 a0_7 a0_8 a0_9 a0_10 a0_11 = (⟨#[]⟩, 100) by unfold encV; rw [if_neg hr], show rightV a0_0 a0_1 a0_2 a0_3 a0_4 a0_5 a0_6 a0_7 a0_8 a0_9 a0_10 a0_11 = false by simpa using hr]
    simp only
    rw [if_neg (by decide), if_neg (by decide)]
    exact rest false rfl
end Go.Proofs.Ytdcdcnnigggdjaa.Pure
