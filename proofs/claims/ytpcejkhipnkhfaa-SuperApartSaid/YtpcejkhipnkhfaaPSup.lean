/- Plain laws on super blocks: what the printed functions of super and of the document's super blocks come to. -/
import Derived.Test.YtpcejkhipnkhfaaQ10
import Derived.Test.YtpcejkhipnkhfaaQ11
import Derived.Test.YtpcejkhipnkhfaaQ13
import Derived.Test.YtpcejkhipnkhfaaQ4
import Derived.Test.YtpcejkhipnkhfaaQ7
import Derived.Test.YtpcejkhipnkhfaaQ8
import Derived.Test.YtpcejkhipnkhfaaQ9
import Derived.Test.YtpcejkhipnkhfaaHSupE
import Derived.Test.YtpcejkhipnkhfaaHSupD
import Derived.Test.YtpcejkhipnkhfaaPNum
import Derived.Test.YtpcejkhipnkhfaaPVal
namespace Go.Proofs.Ytpcejkhipnkhfaa.P
open Go.RowKit Go.Proofs.Ytpcejkhipnkhfaa.H Go.Proofs.Ytpcejkhipnkhfaa.Q Go.Proofs.YtpcejkhipnkhfaaW.PrintWords Go.Proofs.YtpcejkhipnkhfaaW.PrintLast Go.Proofs.YtpcejkhipnkhfaaW.PrintMore
set_option linter.unusedVariables false

def okR (a b c d : Int) : Prop := (128 ≤ a ∧ a ≤ 4096 ∧ Int.tmod a 16 = 0) ∧ (16 ≤ c ∧ c < a) ∧ (1 ≤ b ∧ b < 281474976710656) ∧ (1 ≤ d ∧ d < 281474976710656)
def supR (a b c d : Int) : Bool := decide ((128 ≤ a ∧ a ≤ 4096 ∧ Int.tmod a 16 = 0) ∧ (16 ≤ c ∧ c < a) ∧ (1 ≤ b ∧ b < 281474976710656) ∧ (1 ≤ d ∧ d < 281474976710656))
theorem right_f (a b c d : Int) : super_Right.f a b c d = some (supR a b c d) := by
  unfold super_Right.f super_isDisk.f super_isNumber.f supR
  by_cases h1 : a ≥ 128
  · rw [if_pos h1]
    by_cases h2 : a ≤ 4096
    · rw [if_pos h2, Option.bind_some]
      by_cases h3 : Int.tmod a 16 = 0
      · rw [if_pos (by simp [h3])]
        by_cases h4 : c ≥ 16
        · rw [if_pos h4]
          by_cases h5 : c < a
          · rw [if_pos h5]
            by_cases h6 : b > 0
            · rw [if_pos h6, Option.bind_some]
              by_cases h7 : b < 281474976710656
              · rw [if_pos (by simp [h7])]
                by_cases h8 : d > 0
                · rw [if_pos h8, Option.bind_some]
                  by_cases h9 : d < 281474976710656
                  · rw [decide_eq_true h9, decide_eq_true (by omega)]
                  · rw [decide_eq_false h9, decide_eq_false (by omega)]
                · rw [if_neg h8, Option.bind_some, decide_eq_false (by omega)]
              · rw [if_neg (by simp; omega), decide_eq_false (by omega)]
            · rw [if_neg h6, Option.bind_some, if_neg (by decide), decide_eq_false (by omega)]
          · rw [if_neg h5, decide_eq_false (by omega)]
        · rw [if_neg h4, decide_eq_false (by omega)]
      · rw [if_neg (by simp [h3]), decide_eq_false (fun h => h3 h.1.2.2)]
    · rw [if_neg h2, Option.bind_some, if_neg (by decide), decide_eq_false (by omega)]
  · rw [if_neg h1, Option.bind_some, if_neg (by decide), decide_eq_false (by omega)]
theorem refRight_f (a b c d : Int) : nautilusref05_Right.f a b c d = some (supR a b c d) := by
  rw [← right_f]; rfl
theorem okR_of {a b c d : Int} (h : supR a b c d = true) : okR a b c d := by unfold supR at h; unfold okR; exact of_decide_eq_true h
theorem encode_f (a b c d : Int) : super_Encode.f a b c d = some (if supR a b c d = true then (encB a b c d, 0) else (⟨#[]⟩, 50)) := by
  unfold super_Encode.f
  rw [right_f, Option.bind_some]
  split <;> rfl
def secB (a b c d : Int) : ByteArray := ⟨(encL a b c d ++ List.replicate 232 (0 : UInt8)).toArray⟩
theorem encL_len (a b c d : Int) : (encL a b c d).length = 24 := by simp [encL, supB, supL, lowBytes_length]
theorem secB_enc (a b c d : Int) : (encB a b c d).extract 0 256 = secB a b c d := by
  apply ByteArray.ext
  have hl := encL_len a b c d
  have h2 : (List.replicate 488 (0 : UInt8)) = List.replicate 232 0 ++ List.replicate 256 0 := by rw [List.replicate_append_replicate]
  have h3 : (encL a b c d ++ List.replicate 232 (0 : UInt8)).length = 256 := by rw [List.length_append, List.length_replicate, hl]
  unfold encB secB
  rw [h2, ← List.append_assoc]
  generalize encL a b c d ++ List.replicate 232 (0 : UInt8) = x at h3 ⊢
  generalize List.replicate 256 (0 : UInt8) = y
  rw [ByteArray.data_extract]
  simp only [List.extract_toArray, List.extract_eq_take_drop, List.drop_zero, Nat.sub_zero]
  rw [← h3, List.take_left']
  rfl
theorem zeros_str (n : Nat) : strOfNums (List.replicate n 0) = ⟨(List.replicate n (0 : UInt8)).toArray⟩ := by
  simp [strOfNums, List.map_replicate]
theorem refSector_f {a b c d : Int} (h : supR a b c d = true) (k : Nat) (hk : 12 ≤ k) : nautilusref05_sector.f k a b c d = some (secB a b c d) := by
  have ho := okR_of h
  obtain ⟨⟨a1, a2, a3⟩, ⟨c1, c2⟩, ⟨b1, b2⟩, ⟨d1, d2⟩⟩ := ho
  unfold nautilusref05_sector.f
  have ea : IntKind.u64.wrap a = a := u64_wraps a (by omega) (by omega)
  have ec : IntKind.u64.wrap c = c := u64_wraps c (by omega) (by omega)
  have hN : (⟨#[78, 65, 85, 84]⟩ : ByteArray).size = 4 := rfl
  have z4 (n : Int) : (leB n (4 : Int).toNat).size = 4 := leB_size _ _
  have z6 (n : Int) : (leB n (6 : Int).toNat).size = 6 := leB_size _ _
  have e20 : wrap64 (256 - ((24 : Nat) : Int)) = 232 := by rw [IntWalk.wrap64_in _ (by omega)]; rfl
  rw [ea, ec, refBytes_f a 4 (by omega) (by omega) k (by omega), Option.bind_some, if_pos (by rw [z4]; omega),
    refBytes_f b 6 (by omega) (by omega) k (by omega), Option.bind_some, if_pos (by rw [ByteArray.size_append, z4, z6, hN]; omega),
    refBytes_f c 4 (by omega) (by omega) k (by omega), Option.bind_some, if_pos (by rw [ByteArray.size_append, ByteArray.size_append, z4, z4, z6, hN]; omega),
    refBytes_f d 6 (by omega) (by omega) k (by omega), Option.bind_some, if_pos (by rw [ByteArray.size_append, ByteArray.size_append, ByteArray.size_append, z4, z4, z6, z6, hN]; omega)]
  have hs : (((((⟨#[78, 65, 85, 84]⟩ : ByteArray) ++ leB a (4 : Int).toNat) ++ leB b (6 : Int).toNat) ++ leB c (4 : Int).toNat) ++ leB d (6 : Int).toNat).size = 24 := by
    rw [ByteArray.size_append, ByteArray.size_append, ByteArray.size_append, ByteArray.size_append, z4, z4, z6, z6, hN]
  rw [hs, e20, if_pos (by omega), if_pos (by decide), Option.bind_some, zeros_str]
  have hz : (⟨(List.replicate ((232 : Int).toNat) (0 : UInt8)).toArray⟩ : ByteArray).size = 232 := by show (List.replicate 232 (0 : UInt8)).toArray.size = 232; rw [List.size_toArray, List.length_replicate]
  rw [if_pos (by rw [hz]; omega)]
  have he : ((((((⟨#[78, 65, 85, 84]⟩ : ByteArray) ++ leB a (4 : Int).toNat) ++ leB b (6 : Int).toNat) ++ leB c (4 : Int).toNat) ++ leB d (6 : Int).toNat) ++ (⟨(List.replicate ((232 : Int).toNat) (0 : UInt8)).toArray⟩ : ByteArray)) = secB a b c d := by
    show _ ++ (⟨(List.replicate 232 (0 : UInt8)).toArray⟩ : ByteArray) = _
    unfold secB
    generalize List.replicate 232 (0 : UInt8) = z
    apply ByteArray.ext
    simp [encL, supB, supL, leB]
  rw [he]
theorem refEncode_f (a b c d : Int) (k : Nat) (hk : 12 ≤ k) : nautilusref05_Encode.f k a b c d = some (if supR a b c d = true then (encB a b c d, 0) else (⟨#[]⟩, 50)) := by
  unfold nautilusref05_Encode.f
  rw [refRight_f, Option.bind_some]
  by_cases h : supR a b c d = true
  · rw [if_pos h, if_pos h, refSector_f h k hk, Option.bind_some, if_pos (by omega), Option.bind_some, zeros_str]
    have hs : (secB a b c d).size = 256 := by
      show (encL a b c d ++ List.replicate 232 (0 : UInt8)).toArray.size = 256
      rw [List.size_toArray, List.length_append, List.length_replicate, encL_len]
    have hz : (⟨(List.replicate 256 (0 : UInt8)).toArray⟩ : ByteArray).size = 256 := by show (List.replicate 256 (0 : UInt8)).toArray.size = 256; rw [List.size_toArray, List.length_replicate]
    have he : secB a b c d ++ (⟨(List.replicate 256 (0 : UInt8)).toArray⟩ : ByteArray) = encB a b c d := by
      have h2 : (List.replicate 488 (0 : UInt8)) = List.replicate 232 0 ++ List.replicate 256 0 := by rw [List.replicate_append_replicate]
      unfold secB encB
      rw [h2, ← List.append_assoc]
      generalize encL a b c d ++ List.replicate 232 (0 : UInt8) = x
      generalize List.replicate 256 (0 : UInt8) = y
      apply ByteArray.ext
      simp
    rw [if_pos (by rw [hs, hz]; omega), he]
  · rw [if_neg h, if_neg h]

/-! ### Decode -/
def decV (b : ByteArray) : Int × Int × Int × Int := (valB b 4 4, valB b 8 6, valB b 14 4, valB b 18 6)
def okD (b : ByteArray) : Bool := decide (b.size = 512) && (supR (valB b 4 4) (valB b 8 6) (valB b 14 4) (valB b 18 6) && decide (secB (valB b 4 4) (valB b 8 6) (valB b 14 4) (valB b 18 6) = b.extract 0 256))
theorem okD_iff (b : ByteArray) : okD b = true ↔ (b.size = 512 ∧ supR (valB b 4 4) (valB b 8 6) (valB b 14 4) (valB b 18 6) = true ∧ secB (valB b 4 4) (valB b 8 6) (valB b 14 4) (valB b 18 6) = b.extract 0 256) := by
  unfold okD; simp only [Bool.and_eq_true, decide_eq_true_eq]
def decodeV (b : ByteArray) : Int × Int × Int × Int × Int := if okD b = true then (valB b 4 4, valB b 8 6, valB b 14 4, valB b 18 6, 0) else (0, 0, 0, 0, 50)
theorem takeV_in (s : ByteArray) (a w : Int) (h1 : 1 ≤ w) (h2 : w ≤ 8) (h3 : 0 ≤ a) (h4 : a + w ≤ s.size) : takeV s a w = (valB s a.toNat w.toNat, 0) := by
  unfold takeV; rw [if_pos ⟨h1, h2, h3, h4⟩]
theorem val_wrap4 (b : ByteArray) (a : Nat) : wrap64 (valB b a 4) = valB b a 4 := by
  have := valB_range b a 4
  have e : (256 : Int) ^ 4 = 4294967296 := by decide
  rw [e] at this
  exact IntWalk.wrap64_in _ (by omega)
theorem decode_f (b : ByteArray) (hb : b.size ≤ 140737488351232) : super_Decode.f b = some (decodeV b) := by
  unfold super_Decode.f decodeV
  by_cases hs : b.size = 512
  · have t (a w : Int) (h1 : 1 ≤ w) (h2 : w ≤ 8) (h3 : 0 ≤ a) (h4 : a + w ≤ 512) : num_Take.f 12 b a w = some (valB b a.toNat w.toNat, 0) := by
      rw [take_f b a w (by omega) (by omega) (by omega) 12 (by omega), takeV_in b a w h1 h2 h3 (by omega)]
    rw [if_pos hs, t 4 4 (by omega) (by omega) (by omega) (by omega), Option.bind_some, t 8 6 (by omega) (by omega) (by omega) (by omega), Option.bind_some,
      t 14 4 (by omega) (by omega) (by omega) (by omega), Option.bind_some, t 18 6 (by omega) (by omega) (by omega) (by omega), Option.bind_some]
    show (super_Encode.f (wrap64 (valB b 4 4)) (valB b 8 6) (wrap64 (valB b 14 4)) (valB b 18 6)).bind _ = _
    rw [val_wrap4, val_wrap4, encode_f, Option.bind_some]
    by_cases hr : supR (valB b 4 4) (valB b 8 6) (valB b 14 4) (valB b 18 6) = true
    · rw [if_pos hr]
      simp only [if_true, secB_enc]
      by_cases he : secB (valB b 4 4) (valB b 8 6) (valB b 14 4) (valB b 18 6) = b.extract 0 256
      · rw [if_pos he, if_pos ((okD_iff b).2 ⟨hs, hr, he⟩)]
        show some (wrap64 (valB b 4 4), valB b 8 6, wrap64 (valB b 14 4), valB b 18 6, (0 : Int)) = _
        rw [val_wrap4, val_wrap4]
      · rw [if_neg he, if_neg (fun h => he ((okD_iff b).1 h).2.2)]
    · rw [if_neg hr]
      rw [if_neg (c := okD b = true) (fun h => hr ((okD_iff b).1 h).2.1)]
      rfl
  · rw [if_neg hs, if_neg (fun h => hs ((okD_iff b).1 h).1)]
theorem refDecode_f (b : ByteArray) (hb : b.size ≤ 140737488351232) (k : Nat) (hk : 12 ≤ k) : nautilusref05_Decode.f k b = some (decodeV b) := by
  unfold nautilusref05_Decode.f decodeV
  by_cases hs : b.size = 512
  · have t (a w : Int) (h1 : 1 ≤ w) (h2 : w ≤ 8) (h3 : 0 ≤ a) (h4 : a + w ≤ 512) : nautilusref01_Take.f k b a w = some (valB b a.toNat w.toNat, 0) := by
      rw [refTake_f b a w (by omega) (by omega) (by omega) k hk, takeV_in b a w h1 h2 h3 (by omega)]
    rw [if_pos (by omega), t 4 4 (by omega) (by omega) (by omega) (by omega), Option.bind_some, t 8 6 (by omega) (by omega) (by omega) (by omega), Option.bind_some,
      t 14 4 (by omega) (by omega) (by omega) (by omega), Option.bind_some, t 18 6 (by omega) (by omega) (by omega) (by omega), Option.bind_some]
    show (nautilusref05_Right.f (wrap64 (valB b 4 4)) (valB b 8 6) (wrap64 (valB b 14 4)) (valB b 18 6)).bind (fun t158 => if t158 = true then (nautilusref05_sector.f k (wrap64 (valB b 4 4)) (valB b 8 6) (wrap64 (valB b 14 4)) (valB b 18 6)).bind (fun t159 => if (0 : Int) ≤ 256 then (if (256 : Int) ≤ (b.size : Int) then (if t159.toList = (b.extract 0 256).toList then some (wrap64 (valB b 4 4), valB b 8 6, wrap64 (valB b 14 4), valB b 18 6, (0 : Int)) else some (0, 0, 0, 0, 50)) else none) else none) else some (0, 0, 0, 0, 50)) = _
    rw [val_wrap4, val_wrap4, refRight_f, Option.bind_some]
    by_cases hr : supR (valB b 4 4) (valB b 8 6) (valB b 14 4) (valB b 18 6) = true
    · rw [if_pos hr, refSector_f hr k hk, Option.bind_some, if_pos (by omega), if_pos (by omega)]
      by_cases he : secB (valB b 4 4) (valB b 8 6) (valB b 14 4) (valB b 18 6) = b.extract 0 256
      · rw [if_pos (by rw [he]), if_pos ((okD_iff b).2 ⟨hs, hr, he⟩)]
      · rw [if_neg (fun h => he (by rw [ByteArray.toList_eq, ByteArray.toList_eq] at h; exact ByteArray.ext (Array.toList_inj.1 h))), if_neg (fun h => he ((okD_iff b).1 h).2.2)]
    · rw [if_neg hr]
      rw [if_neg (c := okD b = true) (fun h => hr ((okD_iff b).1 h).2.1)]
  · rw [if_neg (by omega), if_neg (fun h => hs ((okD_iff b).1 h).1)]

/-- What was encoded is decoded as it was, whatever the second sector is. -/
theorem val_enc {a b c d : Int} (h : supR a b c d = true) : valB (secB a b c d) 4 4 = a ∧ valB (secB a b c d) 8 6 = b ∧ valB (secB a b c d) 14 4 = c ∧ valB (secB a b c d) 18 6 = d := by
  obtain ⟨⟨a1, a2, a3⟩, ⟨c1, c2⟩, ⟨b1, b2⟩, ⟨d1, d2⟩⟩ := okR_of h
  have e4 : (256 : Int) ^ 4 = 4294967296 := by decide
  have e6 : (256 : Int) ^ 6 = 281474976710656 := by decide
  let n : ByteArray := ⟨#[78, 65, 85, 84]⟩
  have s0 : n.size = 4 := rfl
  have q (s u : ByteArray) (m : Int) (w i : Nat) (hi : s.size = i) (h0 : 0 ≤ m) (h1 : m < 256 ^ w) (he : secB a b c d = s ++ leB m w ++ u) : valB (secB a b c d) i w = m := by
    rw [he, ← hi]; exact valB_put s u m w h0 h1
  obtain ⟨y, hy⟩ : ∃ y, List.replicate 232 (0 : UInt8) = y := ⟨_, rfl⟩
  let z : ByteArray := ⟨y.toArray⟩
  refine ⟨q n (leB b 6 ++ leB c 4 ++ leB d 6 ++ z) a 4 4 rfl (by omega) (by rw [e4]; omega) ?_, q (n ++ leB a 4) (leB c 4 ++ leB d 6 ++ z) b 6 8 (by rw [ByteArray.size_append, leB_size, s0]) (by omega) (by rw [e6]; omega) ?_, q (n ++ leB a 4 ++ leB b 6) (leB d 6 ++ z) c 4 14 (by simp only [ByteArray.size_append, leB_size, s0]) (by omega) (by rw [e4]; omega) ?_, q (n ++ leB a 4 ++ leB b 6 ++ leB c 4) z d 6 18 (by simp only [ByteArray.size_append, leB_size, s0]) (by omega) (by rw [e6]; omega) ?_⟩ <;>
  · apply ByteArray.ext
    simp [secB, encL, supB, supL, leB, n, z, hy]
theorem bt_extract (x : ByteArray) (m j : Nat) (h : j < m) (hm : m ≤ x.size) : bt (x.extract 0 m) j = bt x j := by
  have hz : x = x.extract 0 m ++ x.extract m x.size := by
    apply ByteArray.ext
    apply Array.toList_inj.1
    have : x.size = x.data.size := rfl
    simp only [ByteArray.data_append, ByteArray.data_extract, Array.toList_append, Array.toList_extract, List.extract_eq_take_drop, List.drop_zero, Nat.sub_zero]
    rw [List.take_of_length_le (l := List.drop m x.data.toList) (by rw [List.length_drop, Array.length_toList, this]; exact Nat.le_refl _), List.take_append_drop]
  conv => rhs; rw [hz]
  rw [bt_append_left _ _ _ (by rw [ByteArray.size_extract]; omega)]
theorem val_first (x y : ByteArray) (hx : 256 ≤ x.size) (h : x.extract 0 256 = y) (i w : Nat) (hi : i + w ≤ 256) : valB x i w = valB y i w := by
  apply valB_congr
  intro j hj
  rw [← h, bt_extract x 256 (i + j) (by omega) hx]
theorem decode_enc {a b c d : Int} (h : supR a b c d = true) (x : ByteArray) (hx : x.size = 512) (he : x.extract 0 256 = secB a b c d) : decodeV x = (a, b, c, d, 0) := by
  obtain ⟨v1, v2, v3, v4⟩ := val_enc h
  have f := val_first x _ (by omega) he
  have g1 := (f 4 4 (by omega)).trans v1
  have g2 := (f 8 6 (by omega)).trans v2
  have g3 := (f 14 4 (by omega)).trans v3
  have g4 := (f 18 6 (by omega)).trans v4
  unfold decodeV
  rw [if_pos ((okD_iff x).2 (by rw [g1, g2, g3, g4]; exact ⟨hx, h, he.symm⟩)), g1, g2, g3, g4]
theorem decode_own {a b c d : Int} (h : supR a b c d = true) : decodeV (encB a b c d) = (a, b, c, d, 0) := decode_enc h _ (encB_size a b c d) (secB_enc a b c d)

theorem shown_f : nautiluslaw05_shown.f = some true := by
  have h1 : supR 128 1 16 1 = true := by decide
  have h2 : supR 128 1 15 1 = false := by decide
  unfold nautiluslaw05_shown.f nautiluslaw05_first.f
  rw [Option.bind_some]
  show (super_Encode.f 128 1 16 1).bind _ = _
  rw [encode_f, if_pos h1, Option.bind_some]
  show (super_Decode.f (encB 128 1 16 1)).bind _ = _
  rw [decode_f _ (by rw [encB_size]; omega), decode_own h1, Option.bind_some, encode_f, h2]
  rfl
end Go.Proofs.Ytpcejkhipnkhfaa.P
