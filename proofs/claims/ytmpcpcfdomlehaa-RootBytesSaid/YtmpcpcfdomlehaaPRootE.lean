/- Plain laws on roots: their contents. -/
import Derived.Test.YtmpcpcfdomlehaaQ7
import Derived.Test.YtmpcpcfdomlehaaHRootE
import Derived.Test.YtmpcpcfdomlehaaPRootR
import Derived.Test.YtmpcpcfdomlehaaPNum
import Derived.Test.YtmpcpcfdomlehaaPVal
namespace Go.Proofs.Ytmpcpcfdomlehaa.P
open Go.RowKit Go.Proofs.Ytmpcpcfdomlehaa.H Go.Proofs.Ytmpcpcfdomlehaa.Q Go.Proofs.YtmpcpcfdomlehaaW.PrintWords Go.Proofs.YtmpcpcfdomlehaaW.PrintLast Go.Proofs.YtmpcpcfdomlehaaW.PrintMore
set_option linter.unusedVariables false

def ofL (l : List UInt8) : ByteArray := ⟨l.toArray⟩
theorem ofL_size (l : List UInt8) : (ofL l).size = l.length := by simp [ofL, ByteArray.size]
theorem ofL_append (l m : List UInt8) : ofL l ++ ofL m = ofL (l ++ m) := by apply ByteArray.ext; simp [ofL]
theorem ofL_leB (n : Int) (w : Nat) : leB n w = ofL (lowBytes n w) := rfl
theorem zeros_str (n : Nat) : strOfNums (List.replicate n 0) = ofL (List.replicate n (0 : UInt8)) := by
  simp [strOfNums, List.map_replicate, ofL]
def encV (a b : Int) (d c : List Int) : ByteArray × Int := if rightV a b d c = true then (rootB a b d c, 0) else (⟨#[]⟩, 153)
theorem encode_f (a b : Int) (d c : List Int) (ha : 0 ≤ a) (hb : 0 ≤ b) : root_Encode.f a b d c = some (encV a b d c) := by
  unfold root_Encode.f encV
  split
  · rw [if_pos ⟨ha, hb⟩]
  · rfl
theorem numsB_cons (x : Int) (l : List Int) : numsB (x :: l) = lowBytes x 4 ++ numsB l := rfl
theorem numsB_append (l m : List Int) : numsB (l ++ m) = numsB l ++ numsB m := by simp [numsB]
theorem numsB_drop (l : List Int) (i : Nat) (h : i < l.length) : numsB (l.drop i) = lowBytes l[i] 4 ++ numsB (l.drop (i + 1)) := by rw [List.drop_eq_getElem_cons h, numsB_cons]
theorem rootB_eq (a b : Int) (d c : List Int) : rootB a b d c = ofL (rootH a b d c ++ numsB d ++ numsB c ++ List.replicate (508 - (14 + 4 * d.length + 4 * c.length)) 0) := by
  unfold rootB
  rw [rootL_len]
  show ofL (rootH a b d c ++ numsB (d ++ c) ++ _) = _
  rw [numsB_append, show 14 + 4 * (d.length + c.length) = 14 + 4 * d.length + 4 * c.length by omega]
  simp only [List.append_assoc]
theorem enc_l1 (a b : Int) (d c : List Int) (hc : c.length ≤ 1000) (hr : ∀ x ∈ c, 16 ≤ x ∧ x < 4096) : ∀ m i l k, i + m = c.length → m + 20 < k → l.length + 4 * m ≤ 508 → nautilusref16_Encode.l1 k (ofL l) i a b d c = some (ofL (l ++ numsB (c.drop i) ++ List.replicate (508 - (l.length + 4 * m)) 0), 0)
  | 0, i, l, k + 1, hi, hk, hl => by
    have hw : wrap64 (508 - (l.length : Int)) = ((508 - l.length : Nat) : Int) := by rw [IntWalk.wrap64_in _ (by omega)]; omega
    rw [nautilusref16_Encode.l1, if_neg (by omega), List.drop_of_length_le (by omega), ofL_size, hw, if_pos (by omega), if_pos (by omega), Option.bind_some, Int.toNat_natCast, zeros_str, if_pos (by rw [ofL_size, List.length_replicate]; omega), ofL_append]
    simp [numsB]
  | m + 1, i, l, k + 1, hi, hk, hl => by
    have hil : i < c.length := by omega
    have hx := hr _ (List.getElem_mem hil)
    rw [nautilusref16_Encode.l1, if_pos (by omega), if_pos (by omega), rd_in c i hil, u64_wraps _ (by omega) (by omega), refBytes_f _ 4 (by omega) (by omega) k (by omega), Option.bind_some, ofL_size, leB_size, if_pos (by omega), IntWalk.wrap64_in _ (by omega),
      show (i : Int) + 1 = ((i + 1 : Nat) : Int) by omega, ofL_leB, ofL_append, show ((4 : Int).toNat) = 4 from rfl]
    rw [enc_l1 a b d c hc hr m (i + 1) _ k (by omega) (by omega) (by rw [List.length_append, lowBytes_length]; omega), numsB_drop c i hil, List.length_append, lowBytes_length, show l.length + 4 + 4 * m = l.length + 4 * (m + 1) by omega]
    simp only [List.append_assoc]
  | 0, _, _, 0, _, hk, _ => by omega
  | m + 1, _, _, 0, _, hk, _ => by omega
theorem enc_l0 (a b : Int) (d c : List Int) (hd : d.length ≤ 1000) (hr : ∀ x ∈ d, 16 ≤ x ∧ x < 4096) : ∀ m i l k, i + m = d.length → m + 20 < k → l.length + 4 * m ≤ 508 → nautilusref16_Encode.l0 k (ofL l) i a b d c = nautilusref16_Encode.l1 (k - m - 1) (ofL (l ++ numsB (d.drop i))) 0 a b d c
  | 0, i, l, k + 1, hi, hk, hl => by
    rw [nautilusref16_Encode.l0, if_neg (by omega), List.drop_of_length_le (by omega)]
    simp [numsB]
  | m + 1, i, l, k + 1, hi, hk, hl => by
    have hil : i < d.length := by omega
    have hx := hr _ (List.getElem_mem hil)
    rw [nautilusref16_Encode.l0, if_pos (by omega), if_pos (by omega), rd_in d i hil, u64_wraps _ (by omega) (by omega), refBytes_f _ 4 (by omega) (by omega) k (by omega), Option.bind_some, ofL_size, leB_size, if_pos (by omega), IntWalk.wrap64_in _ (by omega),
      show (i : Int) + 1 = ((i + 1 : Nat) : Int) by omega, ofL_leB, ofL_append, show ((4 : Int).toNat) = 4 from rfl]
    rw [enc_l0 a b d c hd hr m (i + 1) _ k (by omega) (by omega) (by rw [List.length_append, lowBytes_length]; omega), numsB_drop d i hil, show k + 1 - (m + 1) - 1 = k - m - 1 by omega]
    simp only [List.append_assoc]
  | 0, _, _, 0, _, hk, _ => by omega
  | m + 1, _, _, 0, _, hk, _ => by omega
theorem refEncode_f (a b : Int) (d c : List Int) (h0 : 0 ≤ a) (hb : 0 ≤ b) (hd : d.length ≤ 1000) (hc : c.length ≤ 1000) (k : Nat) (hk : 7000 ≤ k) : nautilusref16_Encode.f k a b d c = some (encV a b d c) := by
  unfold nautilusref16_Encode.f encV
  rw [refRight_f a b d c h0 hd hc k (by omega), Option.bind_some]
  by_cases hr : rightV a b d c = true
  · obtain ⟨r1, r2, r3, r4, r5⟩ := right_facts hr
    have z6 (n : Int) : (leB n (6 : Int).toNat).size = 6 := leB_size _ _
    have z1 (n : Int) : (leB n (1 : Int).toNat).size = 1 := leB_size _ _
    rw [if_pos hr, if_pos hr, refBytes_f _ 6 (by omega) (by omega) k (by omega), Option.bind_some, refBytes_f _ 6 (by omega) (by omega) k (by omega), Option.bind_some, if_pos (by rw [z6, z6]; omega),
      u64_wraps _ (by omega) (by omega), refBytes_f _ 1 (by omega) (by omega) k (by omega), Option.bind_some, if_pos (by rw [ByteArray.size_append, z6, z6, z1]; omega),
      u64_wraps _ (by omega) (by omega), refBytes_f _ 1 (by omega) (by omega) k (by omega), Option.bind_some, if_pos (by rw [ByteArray.size_append, ByteArray.size_append, z6, z6, z1, z1]; omega)]
    have e : leB a (6 : Int).toNat ++ leB b (6 : Int).toNat ++ leB d.length (1 : Int).toNat ++ leB c.length (1 : Int).toNat = ofL (rootH a b d c) := by
      rw [ofL_leB, ofL_leB, ofL_leB, ofL_leB, ofL_append, ofL_append, ofL_append]; rfl
    rw [e]
    have g0 := enc_l0 a b d c hd (fun x hx => r5 x (List.mem_append_left _ hx)) d.length 0 (rootH a b d c) k (by omega) (by omega) (by rw [rootH_len]; omega)
    rw [show ((0 : Nat) : Int) = 0 from rfl] at g0
    have g1 := enc_l1 a b d c hc (fun x hx => r5 x (List.mem_append_right _ hx)) c.length 0 (rootH a b d c ++ numsB d) (k - d.length - 1) (by omega) (by omega) (by rw [List.length_append, rootH_len, numsB_len]; omega)
    rw [show ((0 : Nat) : Int) = 0 from rfl] at g1
    rw [g0, List.drop_zero, g1, List.drop_zero, List.length_append, rootH_len, numsB_len, rootB_eq]
  · rw [if_neg hr, if_neg hr]
end Go.Proofs.Ytmpcpcfdomlehaa.P
