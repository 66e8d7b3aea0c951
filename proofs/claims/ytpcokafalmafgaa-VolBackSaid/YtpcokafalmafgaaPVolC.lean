/- Plain laws on files as contents: what the document's cuts, changes and pastes come to. -/
import Derived.Test.YtpcokafalmafgaaQ2
import Derived.Test.YtpcokafalmafgaaQ3
import Derived.Test.YtpcokafalmafgaaQ4
import Derived.Test.YtpcokafalmafgaaQ5
import Derived.Test.YtpcokafalmafgaaPVol
import Derived.Test.YtpcokafalmafgaaHNum
import Derived.Test.YtpcokafalmafgaaHJoin
import Derived.IntWalk
namespace Go.Proofs.Ytpcokafalmafgaa.P
open Go.RowKit Go.Proofs.Ytpcokafalmafgaa.H Go.Proofs.Ytpcokafalmafgaa.Q Go.Proofs.YtpcokafalmafgaaW.PrintWords Go.Proofs.YtpcokafalmafgaaW.PrintLast Go.Proofs.YtpcokafalmafgaaW.PrintMore
set_option linter.unusedVariables false

theorem u32_wf {n : Int} (h : (Lit.int .u32 n).wf = true) : 0 ≤ n ∧ n < 4294967296 := by
  simp [Lit.wf, IntKind.min, IntKind.max, IntKind.bits, IntKind.signed] at h; omega
theorem rds (l : List ByteArray) (i : Nat) (h : i < l.length) : rdOf ByteArray.empty l (i : Int) = l[i] := by simp [rdOf, h]
theorem w64s (i : Nat) (h : i ≤ 1000000000000000) : wrap64 ((i : Int) + 1) = ((i + 1 : Nat) : Int) := by rw [IntWalk.wrap64_in _ (by omega)]; omega
/-! ### Bare -/
def bareV (s : ByteArray) (i : Int) : Bool := (s.data.toList.drop i.toNat).all (· == 0)
theorem bare_f (s : ByteArray) (i : Int) (hs : s.size ≤ 9223372036854775807) : num_Bare.f s i = some (bareV s i) := by unfold num_Bare.f bareV; rw [if_pos hs]
theorem bt_getElem (s : ByteArray) (i : Nat) (h : i < s.size) : bt s i = (s.data.toList[i]'(by rw [Array.length_toList]; exact h)).toNat := by
  unfold bt
  rw [dif_pos (show (i : Int).toNat < s.size by simpa using h)]
  simp only [Int.toNat_natCast, Array.getElem_toList]
  rfl
theorem refBare_loop (s : ByteArray) (hs : s.size ≤ 140737488355328) : ∀ d i k, i + d = s.size → d < k → nautilusref01_Bare.l0 k s i = some ((s.data.toList.drop i).all (· == 0)) := by
  have hl : s.data.toList.length = s.size := by rw [Array.length_toList]; rfl
  intro d
  induction d with
  | zero =>
    intro i k hi hk
    obtain ⟨k, rfl⟩ : ∃ m, k = m + 1 := ⟨k - 1, by omega⟩
    simp only [nautilusref01_Bare.l0]
    rw [if_neg (by omega), List.drop_of_length_le (by omega)]; rfl
  | succ d ih =>
    intro i k hi hk
    obtain ⟨k, rfl⟩ : ∃ m, k = m + 1 := ⟨k - 1, by omega⟩
    simp only [nautilusref01_Bare.l0]
    have hlt : i < s.size := by omega
    have e2 : wrap64 ((i : Int) + 1) = ((i + 1 : Nat) : Int) := by rw [IntWalk.wrap64_in _ (by omega)]; omega
    rw [if_pos (by omega), if_pos (by omega), bt_getElem s i hlt, e2, List.drop_eq_getElem_cons (by omega), List.all_cons]
    by_cases hz : (s.data.toList[i]'(by omega)) = 0
    · rw [if_pos (by rw [hz]; rfl), ih (i + 1) k (by omega) (by omega), hz]; rfl
    · have : (s.data.toList[i]'(by omega) == 0) = false := by simpa using hz
      rw [if_neg, this]; rfl
      intro e
      exact hz (UInt8.toNat_inj.1 (by simpa using e))
theorem refBare_f (s : ByteArray) (i : Int) (hs : s.size ≤ 140737488355328) (k : Nat) (hk : s.size < k) : nautilusref01_Bare.f k s i = some (bareV s i) := by
  obtain ⟨m, hm⟩ : ∃ m : Nat, mx 0 i = m := ⟨(mx 0 i).toNat, by unfold mx; split <;> omega⟩
  unfold nautilusref01_Bare.f bareV
  rw [hm, show i.toNat = m by unfold mx at hm; split at hm <;> omega]
  by_cases h : m ≤ s.size
  · exact refBare_loop s hs (s.size - m) m k (by omega) (by omega)
  · obtain ⟨k, rfl⟩ : ∃ j, k = j + 1 := ⟨k - 1, by omega⟩
    simp only [nautilusref01_Bare.l0]
    rw [if_neg (by omega), List.drop_of_length_le (by rw [Array.length_toList]; have : s.size = s.data.size := rfl; omega)]; rfl
/-! ### Texts that are the same -/
theorem sameTexts_loop (a : List ByteArray) (ha : a.length ≤ 1000000000) : ∀ d i k, i + d = a.length → d < k → nautilusref17_SameTexts.l0 k a a i = some true
  | 0, i, 0, _, h => by omega
  | 0, i, k + 1, hi, _ => by
    unfold nautilusref17_SameTexts.l0
    rw [if_neg (by omega)]
  | d + 1, i, 0, _, h => by omega
  | d + 1, i, k + 1, hi, h => by
    unfold nautilusref17_SameTexts.l0
    rw [if_pos (by omega), if_pos (by omega), if_pos (by omega), if_pos rfl, w64s i (by omega)]
    exact sameTexts_loop a ha d (i + 1) k (by omega) (by omega)
theorem sameTexts_f (a : List ByteArray) (ha : a.length ≤ 1000000000) (k : Nat) (hk : a.length < k) : nautilusref17_SameTexts.f k a a = some true := by
  unfold nautilusref17_SameTexts.f
  rw [if_pos rfl]
  exact sameTexts_loop a ha a.length 0 k (by omega) hk

/-! ### Cut -/
theorem piece_cut (s : ByteArray) (i : Nat) : s.extract (508 * i) (min s.size (508 * i + 508)) = piece s i := by
  apply bl_inj
  rw [bl_cut, piece_bl]
  by_cases h : 508 * i + 508 ≤ s.size
  · rw [Nat.min_eq_right h]; congr 1; omega
  · rw [Nat.min_eq_left (by omega)]
    rw [List.take_of_length_le (by rw [List.length_drop, bl_len]; omega), List.take_of_length_le (by rw [List.length_drop, bl_len]; omega)]
theorem pieceL_next (s : ByteArray) (k : Nat) : pieceL s (k + 1) = pieceL s k ++ [piece s k] := by simp [pieceL, List.range_succ]
theorem refCut_loop (s : ByteArray) (hs : s.size ≤ 1000000000000) : ∀ d i k, i + d = pieces s → d < k → nautilusref17_Cut.l0 k s (pieceL s i) ((508 * i : Nat) : Int) = some (pieceL s (pieces s))
  | 0, i, 0, _, h => by omega
  | 0, i, k + 1, hi, _ => by
    unfold nautilusref17_Cut.l0
    obtain rfl : i = pieces s := by omega
    rw [if_neg (by unfold pieces; omega)]
  | d + 1, i, 0, _, h => by omega
  | d + 1, i, k + 1, hi, h => by
    have hlt : 508 * i < s.size := by unfold pieces at hi; omega
    have e1 : wrap64 (((508 * i : Nat) : Int) + 508) = ((508 * (i + 1) : Nat) : Int) := by rw [IntWalk.wrap64_in _ (by omega)]; omega
    have e2 : mn (s.size : Int) ((508 * (i + 1) : Nat) : Int) = ((min s.size (508 * i + 508) : Nat) : Int) := by unfold mn; omega
    unfold nautilusref17_Cut.l0
    rw [if_pos (by omega), if_pos (by omega), e1, e2, if_pos (by omega), if_pos (by omega), if_pos (by simp [pieceL]; unfold pieces at hi; omega)]
    rw [Int.toNat_natCast, Int.toNat_natCast, piece_cut, ← pieceL_next]
    exact refCut_loop s hs d (i + 1) k (by omega) (by omega)
theorem refCut_f (s : ByteArray) (hs : s.size ≤ 1000000000000) (k : Nat) (hk : pieces s < k) : nautilusref17_Cut.f k s = some (pieceL s (pieces s)) := by
  have := refCut_loop s hs (pieces s) 0 k (by omega) hk
  simpa [nautilusref17_Cut.f, pieceL] using this

/-! ### Changed -/
def zb (n : Nat) : ByteArray := ⟨(List.replicate n (0 : UInt8)).toArray⟩
theorem strz (n : Nat) : strOfNums (List.replicate n 0) = zb n := by simp [strOfNums, zb, List.map_replicate]
theorem zb_bl (n : Nat) : bl (zb n) = List.replicate n 0 := rfl
def fullV (s : ByteArray) (i : Nat) : ByteArray := if pieces s ≤ i then ⟨#[110, 111, 110, 101]⟩ else piece s i ++ zb (508 - (piece s i).size)
theorem pieceL_at (s : ByteArray) (i : Nat) (h : i < pieces s) : rdOf ByteArray.empty (pieceL s (pieces s)) (i : Int) = piece s i := by
  rw [rds _ _ (by simpa [pieceL] using h)]; simp [pieceL]
theorem full_f (s : ByteArray) (i : Nat) : nautilusref17_full.f (pieceL s (pieces s)) (i : Int) = some (fullV s i) := by
  unfold nautilusref17_full.f fullV
  have hl : (pieceL s (pieces s)).length = pieces s := by simp [pieceL]
  rw [hl]
  by_cases h : pieces s ≤ i
  · rw [if_pos (by omega), if_pos h]
  · have hp := piece_sz s i
    have e1 : wrap64 (508 - ((piece s i).size : Int)) = ((508 - (piece s i).size : Nat) : Int) := by rw [IntWalk.wrap64_in _ (by omega)]; omega
    rw [if_neg (by omega), if_neg h, if_pos (by omega), if_pos (by omega), pieceL_at s i (by omega), e1, if_pos (by omega), Int.toNat_natCast, if_pos (by omega), Option.bind_some, strz]
    rw [if_pos (by show (piece s i).size + (List.replicate _ (0 : UInt8)).toArray.size ≤ _; rw [List.size_toArray, List.length_replicate]; omega)]
theorem pad_eq (A B : List UInt8) (h : A.length ≤ B.length) (hB : B.length ≤ 508) : (A ++ List.replicate (508 - A.length) 0 = B ++ List.replicate (508 - B.length) 0) ↔ (A = B.take A.length ∧ (B.drop A.length).all (· == 0) = true) := by
  have e : (List.replicate (508 - A.length) (0 : UInt8)) = List.replicate (B.length - A.length) 0 ++ List.replicate (508 - B.length) 0 := by
    rw [List.replicate_append_replicate]; congr 1; omega
  rw [e, ← List.append_assoc]
  constructor
  · intro he
    have h1 := List.append_cancel_right he
    have h2 : B.take A.length = A := by rw [← h1]; simp
    have h3 : B.drop A.length = List.replicate (B.length - A.length) 0 := by
      conv => lhs; rw [← h1]
      simp
    refine ⟨h2.symm, ?_⟩
    rw [h3]; simp
  · rintro ⟨h1, h2⟩
    have h3 : B.drop A.length = List.replicate (B.length - A.length) 0 := by
      rw [List.eq_replicate_iff]
      refine ⟨by rw [List.length_drop], fun x hx => ?_⟩
      have := List.all_eq_true.1 h2 x hx
      simpa using this
    have h4 : A ++ List.replicate (B.length - A.length) 0 = B := by
      rw [← h3]
      conv => lhs; lhs; rw [h1]
      exact List.take_append_drop _ _
    rw [h4]
theorem same_pad (a b : ByteArray) (ha : a.size ≤ 508) (hb : b.size ≤ 508) : (a ++ zb (508 - a.size) = b ++ zb (508 - b.size)) ↔ sameB a b = true := by
  rw [sameB_eq]
  have key : (a ++ zb (508 - a.size) = b ++ zb (508 - b.size)) ↔ (bl a ++ List.replicate (508 - (bl a).length) 0 = bl b ++ List.replicate (508 - (bl b).length) 0) := by
    rw [bl_len, bl_len]
    constructor
    · intro h; have := congrArg bl h; rwa [bl_add, bl_add, zb_bl, zb_bl] at this
    · intro h; apply bl_inj; rw [bl_add, bl_add, zb_bl, zb_bl]; exact h
  rw [key]
  simp only [Bool.and_eq_true, beq_iff_eq]
  by_cases h : a.size ≤ b.size
  · rw [Nat.min_eq_left h, pad_eq (bl a) (bl b) (by rw [bl_len, bl_len]; exact h) (by rw [bl_len]; exact hb), bl_len]
    rw [List.take_of_length_le (l := bl a) (by rw [bl_len]; omega), List.drop_of_length_le (l := bl a) (by rw [bl_len]; omega)]
    simp
  · rw [Nat.min_eq_right (by omega), eq_comm, pad_eq (bl b) (bl a) (by rw [bl_len, bl_len]; omega) (by rw [bl_len]; exact ha), bl_len]
    rw [List.take_of_length_le (l := bl b) (by rw [bl_len]; omega), List.drop_of_length_le (l := bl b) (by rw [bl_len]; omega)]
    constructor
    · rintro ⟨h1, h2⟩; exact ⟨h1.symm, h2, by simp⟩
    · rintro ⟨h1, h2, _⟩; exact ⟨h1.symm, h2⟩
theorem full_diff (s t : ByteArray) (i : Nat) (hi : i < pieces t) : ((fullV s i).toList = (fullV t i).toList) ↔ diffB s t i = false := by
  have ht : fullV t i = piece t i ++ zb (508 - (piece t i).size) := if_neg (by omega)
  have hts := piece_sz t i
  have hss := piece_sz s i
  rw [ByteArray.toList_eq, ByteArray.toList_eq]
  have hbl : (fullV s i).data.toList = (fullV t i).data.toList ↔ fullV s i = fullV t i := ⟨fun h => bl_inj h, fun h => by rw [h]⟩
  rw [hbl]
  unfold diffB
  by_cases h : i < pieces s
  · have hs : fullV s i = piece s i ++ zb (508 - (piece s i).size) := if_neg (by omega)
    rw [hs, ht, same_pad _ _ (by omega) (by omega), decide_eq_true h]
    simp
  · have hs : fullV s i = ⟨#[110, 111, 110, 101]⟩ := if_pos (by omega)
    rw [hs, ht, decide_eq_false h]
    constructor
    · intro he
      exfalso
      have := congrArg ByteArray.size he
      rw [ByteArray.size_append] at this
      have z : (zb (508 - (piece t i).size)).size = 508 - (piece t i).size := by show (List.replicate _ (0 : UInt8)).toArray.size = _; rw [List.size_toArray, List.length_replicate]
      rw [z] at this
      have : (4 : Nat) = (piece t i).size + (508 - (piece t i).size) := this
      omega
    · intro he; simp at he
theorem refChanged_loop (s t : ByteArray) (ht : t.size ≤ 1000000000000) : ∀ d i k, i + d = pieces t → d < k →
    nautilusref17_Changed.l0 k (pieceL s (pieces s)) (pieceL t (pieces t)) ((diffL s t i).map fun k : Nat => (k : Int)) i = some ((diffL s t (pieces t)).map fun k : Nat => (k : Int))
  | 0, i, 0, _, h => by omega
  | 0, i, k + 1, hi, _ => by
    unfold nautilusref17_Changed.l0
    obtain rfl : i = pieces t := by omega
    rw [if_neg (by simp [pieceL])]
  | d + 1, i, 0, _, h => by omega
  | d + 1, i, k + 1, hi, h => by
    have hlt : i < pieces t := by omega
    have hpb : pieces t ≤ 1000000000000 := by unfold pieces; omega
    have hdl := diffL_le s t i
    unfold nautilusref17_Changed.l0
    rw [if_pos (by simp [pieceL]; omega), full_f, Option.bind_some, full_f, Option.bind_some, w64s i (by omega)]
    by_cases hd : diffB s t i = true
    · rw [if_neg (fun e => by rw [(full_diff s t i hlt).1 e] at hd; cases hd), if_pos (by rw [List.length_map]; omega)]
      have := refChanged_loop s t ht d (i + 1) k (by omega) (by omega)
      rw [diffL_yes s t i hd, List.map_append] at this
      exact this
    · have hd' : diffB s t i = false := by simpa using hd
      rw [if_pos ((full_diff s t i hlt).2 hd')]
      have := refChanged_loop s t ht d (i + 1) k (by omega) (by omega)
      rw [diffL_no s t i hd'] at this
      exact this
theorem refChanged_f (s t : ByteArray) (hs : s.size ≤ 1000000000000) (ht : t.size ≤ 1000000000000) (k : Nat) (hk1 : pieces s < k) (hk2 : pieces t < k) : nautilusref17_Changed.f k s t = some ((diffL s t (pieces t)).map fun k : Nat => (k : Int)) := by
  unfold nautilusref17_Changed.f
  rw [refCut_f s hs k hk1, Option.bind_some, refCut_f t ht k hk2, Option.bind_some]
  have := refChanged_loop s t ht (pieces t) 0 k (by omega) hk2
  simpa [diffL] using this

/-! ### Paste -/
def blocksV (n : Int) : Int := (n + 507) / 508
theorem blocks_f (n : Int) (h0 : 0 ≤ n) (h1 : n < 4294967296) : inode_Blocks.f n = some (blocksV n) := by
  unfold inode_Blocks.f blocksV
  rw [IntWalk.u64_in n (by omega), IntWalk.u64_in (n + 508) (by omega), IntWalk.u64_in (n + 508 - 1) (by omega), Int.tdiv_eq_ediv_of_nonneg (by omega), IntWalk.u64_in _ (by omega), IntWalk.wrap64_in _ (by omega)]
  congr 1; omega
theorem refBlocks_f (n : Int) (h0 : 0 ≤ n) (h1 : n < 4294967296) : nautilusref10_Blocks.f n = some (blocksV n) := by
  unfold nautilusref10_Blocks.f blocksV
  rw [IntWalk.u64_in n (by omega), Int.tmod_eq_emod_of_nonneg h0, Int.tdiv_eq_ediv_of_nonneg h0, IntWalk.u64_in (n / 508) (by omega)]
  by_cases h : n % 508 = 0
  · rw [if_pos h, IntWalk.wrap64_in _ (by omega)]; congr 1; omega
  · rw [if_neg h, IntWalk.u64_in (n / 508 + 1) (by omega), IntWalk.wrap64_in _ (by omega)]; congr 1; omega
def catB (l : List ByteArray) : ByteArray := ⟨(l.map bl).flatten.toArray⟩
theorem catB_bl (l : List ByteArray) : bl (catB l) = (l.map bl).flatten := by simp [catB]
theorem catB_next (l : List ByteArray) (i : Nat) (h : i < l.length) : catB (l.take (i + 1)) = catB (l.take i) ++ l[i] := by
  apply bl_inj
  rw [bl_add, catB_bl, catB_bl, List.take_succ_eq_append_getElem h, List.map_append, List.flatten_append]; simp
theorem joinTail_nil (r : List (List UInt8)) : Lib.joinTail [] r = r.flatten := by simp [Lib.joinTail]
theorem joinB_cat (l : List ByteArray) : joinB l ⟨#[]⟩ = catB l := by
  have : Lib.join (l.map bl) [] = (l.map bl).flatten := by
    cases l with
    | nil => rfl
    | cons x r => rw [List.map_cons, Lib.join_cons, joinTail_nil]; rfl
  apply bl_inj
  rw [catB_bl, ← this]
  simp [joinB]
theorem catB_size (l : List ByteArray) (m : Nat) (h : ∀ x ∈ l, x.size ≤ m) : (catB l).size ≤ l.length * m := by
  rw [← bl_len, catB_bl]
  induction l with
  | nil => simp
  | cons x xs ih =>
    have h1 := h x (by simp)
    have h2 := ih (fun y hy => h y (by simp [hy]))
    simp only [List.map_cons, List.flatten_cons, List.length_append, List.length_cons, bl_len]
    rw [Nat.add_mul]; omega
def okP (l : List ByteArray) (i : Nat) : Bool := !(decide (508 < (l.getD i ByteArray.empty).size)) && !(decide (i + 1 < l.length) && decide ((l.getD i ByteArray.empty).size < 508))
def okFrom (l : List ByteArray) (i : Nat) : Nat → Bool
  | 0 => true
  | d + 1 => okP l i && okFrom l (i + 1) d
def endP (s : ByteArray) (n : Int) : ByteArray × Int := if (s.size : Int) < n then (⟨#[]⟩, 154) else if bareV s n = true then (s.extract 0 n.toNat, 0) else (⟨#[]⟩, 154)
theorem vol_loop (l : List ByteArray) (n : Int) (hl : l.length ≤ 1000) (h0 : 0 ≤ n) (h1 : n ≤ 200000) : ∀ d i k, i + d = l.length → d < k → (∀ j, j < i → (l.getD j ByteArray.empty).size ≤ 508) →
    vol_Paste.l0 k l n l (l.length : Int) i = some (if okFrom l i d = true then endP (catB l) n else (⟨#[]⟩, 154))
  | 0, i, 0, _, h, _ => by omega
  | 0, i, k + 1, hi, _, hz => by
    have hcs := catB_size l 508 (fun x hx => by
      obtain ⟨j, hj, rfl⟩ := List.getElem_of_mem hx
      have := hz j (by omega)
      rwa [List.getD_eq_getElem?_getD, List.getElem?_eq_getElem hj] at this)
    have hjs : (joinB l ⟨#[]⟩).size ≤ 1000000000 := by rw [joinB_cat]; omega
    have hw : wrap64 n = n := IntWalk.wrap64_in _ (by omega)
    unfold vol_Paste.l0
    rw [if_neg (by omega)]
    unfold strings_Join.f
    rw [if_pos ⟨by omega, hjs⟩, Option.bind_some, joinB_cat, hw]
    rw [if_pos (show okFrom l i 0 = true from rfl)]
    unfold endP
    by_cases hs : ((catB l).size : Int) < n
    · rw [if_pos hs, if_pos hs]
    · rw [if_neg hs, if_neg hs, bare_f _ _ (by omega), Option.bind_some]
      by_cases hb : bareV (catB l) n = true
      · rw [if_pos hb, if_pos hb, if_pos h0, if_pos (by omega)]
      · rw [if_neg hb, if_neg hb]
  | d + 1, i, 0, _, h, _ => by omega
  | d + 1, i, k + 1, hi, h, hz => by
    have hlt : i < l.length := by omega
    have hw : wrap64 ((l.length : Int) - 1) = ((l.length - 1 : Nat) : Int) := by rw [IntWalk.wrap64_in _ (by omega)]; omega
    have hg : l.getD i ByteArray.empty = l[i] := by simp [hlt]
    unfold vol_Paste.l0
    rw [if_pos (by omega), if_pos (by omega), if_pos (by omega), rds l i hlt, hw, w64s i (by omega)]
    have hok : okFrom l i (d + 1) = (okP l i && okFrom l (i + 1) d) := rfl
    rw [hok]
    by_cases hb : 508 < l[i].size
    · have : okP l i = false := by unfold okP; rw [hg, decide_eq_true hb]; rfl
      rw [if_pos (by omega), this]; simp
    · have hnext := vol_loop l n hl h0 h1 d (i + 1) k (by omega) (by omega) (fun j hj => by
        by_cases e : j = i
        · subst e; rw [hg]; omega
        · exact hz j (by omega))
      rw [if_neg (by omega)]
      by_cases hc : i + 1 < l.length
      · rw [if_pos (by omega)]
        by_cases hd : l[i].size < 508
        · have : okP l i = false := by unfold okP; rw [hg, decide_eq_true hc, decide_eq_true hd, decide_eq_false hb]; rfl
          rw [if_pos (by omega), this]; simp
        · have : okP l i = true := by unfold okP; rw [hg, decide_eq_true hc, decide_eq_false hd, decide_eq_false hb]; rfl
          rw [if_neg (by omega), this, hnext]; simp
      · have : okP l i = true := by unfold okP; rw [hg, decide_eq_false hc, decide_eq_false hb]; rfl
        rw [if_neg (by omega), this, hnext]; simp
theorem ref_loop (l : List ByteArray) (n : Int) (hl : l.length ≤ 1000) (h0 : 0 ≤ n) (h1 : n ≤ 200000) : ∀ d i k, i + d = l.length → 600000 + d < k → (∀ j, j < i → (l.getD j ByteArray.empty).size ≤ 508) →
    nautilusref17_Paste.l0 k l n (catB (l.take i)) i = some (if okFrom l i d = true then endP (catB l) n else (⟨#[]⟩, 154))
  | 0, i, 0, _, h, _ => by omega
  | 0, i, k + 1, hi, hk, hz => by
    have hcs := catB_size l 508 (fun x hx => by
      obtain ⟨j, hj, rfl⟩ := List.getElem_of_mem hx
      have := hz j (by omega)
      rwa [List.getD_eq_getElem?_getD, List.getElem?_eq_getElem hj] at this)
    have hw : wrap64 n = n := IntWalk.wrap64_in _ (by omega)
    have ht : l.take i = l := List.take_of_length_le (by omega)
    unfold nautilusref17_Paste.l0
    rw [ht, if_neg (by omega), hw]
    rw [if_pos (show okFrom l i 0 = true from rfl)]
    unfold endP
    by_cases hs : ((catB l).size : Int) < n
    · rw [if_pos hs, if_pos hs]
    · rw [if_neg hs, if_neg hs, refBare_f _ _ (by omega) k (by omega), Option.bind_some]
      by_cases hb : bareV (catB l) n = true
      · rw [if_pos hb, if_pos hb, if_pos h0, if_pos (by omega)]
      · rw [if_neg hb, if_neg hb]
  | d + 1, i, 0, _, h, _ => by omega
  | d + 1, i, k + 1, hi, h, hz => by
    have hlt : i < l.length := by omega
    have hw : wrap64 ((l.length : Int) - 1) = ((l.length - 1 : Nat) : Int) := by rw [IntWalk.wrap64_in _ (by omega)]; omega
    have hg : l.getD i ByteArray.empty = l[i] := by simp [hlt]
    have hct := catB_size (l.take i) 508 (fun x hx => by
      obtain ⟨j, hj, rfl⟩ := List.getElem_of_mem hx
      rw [List.length_take] at hj
      have := hz j (by omega)
      rw [List.getElem_take]
      rwa [List.getD_eq_getElem?_getD, List.getElem?_eq_getElem (by omega)] at this)
    rw [List.length_take] at hct
    have hct2 : (catB (l.take i)).size ≤ 508000 := by
      have : min i l.length * 508 ≤ 1000 * 508 := Nat.mul_le_mul_right _ (by omega)
      omega
    unfold nautilusref17_Paste.l0
    rw [if_pos (by omega), if_pos (by omega), rds l i hlt, hw, w64s i (by omega)]
    have hok : okFrom l i (d + 1) = (okP l i && okFrom l (i + 1) d) := rfl
    rw [hok]
    by_cases hb : 508 < l[i].size
    · have : okP l i = false := by unfold okP; rw [hg, decide_eq_true hb]; rfl
      rw [if_pos (by omega), this]; simp
    · have hnext := ref_loop l n hl h0 h1 d (i + 1) k (by omega) (by omega) (fun j hj => by
        by_cases e : j = i
        · subst e; rw [hg]; omega
        · exact hz j (by omega))
      rw [catB_next l i hlt] at hnext
      rw [if_neg (by omega)]
      by_cases hc : i + 1 < l.length
      · rw [if_neg (by omega)]
        by_cases hd : l[i].size < 508
        · have : okP l i = false := by unfold okP; rw [hg, decide_eq_true hc, decide_eq_true hd, decide_eq_false hb]; rfl
          rw [if_neg (by omega), this]; simp
        · have : okP l i = true := by unfold okP; rw [hg, decide_eq_true hc, decide_eq_false hd, decide_eq_false hb]; rfl
          rw [if_pos (by omega), if_pos (by omega), this, hnext]; simp
      · have : okP l i = true := by unfold okP; rw [hg, decide_eq_false hc, decide_eq_false hb]; rfl
        rw [if_pos (by omega), if_pos (by omega), this, hnext]; simp
def pasteV (l : List ByteArray) (n : Int) : ByteArray × Int := if n > 200000 then (⟨#[]⟩, 154) else if (l.length : Int) ≠ blocksV n then (⟨#[]⟩, 154) else if okFrom l 0 l.length = true then endP (catB l) n else (⟨#[]⟩, 154)
theorem paste_f (l : List ByteArray) (n : Int) (hl : l.length ≤ 1000) (h0 : 0 ≤ n) (h1 : n < 4294967296) (k : Nat) (hk : 1002 ≤ k) : vol_Paste.f k l n = some (pasteV l n) := by
  obtain ⟨k, rfl⟩ : ∃ j, k = j + 1 := ⟨k - 1, by omega⟩
  unfold vol_Paste.f pasteV
  by_cases h : n > 200000
  · rw [if_pos h, if_pos h, vol_Paste.j0, if_pos rfl]
  · rw [if_neg h, if_neg h, blocks_f n h0 h1, Option.bind_some, vol_Paste.j0]
    by_cases hb : (l.length : Int) = blocksV n
    · have e : ((l.length : Int) != blocksV n) = false := by simp [hb]
      rw [e, if_neg (by decide), if_neg (not_not_intro hb)]
      exact vol_loop l n hl h0 (by omega) l.length 0 k (by omega) (by omega) (fun j hj => by omega)
    · have e : ((l.length : Int) != blocksV n) = true := by simp [hb]
      rw [e, if_pos rfl, if_pos hb]
theorem refPaste_f (l : List ByteArray) (n : Int) (hl : l.length ≤ 1000) (h0 : 0 ≤ n) (h1 : n < 4294967296) (k : Nat) (hk : 700000 ≤ k) : nautilusref17_Paste.f k l n = some (pasteV l n) := by
  obtain ⟨k, rfl⟩ : ∃ j, k = j + 1 := ⟨k - 1, by omega⟩
  unfold nautilusref17_Paste.f pasteV
  by_cases h : n > 200000
  · rw [if_pos h, if_pos h, nautilusref17_Paste.j0, if_pos rfl]
  · rw [if_neg h, if_neg h, refBlocks_f n h0 h1, Option.bind_some, nautilusref17_Paste.j0]
    by_cases hb : (l.length : Int) = blocksV n
    · have e : ((l.length : Int) != blocksV n) = false := by simp [hb]
      rw [e, if_neg (by decide), if_neg (not_not_intro hb)]
      have := ref_loop l n hl h0 (by omega) l.length 0 k (by omega) (by omega) (fun j hj => by omega)
      have hz : catB (l.take 0) = ⟨#[]⟩ := rfl
      rw [hz] at this
      exact this
    · have e : ((l.length : Int) != blocksV n) = true := by simp [hb]
      rw [e, if_pos rfl, if_pos hb]
end Go.Proofs.Ytpcokafalmafgaa.P
