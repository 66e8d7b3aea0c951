/- Plain laws on maps: what is laid. -/
import Derived.Test.YtpgdcpbbfphbiaaPBmB
namespace Go.Proofs.Ytpgdcpbbfphbiaa.P
open Go.RowKit Go.Proofs.Ytpgdcpbbfphbiaa.H Go.Proofs.Ytpgdcpbbfphbiaa.Q Go.Proofs.YtpgdcpbbfphbiaaW.PrintWords Go.Proofs.YtpgdcpbbfphbiaaW.PrintLast Go.Proofs.YtpgdcpbbfphbiaaW.PrintMore
set_option linter.unusedVariables false

/-! ### Sizes -/
theorem low_le (a : Int) (h : a ≤ 8193532) : low a ≤ 127 := by unfold low blk; omega
theorem dep_cases (a : Int) : (dep a = 0 ∧ blk a ≤ 6) ∨ (dep a = 1 ∧ 6 < blk a ∧ blk a ≤ 127) ∨ (dep a = 2 ∧ 127 < blk a) := by
  unfold dep
  by_cases h : blk a ≤ 6
  · rw [if_pos h]; exact .inl ⟨rfl, h⟩
  · rw [if_neg h]
    by_cases h2 : blk a ≤ 127
    · rw [if_pos h2]; exact .inr (.inl ⟨rfl, by omega, h2⟩)
    · rw [if_neg h2]; exact .inr (.inr ⟨rfl, by omega⟩)
theorem cnt_cases (a : Int) (h : a ≤ 8193532) : (dep a = 0 ∧ blk a ≤ 6 ∧ cnt a = 0) ∨ (dep a = 1 ∧ 6 < blk a ∧ blk a ≤ 127 ∧ cnt a = 1) ∨ (dep a = 2 ∧ 127 < blk a ∧ cnt a = low a + 1 ∧ 2 ≤ low a) := by
  unfold cnt
  rw [if_neg (by omega)]
  rcases dep_cases a with ⟨h1, h2⟩ | ⟨h1, h2, h3⟩ | ⟨h1, h2⟩
  · rw [h1]; exact .inl ⟨rfl, h2, by rw [if_neg (by omega)]⟩
  · rw [h1]; exact .inr (.inl ⟨rfl, h2, h3, by rw [if_neg (by omega)]⟩)
  · rw [h1, if_pos rfl]; exact .inr (.inr ⟨rfl, h2, rfl, by unfold low; omega⟩)
/-! ### What is laid -/
def goodLay (size : Int) (l ids : List Int) : Prop := size ≤ 8193532 ∧ (l.length : Int) = blk size ∧ (ids.length : Int) = cnt size ∧ (0 : Int) ∉ ids
instance (size : Int) (l ids : List Int) : Decidable (goodLay size l ids) := by unfold goodLay; exact inferInstance
def layOk (l ids : List Int) : LayR := if ids.length = 0 then (l.getD 0 0, l.getD 1 0, l.getD 2 0, l.getD 3 0, l.getD 4 0, l.getD 5 0, [], 0) else (ids.getD 0 0, 0, 0, 0, 0, 0, layN l ids (partN 127 l), 0)
theorem u32L_fine {l : List Int} (h : fineL l) : u32L l = true := List.all_eq_true.2 fun x hx => decide_eq_true (h x hx)
theorem lay_f (size : Int) (l ids : List Int) (h0 : 0 ≤ size) (h1 : size < 4294967296) (hl : l.length ≤ 100000) (hi : ids.length ≤ 100000) (fl : fineL l) (fi : fineL ids) : bmap_Lay.f size l ids = some (if goodLay size l ids then layOk l ids else layErr) := by
  unfold bmap_Lay.f
  by_cases c0 : size > 8193532
  · rw [if_pos c0, if_neg (show ¬ goodLay size l ids by unfold goodLay; omega)]
  rw [if_neg c0, blocksV_eq _ h0 h1, cntV_eq _ h0 h1]
  by_cases c1 : (l.length : Int) = blk size
  · rw [if_pos c1]
    by_cases c2 : (ids.length : Int) = cnt size
    · rw [if_pos c2, hasZ_f ids (by omega), Option.bind_some]
      by_cases c3 : (0 : Int) ∈ ids
      · rw [if_pos (decide_eq_true c3), if_neg (show ¬ goodLay size l ids by unfold goodLay; exact fun h => h.2.2.2 c3)]
      · rw [if_neg (by simp [c3]), if_pos (show goodLay size l ids from ⟨by omega, c1, c2, c3⟩)]
        have hc := cnt_cases size (by omega)
        have hlo := low_le size (by omega)
        unfold layGood layOk
        by_cases c4 : ids.length = 0
        · rw [if_pos c4, if_pos c4, if_pos (by omega)]
        · rw [if_neg c4, if_neg c4, if_pos ⟨by omega, by omega, u32L_fine fl, u32L_fine fi⟩]
    · rw [if_neg c2, if_neg (show ¬ goodLay size l ids by unfold goodLay; exact fun h => c2 h.2.2.1)]
  · rw [if_neg c1, if_neg (show ¬ goodLay size l ids by unfold goodLay; exact fun h => c1 h.2.1)]
theorem fine_of {l : List Int} (h : ∀ x ∈ l, (Lit.int .u32 x).wf = true) : fineL l := fun x hx => u32_wf (h x hx)
/-! ### Parts -/
theorem part_get (l : List Int) (k j : Nat) (h : 127 * k + j < l.length) (hj : j < 127) : ∃ hp : j < (partL 127 l k).length, (partL 127 l k)[j] = l[127 * k + j] := by
  have hp : j < (partL 127 l k).length := by rw [partL_len]; omega
  refine ⟨hp, ?_⟩
  simp only [partL, List.getElem_drop, List.getElem_take]
theorem parts_inj {a b : List Int} (hl : a.length = b.length) (h : ∀ k, k < partN 127 a → partL 127 a k = partL 127 b k) : a = b := by
  apply List.ext_getElem hl
  intro i h1 h2
  have hi : i = 127 * (i / 127) + i % 127 := by omega
  have hk : i / 127 < partN 127 a := (partN_lt (by omega) a _).2 (by omega)
  have e := h _ hk
  obtain ⟨p1, q1⟩ := part_get a (i / 127) (i % 127) (by omega) (by omega)
  obtain ⟨p2, q2⟩ := part_get b (i / 127) (i % 127) (by omega) (by omega)
  have e2 : (partL 127 a (i / 127))[i % 127] = (partL 127 b (i / 127))[i % 127]'(by rw [← e]; exact p1) := by simp only [e]
  rw [q1, q2] at e2
  simp only [← hi] at e2
  exact e2
theorem part_le (l : List Int) (k : Nat) : (partL 127 l k).length ≤ 127 := by rw [partL_len]; omega
theorem part_fine {l : List Int} (h : fineL l) (k : Nat) : fineL (partL 127 l k) := fun x hx => h x (List.mem_of_mem_take (List.mem_of_mem_drop hx))
theorem pad_inj {p q : List Int} (h : p.length = q.length) (e : padL p = padL q) : p = q := (List.append_inj e h).1
theorem layN_inj {a b ids : List Int} (hl : a.length = b.length) (fa : fineL a) (fb : fineL b) (e : layN a ids (partN 127 a) = layN b ids (partN 127 b)) : a = b := by
  have hn : partN 127 b = partN 127 a := by unfold partN; rw [hl]
  rw [hn] at e
  have e2 := List.append_cancel_left e
  rw [List.map_inj_left] at e2
  refine parts_inj hl fun k hk => ?_
  have e3 := e2 k (List.mem_range.2 hk)
  exact pad_inj (by rw [partL_len, partL_len, hl]) (blk_inj (part_le a k) (part_le b k) (part_fine fa k) (part_fine fb k) e3)
theorem get6_inj {a b : List Int} (hl : a.length = b.length) (h6 : a.length ≤ 6) (e0 : a.getD 0 0 = b.getD 0 0) (e1 : a.getD 1 0 = b.getD 1 0) (e2 : a.getD 2 0 = b.getD 2 0) (e3 : a.getD 3 0 = b.getD 3 0) (e4 : a.getD 4 0 = b.getD 4 0) (e5 : a.getD 5 0 = b.getD 5 0) : a = b := by
  apply List.ext_getElem hl
  intro i h1 h2
  have q (i : Nat) (h1 : i < a.length) (h2 : i < b.length) (e : a.getD i 0 = b.getD i 0) : a[i] = b[i] := by simpa [h1, h2] using e
  match i, h1, h2 with
  | 0, h1, h2 => exact q 0 h1 h2 e0
  | 1, h1, h2 => exact q 1 h1 h2 e1
  | 2, h1, h2 => exact q 2 h1 h2 e2
  | 3, h1, h2 => exact q 3 h1 h2 e3
  | 4, h1, h2 => exact q 4 h1 h2 e4
  | 5, h1, h2 => exact q 5 h1 h2 e5
  | n + 6, h1, h2 => omega
/-- A map has as many blocks as it should. -/
theorem lay_len {size : Int} {l ids : List Int} (h : goodLay size l ids) (hi : ids.length ≠ 0) : (layN l ids (partN 127 l)).length = ids.length := by
  obtain ⟨g1, g2, g3, g4⟩ := h
  rw [layN_len]
  have hp : (partN 127 l : Int) = low size := by unfold partN low; rw [← g2]; omega
  rcases cnt_cases size g1 with ⟨d, b, c⟩ | ⟨d, b1, b2, c⟩ | ⟨d, b, c, c2⟩
  · omega
  · have : topB ids = [] := by unfold topB; rw [if_neg (by omega)]
    rw [this]
    have : low size = 1 := by unfold low; omega
    simp; omega
  · have : topB ids = [blkB (ids.drop 1)] := by unfold topB; rw [if_pos (by omega)]
    rw [this]
    simp; omega
theorem filter_pos {t : List Int} (hp : ∀ x ∈ t, 0 < x) : (padL t).filter (fun x => decide (0 < x)) = t := by
  unfold padL
  rw [List.filter_append, List.filter_eq_self.2 (fun x hx => decide_eq_true (hp x hx)), List.filter_eq_nil_iff.2 (fun x hx => by rw [List.eq_of_mem_replicate hx]; decide), List.append_nil]
/-- The numbers of the lower blocks, out of their block. -/
theorem below_blk (size : Int) (t : List Int) (h0 : 0 ≤ size) (h1 : size < 4294967296) (hs : size ≤ 8193532) (hd : dep size = 2) (ht : (t.length : Int) = low size) (ft : fineL t) (hp : ∀ x ∈ t, 0 < x) : bmap_Below.f size (blkB t) = some (t, 0) := by
  have h127 : t.length ≤ 127 := by have := low_le size hs; omega
  have hn := numsN_blk t h127 ft
  have hb : (List.range 127).any (badAt (blkB t) (low size)) = false := by
    rw [List.any_eq_false]
    intro k hk
    have hk := List.mem_range.1 hk
    have e : tkN (blkB t) k = (padL t)[k]'(by rw [padL_len t h127]; exact hk) := by
      rw [← numsN_get (blkB t) 127 k (by rw [numsN_len]; exact hk)]
      simp only [hn]
    unfold badAt
    rw [e]
    unfold padL
    by_cases hkt : k < t.length
    · rw [List.getElem_append_left hkt, decide_eq_true (hp _ (List.getElem_mem hkt)), decide_eq_true (by omega)]; decide
    · rw [List.getElem_append_right (by omega), List.getElem_replicate, decide_eq_false (by omega : ¬ (0 : Int) < 0), decide_eq_false (by omega)]; decide
  unfold bmap_Below.f
  rw [if_neg (by omega), depV_eq _ h0 h1, if_pos hd, if_pos (blkB_size t h127), if_pos (okN_all _ (blkB_size t h127)), lowV_eq _ h0 h1, hb, if_neg (by decide)]
  unfold outK
  rw [hn, filter_pos hp]
theorem pos_of {ids : List Int} (h : (0 : Int) ∉ ids) (f : fineL ids) : ∀ x ∈ ids, 0 < x := fun x hx => by
  have := f x hx
  have : x ≠ 0 := fun e => h (e ▸ hx)
  omega
theorem part_whole (l : List Int) (h : l.length ≤ 127) : partL 127 l 0 = l := by
  unfold partL
  rw [List.take_of_length_le (by omega)]; rfl
end Go.Proofs.Ytpgdcpbbfphbiaa.P
