/- Plain laws on maps: what is joined is laid so again. -/
import Derived.Test.YtpgdcpbbfphbiaaPBmD
namespace Go.Proofs.Ytpgdcpbbfphbiaa.P
open Go.RowKit Go.Proofs.Ytpgdcpbbfphbiaa.H Go.Proofs.Ytpgdcpbbfphbiaa.Q Go.Proofs.YtpgdcpbbfphbiaaW.PrintWords Go.Proofs.YtpgdcpbbfphbiaaW.PrintLast Go.Proofs.YtpgdcpbbfphbiaaW.PrintMore
set_option linter.unusedVariables false

theorem zeros_of {l : List Int} (fl : fineL l) (h : l.any (fun x => decide (x > 0)) = false) : l = List.replicate l.length 0 := by
  rw [List.eq_replicate_iff]
  refine ⟨rfl, fun x hx => ?_⟩
  have h1 := fl x hx
  have h2 := List.any_eq_false.1 h x hx
  simp only [decide_eq_true_eq] at h2
  omega
theorem fine_sub {l m : List Int} (h : fineL m) (hs : ∀ x ∈ l, x ∈ m) : fineL l := fun x hx => h x (hs x hx)
theorem take_pad (l : List Int) (n : Nat) (hl : l.length = 127) (fl : fineL l) (hn : n ≤ 127) (hz : (l.drop n).any (fun x => decide (x > 0)) = false) : padL (l.take n) = l := by
  have hd := zeros_of (fine_sub fl fun x hx => List.mem_of_mem_drop hx) hz
  rw [List.length_drop, hl] at hd
  unfold padL
  rw [List.length_take, show min n l.length = n by omega, ← hd, List.take_append_drop]
theorem blkB_nums (b : ByteArray) (hs : b.size = 508) (l : List Int) (h : l.length ≤ 127) (e : padL l = numsN b 127) : blkB l = b := by rw [blkB_eq l h, e, nums_bytes b hs]
theorem joinL_ok : ∀ (bs : List ByteArray) (out r : List Int), joinL bs out = some (r, 0) → (∀ b ∈ bs, b.size = 508) ∧ r = out ++ (bs.map fun b => numsN b 127).flatten
  | [], out, r, h => by
    rw [joinL] at h
    simp only [Option.some.injEq, Prod.mk.injEq, and_true] at h
    exact ⟨by simp, by simp [h]⟩
  | b :: bs, out, r, h => by
    by_cases hs : b.size = 508
    · rw [joinL_cons b hs] at h
      obtain ⟨h1, h2⟩ := joinL_ok bs _ r h
      refine ⟨fun c hc => ?_, by rw [h2]; simp⟩
      rcases List.mem_cons.1 hc with rfl | hc
      · exact hs
      · exact h1 c hc
    · rw [joinL, numbers_f, Option.bind_some, if_neg hs, if_neg (by decide)] at h
      simp at h
theorem end_ok {many : Int} {l w : List Int} {e : Int} (h0 : 0 ≤ many) (h : joinEnd many (l, e) = some (w, 0)) (hle : e = 0 → many ≤ (l.length : Int)) : e = 0 ∧ w = l.take many.toNat ∧ (l.drop many.toNat).any (fun x => decide (x > 0)) = false := by
  by_cases he : e = 0
  · subst he
    rw [end_f many l ⟨h0, hle rfl⟩] at h
    split at h
    · simp at h
    · rename_i hn
      simp only [Option.some.injEq, Prod.mk.injEq, and_true] at h
      exact ⟨rfl, h.symm, by simpa using hn⟩
  · unfold joinEnd at h
    rw [if_neg he] at h
    simp only [Option.some.injEq, Prod.mk.injEq] at h
    exact absurd h.2 he
theorem flat_inj : ∀ (A B : List (List Int)), (∀ a ∈ A, a.length = 127) → (∀ b ∈ B, b.length = 127) → A.flatten = B.flatten → A = B
  | [], [], _, _, _ => rfl
  | [], b :: B, _, hb, h => by
    have := hb b (by simp)
    have e := congrArg List.length h
    simp only [List.flatten_nil, List.flatten_cons, List.length_append, List.length_nil] at e
    omega
  | a :: A, [], ha, _, h => by
    have := ha a (by simp)
    have e := congrArg List.length h
    simp only [List.flatten_nil, List.flatten_cons, List.length_append, List.length_nil] at e
    omega
  | a :: A, b :: B, ha, hb, h => by
    simp only [List.flatten_cons] at h
    obtain ⟨h1, h2⟩ := List.append_inj h (by rw [ha a (by simp), hb b (by simp)])
    rw [h1, flat_inj A B (fun x hx => ha x (by simp [hx])) (fun x hx => hb x (by simp [hx])) h2]
theorem flat_len (A : List (List Int)) (h : ∀ a ∈ A, a.length = 127) : A.flatten.length = 127 * A.length := by
  induction A with
  | nil => rfl
  | cons a A ih =>
    simp only [List.flatten_cons, List.length_append, List.length_cons]
    rw [h a (by simp), ih (fun x hx => h x (by simp [hx]))]; omega
/-- What the top's numbers are, where it is right. -/
theorem below_ok (size : Int) (b : ByteArray) (xl : List Int) (h0 : 0 ≤ size) (h1 : size < 4294967296) (h : bmap_Below.f size b = some (xl, 0)) :
    b.size = 508 ∧ padL xl = numsN b 127 ∧ (xl.length : Int) = low size ∧ (∀ x ∈ xl, 0 < x ∧ x < 4294967296) := by
  unfold bmap_Below.f at h
  by_cases c0 : size > 8193532
  · rw [if_pos c0] at h; simp at h
  rw [if_neg c0, depV_eq _ h0 h1] at h
  by_cases c1 : dep size = 2
  · rw [if_pos c1] at h
    by_cases c2 : b.size = 508
    · rw [if_pos c2, if_pos (okN_all b c2), lowV_eq _ h0 h1] at h
      by_cases c3 : (List.range 127).any (badAt b (low size)) = true
      · rw [if_pos c3] at h; simp at h
      · rw [if_neg c3] at h
        simp only [Option.some.injEq, Prod.mk.injEq, and_true] at h
        have hlo := low_le size (by omega)
        have hl0 : 0 ≤ low size := by unfold low blk; omega
        obtain ⟨n, hn⟩ := Int.eq_ofNat_of_zero_le hl0
        have hlen : (numsN b 127).length = 127 := numsN_len b 127
        have hget : ∀ k (hk : k < 127), decide (0 < tkN b k) = decide ((k : Int) < low size) := by
          intro k hk
          have q := List.any_eq_false.1 (by simpa using c3) k (List.mem_range.2 hk)
          unfold badAt at q
          simpa using q
        have hfine := numsN_range b c2
        have hpos : ∀ x ∈ (numsN b 127).take n, 0 < x := by
          intro x hx
          obtain ⟨k, hk, rfl⟩ := List.mem_iff_getElem.1 hx
          rw [List.length_take] at hk
          rw [List.getElem_take, numsN_get]
          have := hget k (by omega)
          rw [decide_eq_true (show (k : Int) < low size by omega)] at this
          exact of_decide_eq_true this
        have hnp : ∀ x ∈ (numsN b 127).drop n, ¬ 0 < x := by
          intro x hx
          obtain ⟨k, hk, rfl⟩ := List.mem_iff_getElem.1 hx
          rw [List.length_drop] at hk
          rw [List.getElem_drop, numsN_get]
          have := hget (n + k) (by omega)
          rw [decide_eq_false (show ¬ (((n + k : Nat) : Int) < low size) by omega)] at this
          exact of_decide_eq_false this
        have hxl : xl = (numsN b 127).take n := by
          rw [← h]
          unfold outK
          conv => lhs; rw [← List.take_append_drop n (numsN b 127)]
          rw [List.filter_append, List.filter_eq_self.2 (fun x hx => decide_eq_true (hpos x hx)), List.filter_eq_nil_iff.2 (fun x hx => by simpa using hnp x hx), List.append_nil]
        refine ⟨c2, ?_, ?_, ?_⟩
        · rw [hxl]
          refine take_pad _ n hlen hfine (by omega) ?_
          rw [List.any_eq_false]
          intro x hx
          simpa using hnp x hx
        · rw [hxl, List.length_take]; omega
        · intro x hx
          rw [hxl] at hx
          exact ⟨hpos x hx, (hfine x (List.mem_of_mem_take hx)).2⟩
    · rw [if_neg c2] at h; simp at h
  · rw [if_neg c1] at h; simp at h
/-! ### What is joined is laid so again -/
theorem fine_one {x : Int} (h0 : 0 ≤ x) (h1 : x < 4294967296) : fineL [x] := fun y hy => by rw [show y = x by simpa using hy]; exact ⟨h0, h1⟩
theorem zeroTail {m1 m2 m3 m4 m5 : Int} (h : (m1 == 0 && (m2 == 0 && (m3 == 0 && (m4 == 0 && m5 == 0)))) = true) : m1 = 0 ∧ m2 = 0 ∧ m3 = 0 ∧ m4 = 0 ∧ m5 = 0 := by
  simp only [Bool.and_eq_true, beq_iff_eq] at h
  exact h
theorem none_zero {l : List Int} {n : Nat} (fl : fineL l) (h : noneF l n = true) : ∀ i (hi : i < l.length), n ≤ i → l[i] = 0 := by
  intro i hi hn
  unfold noneF at h
  have h1 := List.all_eq_true.1 h l[i] (List.mem_iff_getElem.2 ⟨i - n, by rw [List.length_drop]; omega, by rw [List.getElem_drop]; congr 1; omega⟩)
  have h2 := fl _ (List.getElem_mem hi)
  simp only [Bool.not_eq_true', decide_eq_false_iff_not] at h1
  omega
theorem take_get {l : List Int} {n : Nat} (h : ∀ i (hi : i < l.length), n ≤ i → l[i] = 0) (i : Nat) (hi : i < l.length) : (l.take n).getD i 0 = l[i] := by
  rw [List.getD_eq_getElem?_getD, List.getElem?_take]
  by_cases hin : i < n
  · rw [if_pos hin, List.getElem?_eq_getElem hi]; rfl
  · rw [if_neg hin, h i hi (by omega)]; rfl
/-- The map of a file's numbers, with the numbers of its blocks. -/
def ownOf (size m0 : Int) (bs : List ByteArray) (ids : List Int) : Prop :=
  (bs.length = 0 ∧ ids = []) ∨ (bs.length = 1 ∧ ids = [m0]) ∨ (1 < bs.length ∧ ∃ xl, bmap_Below.f size (bs.getD 0 ByteArray.empty) = some (xl, 0) ∧ ids = [m0] ++ xl)
theorem lay_join (size m0 m1 m2 m3 m4 m5 : Int) (bs : List ByteArray) (w : List Int) (h0 : 0 ≤ size) (h1 : size < 4294967296) (fm : fineL [m0, m1, m2, m3, m4, m5]) (hb : bs.length ≤ 1000)
    (h : bmap_Join.f size m0 m1 m2 m3 m4 m5 bs = some (w, 0)) : ∃ ids, ownOf size m0 bs ids ∧ ids.length ≤ 1000 ∧ fineL ids ∧ w.length ≤ 100000 ∧ fineL w ∧ goodLay size w ids ∧ layOk w ids = (m0, m1, m2, m3, m4, m5, bs, 0) := by
  unfold bmap_Join.f at h
  rw [right_f size _ _ _ _ _ _ h0 h1, Option.bind_some] at h
  by_cases hsn : ¬ size ≤ 8193532
  · rw [if_neg hsn, if_neg (by decide)] at h; simp at h
  have hs : size ≤ 8193532 := Decidable.not_not.1 hsn
  rw [if_pos hs] at h
  cases hm : mapOk size m0 m1 m2 m3 m4 m5 with
  | false => rw [hm, if_neg (by decide)] at h; simp at h
  | true =>
    rw [hm, if_pos rfl, cntV_eq _ h0 h1] at h
    by_cases hcn : ¬ (bs.length : Int) = cnt size
    · rw [if_neg hcn] at h; simp at h
    have hc : (bs.length : Int) = cnt size := Decidable.not_not.1 hcn
    rw [if_pos hc, if_pos hb] at h
    have hbk := blk_range size h0 h1
    have hlo := low_le size hs
    unfold joinGood at h
    rw [depV_eq _ h0 h1, blocksV_eq _ h0 h1] at h
    unfold mapOk at hm
    obtain ⟨n, hn⟩ := Int.eq_ofNat_of_zero_le hbk.1
    rcases cnt_cases size hs with ⟨d, b1, c⟩ | ⟨d, b1, b2, c⟩ | ⟨d, b1, c, c2⟩
    · rw [d, if_neg (by decide)] at h hm
      obtain rfl : bs = [] := List.eq_nil_of_length_eq_zero (by omega)
      rw [joinL, Option.bind_some] at h
      obtain ⟨_, hw, hz⟩ := end_ok hbk.1 h (fun _ => by simp; omega)
      rw [hn, Int.toNat_natCast] at hm hw
      have hg := take_get (none_zero fm hm)
      have hwl : w.length = n := by rw [hw, List.length_take]; simp; omega
      refine ⟨[], .inl ⟨rfl, rfl⟩, by simp, fun x hx => by simp at hx, by omega, fun x hx => fm x (by rw [hw] at hx; exact List.mem_of_mem_take hx), ⟨hs, by omega, by rw [c]; rfl, by simp⟩, ?_⟩
      unfold layOk
      rw [if_pos (show ([] : List Int).length = 0 from rfl), hw]
      rw [hg 0 (by simp), hg 1 (by simp), hg 2 (by simp), hg 3 (by simp), hg 4 (by simp), hg 5 (by simp)]
      rfl
    · rw [d, if_pos (by decide), if_neg (by decide)] at h
      rw [d, if_pos (by decide)] at hm
      by_cases hm0 : m0 > 0
      case neg => rw [if_neg hm0] at hm; simp at hm
      rw [if_pos hm0] at hm
      obtain ⟨rfl, rfl, rfl, rfl, rfl⟩ := zeroTail hm
      obtain ⟨b, rfl⟩ : ∃ b, bs = [b] := by
        match bs, hc with
        | [b], _ => exact ⟨b, rfl⟩
        | [], hc => rw [c] at hc; simp at hc
        | _ :: _ :: _, hc => rw [c] at hc; simp at hc; omega
      obtain ⟨⟨r, re⟩, hr, h2⟩ := Option.bind_eq_some_iff.1 h
      obtain ⟨q, q1, q2⟩ := joinL_tot [b] []
      rw [hr] at q1
      obtain rfl := Option.some.inj q1
      obtain ⟨he, hw, hz⟩ := end_ok hbk.1 h2 (fun e => by have := q2 e; simp at this; omega)
      subst he
      obtain ⟨hsz, hr2⟩ := joinL_ok [b] [] r hr
      have hsb := hsz b (by simp)
      have hr3 : r = numsN b 127 := by rw [hr2]; simp
      rw [hn, Int.toNat_natCast] at hw hz
      rw [hr3] at hw hz
      have hwl : w.length = n := by rw [hw, List.length_take, numsN_len]; omega
      have hp := take_pad (numsN b 127) n (numsN_len b 127) (numsN_range b hsb) (by omega) hz
      rw [← hw] at hp
      have hf0 := fm m0 (by simp)
      refine ⟨[m0], .inr (.inl ⟨rfl, rfl⟩), by simp, fine_one hf0.1 hf0.2, by omega, fun x hx => numsN_range b hsb x (by rw [hw] at hx; exact List.mem_of_mem_take hx), ⟨hs, by omega, by rw [c]; rfl, by simp; omega⟩, ?_⟩
      have hlay : layN w [m0] (partN 127 w) = [b] := by
        unfold layN topB
        rw [if_neg (by simp), show partN 127 w = 1 by unfold partN; omega, List.nil_append]
        show [blkB (partL 127 w 0)] = _
        rw [part_whole w (by omega), blkB_nums b hsb w (by omega) hp]
      unfold layOk
      rw [if_neg (by simp), hlay]
      rfl
    · rw [d, if_pos (by decide), if_pos rfl] at h
      rw [d, if_pos (by decide)] at hm
      by_cases hm0 : m0 > 0
      case neg => rw [if_neg hm0] at hm; simp at hm
      rw [if_pos hm0] at hm
      obtain ⟨rfl, rfl, rfl, rfl, rfl⟩ := zeroTail hm
      obtain ⟨top, rest, rfl⟩ : ∃ top rest, bs = top :: rest := by
        match bs, hc with
        | b :: r, _ => exact ⟨b, r, rfl⟩
        | [], hc => rw [c] at hc; simp at hc; omega
      rw [List.length_cons] at hc
      rw [if_neg (by simp)] at h
      obtain ⟨⟨xl, xe⟩, hbe, h3⟩ := Option.bind_eq_some_iff.1 h
      by_cases hxe : xe = 0
      case neg => rw [if_neg hxe] at h3; simp only [Option.some.injEq, Prod.mk.injEq] at h3; exact absurd h3.2 hxe
      subst hxe
      rw [if_pos rfl] at h3
      have hbe2 : bmap_Below.f size top = some (xl, 0) := hbe
      obtain ⟨t1, t2, t3, t4⟩ := below_ok size top xl h0 h1 hbe2
      obtain ⟨⟨r, re⟩, hr, h2⟩ := Option.bind_eq_some_iff.1 h3
      replace hr : joinL rest [] = some (r, re) := hr
      obtain ⟨q, q1, q2⟩ := joinL_tot rest []
      rw [hr] at q1
      obtain rfl := Option.some.inj q1
      have hlowd : low size = (blk size + 126) / 127 := rfl
      obtain ⟨he, hw, hz⟩ := end_ok hbk.1 h2 (fun e => by have := q2 e; simp at this; omega)
      subst he
      obtain ⟨hsz, hr2⟩ := joinL_ok rest [] r hr
      rw [List.nil_append] at hr2
      rw [hn, Int.toNat_natCast] at hw hz
      have hrl : r.length = 127 * rest.length := by have := q2 rfl; simpa using this
      have hfr : fineL r := fun x hx => by
        rw [hr2] at hx
        obtain ⟨l, hl, hxl⟩ := List.mem_flatten.1 hx
        obtain ⟨b, hb2, rfl⟩ := List.mem_map.1 hl
        exact numsN_range b (hsz b hb2) x hxl
      have hwl : w.length = n := by rw [hw, List.length_take]; omega
      have hfw : fineL w := fun x hx => hfr x (by rw [hw] at hx; exact List.mem_of_mem_take hx)
      have hpn : partN 127 w = rest.length := by unfold partN; omega
      obtain ⟨z, hfa⟩ := flat_all w (by omega)
      have hdz := zeros_of (fine_sub hfr fun x hx => List.mem_of_mem_drop hx) hz
      have hA : ∀ a ∈ (List.range (partN 127 w)).map (fun j => padL (partL 127 w j)), a.length = 127 := by
        intro a ha
        obtain ⟨j, _, rfl⟩ := List.mem_map.1 ha
        exact padL_len _ (part_le w j)
      have hB : ∀ a ∈ rest.map (fun b => numsN b 127), a.length = 127 := by
        intro a ha
        obtain ⟨b, _, rfl⟩ := List.mem_map.1 ha
        exact numsN_len b 127
      have hlz : z = r.length - n := by
        have e := flat_len _ hA
        rw [hfa, List.length_append, List.length_replicate, List.length_map, List.length_range] at e
        omega
      have heq : ((List.range (partN 127 w)).map fun j => padL (partL 127 w j)).flatten = (rest.map fun b => numsN b 127).flatten := by
        rw [hfa, ← hr2, hlz]
        conv => rhs; rw [← List.take_append_drop n r]
        rw [hdz, List.length_drop, ← hw]
      have hAB := flat_inj _ _ hA hB heq
      have hparts : ((List.range (partN 127 w)).map fun j => blkB (partL 127 w j)) = rest := by
        apply List.ext_getElem
        · rw [List.length_map, List.length_range, hpn]
        · intro i q1 q2
          rw [List.getElem_map, List.getElem_range]
          have e : (((List.range (partN 127 w)).map fun j => padL (partL 127 w j))[i]'(by rw [List.length_map, List.length_range]; omega)) = ((rest.map fun b => numsN b 127)[i]'(by rw [List.length_map]; exact q2)) := by simp only [hAB]
          rw [List.getElem_map, List.getElem_range, List.getElem_map] at e
          exact blkB_nums _ (hsz _ (List.getElem_mem q2)) _ (part_le w i) e
      have hf0 := fm m0 (by simp)
      have hfi : fineL ([m0] ++ xl) := fun x hx => by
        rcases List.mem_append.1 hx with hx | hx
        · exact fine_one hf0.1 hf0.2 x hx
        · have := t4 x hx; omega
      have hn0 : (0 : Int) ∉ [m0] ++ xl := fun hx => by
        rcases List.mem_append.1 hx with hx | hx
        · have : (0 : Int) = m0 := by simpa using hx
          omega
        · have := t4 0 hx; omega
      refine ⟨[m0] ++ xl, .inr (.inr ⟨by rw [List.length_cons]; omega, xl, hbe, rfl⟩), by rw [List.length_append, List.length_singleton]; omega, hfi, by omega, hfw, ⟨hs, by omega, by rw [List.length_append, List.length_singleton]; omega, hn0⟩, ?_⟩
      have hlay : layN w ([m0] ++ xl) (partN 127 w) = top :: rest := by
        unfold layN topB
        rw [if_pos (by rw [List.length_append, List.length_singleton]; omega), hparts]
        show [blkB xl] ++ rest = _
        rw [blkB_nums top t1 xl (by omega) t2]; rfl
      unfold layOk
      rw [if_neg (by simp), hlay]
      rfl
end Go.Proofs.Ytpgdcpbbfphbiaa.P
