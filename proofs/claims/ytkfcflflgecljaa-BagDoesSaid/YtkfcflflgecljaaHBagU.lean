/- Put, in plain words: what is to be brought about below a node, so that the whole is right. -/
import Derived.Test.YtkfcflflgecljaaHBagV
set_option linter.unusedVariables false
namespace Go.Proofs.Ytkfcflflgecljaa.H
open Go.RowKit
variable {α : Type}
def Goal (H : HP α) (d1 a0 : Nat) (es' : List (Int × α)) : Prop := ∃ t2, Ok H d1 0 t2 ∧ (fp d1 t2).Nodup ∧ t2.a = a0 ∧ (d1 ≠ 0 → 1 ≤ t2.es.length) ∧ ents d1 t2 = es'
structure Down (H : HP α) (d1 a0 : Nat) (at_ : Int) (v : α) (es0 : List (Int × α)) (e : Nat) (s : Tr α) : Prop where
  ok : Ok H e 0 s
  nodup : (fp e s).Nodup
  rise : Rise (ents e s)
  get : getL at_ (ents e s) = getL at_ es0
  ctx : ∀ (H2 : HP α) (s' : Tr α), Rep H H2 e s.es.length s s' → ents e s' = insL at_ v (ents e s) → Goal H2 d1 a0 (insL at_ v es0)
theorem Down.start {H : HP α} {d : Nat} {t : Tr α} (at_ : Int) (v : α) (h : Ok H d 0 t) (hn : (fp d t).Nodup) (hr : Rise (ents d t)) (h1 : d ≠ 0 → 1 ≤ t.es.length) : Down H d t.a at_ v (ents d t) d t :=
  ⟨h, hn, hr, rfl, fun H2 s' r e => ⟨s', r.ok.low (Nat.zero_le _), r.nodup, r.addr, fun hd => by have := r.ok.lo; have := h1 hd; omega, e⟩⟩
theorem Down.kid {H : HP α} {d1 a0 e : Nat} {at_ : Int} {v : α} {es0 : List (Int × α)} {s k : Tr α} {L R : List (Int × α)} {A B : List (Tr α)} (h : Down H d1 a0 at_ v es0 (e + 1) s) (he : s.es = L ++ R) (hs : s.ks = A ++ k :: B) (hA : A.length = L.length) (hB : B.length = R.length)
    (hL : ∀ x ∈ L, x.1 < at_) (hR : ∀ y ∈ R, at_ < y.1) : Down H d1 a0 at_ v es0 e k := by
  have hk := ents_kid e s L R A B k he hs hA hB
  have hri := h.rise
  rw [hk] at hri
  obtain ⟨hr1, hr2, _⟩ := rise_append.1 hri
  obtain ⟨hr3, hr4, _⟩ := rise_append.1 hr1
  have hkok := h.ok.2.2.2.2 k (by rw [hs]; simp)
  have hP := pre_lt L _ at_ hr3 hL
  have hQ := post_gt R _ at_ hr2 hR
  refine ⟨hkok.low (Nat.zero_le _), (nodup_parts.1 (by have := h.nodup; rw [fp_split e s A B k hs] at this; exact this)).2.2.2.2.1, hr4, ?_, fun H2 k' r hen => ?_⟩
  · rw [← h.get, hk, getL_mid at_ _ _ _ hP hQ]
  · refine h.ctx H2 _ (Rep.kid (h.ok.low (Nat.le_refl _)) h.nodup hs (r.lower (by have := r.ok.lo; have := hkok.lo; omega))) ?_
    rw [ents_kid e (Tr.mk s.a s.es (A ++ k' :: B)) L R A B k' he rfl hA hB, hen, hk, insL_mid at_ v _ _ _ hP hQ]
theorem Down.turn {H H2 : HP α} {d1 a0 e lo : Nat} {at_ : Int} {v : α} {es0 : List (Int × α)} {s s2 : Tr α} (h : Down H d1 a0 at_ v es0 e s) (r : Rep H H2 e lo s s2) (hl : s.es.length ≤ s2.es.length) (hen : ents e s2 = ents e s) : Down H2 d1 a0 at_ v es0 e s2 :=
  ⟨r.ok.low (Nat.zero_le _), r.nodup, by rw [hen]; exact h.rise, by rw [hen]; exact h.get, fun H3 s3 r3 h3 => h.ctx H3 s3 ((r.trans r3).lower (by have := r3.ok.lo; omega)) (by rw [h3, hen])⟩
/-- It was there: it turns. -/
theorem Down.here {H H2 : HP α} {d1 a0 e : Nat} {at_ : Int} {u v : α} {es0 : List (Int × α)} {s : Tr α} {L R : List (Int × α)} (h : Down H d1 a0 at_ v es0 e s) (he : s.es = L ++ (at_, u) :: R) (hL : ∀ x ∈ L, x.1 < at_)
    (hr : H2 s.a = some ⟨s.es.map Prod.fst, (s.es.map Prod.snd).set L.length v, s.ks.map Tr.a⟩) (ho : ∀ c, c ≠ s.a → H2 c = H c) : Goal H2 d1 a0 (insL at_ v es0) ∧ getL at_ es0 = some u := by
  cases e with
  | zero =>
    have hks : s.ks = [] := h.ok.2.1
    have h7 := h.ok.hi
    have hri : Rise s.es := h.rise
    rw [he] at hri
    have hRgt : ∀ y ∈ R, at_ < y.1 := (rise_cons.1 (rise_append.1 hri).2.1).1
    refine ⟨h.ctx H2 (Tr.mk s.a (L ++ (at_, v) :: R) []) (Rep.leaf h.ok (by rw [hr]; simp [Tr.nd, he, hks]) (by rw [he]; simp) (by rw [he] at h7; simp at h7 ⊢; omega) ho) ?_, ?_⟩
    · show L ++ (at_, v) :: R = insL at_ v s.es
      rw [he, insL_here at_ v u L R hL hRgt]
    · rw [← h.get]; show getL at_ s.es = _
      rw [he, getL_here at_ u L R hL]
  | succ e =>
    obtain ⟨A, k, B', hs, hA, hB'⟩ := kid_at h.ok.2.1 he
    obtain ⟨q, B, rfl⟩ : ∃ q B, B' = q :: B := by
      cases B' with
      | nil => simp at hB'
      | cons q B => exact ⟨q, B, rfl⟩
    have hB : B.length = R.length := by simpa using hB'
    have hE := ents_two e s L R (at_, u) A B k q he hs hA hB
    have hri := h.rise
    rw [hE] at hri
    obtain ⟨hr1, hr2, hr3⟩ := rise_append.1 hri
    obtain ⟨hr4, hr5, hr6⟩ := rise_append.1 hr1
    obtain ⟨hr7, hr8, hr9⟩ := rise_append.1 hr5
    have hP : ∀ x ∈ wpre L (A.map (ents e)) ++ ents e k, x.1 < at_ := fun x hx => by
      rcases List.mem_append.1 hx with hx | hx
      · exact hr6 x hx (at_, u) (by simp)
      · exact hr9 x hx (at_, u) (by simp)
    have hQ : ∀ x ∈ ents e q ++ wpost R (B.map (ents e)), at_ < x.1 := fun x hx => by
      rcases List.mem_append.1 hx with hx | hx
      · exact (rise_cons.1 hr8).1 x hx
      · exact hr3 (at_, u) (by simp) x hx
    have hE' : ents (e + 1) s = (wpre L (A.map (ents e)) ++ ents e k) ++ (at_, u) :: (ents e q ++ wpost R (B.map (ents e))) := by rw [hE]; simp
    refine ⟨h.ctx H2 (Tr.mk s.a (L ++ (at_, v) :: R) s.ks) (Rep.root h.ok h.nodup (by rw [hr]; simp [Tr.nd, he]) (by rw [he]; simp) (by rw [he]; simp) ho) ?_, ?_⟩
    · rw [hE', insL_here at_ v u _ _ hP hQ, ents_two e (Tr.mk s.a (L ++ (at_, v) :: R) s.ks) L R (at_, v) A B k q rfl hs hA hB]
      simp
    · rw [← h.get, hE', getL_here at_ u _ _ hP]
/-- It comes into a node of the lowest level. -/
theorem Down.leaf {H H2 : HP α} {d1 a0 : Nat} {at_ : Int} {v : α} {es0 : List (Int × α)} {s : Tr α} {L R : List (Int × α)} (h : Down H d1 a0 at_ v es0 0 s) (he : s.es = L ++ R) (hL : ∀ x ∈ L, x.1 < at_) (hR : ∀ y ∈ R, at_ < y.1) (h6 : s.es.length < 7)
    (hr : H2 s.a = some ⟨(s.es.map Prod.fst).take L.length ++ at_ :: (s.es.map Prod.fst).drop L.length, (s.es.map Prod.snd).take L.length ++ v :: (s.es.map Prod.snd).drop L.length, []⟩) (ho : ∀ c, c ≠ s.a → H2 c = H c) : Goal H2 d1 a0 (insL at_ v es0) ∧ getL at_ es0 = none := by
  refine ⟨h.ctx H2 (Tr.mk s.a (L ++ (at_, v) :: R) []) (Rep.leaf h.ok (by rw [hr]; simp [Tr.nd, he]) (by rw [he]; simp) (by rw [he] at h6; simp at h6 ⊢; omega) ho) ?_, ?_⟩
  · show L ++ (at_, v) :: R = insL at_ v s.es
    rw [he, insL_new at_ v L R hL hR]
  · rw [← h.get]; show getL at_ s.es = _
    rw [he, getL_none at_ _ fun x hx => by
      rcases List.mem_append.1 hx with hx | hx
      · have := hL x hx; omega
      · have := hR x hx; omega]
theorem insL_length {l : List (Int × α)} (hr : Rise l) (at_ : Int) (v : α) : (insL at_ v l).length = if (getL at_ l).isSome then l.length else l.length + 1 := by
  obtain ⟨L, R, rfl, _, hL, hR, hc⟩ := cut_at l hr at_
  by_cases hv : ∃ v R', R = (at_, v) :: R'
  · obtain ⟨u, R', rfl⟩ := hv
    rw [insL_here at_ v u L R' hL fun y hy => (rise_cons.1 (rise_append.1 hr).2.1).1 y hy, getL_here at_ u L R' hL]
    simp
  · have hg := gt_of_not (rise_append.1 hr).2.1 hR hv
    rw [insL_new at_ v L R hL hg, getL_none at_ _ fun x hx => by
      rcases List.mem_append.1 hx with hx | hx
      · have := hL x hx; omega
      · have := hg x hx; omega]
    simp; omega
theorem Rise.ins {l : List (Int × α)} (hr : Rise l) (at_ : Int) (v : α) : Rise (insL at_ v l) := by
  unfold insL
  refine rise_append.2 ⟨hr.sub List.filter_sublist, rise_cons.2 ⟨fun y hy => ?_, hr.sub List.filter_sublist⟩, fun x hx y hy => ?_⟩
  · have := (List.mem_filter.1 hy).2; simpa using this
  · have h1 : x.1 < at_ := by have := (List.mem_filter.1 hx).2; simpa using this
    rcases List.mem_cons.1 hy with rfl | hy
    · exact h1
    · have h2 : at_ < y.1 := by have := (List.mem_filter.1 hy).2; simpa using this
      omega
theorem ins_two {β : Type} {A B : List β} {k b : β} {n : Nat} (h : A.length = n) : (A ++ k :: B).take (n + 1) ++ b :: (A ++ k :: B).drop (n + 1) = A ++ k :: b :: B := by
  rw [show A ++ k :: B = (A ++ [k]) ++ B by simp, List.take_left' (by simp [h]), List.drop_left' (by simp [h])]; simp
theorem nth_eq {β : Type} {A B A' B' : List β} {k k' : β} (h : A ++ k :: B = A' ++ k' :: B') (hl : A.length = A'.length) : k = k' := by
  have := List.append_inj h hl
  injection this.2
/-- Behind a split the kid below the number is not full. -/
theorem split_cut {L R L' R' : List (Int × α)} {m : Int × α} {A B A' B' : List (Tr α)} {k1 k2 k' : Tr α} {at_ : Int} (hL : ∀ x ∈ L, x.1 < at_) (hR : ∀ y ∈ R, at_ < y.1) (hA : A.length = L.length) (h : L ++ m :: R = L' ++ R') (hk : A ++ k1 :: k2 :: B = A' ++ k' :: B') (hA' : A'.length = L'.length)
    (hL' : ∀ x ∈ L', x.1 < at_) (hR' : ∀ y ∈ R', at_ ≤ y.1) : k' = k1 ∨ k' = k2 := by
  have h0 : L' = L → k' = k1 := fun e => (nth_eq hk (by rw [hA, hA', e])).symm
  rcases List.append_eq_append_iff.1 h with ⟨c, h1, h2⟩ | ⟨c, h1, h2⟩
  · cases c with
    | nil => exact .inl (h0 (by simpa using h1))
    | cons y c =>
      rw [List.cons_append] at h2
      injection h2 with h2 h3
      cases c with
      | nil =>
        refine .inr (nth_eq (A := A ++ [k1]) (B := B) (by simpa using hk) ?_).symm
        rw [hA', h1]; simp [hA]
      | cons z c =>
        have ha := hR z (by rw [h3]; simp)
        have hb := hL' z (by rw [h1]; simp)
        omega
  · cases c with
    | nil => exact .inl (h0 (by simpa using h1.symm))
    | cons y c =>
      have ha := hL y (by rw [h1]; simp)
      have hb := hR' y (by rw [h2]; simp)
      omega
end Go.Proofs.Ytkfcflflgecljaa.H
