/- How trees over a bag's nodes turn: split, merge, borrow. -/
import Derived.Test.YtkfcflflgecljaaHBagP
set_option linter.unusedVariables false
set_option linter.unusedSimpArgs false
namespace Go.Proofs.Ytkfcflflgecljaa.H
variable {α : Type}
def fpL : Nat → List (Tr α) → List Nat
  | 0, _ => []
  | d + 1, ks => ks.flatMap (fp d)
theorem fp_eq (d : Nat) (t : Tr α) : fp d t = t.a :: fpL d t.ks := by cases d <;> rfl
theorem fpL_append (d : Nat) (X Y : List (Tr α)) : fpL d (X ++ Y) = fpL d X ++ fpL d Y := by cases d <;> simp [fpL]
theorem fpL_mem {d : Nat} {ks : List (Tr α)} {k : Tr α} (hk : k ∈ ks) {c : Nat} (hc : c ∈ fp d k) : c ∈ fpL (d + 1) ks := List.mem_flatMap.2 ⟨k, hk, hc⟩
theorem node_ok {H : HP α} {d lo : Nat} {t : Tr α} (hr : H t.a = some t.nd) (h1 : lo ≤ t.es.length) (h2 : t.es.length ≤ 7) (h0 : d = 0 → t.ks = []) (hk : ∀ d', d = d' + 1 → t.ks.length = t.es.length + 1 ∧ ∀ q ∈ t.ks, Ok H d' 3 q) : Ok H d lo t := by
  cases d with
  | zero => exact ⟨hr, h0 rfl, h1, h2⟩
  | succ d => obtain ⟨h3, h4⟩ := hk d rfl; exact ⟨hr, h3, h1, h2, h4⟩
theorem Ok.kids0 {H : HP α} {d lo : Nat} {t : Tr α} (h : Ok H d lo t) : d = 0 → t.ks = [] := by rintro rfl; exact h.2.1
theorem Ok.kidsOk {H : HP α} {d lo : Nat} {t : Tr α} (h : Ok H d lo t) : ∀ d', d = d' + 1 → ∀ q ∈ t.ks, Ok H d' 3 q := by rintro d' rfl; exact h.2.2.2.2
/-- Kids that are as they were. -/
theorem kids_same {H H' : HP α} {d lo : Nat} {t : Tr α} (h : Ok H d lo t) (hf : ∀ c ∈ fpL d t.ks, H' c = H c) : ∀ d', d = d' + 1 → ∀ q ∈ t.ks, Ok H' d' 3 q := by
  rintro d' rfl q hq
  exact (h.2.2.2.2 q hq).frame fun c hc => hf c (fpL_mem hq hc)
/-- A stretch of the kids turns, and the node with it. -/
theorem Rep.seg {H H' : HP α} {d lo lo' : Nat} {t : Tr α} (h : Ok H (d + 1) lo t) (hn : (fp (d + 1) t).Nodup) {A B C C' : List (Tr α)} (hs : t.ks = A ++ (C ++ B)) {es' : List (Int × α)}
    (hr : H' t.a = some (Tr.nd (Tr.mk t.a es' (A ++ (C' ++ B))))) (hl : A.length + (C'.length + B.length) = es'.length + 1) (h1 : lo' ≤ es'.length) (h2 : es'.length ≤ 7)
    (hok : ∀ k ∈ C', Ok H' d 3 k) (hnd : (C'.flatMap (fp d)).Nodup) (hnew : ∀ c ∈ C'.flatMap (fp d), c ∈ C.flatMap (fp d) ∨ H c = none)
    (hfr : ∀ c, c ≠ t.a → c ∉ C.flatMap (fp d) → H c ≠ none → H' c = H c) (hdm : ∀ c, H c ≠ none → H' c ≠ none) : Rep H H' (d + 1) lo' t (Tr.mk t.a es' (A ++ (C' ++ B))) := by
  have hfp : fp (d + 1) t = t.a :: (A.flatMap (fp d) ++ (C.flatMap (fp d) ++ B.flatMap (fp d))) := by rw [fp, hs]; simp
  have hfp' : fp (d + 1) (Tr.mk t.a es' (A ++ (C' ++ B))) = t.a :: (A.flatMap (fp d) ++ (C'.flatMap (fp d) ++ B.flatMap (fp d))) := by rw [fp]; simp
  rw [hfp] at hn
  obtain ⟨n1, n2, n3, n4, n5, n6, n7, n8, n9⟩ := nodup_parts.1 hn
  have hdom := h.dom
  rw [hfp] at hdom
  have hdA : ∀ z ∈ A.flatMap (fp d), H z ≠ none := fun z hz => hdom z (by simp only [List.mem_cons, List.mem_append]; exact .inr (.inl hz))
  have hdB : ∀ z ∈ B.flatMap (fp d), H z ≠ none := fun z hz => hdom z (by simp only [List.mem_cons, List.mem_append]; exact .inr (.inr (.inr hz)))
  have hda : H t.a ≠ none := hdom _ (by simp)
  refine ⟨⟨hr, by simpa using hl, h1, h2, fun q hq => ?_⟩, rfl, ?_, ?_, ?_, hdm⟩
  · rw [Tr.ks_mk] at hq
    rcases List.mem_append.1 hq with hq | hq
    · refine (h.2.2.2.2 q (by rw [hs]; exact List.mem_append_left _ hq)).frame fun c hc => ?_
      have hz : c ∈ A.flatMap (fp d) := List.mem_flatMap.2 ⟨q, hq, hc⟩
      exact hfr c (fun e => n1 (e ▸ hz)) (n7 c hz) (hdA c hz)
    · rcases List.mem_append.1 hq with hq | hq
      · exact hok q hq
      · refine (h.2.2.2.2 q (by rw [hs]; exact List.mem_append_right _ (List.mem_append_right _ hq))).frame fun c hc => ?_
        have hz : c ∈ B.flatMap (fp d) := List.mem_flatMap.2 ⟨q, hq, hc⟩
        exact hfr c (fun e => n3 (e ▸ hz)) (fun hk => n9 c hk hz) (hdB c hz)
  · rw [hfp']
    refine nodup_parts.2 ⟨n1, fun hk => ?_, n3, n4, hnd, n6, fun z hz hk => ?_, n8, fun z hk hz => ?_⟩
    · rcases hnew _ hk with h1 | h1
      · exact n2 h1
      · exact hda h1
    · rcases hnew _ hk with h1 | h1
      · exact n7 z hz h1
      · exact hdA z hz h1
    · rcases hnew _ hk with h1 | h1
      · exact n9 z h1 hz
      · exact hdB z hz h1
  · intro c hc
    rw [hfp'] at hc
    rw [hfp]
    simp only [List.mem_cons, List.mem_append] at hc ⊢
    rcases hc with rfl | hc | hc | hc
    · exact .inl (.inl rfl)
    · exact .inl (.inr (.inl hc))
    · rcases hnew c hc with h1 | h1
      · exact .inl (.inr (.inr (.inl h1)))
      · exact .inr h1
    · exact .inl (.inr (.inr (.inr hc)))
  · intro c hc hd
    rw [hfp] at hc
    simp only [List.mem_cons, List.mem_append, not_or] at hc
    exact hfr c hc.1 hc.2.2.1 hd
theorem dom3 {H H' : HP α} {x a b : Nat} {n1 n2 n3 : Nd α} (h1 : H' x = some n1) (h2 : H' a = some n2) (h3 : H' b = some n3) (ho : ∀ c, c ≠ x → c ≠ a → c ≠ b → H' c = H c) : ∀ c, H c ≠ none → H' c ≠ none := by
  intro c hc
  by_cases e1 : c = x
  · rw [e1, h1]; simp
  by_cases e2 : c = a
  · rw [e2, h2]; simp
  by_cases e3 : c = b
  · rw [e3, h3]; simp
  rw [ho c e1 e2 e3]; exact hc
theorem ents_eq (d : Nat) (t : Tr α) (h0 : d = 0 → t.ks = []) : ents d t = match d with | 0 => t.es | d' + 1 => weave t.es (t.ks.map (ents d')) := by cases d <;> rfl
/-- A kid's numbers around one of them. -/
theorem ents_mid (d a b a' : Nat) (M N : List (Int × α)) (m : Int × α) (A B : List (Tr α)) (h : ∀ d', d = d' + 1 → A.length = M.length + 1) (h0 : d = 0 → A = [] ∧ B = []) : ents d (Tr.mk a (M ++ m :: N) (A ++ B)) = ents d (Tr.mk a' M A) ++ m :: ents d (Tr.mk b N B) := by
  cases d with
  | zero => rfl
  | succ d =>
    simp only [ents, Tr.es_mk, Tr.ks_mk, List.map_append]
    exact weave_mid M _ m N _ (by rw [List.length_map]; exact h d rfl)
/-- A full kid is split. -/
theorem split_tree {H H' : HP α} {d lo b : Nat} {t k : Tr α} (h : Ok H (d + 1) lo t) (hn : (fp (d + 1) t).Nodup) {L R M N : List (Int × α)} {m : Int × α} {A B X Y : List (Tr α)} (he : t.es = L ++ R) (hs : t.ks = A ++ k :: B) (hA : A.length = L.length) (hB : B.length = R.length)
    (hk : k = Tr.mk k.a (M ++ m :: N) (X ++ Y)) (hM : M.length = 3) (hN : N.length = 3) (hX : ∀ d', d = d' + 1 → X.length = 4) (hroom : t.es.length ≤ 6) (hb : H b = none)
    (q1 : H' t.a = some (Tr.nd (Tr.mk t.a (L ++ m :: R) (A ++ Tr.mk k.a M X :: Tr.mk b N Y :: B)))) (q2 : H' k.a = some (Tr.nd (Tr.mk k.a M X))) (q3 : H' b = some (Tr.nd (Tr.mk b N Y)))
    (ho : ∀ c, c ≠ t.a → c ≠ k.a → c ≠ b → H' c = H c) :
    Rep H H' (d + 1) lo t (Tr.mk t.a (L ++ m :: R) (A ++ Tr.mk k.a M X :: Tr.mk b N Y :: B)) ∧ ents (d + 1) (Tr.mk t.a (L ++ m :: R) (A ++ Tr.mk k.a M X :: Tr.mk b N Y :: B)) = ents (d + 1) t := by
  have hkm : k ∈ t.ks := by rw [hs]; simp
  have hkok := h.2.2.2.2 k hkm
  have hks : k.ks = X ++ Y := by rw [hk]; rfl
  have hes : k.es = M ++ m :: N := by rw [hk]; rfl
  have hfk : fp d k = k.a :: (fpL d X ++ fpL d Y) := by rw [fp_eq, hks, fpL_append]
  have hXY0 : d = 0 → X = [] ∧ Y = [] := fun e => by have := hkok.kids0 e; rw [hks] at this; simpa using this
  have hfp := fp_split d t A B k hs
  have hn' := hn
  rw [hfp, hfk] at hn'
  obtain ⟨n1, n2, n3, n4, n5, n6, n7, n8, n9⟩ := nodup_parts.1 hn'
  have hdk := hkok.dom
  rw [hfk] at hdk
  have hbk : b ∉ k.a :: (fpL d X ++ fpL d Y) := fun hc => hdk b hc hb
  have hf : ∀ c ∈ fpL d k.ks, H' c = H c := fun c hc => by
    rw [hks, fpL_append] at hc
    refine ho c ?_ ?_ ?_
    · rintro rfl; exact n2 (List.mem_cons_of_mem _ hc)
    · rintro rfl; exact (List.nodup_cons.1 n5).1 hc
    · rintro rfl; exact hbk (List.mem_cons_of_mem _ hc)
  have hko := kids_same hkok hf
  have hY : ∀ d', d = d' + 1 → Y.length = 4 := fun d' e => by
    have := hkok.kids d' e
    rw [hks, hes] at this
    have := hX d' e
    simp at *; omega
  have hl : L.length + R.length = t.es.length := by rw [he]; simp
  have hC : (Tr.mk k.a M X :: [Tr.mk b N Y]).flatMap (fp d) = k.a :: (fpL d X ++ b :: fpL d Y) := by simp [fp_eq]
  constructor
  · refine Rep.seg (C := [k]) (C' := [Tr.mk k.a M X, Tr.mk b N Y]) h hn hs q1 (by simp; omega) (by have := h.2.2.1; simp; omega) (by simp; omega) ?_ ?_ ?_ ?_ (dom3 q1 q2 q3 ho)
    · intro z hz
      simp only [List.mem_cons, List.not_mem_nil, or_false] at hz
      rcases hz with rfl | rfl
      · exact node_ok q2 (by simp [hM]) (by simp [hM]) (fun e => (hXY0 e).1) fun d' e => ⟨by simp [hX d' e, hM], fun q hq => hko d' e q (by rw [hks]; exact List.mem_append_left _ hq)⟩
      · exact node_ok q3 (by simp [hN]) (by simp [hN]) (fun e => (hXY0 e).2) fun d' e => ⟨by simp [hY d' e, hN], fun q hq => hko d' e q (by rw [hks]; exact List.mem_append_right _ hq)⟩
    · rw [hC]
      simp only [List.nodup_cons, List.nodup_append, List.mem_append, List.mem_cons, not_or] at n5 hbk ⊢
      grind
    · intro c hc
      rw [hC] at hc
      have : [k].flatMap (fp d) = k.a :: (fpL d X ++ fpL d Y) := by simp [hfk]
      rw [this]
      simp only [List.mem_append, List.mem_cons] at hc ⊢
      rcases hc with hc | hc | rfl | hc
      · exact .inl (.inl hc)
      · exact .inl (.inr (.inl hc))
      · exact .inr hb
      · exact .inl (.inr (.inr hc))
    · intro c hc hc2 hd
      have : [k].flatMap (fp d) = k.a :: (fpL d X ++ fpL d Y) := by simp [hfk]
      rw [this] at hc2
      simp only [List.mem_append, List.mem_cons, not_or] at hc2
      exact ho c hc hc2.1 (fun e => hd (e ▸ hb))
  · have e1 : ents (d + 1) t = wpre L (A.map (ents d)) ++ ents d k ++ wpost R (B.map (ents d)) := ents_kid d t L R A B k he hs hA hB
    have e2 : ents d k = ents d (Tr.mk k.a M X) ++ m :: ents d (Tr.mk b N Y) := by
      conv => lhs; rw [hk]
      exact ents_mid d k.a b k.a M N m X Y (fun d' e => by rw [hX d' e, hM]) hXY0
    rw [e1, e2, ents_kid d (Tr.mk t.a (L ++ m :: R) (A ++ Tr.mk k.a M X :: Tr.mk b N Y :: B)) L (m :: R) A (Tr.mk b N Y :: B) (Tr.mk k.a M X) rfl rfl hA (by simp [hB]), List.map_cons, wpost_cons]
    simp
theorem ents_a (d a b : Nat) (es : List (Int × α)) (ks : List (Tr α)) : ents d (Tr.mk a es ks) = ents d (Tr.mk b es ks) := by cases d <;> rfl
theorem ents_two (d : Nat) (t : Tr α) (L R : List (Int × α)) (m : Int × α) (A B : List (Tr α)) (k1 k2 : Tr α) (he : t.es = L ++ m :: R) (hs : t.ks = A ++ k1 :: k2 :: B) (hA : A.length = L.length) (hB : B.length = R.length) :
    ents (d + 1) t = wpre L (A.map (ents d)) ++ (ents d k1 ++ m :: ents d k2) ++ wpost R (B.map (ents d)) := by
  rw [ents_kid d t L (m :: R) A (k2 :: B) k1 he hs hA (by simp [hB]), List.map_cons, wpost_cons]
  simp
/-- Two kids trade. -/
theorem two_tree {H H' : HP α} {d lo : Nat} {t k1 k2 k1' k2' : Tr α} (h : Ok H (d + 1) lo t) (hn : (fp (d + 1) t).Nodup) {L R : List (Int × α)} {m n : Int × α} {A B : List (Tr α)} (he : t.es = L ++ m :: R) (hs : t.ks = A ++ k1 :: k2 :: B) (hA : A.length = L.length) (hB : B.length = R.length)
    (a1 : k1'.a = k1.a) (a2 : k2'.a = k2.a) (hks : k1'.ks ++ k2'.ks = k1.ks ++ k2.ks) (hl1 : 3 ≤ k1'.es.length) (hl2 : k1'.es.length ≤ 7) (hl3 : 3 ≤ k2'.es.length) (hl4 : k2'.es.length ≤ 7)
    (hc1 : ∀ d', d = d' + 1 → k1'.ks.length = k1'.es.length + 1) (hc2 : ∀ d', d = d' + 1 → k2'.ks.length = k2'.es.length + 1) (hen : ents d k1' ++ n :: ents d k2' = ents d k1 ++ m :: ents d k2)
    (q1 : H' t.a = some (Tr.nd (Tr.mk t.a (L ++ n :: R) (A ++ k1' :: k2' :: B)))) (q2 : H' k1.a = some k1'.nd) (q3 : H' k2.a = some k2'.nd)
    (ho : ∀ c, c ≠ t.a → c ≠ k1.a → c ≠ k2.a → H' c = H c) :
    Rep H H' (d + 1) lo t (Tr.mk t.a (L ++ n :: R) (A ++ k1' :: k2' :: B)) ∧ ents (d + 1) (Tr.mk t.a (L ++ n :: R) (A ++ k1' :: k2' :: B)) = ents (d + 1) t := by
  have hk1 := h.2.2.2.2 k1 (by rw [hs]; simp)
  have hk2 := h.2.2.2.2 k2 (by rw [hs]; simp)
  have hC : [k1, k2].flatMap (fp d) = k1.a :: (fpL d k1.ks ++ k2.a :: fpL d k2.ks) := by simp [fp_eq]
  have hC' : [k1', k2'].flatMap (fp d) = k1.a :: (fpL d k1'.ks ++ k2.a :: fpL d k2'.ks) := by simp [fp_eq, a1, a2]
  have hfl : fpL d k1'.ks ++ fpL d k2'.ks = fpL d k1.ks ++ fpL d k2.ks := by rw [← fpL_append, ← fpL_append, hks]
  have hfp : fp (d + 1) t = t.a :: (A.flatMap (fp d) ++ ((k1.a :: (fpL d k1.ks ++ k2.a :: fpL d k2.ks)) ++ B.flatMap (fp d))) := by rw [fp, hs, ← hC]; simp
  have hn' := hn
  rw [hfp] at hn'
  obtain ⟨n1, n2, n3, n4, n5, n6, n7, n8, n9⟩ := nodup_parts.1 hn'
  have hmem : ∀ c, c ∈ fpL d k1'.ks ∨ c ∈ fpL d k2'.ks ↔ c ∈ fpL d k1.ks ∨ c ∈ fpL d k2.ks := fun c => by rw [← List.mem_append, ← List.mem_append, hfl]
  have hf : ∀ c, c ∈ fpL d k1.ks ∨ c ∈ fpL d k2.ks → H' c = H c := fun c hc => by
    refine ho c ?_ ?_ ?_
    · rintro rfl; apply n2; simp only [List.mem_cons, List.mem_append]; rcases hc with hc | hc
      · exact .inr (.inl hc)
      · exact .inr (.inr (.inr hc))
    · rintro rfl
      have := (List.nodup_cons.1 n5).1
      simp only [List.mem_append, List.mem_cons, not_or] at this
      rcases hc with hc | hc
      · exact this.1 hc
      · exact this.2.2 hc
    · rintro rfl
      have := (List.nodup_cons.1 n5).2
      simp only [List.nodup_append, List.nodup_cons, List.mem_cons] at this
      rcases hc with hc | hc
      · exact this.2.2 _ hc _ (.inl rfl) rfl
      · exact this.2.1.1 hc
  have hko1 := kids_same hk1 (fun c hc => hf c (.inl hc))
  have hko2 := kids_same hk2 (fun c hc => hf c (.inr hc))
  have hq : ∀ d', d = d' + 1 → ∀ q ∈ k1'.ks ++ k2'.ks, Ok H' d' 3 q := fun d' e q hq => by
    rw [hks] at hq
    rcases List.mem_append.1 hq with hq | hq
    · exact hko1 d' e q hq
    · exact hko2 d' e q hq
  have h0 : d = 0 → k1'.ks = [] ∧ k2'.ks = [] := fun e => by
    have := hks
    rw [hk1.kids0 e, hk2.kids0 e] at this
    simpa using this
  have hl : L.length + R.length + 1 = t.es.length := by rw [he]; simp; omega
  constructor
  · refine Rep.seg (C := [k1, k2]) (C' := [k1', k2']) h hn hs q1 (by simp; omega) (by have := h.2.2.1; simp; omega) (by have := h.2.2.2.1; simp; omega) ?_ ?_ ?_ ?_ (dom3 q1 q2 q3 ho)
    · intro z hz
      simp only [List.mem_cons, List.not_mem_nil, or_false] at hz
      rcases hz with rfl | rfl
      · exact node_ok (by rw [a1]; exact q2) hl1 hl2 (fun e => (h0 e).1) fun d' e => ⟨hc1 d' e, fun q hq' => hq d' e q (List.mem_append_left _ hq')⟩
      · exact node_ok (by rw [a2]; exact q3) hl3 hl4 (fun e => (h0 e).2) fun d' e => ⟨hc2 d' e, fun q hq' => hq d' e q (List.mem_append_right _ hq')⟩
    · rw [hC']
      have p5 : (k1.a :: k2.a :: (fpL d k1.ks ++ fpL d k2.ks)).Nodup := (List.Perm.cons _ List.perm_middle).nodup_iff.1 n5
      rw [← hfl] at p5
      exact (List.Perm.cons _ List.perm_middle).nodup_iff.2 p5
    · intro c hc
      rw [hC'] at hc
      rw [hC]
      have := hmem c
      simp only [List.mem_cons, List.mem_append] at hc ⊢
      left
      rcases hc with hc | hc | hc | hc
      · exact .inl hc
      · rcases this.1 (.inl hc) with h | h
        · exact .inr (.inl h)
        · exact .inr (.inr (.inr h))
      · exact .inr (.inr (.inl hc))
      · rcases this.1 (.inr hc) with h | h
        · exact .inr (.inl h)
        · exact .inr (.inr (.inr h))
    · intro c hc hc2 hd
      rw [hC] at hc2
      simp only [List.mem_append, List.mem_cons, not_or] at hc2
      exact ho c hc hc2.1 hc2.2.2.1
  · rw [ents_two d t L R m A B k1 k2 he hs hA hB, ents_two d (Tr.mk t.a (L ++ n :: R) (A ++ k1' :: k2' :: B)) L R n A B k1' k2' rfl rfl hA hB, hen]
/-- A kid borrows from the one ahead. -/
theorem left_tree {H H' : HP α} {d lo : Nat} {t k1 k2 : Tr α} (h : Ok H (d + 1) lo t) (hn : (fp (d + 1) t).Nodup) {L R M : List (Int × α)} {m n : Int × α} {A B X Z : List (Tr α)} (he : t.es = L ++ m :: R) (hs : t.ks = A ++ k1 :: k2 :: B) (hA : A.length = L.length) (hB : B.length = R.length)
    (h1 : k1.es = M ++ [n]) (h2 : k1.ks = X ++ Z) (hM : 3 ≤ M.length) (hZ : ∀ d', d = d' + 1 → Z.length = 1) (hl : k2.es.length ≤ 6)
    (q1 : H' t.a = some (Tr.nd (Tr.mk t.a (L ++ n :: R) (A ++ Tr.mk k1.a M X :: Tr.mk k2.a (m :: k2.es) (Z ++ k2.ks) :: B)))) (q2 : H' k1.a = some (Tr.mk k1.a M X).nd) (q3 : H' k2.a = some (Tr.mk k2.a (m :: k2.es) (Z ++ k2.ks)).nd)
    (ho : ∀ c, c ≠ t.a → c ≠ k1.a → c ≠ k2.a → H' c = H c) :
    Rep H H' (d + 1) lo t (Tr.mk t.a (L ++ n :: R) (A ++ Tr.mk k1.a M X :: Tr.mk k2.a (m :: k2.es) (Z ++ k2.ks) :: B)) ∧ ents (d + 1) (Tr.mk t.a (L ++ n :: R) (A ++ Tr.mk k1.a M X :: Tr.mk k2.a (m :: k2.es) (Z ++ k2.ks) :: B)) = ents (d + 1) t := by
  have hk1 := h.2.2.2.2 k1 (by rw [hs]; simp)
  have hk2 := h.2.2.2.2 k2 (by rw [hs]; simp)
  have l1 := hk1.hi
  have l2 := hk2.lo
  have hX : ∀ d', d = d' + 1 → X.length = M.length + 1 := fun d' e => by
    have := hk1.kids d' e; rw [h1, h2] at this; have := hZ d' e; simp at *; omega
  have e0 : d = 0 → X = [] ∧ Z = [] := fun e => by have := hk1.kids0 e; rw [h2] at this; simpa using this
  have hen : ents d (Tr.mk k1.a M X) ++ n :: ents d (Tr.mk k2.a (m :: k2.es) (Z ++ k2.ks)) = ents d k1 ++ m :: ents d k2 := by
    have f1 : ents d k1 = ents d (Tr.mk k1.a M X) ++ n :: ents d (Tr.mk 0 [] Z) := by
      have := ents_mid d k1.a 0 k1.a M [] n X Z hX e0
      rw [← h1, ← h2, Tr.eta] at this
      exact this
    have f2 : ents d (Tr.mk k2.a (m :: k2.es) (Z ++ k2.ks)) = ents d (Tr.mk 0 [] Z) ++ m :: ents d k2 := by
      have := ents_mid d k2.a k2.a 0 [] k2.es m Z k2.ks (fun d' e => by rw [hZ d' e]; rfl) (fun e => ⟨(e0 e).2, hk2.kids0 e⟩)
      rw [Tr.eta] at this
      exact this
    rw [f1, f2]; simp
  refine two_tree h hn he hs hA hB rfl rfl (by simp [h2]) hM (by rw [h1] at l1; simp at *; omega) (by simp; omega) (by simp; omega) (fun d' e => by simpa using hX d' e) (fun d' e => ?_) hen q1 q2 q3 ho
  have := hk2.kids d' e
  simp [hZ d' e, this]; omega
/-- A kid borrows from the one behind. -/
theorem right_tree {H H' : HP α} {d lo : Nat} {t k1 k2 : Tr α} (h : Ok H (d + 1) lo t) (hn : (fp (d + 1) t).Nodup) {L R N : List (Int × α)} {m n : Int × α} {A B Y Z : List (Tr α)} (he : t.es = L ++ m :: R) (hs : t.ks = A ++ k1 :: k2 :: B) (hA : A.length = L.length) (hB : B.length = R.length)
    (h1 : k2.es = n :: N) (h2 : k2.ks = Z ++ Y) (hN : 3 ≤ N.length) (hZ : ∀ d', d = d' + 1 → Z.length = 1) (hl : k1.es.length ≤ 6)
    (q1 : H' t.a = some (Tr.nd (Tr.mk t.a (L ++ n :: R) (A ++ Tr.mk k1.a (k1.es ++ [m]) (k1.ks ++ Z) :: Tr.mk k2.a N Y :: B)))) (q2 : H' k1.a = some (Tr.mk k1.a (k1.es ++ [m]) (k1.ks ++ Z)).nd) (q3 : H' k2.a = some (Tr.mk k2.a N Y).nd)
    (ho : ∀ c, c ≠ t.a → c ≠ k1.a → c ≠ k2.a → H' c = H c) :
    Rep H H' (d + 1) lo t (Tr.mk t.a (L ++ n :: R) (A ++ Tr.mk k1.a (k1.es ++ [m]) (k1.ks ++ Z) :: Tr.mk k2.a N Y :: B)) ∧ ents (d + 1) (Tr.mk t.a (L ++ n :: R) (A ++ Tr.mk k1.a (k1.es ++ [m]) (k1.ks ++ Z) :: Tr.mk k2.a N Y :: B)) = ents (d + 1) t := by
  have hk1 := h.2.2.2.2 k1 (by rw [hs]; simp)
  have hk2 := h.2.2.2.2 k2 (by rw [hs]; simp)
  have l1 := hk1.lo
  have l2 := hk2.hi
  have hY : ∀ d', d = d' + 1 → Y.length = N.length + 1 := fun d' e => by
    have := hk2.kids d' e; rw [h1, h2] at this; have := hZ d' e; simp at *; omega
  have e0 : d = 0 → Z = [] ∧ Y = [] := fun e => by have := hk2.kids0 e; rw [h2] at this; simpa using this
  have hen : ents d (Tr.mk k1.a (k1.es ++ [m]) (k1.ks ++ Z)) ++ n :: ents d (Tr.mk k2.a N Y) = ents d k1 ++ m :: ents d k2 := by
    have f1 : ents d (Tr.mk k1.a (k1.es ++ [m]) (k1.ks ++ Z)) = ents d k1 ++ m :: ents d (Tr.mk 0 [] Z) := by
      have := ents_mid d k1.a 0 k1.a k1.es [] m k1.ks Z (fun d' e => hk1.kids d' e) (fun e => ⟨hk1.kids0 e, (e0 e).1⟩)
      rw [Tr.eta] at this
      exact this
    have f2 : ents d k2 = ents d (Tr.mk 0 [] Z) ++ n :: ents d (Tr.mk k2.a N Y) := by
      have := ents_mid d k2.a k2.a 0 [] N n Z Y (fun d' e => by rw [hZ d' e]; rfl) e0
      rw [List.nil_append, ← h1, ← h2, Tr.eta] at this
      exact this
    rw [f1, f2]; simp
  refine two_tree h hn he hs hA hB rfl rfl (by simp [h2]) (by simp; omega) (by simp; omega) hN (by rw [h1] at l2; simp at *; omega) (fun d' e => ?_) (fun d' e => by simpa using hY d' e) hen q1 q2 q3 ho
  have := hk1.kids d' e
  simp [hZ d' e, this]
/-- Two kids and what is between are one. -/
theorem merge_tree {H H' : HP α} {d lo lo' : Nat} {t k1 k2 : Tr α} (h : Ok H (d + 1) lo t) (hn : (fp (d + 1) t).Nodup) {L R : List (Int × α)} {m : Int × α} {A B : List (Tr α)} (he : t.es = L ++ m :: R) (hs : t.ks = A ++ k1 :: k2 :: B) (hA : A.length = L.length) (hB : B.length = R.length)
    (hl : k1.es.length + k2.es.length ≤ 6) (hlo : lo' ≤ L.length + R.length)
    (q1 : H' t.a = some (Tr.nd (Tr.mk t.a (L ++ R) (A ++ Tr.mk k1.a (k1.es ++ m :: k2.es) (k1.ks ++ k2.ks) :: B)))) (q2 : H' k1.a = some (Tr.mk k1.a (k1.es ++ m :: k2.es) (k1.ks ++ k2.ks)).nd)
    (ho : ∀ c, c ≠ t.a → c ≠ k1.a → H' c = H c) :
    Rep H H' (d + 1) lo' t (Tr.mk t.a (L ++ R) (A ++ Tr.mk k1.a (k1.es ++ m :: k2.es) (k1.ks ++ k2.ks) :: B)) ∧ ents (d + 1) (Tr.mk t.a (L ++ R) (A ++ Tr.mk k1.a (k1.es ++ m :: k2.es) (k1.ks ++ k2.ks) :: B)) = ents (d + 1) t := by
  have hk1 := h.2.2.2.2 k1 (by rw [hs]; simp)
  have hk2 := h.2.2.2.2 k2 (by rw [hs]; simp)
  have hC : [k1, k2].flatMap (fp d) = k1.a :: (fpL d k1.ks ++ k2.a :: fpL d k2.ks) := by simp [fp_eq]
  have hC' : [Tr.mk k1.a (k1.es ++ m :: k2.es) (k1.ks ++ k2.ks)].flatMap (fp d) = k1.a :: (fpL d k1.ks ++ fpL d k2.ks) := by simp [fp_eq, fpL_append]
  have hfp : fp (d + 1) t = t.a :: (A.flatMap (fp d) ++ ((k1.a :: (fpL d k1.ks ++ k2.a :: fpL d k2.ks)) ++ B.flatMap (fp d))) := by rw [fp, hs, ← hC]; simp
  have hn' := hn
  rw [hfp] at hn'
  obtain ⟨n1, n2, n3, n4, n5, n6, n7, n8, n9⟩ := nodup_parts.1 hn'
  have hf : ∀ c, c ∈ fpL d k1.ks ∨ c ∈ fpL d k2.ks → H' c = H c := fun c hc => by
    refine ho c ?_ ?_
    · rintro rfl; apply n2; simp only [List.mem_cons, List.mem_append]; rcases hc with hc | hc
      · exact .inr (.inl hc)
      · exact .inr (.inr (.inr hc))
    · rintro rfl
      have := (List.nodup_cons.1 n5).1
      simp only [List.mem_append, List.mem_cons, not_or] at this
      rcases hc with hc | hc
      · exact this.1 hc
      · exact this.2.2 hc
  have hko1 := kids_same hk1 (fun c hc => hf c (.inl hc))
  have hko2 := kids_same hk2 (fun c hc => hf c (.inr hc))
  have hll : L.length + R.length + 1 = t.es.length := by rw [he]; simp; omega
  have l1 := hk1.lo
  have l2 := hk2.lo
  constructor
  · refine Rep.seg (C := [k1, k2]) (C' := [Tr.mk k1.a (k1.es ++ m :: k2.es) (k1.ks ++ k2.ks)]) h hn hs q1 (by simp; omega) (by simpa using hlo) (by have := h.2.2.2.1; simp; omega) ?_ ?_ ?_ ?_ ?_
    · intro z hz
      rw [List.mem_singleton] at hz
      subst hz
      refine node_ok q2 (by simp; omega) (by simp; omega) (fun e => by simp [hk1.kids0 e, hk2.kids0 e]) fun d' e => ⟨by simp [hk1.kids d' e, hk2.kids d' e]; omega, fun q hq => ?_⟩
      rw [Tr.ks_mk] at hq
      rcases List.mem_append.1 hq with hq | hq
      · exact hko1 d' e q hq
      · exact hko2 d' e q hq
    · rw [hC']
      have p5 : (k1.a :: k2.a :: (fpL d k1.ks ++ fpL d k2.ks)).Nodup := (List.Perm.cons _ List.perm_middle).nodup_iff.1 n5
      exact List.nodup_cons.2 ⟨fun hc => (List.nodup_cons.1 p5).1 (List.mem_cons_of_mem _ hc), (List.nodup_cons.1 (List.nodup_cons.1 p5).2).2⟩
    · intro c hc
      rw [hC'] at hc
      rw [hC]
      simp only [List.mem_cons, List.mem_append] at hc ⊢
      left
      rcases hc with hc | hc | hc
      · exact .inl hc
      · exact .inr (.inl hc)
      · exact .inr (.inr (.inr hc))
    · intro c hc hc2 hd
      rw [hC] at hc2
      simp only [List.mem_append, List.mem_cons, not_or] at hc2
      exact ho c hc hc2.1
    · intro c hc
      by_cases e1 : c = t.a
      · rw [e1, q1]; simp
      by_cases e2 : c = k1.a
      · rw [e2, q2]; simp
      rw [ho c e1 e2]; exact hc
  · rw [ents_two d t L R m A B k1 k2 he hs hA hB, ents_kid d (Tr.mk t.a (L ++ R) (A ++ Tr.mk k1.a (k1.es ++ m :: k2.es) (k1.ks ++ k2.ks) :: B)) L R A B (Tr.mk k1.a (k1.es ++ m :: k2.es) (k1.ks ++ k2.ks)) rfl rfl hA hB]
    have := ents_mid d k1.a k2.a k1.a k1.es k2.es m k1.ks k2.ks (fun d' e => hk1.kids d' e) (fun e => ⟨hk1.kids0 e, hk2.kids0 e⟩)
    rw [Tr.eta, Tr.eta] at this
    rw [this]
theorem ents_ne {H : HP α} {d : Nat} {t : Tr α} (h : Ok H d 1 t) : ents d t ≠ [] := by
  have h1 := h.lo
  intro e
  cases d with
  | zero => rw [ents] at e; rw [e] at h1; simp at h1
  | succ d =>
    have := (weave_sub t.es (t.ks.map (ents d)) (by rw [List.length_map]; exact h.2.1)).length_le
    rw [ents] at e
    rw [e] at this
    simp at this; rw [this] at h1; simp at h1
/-- The last kid. -/
theorem last_kid {H : HP α} {d lo : Nat} {t : Tr α} (h : Ok H (d + 1) lo t) : ∃ A k, t.ks = A ++ [k] ∧ A.length = t.es.length ∧ Ok H d 3 k ∧ (ents (d + 1) t).getLast? = (ents d k).getLast? := by
  obtain ⟨A, k, B, hs, hA, hB⟩ := kid_at h.2.1 (L := t.es) (R := []) (by simp)
  obtain rfl : B = [] := List.eq_nil_of_length_eq_zero (by simpa using hB)
  have hk := h.2.2.2.2 k (by rw [hs]; simp)
  refine ⟨A, k, hs, hA, hk, ?_⟩
  rw [ents_kid d t t.es [] A [] k (by simp) hs hA rfl]
  have hne := ents_ne (hk.low (lo' := 1) (by have := hk.lo; omega))
  simp only [List.map_nil, wpost, List.append_nil]
  rw [List.getLast?_append]
  cases e : (ents d k).getLast? with
  | none => rw [List.getLast?_eq_none_iff] at e; exact absurd e hne
  | some x => rfl
theorem first_kid {H : HP α} {d lo : Nat} {t : Tr α} (h : Ok H (d + 1) lo t) : ∃ k B, t.ks = k :: B ∧ B.length = t.es.length ∧ Ok H d 3 k ∧ (ents (d + 1) t).head? = (ents d k).head? := by
  obtain ⟨A, k, B, hs, hA, hB⟩ := kid_at h.2.1 (L := []) (R := t.es) (by simp)
  obtain rfl : A = [] := List.eq_nil_of_length_eq_zero (by simpa using hA)
  have hk := h.2.2.2.2 k (by rw [hs]; simp)
  refine ⟨k, B, hs, hB, hk, ?_⟩
  rw [ents_kid d t [] t.es [] B k (by simp) hs rfl hB]
  have hne := ents_ne (hk.low (lo' := 1) (by have := hk.lo; omega))
  simp only [List.map_nil, wpre, List.nil_append]
  cases e : ents d k with
  | nil => exact absurd e hne
  | cons x xs => rfl
theorem rm_one {β : Type} (L R : List β) (m : β) (n : Nat) (h : L.length = n) : (L ++ m :: R).take n ++ (L ++ m :: R).drop (n + 1) = L ++ R := by
  subst h
  rw [List.take_left, List.drop_append]
  simp
theorem rm_two {β : Type} (X Y : List β) (a b : β) (n : Nat) (h : X.length = n) : (X ++ a :: b :: Y).take (n + 1) ++ (X ++ a :: b :: Y).drop (n + 2) = X ++ a :: Y := by
  subst h
  rw [List.take_append, List.drop_append, List.take_of_length_le (by omega), List.drop_of_length_le (by omega), show X.length + 1 - X.length = 1 by omega, show X.length + 2 - X.length = 2 by omega]
  simp
/-- A number is taken out below a kid. -/
theorem del_kid {H H' : HP α} {d lo : Nat} {t k k' : Tr α} {L R : List (Int × α)} {A B : List (Tr α)} {at_ : Int} (h : Ok H (d + 1) lo t) (hn : (fp (d + 1) t).Nodup) (hri : Rise (ents (d + 1) t)) (he : t.es = L ++ R) (hs : t.ks = A ++ k :: B) (hA : A.length = L.length) (hB : B.length = R.length)
    (hL : ∀ x ∈ L, x.1 < at_) (hR : ∀ y ∈ R, at_ < y.1) (r : Rep H H' d (k.es.length - 1) k k') (h4 : 4 ≤ k.es.length) (hen : ents d k' = delL at_ (ents d k)) : ∃ t', Rep H H' (d + 1) lo t t' ∧ ents (d + 1) t' = delL at_ (ents (d + 1) t) := by
  have hk := ents_kid d t L R A B k he hs hA hB
  refine ⟨Tr.mk t.a t.es (A ++ k' :: B), Rep.kid h hn hs (r.lower (by have := r.ok.lo; omega)), ?_⟩
  rw [hk] at hri ⊢
  obtain ⟨hr1, hr2, _⟩ := rise_append.1 hri
  obtain ⟨hr3, _, _⟩ := rise_append.1 hr1
  rw [ents_kid d (Tr.mk t.a t.es (A ++ k' :: B)) L R A B k' he rfl hA hB, hen, delL_mid at_ _ _ _ (pre_lt L _ at_ hr3 hL) (post_gt R _ at_ hr2 hR)]
/-- A node of the lowest level turns. -/
theorem Rep.leaf {H H' : HP α} {lo lo' : Nat} {t : Tr α} (h : Ok H 0 lo t) {es' : List (Int × α)} (hr : H' t.a = some (Tr.mk t.a es' []).nd) (h1 : lo' ≤ es'.length) (h2 : es'.length ≤ 7) (ho : ∀ c, c ≠ t.a → H' c = H c) : Rep H H' 0 lo' t (Tr.mk t.a es' []) where
  ok := ⟨hr, rfl, h1, h2⟩
  addr := rfl
  nodup := by simp [fp]
  new := fun c hc => .inl (by simpa [fp] using hc)
  frame := fun c hc _ => ho c (by simpa [fp] using hc)
  dom := fun c hc => by
    by_cases e : c = t.a
    · rw [e, hr]; simp
    · rw [ho c e]; exact hc
/-- A node's own numbers turn. -/
theorem Rep.root {H H' : HP α} {d lo lo' : Nat} {t : Tr α} (h : Ok H (d + 1) lo t) (hn : (fp (d + 1) t).Nodup) {es' : List (Int × α)} (hr : H' t.a = some (Tr.mk t.a es' t.ks).nd) (h0 : es'.length = t.es.length) (h1 : lo' ≤ es'.length) (ho : ∀ c, c ≠ t.a → H' c = H c) : Rep H H' (d + 1) lo' t (Tr.mk t.a es' t.ks) := by
  have := Rep.seg (C := []) (C' := []) (A := t.ks) (B := []) (es' := es') (lo' := lo') h hn (by simp) (by simpa using hr) (by have := h.2.1; simp; omega) h1 (by have := h.2.2.2.1; omega) (by simp) (by simp) (by simp) (fun c hc _ _ => ho c hc) (fun c hc => by
    by_cases e : c = t.a
    · rw [e, hr]; simp
    · rw [ho c e]; exact hc)
  simpa using this
theorem fp_kids2 {d : Nat} {t : Tr α} {A B : List (Tr α)} {k q : Tr α} (hs : t.ks = A ++ k :: q :: B) : t.ks = (A ++ [k]) ++ q :: B := by rw [hs]; simp
/-- The number ahead takes the place of one that is taken out. -/
theorem del_last {H H' H'' : HP α} {d lo : Nat} {t k q k' : Tr α} {L R : List (Int × α)} {A B : List (Tr α)} {at_ : Int} {u : α} {e : Int × α} (h : Ok H (d + 1) lo t) (hn : (fp (d + 1) t).Nodup) (hri : Rise (ents (d + 1) t)) (he : t.es = L ++ (at_, u) :: R) (hs : t.ks = A ++ k :: q :: B) (hA : A.length = L.length) (hB : B.length = R.length)
    (r : Rep H H' d (k.es.length - 1) k k') (h4 : 4 ≤ k.es.length) (hlast : (ents d k).getLast? = some e) (hen : ents d k' = delL e.1 (ents d k)) (hr : H'' t.a = some ⟨(t.es.map Prod.fst).set L.length e.1, (t.es.map Prod.snd).set L.length e.2, t.ks.map Tr.a⟩) (ho : ∀ c, c ≠ t.a → H'' c = H' c) :
    ∃ t', Rep H H'' (d + 1) lo t t' ∧ ents (d + 1) t' = delL at_ (ents (d + 1) t) := by
  have r1 := Rep.kid (B := q :: B) h hn hs (r.lower (by have := r.ok.lo; omega))
  have r2 := Rep.root (es' := L ++ e :: R) (lo' := lo) r1.ok r1.nodup (by rw [Tr.a_mk, hr]; simp [Tr.nd, he, hs, r.addr]) (by simp [he]) (by have := h.2.2.1; rw [he] at this; simp at this ⊢; omega) ho
  refine ⟨_, r1.trans r2, ?_⟩
  have hE := ents_two d t L R (at_, u) A B k q he hs hA hB
  rw [hE] at hri
  obtain ⟨E0, hE0⟩ : ∃ E0, ents d k = E0 ++ [e] := by
    rw [List.getLast?_eq_some_iff] at hlast
    obtain ⟨ys, hys⟩ := hlast
    exact ⟨ys, hys⟩
  show ents (d + 1) (Tr.mk t.a (L ++ e :: R) (A ++ k' :: q :: B)) = _
  rw [ents_two d (Tr.mk t.a (L ++ e :: R) (A ++ k' :: q :: B)) L R e A B k' q rfl rfl hA hB, hE, hen]
  obtain ⟨hr1, hr2, hr3⟩ := rise_append.1 hri
  obtain ⟨hr4, hr5, hr6⟩ := rise_append.1 hr1
  obtain ⟨hr7, hr8, hr9⟩ := rise_append.1 hr5
  have hd1 : delL e.1 (ents d k) = E0 := by
    rw [hE0] at hr7 ⊢
    have := delL_here e.1 e.2 E0 [] (fun x hx => (rise_append.1 hr7).2.2 x hx e (by simp)) (by simp)
    simpa using this
  have hd2 := delL_here at_ u (wpre L (A.map (ents d)) ++ ents d k) (ents d q ++ wpost R (B.map (ents d))) (fun x hx => by
    rcases List.mem_append.1 hx with hx | hx
    · exact hr6 x hx (at_, u) (by simp)
    · exact hr9 x hx (at_, u) (by simp)) (fun x hx => by
    rcases List.mem_append.1 hx with hx | hx
    · exact (rise_cons.1 hr8).1 x hx
    · exact hr3 (at_, u) (by simp) x hx)
  rw [show wpre L (A.map (ents d)) ++ (ents d k ++ (at_, u) :: ents d q) ++ wpost R (B.map (ents d)) = (wpre L (A.map (ents d)) ++ ents d k) ++ (at_, u) :: (ents d q ++ wpost R (B.map (ents d))) by simp, hd2, hd1, hE0]
  simp
/-- The number behind takes the place of one that is taken out. -/
theorem del_first {H H' H'' : HP α} {d lo : Nat} {t k q q' : Tr α} {L R : List (Int × α)} {A B : List (Tr α)} {at_ : Int} {u : α} {e : Int × α} (h : Ok H (d + 1) lo t) (hn : (fp (d + 1) t).Nodup) (hri : Rise (ents (d + 1) t)) (he : t.es = L ++ (at_, u) :: R) (hs : t.ks = A ++ k :: q :: B) (hA : A.length = L.length) (hB : B.length = R.length)
    (r : Rep H H' d (q.es.length - 1) q q') (h4 : 4 ≤ q.es.length) (hfirst : (ents d q).head? = some e) (hen : ents d q' = delL e.1 (ents d q)) (hr : H'' t.a = some ⟨(t.es.map Prod.fst).set L.length e.1, (t.es.map Prod.snd).set L.length e.2, t.ks.map Tr.a⟩) (ho : ∀ c, c ≠ t.a → H'' c = H' c) :
    ∃ t', Rep H H'' (d + 1) lo t t' ∧ ents (d + 1) t' = delL at_ (ents (d + 1) t) := by
  have r1 := Rep.kid h hn (fp_kids2 (d := d) hs) (r.lower (by have := r.ok.lo; omega))
  have r2 := Rep.root (es' := L ++ e :: R) (lo' := lo) r1.ok r1.nodup (by rw [Tr.a_mk, hr]; simp [Tr.nd, he, hs, r.addr]) (by simp [he]) (by have := h.2.2.1; rw [he] at this; simp at this ⊢; omega) ho
  refine ⟨_, r1.trans r2, ?_⟩
  have hE := ents_two d t L R (at_, u) A B k q he hs hA hB
  rw [hE] at hri
  obtain ⟨E0, hE0⟩ : ∃ E0, ents d q = e :: E0 := by
    cases h : ents d q with
    | nil => rw [h] at hfirst; cases hfirst
    | cons x xs => rw [h] at hfirst; injection hfirst with hfirst; exact ⟨xs, by rw [hfirst]⟩
  show ents (d + 1) (Tr.mk t.a (L ++ e :: R) ((A ++ [k]) ++ q' :: B)) = _
  rw [ents_two d (Tr.mk t.a (L ++ e :: R) ((A ++ [k]) ++ q' :: B)) L R e A B k q' rfl (by simp) hA hB, hE, hen]
  obtain ⟨hr1, hr2, hr3⟩ := rise_append.1 hri
  obtain ⟨hr4, hr5, hr6⟩ := rise_append.1 hr1
  obtain ⟨hr7, hr8, hr9⟩ := rise_append.1 hr5
  have hd1 : delL e.1 (ents d q) = E0 := by
    have h8 := (rise_cons.1 hr8).2
    rw [hE0] at h8 ⊢
    exact delL_here e.1 e.2 [] E0 (by simp) (rise_cons.1 h8).1
  have hd2 := delL_here at_ u (wpre L (A.map (ents d)) ++ ents d k) (ents d q ++ wpost R (B.map (ents d))) (fun x hx => by
    rcases List.mem_append.1 hx with hx | hx
    · exact hr6 x hx (at_, u) (by simp)
    · exact hr9 x hx (at_, u) (by simp)) (fun x hx => by
    rcases List.mem_append.1 hx with hx | hx
    · exact (rise_cons.1 hr8).1 x hx
    · exact hr3 (at_, u) (by simp) x hx)
  rw [show wpre L (A.map (ents d)) ++ (ents d k ++ (at_, u) :: ents d q) ++ wpost R (B.map (ents d)) = (wpre L (A.map (ents d)) ++ ents d k) ++ (at_, u) :: (ents d q ++ wpost R (B.map (ents d))) by simp, hd2, hd1, hE0]
  simp
end Go.Proofs.Ytkfcflflgecljaa.H
