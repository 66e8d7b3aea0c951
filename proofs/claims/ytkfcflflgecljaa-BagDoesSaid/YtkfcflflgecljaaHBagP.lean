/- Trees over a bag's nodes: what stands in them, in order; which nodes they hold. -/
import Derived.Test.YtkfcflflgecljaaHBagW
set_option linter.unusedVariables false
namespace Go.Proofs.Ytkfcflflgecljaa.H
variable {α : Type}
inductive Tr (α : Type) where
  | mk (a : Nat) (es : List (Int × α)) (ks : List (Tr α))
def Tr.a : Tr α → Nat | .mk a _ _ => a
def Tr.es : Tr α → List (Int × α) | .mk _ es _ => es
def Tr.ks : Tr α → List (Tr α) | .mk _ _ ks => ks
@[simp] theorem Tr.a_mk (a : Nat) (es : List (Int × α)) (ks : List (Tr α)) : (Tr.mk a es ks).a = a := rfl
@[simp] theorem Tr.es_mk (a : Nat) (es : List (Int × α)) (ks : List (Tr α)) : (Tr.mk a es ks).es = es := rfl
@[simp] theorem Tr.ks_mk (a : Nat) (es : List (Int × α)) (ks : List (Tr α)) : (Tr.mk a es ks).ks = ks := rfl
theorem Tr.eta (t : Tr α) : Tr.mk t.a t.es t.ks = t := by cases t; rfl
def Tr.nd (t : Tr α) : Nd α := ⟨t.es.map Prod.fst, t.es.map Prod.snd, t.ks.map Tr.a⟩
/-- A tree of depth d lies in H; its root has lo numbers at least. -/
def Ok (H : HP α) : Nat → Nat → Tr α → Prop
  | 0, lo, t => H t.a = some t.nd ∧ t.ks = [] ∧ lo ≤ t.es.length ∧ t.es.length ≤ 7
  | d + 1, lo, t => H t.a = some t.nd ∧ t.ks.length = t.es.length + 1 ∧ lo ≤ t.es.length ∧ t.es.length ≤ 7 ∧ ∀ k ∈ t.ks, Ok H d 3 k
def weave : List (Int × α) → List (List (Int × α)) → List (Int × α)
  | e :: es, c :: cs => c ++ e :: weave es cs
  | [], c :: _ => c
  | _, [] => []
def ents : Nat → Tr α → List (Int × α)
  | 0, t => t.es
  | d + 1, t => weave t.es (t.ks.map (ents d))
def fp : Nat → Tr α → List Nat
  | 0, t => [t.a]
  | d + 1, t => t.a :: t.ks.flatMap (fp d)
def wpre : List (Int × α) → List (List (Int × α)) → List (Int × α)
  | e :: es, c :: cs => c ++ e :: wpre es cs
  | _, _ => []
def wpost : List (Int × α) → List (List (Int × α)) → List (Int × α)
  | e :: es, c :: cs => e :: c ++ wpost es cs
  | _, _ => []
theorem weave_cons : ∀ (R : List (Int × α)) (c : List (Int × α)) (B : List (List (Int × α))), B.length = R.length → weave R (c :: B) = c ++ wpost R B
  | [], c, [], _ => by simp [weave, wpost]
  | e :: R, c, b :: B, h => by
    rw [weave, weave_cons R b B (by simpa using h), wpost]; simp
  | [], c, b :: B, h => by simp at h
  | e :: R, c, [], h => by simp at h
theorem weave_at : ∀ (L : List (Int × α)) (A : List (List (Int × α))) (R : List (Int × α)) (B : List (List (Int × α))), A.length = L.length → weave (L ++ R) (A ++ B) = wpre L A ++ weave R B
  | [], [], R, B, _ => by simp [wpre]
  | e :: L, a :: A, R, B, h => by
    rw [List.cons_append, List.cons_append, weave, weave_at L A R B (by simpa using h), wpre]; simp
  | [], a :: A, _, _, h => by simp at h
  | e :: L, [], _, _, h => by simp at h
theorem weave_kid (L R : List (Int × α)) (A B : List (List (Int × α))) (c : List (Int × α)) (hA : A.length = L.length) (hB : B.length = R.length) : weave (L ++ R) (A ++ c :: B) = wpre L A ++ c ++ wpost R B := by
  rw [weave_at L A R (c :: B) hA, weave_cons R c B hB, List.append_assoc]
theorem weave_mid : ∀ (M : List (Int × α)) (A : List (List (Int × α))) (m : Int × α) (N : List (Int × α)) (B : List (List (Int × α))), A.length = M.length + 1 → weave (M ++ m :: N) (A ++ B) = weave M A ++ m :: weave N B
  | [], [a], m, N, B, _ => by simp [weave]
  | e :: M, a :: A, m, N, B, h => by
    rw [List.cons_append, List.cons_append, weave, weave_mid M A m N B (by simpa using h), weave]; simp
  | [], [], _, _, _, h => by simp at h
  | [], _ :: _ :: _, _, _, _, h => by simp at h
  | e :: M, [], _, _, _, h => by simp at h
theorem wpost_cons (e : Int × α) (R : List (Int × α)) (c : List (Int × α)) (B : List (List (Int × α))) : wpost (e :: R) (c :: B) = e :: c ++ wpost R B := rfl
/-- A node's own numbers are some of those below it. -/
theorem weave_sub : ∀ (es : List (Int × α)) (cs : List (List (Int × α))), cs.length = es.length + 1 → es.Sublist (weave es cs)
  | [], _, _ => List.nil_sublist _
  | e :: es, c :: cs, h => by
    rw [weave]
    exact ((weave_sub es cs (by simpa using h)).cons_cons e).trans (List.sublist_append_right _ _)
  | e :: es, [], h => by simp at h

/-! ### numbers that rise -/
def Rise (l : List (Int × α)) : Prop := (l.map Prod.fst).Pairwise (· < ·)
theorem Rise.sub {l m : List (Int × α)} (h : Rise m) (hs : l.Sublist m) : Rise l := List.Pairwise.sublist (hs.map _) h
theorem rise_append {l m : List (Int × α)} : Rise (l ++ m) ↔ Rise l ∧ Rise m ∧ ∀ x ∈ l, ∀ y ∈ m, x.1 < y.1 := by
  unfold Rise
  rw [List.map_append, List.pairwise_append]
  constructor
  · rintro ⟨h1, h2, h3⟩
    exact ⟨h1, h2, fun x hx y hy => h3 x.1 (List.mem_map_of_mem hx) y.1 (List.mem_map_of_mem hy)⟩
  · rintro ⟨h1, h2, h3⟩
    refine ⟨h1, h2, fun a ha b hb => ?_⟩
    obtain ⟨x, hx, rfl⟩ := List.mem_map.1 ha
    obtain ⟨y, hy, rfl⟩ := List.mem_map.1 hb
    exact h3 x hx y hy
theorem rise_cons {e : Int × α} {l : List (Int × α)} : Rise (e :: l) ↔ (∀ y ∈ l, e.1 < y.1) ∧ Rise l := by
  rw [← List.singleton_append, rise_append]
  constructor
  · rintro ⟨_, h2, h3⟩; exact ⟨fun y hy => h3 e (by simp) y hy, h2⟩
  · rintro ⟨h1, h2⟩; exact ⟨by simp [Rise], h2, fun x hx y hy => by rw [List.mem_singleton.1 hx]; exact h1 y hy⟩
/-- Where a number stands, or would stand. -/
theorem cut_at (l : List (Int × α)) (h : Rise l) (at_ : Int) : ∃ L R, l = L ++ R ∧ L.length = (l.map Prod.fst).countP (· < at_) ∧ (∀ x ∈ L, x.1 < at_) ∧ (∀ y ∈ R, at_ ≤ y.1) ∧
    ((l.map Prod.fst).contains at_ = true ↔ ∃ v R', R = (at_, v) :: R') := by
  induction l with
  | nil => exact ⟨[], [], rfl, rfl, by simp, by simp, by simp⟩
  | cons e l ih =>
    obtain ⟨h1, h2⟩ := rise_cons.1 h
    by_cases he : e.1 < at_
    · obtain ⟨L, R, rfl, hl, hL, hR, hc⟩ := ih h2
      refine ⟨e :: L, R, rfl, ?_, ?_, hR, ?_⟩
      · rw [List.length_cons, hl, List.map_cons, List.countP_cons_of_pos (by simpa using he)]
      · intro x hx
        rcases List.mem_cons.1 hx with rfl | hx
        · exact he
        · exact hL x hx
      · rw [← hc]
        simp only [List.map_cons, List.contains_cons]
        have : (at_ == e.1) = false := by simp; omega
        rw [this, Bool.false_or]
    · refine ⟨[], e :: l, rfl, ?_, by simp, ?_, ?_⟩
      · rw [List.length_nil, eq_comm, List.countP_eq_zero]
        intro x hx
        obtain ⟨y, hy, rfl⟩ := List.mem_map.1 hx
        rcases List.mem_cons.1 hy with rfl | hy
        · simpa using he
        · have := h1 y hy; simp; omega
      · intro y hy
        rcases List.mem_cons.1 hy with rfl | hy
        · omega
        · have := h1 y hy; omega
      · constructor
        · intro hc
          have hm : at_ ∈ (e :: l).map Prod.fst := by simpa using hc
          obtain ⟨y, hy, rfl⟩ := List.mem_map.1 hm
          rcases List.mem_cons.1 hy with rfl | hy
          · exact ⟨y.2, l, rfl⟩
          · have := h1 y hy; omega
        · rintro ⟨v, R', hR⟩
          injection hR with h1 h2
          rw [h1]; simp

/-! ### what operations do to what stands there -/
def getL (at_ : Int) (l : List (Int × α)) : Option α := (l.find? (fun e => e.1 == at_)).map Prod.snd
def insL (at_ : Int) (v : α) (l : List (Int × α)) : List (Int × α) := l.filter (fun e => decide (e.1 < at_)) ++ (at_, v) :: l.filter (fun e => decide (at_ < e.1))
def delL (at_ : Int) (l : List (Int × α)) : List (Int × α) := l.filter (fun e => e.1 != at_)
theorem filter_all {p : Int × α → Bool} {l : List (Int × α)} (h : ∀ x ∈ l, p x = true) : l.filter p = l := List.filter_eq_self.2 h
theorem filter_none {p : Int × α → Bool} {l : List (Int × α)} (h : ∀ x ∈ l, p x = false) : l.filter p = [] := by
  rw [List.filter_eq_nil_iff]; intro x hx; rw [h x hx]; simp
theorem insL_mid (at_ : Int) (v : α) (P c Q : List (Int × α)) (hP : ∀ x ∈ P, x.1 < at_) (hQ : ∀ x ∈ Q, at_ < x.1) : insL at_ v (P ++ c ++ Q) = P ++ insL at_ v c ++ Q := by
  unfold insL
  rw [List.filter_append, List.filter_append, List.filter_append, List.filter_append,
    filter_all (l := P) (fun x hx => by simpa using hP x hx), filter_none (l := Q) (p := fun e => decide (e.1 < at_)) (fun x hx => by have := hQ x hx; simp; omega),
    filter_none (l := P) (p := fun e => decide (at_ < e.1)) (fun x hx => by have := hP x hx; simp; omega), filter_all (l := Q) (p := fun e => decide (at_ < e.1)) (fun x hx => by simpa using hQ x hx)]
  simp
theorem delL_mid (at_ : Int) (P c Q : List (Int × α)) (hP : ∀ x ∈ P, x.1 < at_) (hQ : ∀ x ∈ Q, at_ < x.1) : delL at_ (P ++ c ++ Q) = P ++ delL at_ c ++ Q := by
  unfold delL
  rw [List.filter_append, List.filter_append, filter_all (l := P) (fun x hx => by have := hP x hx; simp; omega), filter_all (l := Q) (fun x hx => by have := hQ x hx; simp; omega)]
theorem insL_here (at_ : Int) (v u : α) (P Q : List (Int × α)) (hP : ∀ x ∈ P, x.1 < at_) (hQ : ∀ x ∈ Q, at_ < x.1) : insL at_ v (P ++ (at_, u) :: Q) = P ++ (at_, v) :: Q := by
  have := insL_mid at_ v P [(at_, u)] Q hP hQ
  rw [List.append_assoc, List.singleton_append] at this
  rw [this]; simp [insL]
theorem insL_new (at_ : Int) (v : α) (P Q : List (Int × α)) (hP : ∀ x ∈ P, x.1 < at_) (hQ : ∀ x ∈ Q, at_ < x.1) : insL at_ v (P ++ Q) = P ++ (at_, v) :: Q := by
  have := insL_mid at_ v P [] Q hP hQ
  rw [List.append_nil] at this
  rw [this]; simp [insL]
theorem delL_here (at_ : Int) (u : α) (P Q : List (Int × α)) (hP : ∀ x ∈ P, x.1 < at_) (hQ : ∀ x ∈ Q, at_ < x.1) : delL at_ (P ++ (at_, u) :: Q) = P ++ Q := by
  have := delL_mid at_ P [(at_, u)] Q hP hQ
  rw [List.append_assoc, List.singleton_append] at this
  rw [this]; simp [delL]
theorem delL_none (at_ : Int) (l : List (Int × α)) (h : ∀ x ∈ l, x.1 ≠ at_) : delL at_ l = l := filter_all fun x hx => by simpa using h x hx
theorem getL_mid (at_ : Int) (P c Q : List (Int × α)) (hP : ∀ x ∈ P, x.1 < at_) (hQ : ∀ x ∈ Q, at_ < x.1) : getL at_ (P ++ c ++ Q) = getL at_ c := by
  unfold getL
  have e1 : P.find? (fun e => e.1 == at_) = none := List.find?_eq_none.2 fun x hx => by have := hP x hx; simp; omega
  have e2 : Q.find? (fun e => e.1 == at_) = none := List.find?_eq_none.2 fun x hx => by have := hQ x hx; simp; omega
  rw [List.find?_append, List.find?_append, e1, e2]
  simp
theorem getL_here (at_ : Int) (u : α) (P Q : List (Int × α)) (hP : ∀ x ∈ P, x.1 < at_) : getL at_ (P ++ (at_, u) :: Q) = some u := by
  unfold getL
  have e1 : P.find? (fun e => e.1 == at_) = none := List.find?_eq_none.2 fun x hx => by have := hP x hx; simp; omega
  rw [List.find?_append, e1]
  simp
theorem getL_none (at_ : Int) (l : List (Int × α)) (h : ∀ x ∈ l, x.1 ≠ at_) : getL at_ l = none := by
  unfold getL
  rw [List.find?_eq_none.2 fun x hx => by simpa using h x hx]; rfl

/-! ### trees in memory -/
theorem addr_mem (d : Nat) (t : Tr α) : t.a ∈ fp d t := by cases d <;> simp [fp]
theorem fp_kid {d : Nat} {t k : Tr α} (hk : k ∈ t.ks) {c : Nat} (hc : c ∈ fp d k) : c ∈ fp (d + 1) t := by
  rw [fp]; exact List.mem_cons_of_mem _ (List.mem_flatMap.2 ⟨k, hk, hc⟩)
theorem Ok.root {H : HP α} : ∀ {d lo : Nat} {t : Tr α}, Ok H d lo t → H t.a = some t.nd
  | 0, _, _, h => h.1
  | _ + 1, _, _, h => h.1
theorem Ok.lo {H : HP α} : ∀ {d lo : Nat} {t : Tr α}, Ok H d lo t → lo ≤ t.es.length
  | 0, _, _, h => h.2.2.1
  | _ + 1, _, _, h => h.2.2.1
theorem Ok.hi {H : HP α} : ∀ {d lo : Nat} {t : Tr α}, Ok H d lo t → t.es.length ≤ 7
  | 0, _, _, h => h.2.2.2
  | _ + 1, _, _, h => h.2.2.2.1
theorem Ok.low {H : HP α} : ∀ {d lo lo' : Nat} {t : Tr α}, Ok H d lo t → lo' ≤ t.es.length → Ok H d lo' t
  | 0, _, _, _, h, hl => ⟨h.1, h.2.1, hl, h.2.2.2⟩
  | _ + 1, _, _, _, h, hl => ⟨h.1, h.2.1, hl, h.2.2.2⟩
theorem Ok.dom {H : HP α} : ∀ {d lo : Nat} {t : Tr α}, Ok H d lo t → ∀ c ∈ fp d t, H c ≠ none
  | 0, _, t, h, c, hc => by
    rw [fp, List.mem_singleton] at hc; subst hc; rw [h.1]; simp
  | d + 1, _, t, h, c, hc => by
    rw [fp] at hc
    rcases List.mem_cons.1 hc with rfl | hc
    · rw [h.1]; simp
    · obtain ⟨k, hk, hc⟩ := List.mem_flatMap.1 hc
      exact (h.2.2.2.2 k hk).dom c hc
theorem Ok.frame {H H' : HP α} : ∀ {d lo : Nat} {t : Tr α}, Ok H d lo t → (∀ c ∈ fp d t, H' c = H c) → Ok H' d lo t
  | 0, _, t, h, hf => ⟨(hf t.a (addr_mem 0 t)).trans h.1, h.2⟩
  | d + 1, _, t, h, hf => ⟨(hf t.a (addr_mem (d + 1) t)).trans h.1, h.2.1, h.2.2.1, h.2.2.2.1, fun k hk => (h.2.2.2.2 k hk).frame fun c hc => hf c (fp_kid hk hc)⟩
/-- A subtree turns. -/
structure Rep (H H' : HP α) (d lo : Nat) (t t' : Tr α) : Prop where
  ok : Ok H' d lo t'
  addr : t'.a = t.a
  nodup : (fp d t').Nodup
  new : ∀ c ∈ fp d t', c ∈ fp d t ∨ H c = none
  frame : ∀ c, c ∉ fp d t → H c ≠ none → H' c = H c
  dom : ∀ c, H c ≠ none → H' c ≠ none
theorem Rep.refl {H : HP α} {d lo : Nat} {t : Tr α} (h : Ok H d lo t) (hn : (fp d t).Nodup) : Rep H H d lo t t := ⟨h, rfl, hn, fun _ hc => .inl hc, fun _ _ _ => rfl, fun _ h => h⟩
theorem Rep.trans {H H1 H2 : HP α} {d lo lo' : Nat} {t t1 t2 : Tr α} (h : Rep H H1 d lo t t1) (k : Rep H1 H2 d lo' t1 t2) : Rep H H2 d lo' t t2 where
  ok := k.ok
  addr := k.addr.trans h.addr
  nodup := k.nodup
  new := fun c hc => by
    rcases k.new c hc with h1 | h1
    · exact h.new c h1
    · refine .inr ?_
      cases e : H c with
      | none => rfl
      | some nd => exact absurd h1 (h.dom c (by rw [e]; simp))
  frame := fun c hc hd => (k.frame c (fun h1 => by
    rcases h.new c h1 with h2 | h2
    · exact hc h2
    · exact hd h2) (h.dom c hd)).trans (h.frame c hc hd)
  dom := fun c hc => k.dom c (h.dom c hc)
theorem Rep.lower {H H' : HP α} {d lo lo' : Nat} {t t' : Tr α} (h : Rep H H' d lo t t') (hl : lo' ≤ t'.es.length) : Rep H H' d lo' t t' := ⟨h.ok.low hl, h.addr, h.nodup, h.new, h.frame, h.dom⟩
theorem fp_split (d : Nat) (t : Tr α) (A B : List (Tr α)) (k : Tr α) (h : t.ks = A ++ k :: B) : fp (d + 1) t = t.a :: (A.flatMap (fp d) ++ (fp d k ++ B.flatMap (fp d))) := by
  rw [fp, h]; simp
theorem nodup_parts {x : Nat} {P c Q : List Nat} : (x :: (P ++ (c ++ Q))).Nodup ↔ x ∉ P ∧ x ∉ c ∧ x ∉ Q ∧ P.Nodup ∧ c.Nodup ∧ Q.Nodup ∧ (∀ z ∈ P, z ∉ c) ∧ (∀ z ∈ P, z ∉ Q) ∧ (∀ z ∈ c, z ∉ Q) := by
  simp only [List.nodup_cons, List.nodup_append, List.mem_append, not_or]
  constructor
  · rintro ⟨⟨h1, h2, h3⟩, h4, ⟨h5, h6, h7⟩, h8⟩
    exact ⟨h1, h2, h3, h4, h5, h6, fun z hz hc => h8 z hz z (.inl hc) rfl, fun z hz hc => h8 z hz z (.inr hc) rfl, fun z hz hc => h7 z hz z hc rfl⟩
  · rintro ⟨h1, h2, h3, h4, h5, h6, h7, h8, h9⟩
    refine ⟨⟨h1, h2, h3⟩, h4, ⟨h5, h6, fun a ha b hb e => h9 a ha (e ▸ hb)⟩, fun a ha b hb e => ?_⟩
    rcases hb with hb | hb
    · exact h7 a ha (e ▸ hb)
    · exact h8 a ha (e ▸ hb)
theorem Rep.kid {H H' : HP α} {d lo : Nat} {t : Tr α} (h : Ok H (d + 1) lo t) (hn : (fp (d + 1) t).Nodup) {A B : List (Tr α)} {k k' : Tr α} (hs : t.ks = A ++ k :: B) (r : Rep H H' d 3 k k') : Rep H H' (d + 1) lo t (Tr.mk t.a t.es (A ++ k' :: B)) := by
  have hfp := fp_split d t A B k hs
  have hfp' : fp (d + 1) (Tr.mk t.a t.es (A ++ k' :: B)) = t.a :: (A.flatMap (fp d) ++ (fp d k' ++ B.flatMap (fp d))) := fp_split d (Tr.mk t.a t.es (A ++ k' :: B)) A B k' rfl
  rw [hfp] at hn
  obtain ⟨n1, n2, n3, n4, n5, n6, n7, n8, n9⟩ := nodup_parts.1 hn
  have hdom := h.dom
  rw [hfp] at hdom
  have hdA : ∀ z ∈ A.flatMap (fp d), H z ≠ none := fun z hz => hdom z (by simp only [List.mem_cons, List.mem_append]; exact .inr (.inl hz))
  have hdB : ∀ z ∈ B.flatMap (fp d), H z ≠ none := fun z hz => hdom z (by simp only [List.mem_cons, List.mem_append]; exact .inr (.inr (.inr hz)))
  have hda : H t.a ≠ none := hdom _ (by simp)
  refine ⟨⟨?_, ?_, h.2.2.1, h.2.2.2.1, ?_⟩, rfl, ?_, ?_, ?_, r.dom⟩
  · rw [Tr.a_mk, r.frame t.a n2 hda, h.1]
    show some t.nd = some (Tr.nd (Tr.mk t.a t.es (A ++ k' :: B)))
    simp [Tr.nd, hs, r.addr]
  · rw [Tr.ks_mk, Tr.es_mk, ← h.2.1, hs]; simp
  · intro q hq
    rw [Tr.ks_mk] at hq
    rcases List.mem_append.1 hq with hq | hq
    · refine (h.2.2.2.2 q (by rw [hs]; exact List.mem_append_left _ hq)).frame fun c hc => ?_
      have hz : c ∈ A.flatMap (fp d) := List.mem_flatMap.2 ⟨q, hq, hc⟩
      exact r.frame c (n7 c hz) (hdA c hz)
    · rcases List.mem_cons.1 hq with rfl | hq
      · exact r.ok
      · refine (h.2.2.2.2 q (by rw [hs]; exact List.mem_append_right _ (List.mem_cons_of_mem _ hq))).frame fun c hc => ?_
        have hz : c ∈ B.flatMap (fp d) := List.mem_flatMap.2 ⟨q, hq, hc⟩
        exact r.frame c (fun hk => n9 c hk hz) (hdB c hz)
  · rw [hfp']
    refine nodup_parts.2 ⟨n1, fun hk => ?_, n3, n4, r.nodup, n6, fun z hz hk => ?_, n8, fun z hk hz => ?_⟩
    · rcases r.new _ hk with h1 | h1
      · exact n2 h1
      · exact hda h1
    · rcases r.new _ hk with h1 | h1
      · exact n7 z hz h1
      · exact hdA z hz h1
    · rcases r.new _ hk with h1 | h1
      · exact n9 z h1 hz
      · exact hdB z hz h1
  · intro c hc
    rw [hfp'] at hc
    rw [hfp]
    simp only [List.mem_cons, List.mem_append] at hc ⊢
    rcases hc with rfl | hc | hc | hc
    · exact .inl (.inl rfl)
    · exact .inl (.inr (.inl hc))
    · rcases r.new c hc with h1 | h1
      · exact .inl (.inr (.inr (.inl h1)))
      · exact .inr h1
    · exact .inl (.inr (.inr (.inr hc)))
  · intro c hc hd
    refine r.frame c (fun hk => hc ?_) hd
    rw [hfp]; simp only [List.mem_cons, List.mem_append]; exact .inr (.inr (.inl hk))
/-- The kid behind so many numbers. -/
theorem kid_at {t : Tr α} (h : t.ks.length = t.es.length + 1) {L R : List (Int × α)} (hs : t.es = L ++ R) : ∃ A k B, t.ks = A ++ k :: B ∧ A.length = L.length ∧ B.length = R.length := by
  have hl : L.length < t.ks.length := by rw [h, hs, List.length_append]; omega
  refine ⟨t.ks.take L.length, t.ks[L.length], t.ks.drop (L.length + 1), ?_, ?_, ?_⟩
  · rw [← List.drop_eq_getElem_cons hl, List.take_append_drop]
  · rw [List.length_take]; omega
  · rw [List.length_drop, h, hs, List.length_append]; omega
theorem ents_kid (d : Nat) (t : Tr α) (L R : List (Int × α)) (A B : List (Tr α)) (k : Tr α) (he : t.es = L ++ R) (hk : t.ks = A ++ k :: B) (hA : A.length = L.length) (hB : B.length = R.length) :
    ents (d + 1) t = wpre L (A.map (ents d)) ++ ents d k ++ wpost R (B.map (ents d)) := by
  rw [ents, he, hk, List.map_append, List.map_cons]
  exact weave_kid L R _ _ _ (by simpa using hA) (by simpa using hB)
theorem pre_lt : ∀ (L : List (Int × α)) (A : List (List (Int × α))) (at_ : Int), Rise (wpre L A) → (∀ x ∈ L, x.1 < at_) → ∀ x ∈ wpre L A, x.1 < at_
  | [], _, _, _, _, _, h => by simp [wpre] at h
  | _ :: _, [], _, _, _, _, h => by simp [wpre] at h
  | e :: L, c :: A, at_, hr, hL, x, h => by
    rw [wpre] at h hr
    obtain ⟨h1, h2, h3⟩ := rise_append.1 hr
    have he := hL e (by simp)
    rcases List.mem_append.1 h with h | h
    · have := h3 x h e (by simp); omega
    · rcases List.mem_cons.1 h with rfl | h
      · exact he
      · exact pre_lt L A at_ (rise_cons.1 h2).2 (fun y hy => hL y (by simp [hy])) x h
theorem post_gt : ∀ (R : List (Int × α)) (B : List (List (Int × α))) (at_ : Int), Rise (wpost R B) → (∀ y ∈ R, at_ < y.1) → ∀ x ∈ wpost R B, at_ < x.1
  | [], _, _, _, _, _, h => by simp [wpost] at h
  | _ :: _, [], _, _, _, _, h => by simp [wpost] at h
  | e :: R, c :: B, at_, hr, hR, x, h => by
    rw [wpost, List.cons_append] at h hr
    obtain ⟨h1, h2⟩ := rise_cons.1 hr
    have he := hR e (by simp)
    rcases List.mem_cons.1 h with rfl | h
    · exact he
    · have := h1 x h; omega
theorem gt_of_not {R : List (Int × α)} {at_ : Int} (hr : Rise R) (hR : ∀ y ∈ R, at_ ≤ y.1) (hn : ¬ ∃ v R', R = (at_, v) :: R') : ∀ y ∈ R, at_ < y.1 := by
  cases R with
  | nil => simp
  | cons e R =>
    intro y hy
    have he := hR e (by simp)
    have hne : e.1 ≠ at_ := fun h => hn ⟨e.2, R, by rw [← h]⟩
    rcases List.mem_cons.1 hy with rfl | hy
    · omega
    · have := (rise_cons.1 hr).1 y hy; omega
theorem own_rise {d : Nat} {t : Tr α} (h : ∀ d', d = d' + 1 → t.ks.length = t.es.length + 1) (hr : Rise (ents d t)) : Rise t.es := by
  cases d with
  | zero => exact hr
  | succ d => exact hr.sub (weave_sub _ _ (by rw [List.length_map]; exact h d rfl))
theorem Ok.kids {H : HP α} {d lo : Nat} {t : Tr α} (h : Ok H d lo t) : ∀ d', d = d' + 1 → t.ks.length = t.es.length + 1 := by
  rintro d' rfl; exact h.2.1
theorem Ok.leaf {H : HP α} {d lo : Nat} {t : Tr α} (h : Ok H d lo t) : t.nd.cs.isEmpty = decide (d = 0) := by
  cases d with
  | zero => simp [Tr.nd, h.2.1]
  | succ d =>
    have := h.2.1
    cases hk : t.ks with
    | nil => rw [hk] at this; simp at this
    | cons k ks => simp [Tr.nd, hk]
end Go.Proofs.Ytkfcflflgecljaa.H
