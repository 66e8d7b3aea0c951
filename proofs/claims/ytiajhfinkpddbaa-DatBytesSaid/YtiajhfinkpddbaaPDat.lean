/- The table of virtual numbers, in plain words. -/
import Derived.Test.YtiajhfinkpddbaaQ3
import Derived.Test.YtiajhfinkpddbaaQ5
import Derived.Test.YtiajhfinkpddbaaQ7
import Derived.Test.YtiajhfinkpddbaaQ8
import Derived.Test.YtiajhfinkpddbaaQ9
import Derived.Test.YtiajhfinkpddbaaHLives
import Derived.Test.YtiajhfinkpddbaaHFuncs
import Derived.Test.YtiajhfinkpddbaaHClone
set_option linter.unusedVariables false
namespace Go.Proofs.Ytiajhfinkpddbaa.P
open Go.RowKit Go.Proofs.Ytiajhfinkpddbaa.H Go.Proofs.Ytiajhfinkpddbaa.Q Go.Proofs.YtiajhfinkpddbaaW.PrintWords Go.Proofs.YtiajhfinkpddbaaW.PrintLast Go.Proofs.YtiajhfinkpddbaaW.PrintMore

theorem u64_wf {n : Int} (h : (Lit.int .u64 n).wf = true) : 0 ≤ n ∧ n < 18446744073709551616 := by
  simp [Lit.wf, IntKind.min, IntKind.max, IntKind.bits, IntKind.signed] at h; omega
theorem u32_wf {n : Int} (h : (Lit.int .u32 n).wf = true) : 0 ≤ n ∧ n < 4294967296 := by
  simp [Lit.wf, IntKind.min, IntKind.max, IntKind.bits, IntKind.signed] at h; omega
theorem w64 (i : Nat) (h : i ≤ 4000000000000) : wrap64 ((i : Int) + 1) = ((i + 1 : Nat) : Int) := by rw [IntWalk.wrap64_in _ (by omega)]; omega
theorem rd_at (l : List E) (i : Nat) (h : i < l.length) : rd_T31 l (i : Int) = l[i] := by simp [rd_T31, h]
theorem NF : ¬ (false = true) := by decide

def freeE (x : E) : Bool := freeB x.f0 x.f1 x.f2
def oneE (x : E) : Bool := freeE x || (decide (16 ≤ x.f0) && (decide (x.f0 < 4096) && (decide (0 < x.f1) && (decide (x.f1 < 281474976710656) && (x.f2 == 0 || (decide (x.f1 < x.f2) && decide (x.f2 < 281474976710656)))))))
theorem isfree_f (x : E) : dat_isFree.f x.f0 x.f1 x.f2 = some (freeE x) := rfl
theorem one_f (x : E) : dat_isOne.f x.f0 x.f1 x.f2 = some (oneE x) := by
  unfold dat_isOne.f oneE
  rw [isfree_f, Option.bind_some]
  cases hf : freeE x with
  | true => rfl
  | false =>
    rw [if_neg NF, Bool.false_or]
    by_cases h0 : x.f2 = 0
    · rw [if_pos h0, beq_iff_eq.2 h0]
      by_cases h1 : x.f0 ≥ 16
      · rw [if_pos h1, decide_eq_true (show 16 ≤ x.f0 from h1)]
        by_cases h2 : x.f0 < 4096
        · rw [if_pos h2, decide_eq_true h2]
          by_cases h3 : x.f1 > 0
          · rw [if_pos h3, decide_eq_true (show 0 < x.f1 from h3)]
            by_cases h4 : x.f1 < 281474976710656
            · rw [if_pos h4, decide_eq_true h4]; rfl
            · rw [if_neg h4, decide_eq_false h4]; rfl
          · rw [if_neg h3, decide_eq_false (show ¬ 0 < x.f1 from h3)]; rfl
        · rw [if_neg h2, decide_eq_false h2]; rfl
      · rw [if_neg h1, decide_eq_false (show ¬ 16 ≤ x.f0 from h1)]; rfl
    · rw [if_neg h0, beq_eq_false_iff_ne.2 h0]
      by_cases h5 : x.f2 > x.f1
      · rw [if_pos h5, decide_eq_true (show x.f1 < x.f2 from h5)]
        by_cases h1 : x.f0 ≥ 16
        · rw [if_pos h1, decide_eq_true (show 16 ≤ x.f0 from h1)]
          by_cases h2 : x.f0 < 4096
          · rw [if_pos h2, decide_eq_true h2]
            by_cases h3 : x.f1 > 0
            · rw [if_pos h3, decide_eq_true (show 0 < x.f1 from h3)]
              by_cases h4 : x.f1 < 281474976710656
              · rw [if_pos h4, decide_eq_true h4]; simp
              · rw [if_neg h4, decide_eq_false h4]; rfl
            · rw [if_neg h3, decide_eq_false (show ¬ 0 < x.f1 from h3)]; rfl
          · rw [if_neg h2, decide_eq_false h2]; rfl
        · rw [if_neg h1, decide_eq_false (show ¬ 16 ≤ x.f0 from h1)]; rfl
      · rw [if_neg h5, decide_eq_false (show ¬ x.f1 < x.f2 from h5)]
        (repeat' split) <;> simp
theorem rightone_f (x : E) : dat_Right_1.f x.f0 x.f1 x.f2 = some (!oneE x) := by
  unfold dat_Right_1.f; rw [one_f]; rfl
theorem idx_one : ∀ (l : List E) (i : Int), 0 ≤ i → ∃ r, idx 42 l i = some r ∧ decide (r ≥ 0) = !(l.all oneE)
  | [], i, _ => ⟨-1, rfl, rfl⟩
  | x :: xs, i, hi => by
    have e : pred 42 x = some (!oneE x) := by unfold pred; rw [if_neg (by decide), if_pos rfl]; exact rightone_f x
    rw [idx, e, Option.bind_some]
    cases hb : oneE x with
    | true =>
      obtain ⟨r, hr, hd⟩ := idx_one xs (i + 1) (by omega)
      refine ⟨r, by simpa using hr, ?_⟩
      rw [hd, List.all_cons, hb]; rfl
    | false => exact ⟨i, by simp, by rw [List.all_cons, hb, decide_eq_true hi]; rfl⟩
/-- Is a table right? -/
def rightV : List E → Bool
  | [] => false
  | x :: xs => decide (xs.length < 1860) && (freeE x && (x :: xs).all oneE)
theorem right_f (l : List E) : dat_Right.f l = some (rightV l) := by
  unfold dat_Right.f
  cases l with
  | nil => rfl
  | cons x xs =>
    rw [if_neg (by simp only [List.length_cons]; omega)]
    show _ = some (decide (xs.length < 1860) && (freeE x && (x :: xs).all oneE))
    by_cases h1 : xs.length < 1860
    · rw [if_neg (by simp only [List.length_cons]; omega), if_pos (by simp only [List.length_cons]; omega), decide_eq_true h1]
      have e := rd_at (x :: xs) 0 (by simp)
      rw [show ((0 : Nat) : Int) = 0 from rfl] at e
      rw [e]
      simp only [List.getElem_cons_zero]
      rw [isfree_f, Option.bind_some]
      cases hf : freeE x with
      | true =>
        obtain ⟨r, hr, hd⟩ := idx_one (x :: xs) 0 (by omega)
        rw [if_pos rfl]
        unfold api_Trans_41.f
        rw [hr]
        simp only [Option.bind_some]
        rw [hd]; simp
      | false => rfl
    · rw [if_pos (by simp only [List.length_cons]; omega), decide_eq_false h1]; rfl
theorem rightV_iff {l : List E} : rightV l = true ↔ ∃ h : 0 < l.length, l.length ≤ 1860 ∧ freeE l[0] = true ∧ ∀ x ∈ l, oneE x = true := by
  cases l with
  | nil => simp [rightV]
  | cons x xs =>
    unfold rightV
    simp only [Bool.and_eq_true, decide_eq_true_eq, List.all_eq_true, List.getElem_cons_zero, List.length_cons]
    constructor
    · rintro ⟨h1, h2, h3⟩; exact ⟨by omega, by omega, h2, h3⟩
    · rintro ⟨_, h1, h2, h3⟩; exact ⟨by omega, h2, h3⟩
theorem rightV_len {l : List E} (h : rightV l = true) : l.length ≤ 1860 := by obtain ⟨_, h, _⟩ := rightV_iff.1 h; exact h
theorem rightV_set {l : List E} (hr : rightV l = true) {i : Nat} (hi : i < l.length) (hi0 : 0 < i) (x : E) : rightV (l.set i x) = oneE x := by
  obtain ⟨h0, h1, h2, h3⟩ := rightV_iff.1 hr
  cases ho : oneE x with
  | true =>
    refine rightV_iff.2 ⟨by rw [List.length_set]; exact h0, by rw [List.length_set]; exact h1, ?_, fun y hy => ?_⟩
    · rw [List.getElem_set_ne (by omega)]; exact h2
    · rcases List.mem_or_eq_of_mem_set hy with h | h
      · exact h3 y h
      · rw [h]; exact ho
  | false =>
    cases hb : rightV (l.set i x) with
    | false => rfl
    | true =>
      obtain ⟨_, _, _, h⟩ := rightV_iff.1 hb
      have := h x (List.mem_set hi x)
      rw [ho] at this; cases this
theorem rightV_app {l : List E} (hr : rightV l = true) (hl : l.length < 1860) (x : E) : rightV (l ++ [x]) = oneE x := by
  obtain ⟨h0, h1, h2, h3⟩ := rightV_iff.1 hr
  cases ho : oneE x with
  | true =>
    refine rightV_iff.2 ⟨by simp, by simp; omega, ?_, fun y hy => ?_⟩
    · rw [List.getElem_append_left h0]; exact h2
    · rcases List.mem_append.1 hy with h | h
      · exact h3 y h
      · rw [List.mem_singleton.1 h]; exact ho
  | false =>
    cases hb : rightV (l ++ [x]) with
    | false => rfl
    | true =>
      obtain ⟨_, _, _, h⟩ := rightV_iff.1 hb
      have := h x (by simp)
      rw [ho] at this; cases this

/-- The first free place. -/
def frI : List E → Nat → Nat
  | [], i => i
  | x :: xs, i => if freeE x = true then i else frI xs (i + 1)
theorem frI_bd : ∀ (l : List E) (i : Nat), i ≤ frI l i ∧ frI l i ≤ i + l.length
  | [], i => by simp [frI]
  | x :: xs, i => by
    unfold frI
    split
    · simp
    · have := frI_bd xs (i + 1); simp only [List.length_cons]; omega
theorem idx_free : ∀ (l : List E) (i : Nat), ∃ r, idx 31 l (i : Int) = some r ∧ (r = (frI l i : Int) ∧ frI l i < i + l.length ∨ r = -1 ∧ frI l i = i + l.length)
  | [], i => ⟨-1, rfl, .inr ⟨rfl, rfl⟩⟩
  | x :: xs, i => by
    have e : pred 31 x = some (freeE x) := by unfold pred; rw [if_pos rfl]; exact isfree_f x
    rw [idx, e, Option.bind_some]
    unfold frI
    cases hb : freeE x with
    | true => exact ⟨(i : Int), by simp, .inl ⟨by simp, by simp⟩⟩
    | false =>
      obtain ⟨r, hr, hd⟩ := idx_free xs (i + 1)
      refine ⟨r, by simpa using hr, ?_⟩
      rw [if_neg NF]
      simp only [List.length_cons]
      rcases hd with ⟨h1, h2⟩ | ⟨h1, h2⟩
      · exact .inl ⟨h1, by omega⟩
      · exact .inr ⟨h1, by omega⟩
def freeAt (l : List E) : Nat := frI (l.drop 1) 1
theorem freeAt_bd {l : List E} (h : 0 < l.length) : 1 ≤ freeAt l ∧ freeAt l ≤ l.length := by
  have := frI_bd (l.drop 1) 1
  unfold freeAt
  rw [List.length_drop] at this; omega
theorem frI_shift : ∀ (l : List E) (i j : Nat), frI l (i + j) = frI l i + j
  | [], i, j => rfl
  | x :: xs, i, j => by
    unfold frI
    split
    · rfl
    · rw [show i + j + 1 = (i + 1) + j by omega]; exact frI_shift xs (i + 1) j
theorem freeone_f (l : List E) (h : 0 < l.length) (hl : l.length ≤ 1000000000) : dat_freeOne.f l = some (freeAt l : Int) := by
  unfold dat_freeOne.f api_Trans_52.f
  rw [if_pos (by omega)]
  obtain ⟨r, hr, hd⟩ := idx_free (l.drop 1) 0
  have e : freeAt l = frI (l.drop 1) 0 + 1 := frI_shift _ 0 1
  rw [show (0 : Int) = ((0 : Nat) : Int) from rfl, hr, Option.bind_some, e]
  rw [List.length_drop] at hd
  rcases hd with ⟨h1, h2⟩ | ⟨h1, h2⟩
  · rw [if_neg (by omega), h1, w64 _ (by omega)]
  · rw [if_pos (by omega)]; congr 1; omega

def tr (p c e : Int) : E := ⟨p, c, e⟩
def beginL (l : List E) (t : E) : List E := if freeAt l = l.length then l ++ [t] else l.set (freeAt l) t
def beginV (l : List E) (phys cp : Int) : List E × Int × Int :=
  if rightV l = true then (if 1860 ≤ freeAt l then ([], 0, 81) else if freeE (tr phys cp 0) = false ∧ oneE (tr phys cp 0) = true then (beginL l (tr phys cp 0), (freeAt l : Int), 0) else ([], 0, 80)) else ([], 0, 80)
theorem begin_f (l : List E) (phys cp : Int) (k : Nat) (hl : l.length ≤ 1000000000) (hk : 0 < k) : dat_Begin.f k l phys cp = some (beginV l phys cp) := by
  unfold dat_Begin.f beginV
  rw [right_f, Option.bind_some]
  split
  · rename_i hr
    obtain ⟨h0, h1, _, _⟩ := rightV_iff.1 hr
    obtain ⟨b1, b2⟩ := freeAt_bd h0
    rw [freeone_f l h0 hl, Option.bind_some]
    obtain ⟨k, rfl⟩ : ∃ q, k = q + 1 := ⟨k - 1, by omega⟩
    by_cases h : 1860 ≤ freeAt l
    · rw [if_pos (by omega), if_pos h]
    rw [if_neg (by omega), if_neg h]
    have ef : dat_isFree.f phys cp 0 = some (freeE (tr phys cp 0)) := rfl
    have eo : dat_isOne.f phys cp 0 = some (oneE (tr phys cp 0)) := one_f (tr phys cp 0)
    rw [ef, Option.bind_some]
    cases hf : freeE (tr phys cp 0) with
    | true => rw [if_pos rfl, dat_Begin.j0, if_pos rfl, if_neg (by simp)]
    | false =>
      rw [if_neg NF, eo, Option.bind_some, dat_Begin.j0]
      have nn : ¬ (!true) = true := by decide
      cases ho : oneE (tr phys cp 0) with
      | false => rw [if_pos (show (!false) = true from rfl), if_neg (by simp)]
      | true =>
        rw [if_neg nn, if_pos ⟨rfl, rfl⟩]
        unfold api_Trans_33.f
        rw [if_pos hl, Option.bind_some]
        have em : (freeAt l : Int) % 4294967296 = freeAt l := by omega
        unfold beginL
        by_cases hq : freeAt l = l.length
        · rw [if_pos (by omega), if_pos (by omega), Option.bind_some, if_pos (by omega), if_pos (by simp; omega), em, if_pos hq, hq]
          simp only [Int.toNat_natCast]
          rw [List.set_append, if_neg (by omega), Nat.sub_self]; rfl
        · rw [if_neg (by omega), if_pos (by omega), if_pos (by omega), em, if_neg hq]; rfl
  · rfl
def usedV (l : List E) (v : Nat) : E × Int := if rightV l = true then (if h : v < l.length then (if freeE l[v] = true then (tr 0 0 0, 82) else (l[v], 0)) else (tr 0 0 0, 82)) else (tr 0 0 0, 80)
theorem used_f (l : List E) (v : Nat) (hv : v < 4294967296) (hl : l.length ≤ 1000000000) : dat_used.f l (v : Int) = some ((usedV l v).1.f0, (usedV l v).1.f1, (usedV l v).1.f2, (usedV l v).2) := by
  unfold dat_used.f usedV
  rw [right_f, Option.bind_some, IntWalk.u64_in _ (by omega), IntWalk.u64_in _ (by omega)]
  split
  · by_cases h : v < l.length
    · rw [if_neg (by omega), if_pos (by omega), if_pos (by omega), rd_at l v h, isfree_f, Option.bind_some, dif_pos h]
      split <;> rfl
    · rw [if_pos (by omega), dif_neg h]; rfl
  · rfl
def withV (l : List E) (v : Nat) (t : E) : List E × Int := if oneE t = true then (l.set v t, 0) else ([], 80)
theorem with_f (l : List E) (v : Nat) (t : E) (h : v < l.length) (hl : l.length ≤ 1000000000) : dat_with.f l (v : Int) t.f0 t.f1 t.f2 = some (withV l v t) := by
  unfold dat_with.f withV
  rw [one_f, Option.bind_some]
  split
  · unfold api_Trans_33.f
    rw [if_pos hl, Option.bind_some, if_pos (by omega), if_pos (by omega)]; rfl
  · rfl
theorem usedV_yes {l : List E} {v : Nat} (h : (usedV l v).2 = 0) : rightV l = true ∧ ∃ hv : v < l.length, 0 < v ∧ freeE l[v] = false ∧ usedV l v = (l[v], 0) := by
  unfold usedV at h ⊢
  split at h
  · rename_i hr
    split at h
    · rename_i hv
      split at h
      · simp at h
      · rename_i hf
        refine ⟨hr, hv, ?_, by simpa using hf, by rw [if_pos hr, dif_pos hv, if_neg hf]⟩
        obtain ⟨h0, _, h2, _⟩ := rightV_iff.1 hr
        rcases Nat.eq_zero_or_pos v with e | e
        · subst e; rw [h2] at hf; exact absurd rfl hf
        · exact e
    · simp at h
  · simp at h
def endV (l : List E) (v : Nat) (cp : Int) : List E × Int :=
  if (usedV l v).2 = 0 then (if (usedV l v).1.f2 = 0 then (if cp = (usedV l v).1.f1 then withV l v (tr 0 0 0) else if cp = 0 then ([], 80) else withV l v (tr (usedV l v).1.f0 (usedV l v).1.f1 cp)) else ([], 82)) else ([], (usedV l v).2)
theorem end_f (l : List E) (v : Nat) (cp : Int) (hv : v < 4294967296) (hl : l.length ≤ 1000000000) : dat_End.f l (v : Int) cp = some (endV l v cp) := by
  unfold dat_End.f endV
  rw [used_f l v hv hl, Option.bind_some]
  by_cases h : (usedV l v).2 = 0
  · obtain ⟨hr, hlt, hv0, hf, he⟩ := usedV_yes h
    have e : wrap64 (v : Int) = v := IntWalk.wrap64_in _ (by omega)
    rw [if_pos h, if_pos h, e]
    split
    · split
      · have := with_f l v (tr 0 0 0) hlt hl
        unfold tr at this ⊢
        rw [this]; rfl
      · split
        · rfl
        · have := with_f l v (tr (usedV l v).1.f0 (usedV l v).1.f1 cp) hlt hl
          unfold tr at this ⊢
          rw [this]; rfl
    · rfl
  · rw [if_neg h, if_neg h]
theorem shown_20 : nautiluslaw08_shown.f 20 = some true := by decide +kernel
theorem shown_f : ∀ k, 20 ≤ k → nautiluslaw08_shown.f k = some true
  | 0, h => by omega
  | k + 1, h => by
    by_cases e : k + 1 = 20
    · rw [e]; exact shown_20
    · exact nautiluslaw08_shown.mono k _ (shown_f k (by omega))
theorem cut_e (l : List E) : mn (l.length : Int) 2000 = ((min l.length 2000 : Nat) : Int) := by unfold mn; split <;> omega
theorem lives_f (t0 t1 t2 : Int) (l : List Int) : dat_Lives.f t0 t1 t2 l = some (livesB t0 t1 t2 l) := rfl
end Go.Proofs.Ytiajhfinkpddbaa.P
