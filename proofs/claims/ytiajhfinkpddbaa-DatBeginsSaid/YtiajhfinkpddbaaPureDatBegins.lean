/- The law DatBegins, in plain words: what begins where, and what is moved, is what the document says. -/
import Derived.Test.YtiajhfinkpddbaaQ11
import Derived.Test.YtiajhfinkpddbaaQ12
import Derived.Test.YtiajhfinkpddbaaQ17
import Derived.Test.YtiajhfinkpddbaaPDatM
import Derived.Test.YtiajhfinkpddbaaPDatU
set_option linter.unusedVariables false
namespace Go.Proofs.Ytiajhfinkpddbaa.Pure
open Go.RowKit Go.Proofs.Ytiajhfinkpddbaa.P Go.Proofs.Ytiajhfinkpddbaa.H Go.Proofs.Ytiajhfinkpddbaa.Q Go.Proofs.YtiajhfinkpddbaaW.PrintWords Go.Proofs.YtiajhfinkpddbaaW.PrintLast

def r1V (l : List E) (phys cp : Int) (q : Nat) : List E × Int × Int :=
  if 1860 ≤ q then ([], 0, 81) else if phys = 0 ∨ cp = 0 then ([], 0, 80) else
    if (rwithV (if q = l.length then l ++ [tr 0 0 0] else l) q (tr phys cp 0)).2 = 0 then ((rwithV (if q = l.length then l ++ [tr 0 0 0] else l) q (tr phys cp 0)).1, (q : Int), 0) else ([], 0, (rwithV (if q = l.length then l ++ [tr 0 0 0] else l) q (tr phys cp 0)).2)
theorem j1_f (l : List E) (phys cp : Int) (q k : Nat) (hq : q ≤ l.length) (hl : l.length ≤ 100000) (hk : l.length + 10 < k) : nautilusref08_Begin.j1 k l phys cp (q : Int) = some (r1V l phys cp q) := by
  obtain ⟨k, rfl⟩ : ∃ z, k = z + 3 := ⟨k - 3, by omega⟩
  unfold r1V
  rw [nautilusref08_Begin.j1, w64 l.length (by omega)]
  by_cases h1 : 1860 ≤ q
  · rw [if_pos (by omega), if_pos h1]
  rw [if_neg (by omega), if_neg h1, if_pos (by omega), if_pos (by simp; omega), Option.bind_some, if_pos (by simp; omega), Option.bind_some]
  simp only [List.replicate_zero, List.nil_append]
  have key : ∀ more : List E, q < more.length → more.length ≤ l.length + 1 → nautilusref08_Begin.j2 (k + 2) phys cp (q : Int) more = some (if phys = 0 ∨ cp = 0 then ([], 0, 80) else
      if (rwithV more q (tr phys cp 0)).2 = 0 then ((rwithV more q (tr phys cp 0)).1, (q : Int), 0) else ([], 0, (rwithV more q (tr phys cp 0)).2)) := by
    intro more hm hml
    have hw := refwith_f more q (tr phys cp 0) k hm (by omega) (by omega)
    unfold tr at hw
    rw [nautilusref08_Begin.j2]
    by_cases h2 : phys = 0
    · rw [if_pos h2, nautilusref08_Begin.j3, if_pos rfl, if_pos (.inl h2)]
    rw [if_neg h2, nautilusref08_Begin.j3]
    by_cases h3 : cp = 0
    · rw [if_pos (beq_iff_eq.2 h3), if_pos (.inr h3)]
    · rw [if_neg (by simpa using h3), if_neg (show ¬ (phys = 0 ∨ cp = 0) from fun h => h.elim h2 h3), hw, Option.bind_some]
      have em : (q : Int) % 4294967296 = q := by omega
      rw [em]; unfold tr
      split <;> rfl
  by_cases hq2 : q = l.length
  · rw [if_pos (by omega), if_pos (by omega), key _ (by simp; omega) (by simp), if_pos hq2]; rfl
  · rw [if_neg (by omega), key _ (by omega) (by omega), if_neg hq2]
theorem refbegin_loop (l : List E) (phys cp : Int) (hl : l.length ≤ 100000) : ∀ d i k, i + d = l.length → d + l.length + 11 < k → nautilusref08_Begin.l0 k l phys cp (i : Int) = some (r1V l phys cp (frI (l.drop i) i))
  | 0, i, 0, _, h => by omega
  | 0, i, k + 1, hi, h => by
    rw [nautilusref08_Begin.l0, if_neg (by omega), List.drop_of_length_le (by omega), frI]
    exact j1_f l phys cp i k (by omega) hl (by omega)
  | d + 1, i, 0, _, h => by omega
  | d + 1, i, k + 1, hi, h => by
    have hlt : i < l.length := by omega
    rw [nautilusref08_Begin.l0, if_pos (by omega), if_pos (by omega), rd_at l i hlt, reffree_f, Option.bind_some, List.drop_eq_getElem_cons hlt, frI]
    by_cases hf : freeE l[i] = true
    · rw [if_pos hf, if_pos hf]
      exact j1_f l phys cp i k (by omega) hl (by omega)
    · rw [if_neg hf, if_neg hf, w64 i (by omega)]
      exact refbegin_loop l phys cp hl d (i + 1) k (by omega) (by omega)
theorem r1_begin {l : List E} (hr : rightV l = true) (phys cp : Int) : r1V l phys cp (freeAt l) = beginV l phys cp := by
  obtain ⟨h0, h1, _, _⟩ := rightV_iff.1 hr
  obtain ⟨b1, b2⟩ := freeAt_bd h0
  unfold r1V beginV
  rw [if_pos hr]
  by_cases h : 1860 ≤ freeAt l
  · rw [if_pos h, if_pos h]
  rw [if_neg h, if_neg h]
  by_cases hz : phys = 0 ∨ cp = 0
  · rw [if_pos hz, if_neg]
    rintro ⟨hf, ho⟩
    unfold oneE at ho
    rw [hf, Bool.false_or] at ho
    unfold tr at ho
    simp only [Bool.and_eq_true, decide_eq_true_eq] at ho
    obtain ⟨o1, _, o2, _, _⟩ := ho
    omega
  · rw [if_neg hz]
    have hf : freeE (tr phys cp 0) = false := by
      unfold freeE freeB tr
      rw [beq_eq_false_iff_ne.2 (show phys ≠ 0 from fun e => hz (.inl e))]; rfl
    have hw : rwithV (if freeAt l = l.length then l ++ [tr 0 0 0] else l) (freeAt l) (tr phys cp 0) = if oneE (tr phys cp 0) = true then (beginL l (tr phys cp 0), 0) else ([], 80) := by
      unfold rwithV beginL
      by_cases hq : freeAt l = l.length
      · rw [if_pos hq, if_pos hq]
        have : (l ++ [tr 0 0 0]).set (freeAt l) (tr phys cp 0) = l ++ [tr phys cp 0] := by
          rw [hq, List.set_append, if_neg (by omega), Nat.sub_self]; rfl
        rw [this, rightV_app hr (by omega)]
      · rw [if_neg hq, if_neg hq, rightV_set hr (by omega) (by omega)]
    rw [hw]
    by_cases ho : oneE (tr phys cp 0) = true
    · rw [if_pos ho, if_pos rfl, if_pos ⟨hf, ho⟩]
    · rw [if_neg ho, if_neg (by simp), if_neg (fun h => ho h.2)]
theorem refbegin_f (l : List E) (phys cp : Int) (k : Nat) (hl : l.length ≤ 100000) (hk : 2 * l.length + 20 < k) : nautilusref08_Begin.f k l phys cp = some (beginV l phys cp) := by
  unfold nautilusref08_Begin.f
  rw [refRight_f l k (by omega) (by omega), Option.bind_some]
  by_cases hr : rightV l = true
  · obtain ⟨h0, _⟩ := rightV_iff.1 hr
    rw [if_pos hr, show (1 : Int) = ((1 : Nat) : Int) from rfl, refbegin_loop l phys cp hl (l.length - 1) 1 k (by omega) (by omega), ← r1_begin hr]; rfl
  · unfold beginV
    rw [if_neg hr, if_neg hr]
theorem refmove_f (l : List E) (v : Nat) (phys : Int) (k : Nat) (hv : v < 4294967296) (hl : l.length ≤ 100000) (hk : l.length + 2 < k) : nautilusref08_Move.f k l (v : Int) phys = some (moveV l v phys) := by
  unfold nautilusref08_Move.f moveV
  rw [refRight_f l k (by omega) (by omega), Option.bind_some]
  by_cases hr : rightV l = true
  · rw [if_pos hr, refused_f l v hv (by omega), Option.bind_some, usedV_right hr]
    by_cases h : v < l.length
    · rw [dif_pos h, dif_pos h]
      cases hf : freeE l[v] with
      | true => rfl
      | false =>
        have hv0 : 0 < v := by
          obtain ⟨h0, _, h2, _⟩ := rightV_iff.1 hr
          rcases Nat.eq_zero_or_pos v with e | e
          · subst e; rw [h2] at hf; cases hf
          · exact e
        have e : wrap64 (v : Int) = v := IntWalk.wrap64_in _ (by omega)
        rw [if_pos (by decide), if_pos (by omega), if_pos (by omega), rd_at l v h, e]
        have hw := refwith_f l v (tr phys l[v].f1 l[v].f2) k h (by omega) (by omega)
        rw [rwith_with hr h hv0] at hw
        unfold tr at hw ⊢
        rw [hw, if_neg NF, if_pos rfl]; rfl
    · rw [dif_neg h, dif_neg h]; rfl
  · rw [if_neg hr, usedV_wrong hr]; rfl

/-- YOURS -/
theorem DatBegins : nautiluslaw08_DatBegins.Pure := by
  intro l0 a1 a2 a3 hl hx _ _ w3
  obtain ⟨w31, w32⟩ := u32_wf w3
  obtain ⟨v, rfl⟩ : ∃ v : Nat, a3 = v := ⟨a3.toNat, by omega⟩
  refine ⟨9000, ?_⟩
  unfold nautiluslaw08_DatBegins.f
  rw [shown_f _ (by omega), Option.bind_some, cut_e, if_pos (by omega), if_pos (by omega), Option.bind_some]
  have hz : (List.take ((min l0.length 2000 : Nat) : Int).toNat l0).length ≤ 2000 := by rw [List.length_take]; omega
  generalize List.take ((min l0.length 2000 : Nat) : Int).toNat l0 = l at hz ⊢
  have hb : (beginV l a1 a2).1.length ≤ l.length + 1 := by
    unfold beginV beginL
    split
    · split
      · simp
      · split
        · split <;> simp
        · simp
    · simp
  have hm := moveV_len l v a1
  rw [begin_f l a1 a2 9000 (by omega) (by omega), Option.bind_some, refbegin_f l a1 a2 9000 (by omega) (by omega), Option.bind_some, move_f l v a1 (by omega) (by omega), Option.bind_some, refmove_f l v a1 9000 (by omega) (by omega) (by omega), Option.bind_some,
    if_pos rfl, right_f, Option.bind_some, refRight_f l 9000 (by omega) (by omega), Option.bind_some, if_pos (by simp), same_refl _ 9000 (by omega) (by omega), Option.bind_some, if_pos rfl, if_pos rfl, if_pos rfl, same_refl _ 9000 (by omega) (by omega), Option.bind_some, if_pos rfl]
  simp
end Go.Proofs.Ytiajhfinkpddbaa.Pure
