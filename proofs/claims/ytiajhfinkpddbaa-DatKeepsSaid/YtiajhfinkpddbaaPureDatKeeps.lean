/- The law DatKeeps, in plain words: what was begun stands there, and lives; all others are as they were; what ended at a checkpoint lives just for those between. -/
import Derived.Test.YtiajhfinkpddbaaQ16
import Derived.Test.YtiajhfinkpddbaaPDat
set_option linter.unusedVariables false
namespace Go.Proofs.Ytiajhfinkpddbaa.Pure
open Go.RowKit Go.Proofs.Ytiajhfinkpddbaa.P Go.Proofs.Ytiajhfinkpddbaa.H Go.Proofs.Ytiajhfinkpddbaa.Q Go.Proofs.YtiajhfinkpddbaaW.PrintWords Go.Proofs.YtiajhfinkpddbaaW.PrintLast

theorem beginL_len (l : List E) (t : E) : (beginL l t).length = if freeAt l = l.length then l.length + 1 else l.length := by
  unfold beginL; split <;> simp
theorem beginL_get (l : List E) (t : E) (h : freeAt l ≤ l.length) : (beginL l t)[freeAt l]? = some t := by
  unfold beginL
  split
  · rename_i e; rw [e]; simp
  · rw [List.getElem?_set_self (by omega)]
theorem beginL_other (l : List E) (t : E) (i : Nat) (hi : i < l.length) (hne : i ≠ freeAt l) : (beginL l t)[i]? = l[i]? := by
  unfold beginL
  split
  · rw [List.getElem?_append_left hi]
  · rw [List.getElem?_set_ne (fun e => hne e.symm)]
theorem rdq (l : List E) (i : Nat) (x : E) (h : l[i]? = some x) : rd_T31 l (i : Int) = x := by
  obtain ⟨h1, h2⟩ := List.getElem?_eq_some_iff.1 h
  rw [rd_at l i h1, h2]
theorem zero_free : freeE (tr 0 0 0) = true := rfl
theorem tail_ok (m : List E) (a : Nat) (phys cp en at_ : Int) (ha : a < 1860) (hm : m.length ≤ 1000000) (hg : m[a]? = some (tr phys cp 0)) (hf : freeE (tr phys cp 0) = false) :
    ((dat_End.f m (a : Int) en).bind fun bt => (if bt.2 = 0 then (if (bt.1.length : Int) = (m.length : Int) then (if 0 ≤ (a : Int) then (if (a : Int) < (bt.1.length : Int) then ((dat_Lives.f ((rd_T31 bt.1 (a : Int)).f0) ((rd_T31 bt.1 (a : Int)).f1) ((rd_T31 bt.1 (a : Int)).f2) (([at_] : List Int))).bind fun t => (if true = true then (if at_ ≥ cp then (some (t == (decide (at_ < en)))) else (some (t == false))) else (some false))) else (none)) else (none)) else (some false)) else (some true))) = some true := by
  obtain ⟨hlt, hget⟩ := List.getElem?_eq_some_iff.1 hg
  rw [end_f m a en (by omega) (by omega), Option.bind_some]
  by_cases h0 : (endV m a en).2 = 0
  · rw [if_pos h0]
    unfold endV at h0 ⊢
    by_cases hu : (usedV m a).2 = 0
    · obtain ⟨hr, _, _, hfr, he⟩ := usedV_yes hu
      rw [if_pos hu] at h0 ⊢
      rw [he, hget] at h0 ⊢
      rw [if_pos (show (tr phys cp 0).f2 = 0 from rfl)] at h0 ⊢
      by_cases hc : en = cp
      · rw [if_pos (show en = (tr phys cp 0).f1 from hc)] at h0 ⊢
        have ew : withV m a (tr 0 0 0) = (m.set a (tr 0 0 0), 0) := by unfold withV; rw [if_pos (show oneE (tr 0 0 0) = true from rfl)]
        rw [ew, if_pos (by simp), if_pos (by omega), if_pos (by simp; omega), rdq _ a (tr 0 0 0) (List.getElem?_set_self hlt), lives_f, Option.bind_some, if_pos rfl]
        have el : livesB (tr 0 0 0).f0 (tr 0 0 0).f1 (tr 0 0 0).f2 [at_] = false := rfl
        rw [el]
        split
        · rw [decide_eq_false (by omega)]; rfl
        · rfl
      · rw [if_neg (show ¬ en = (tr phys cp 0).f1 from hc)] at h0 ⊢
        by_cases hz : en = 0
        · rw [if_pos hz] at h0; simp at h0
        · rw [if_neg hz] at h0 ⊢
          unfold withV at h0 ⊢
          by_cases ho : oneE (tr (tr phys cp 0).f0 (tr phys cp 0).f1 en) = true
          · rw [if_pos ho] at h0 ⊢
            rw [if_pos (by simp), if_pos (by omega), if_pos (by simp; omega), rdq _ a _ (List.getElem?_set_self hlt), lives_f, Option.bind_some, if_pos rfl]
            have hfe : freeB (tr phys cp 0).f0 (tr phys cp 0).f1 en = false := by
              have : (en == 0) = false := beq_eq_false_iff_ne.2 hz
              unfold freeB; rw [this]; simp
            unfold livesB
            show (if at_ ≥ cp then some ((!freeB (tr phys cp 0).f0 (tr phys cp 0).f1 en && ((en == 0) || [at_].any (withinB cp en))) == decide (at_ < en)) else some ((!freeB (tr phys cp 0).f0 (tr phys cp 0).f1 en && ((en == 0) || [at_].any (withinB cp en))) == false)) = some true
            rw [hfe, beq_eq_false_iff_ne.2 hz]
            simp only [List.any_cons, List.any_nil, Bool.or_false, Bool.false_or, Bool.not_false, Bool.true_and]
            unfold withinB
            by_cases h1 : at_ ≥ cp
            · rw [if_pos h1, decide_eq_true (show cp ≤ at_ from h1)]; simp
            · rw [if_neg h1, decide_eq_false (show ¬ cp ≤ at_ from h1)]; rfl
          · rw [if_neg ho] at h0; simp at h0
    · rw [if_neg hu] at h0; exact absurd h0 hu
  · rw [if_neg h0]
theorem keeps_loop (l m : List E) (a : Nat) (phys cp en at_ : Int) (ha : a < 1860) (hl : l.length ≤ 1860) (hm : l.length ≤ m.length) (hm2 : m.length ≤ 1000000) (hg : m[a]? = some (tr phys cp 0)) (hf : freeE (tr phys cp 0) = false)
    (ho : ∀ i, i < l.length → i ≠ a → m[i]? = l[i]?) : ∀ d i k, i + d = l.length → d + 5 < k →
    nautiluslaw08_DatKeeps.l0 k l cp en at_ true m (a : Int) (a : Int) (i : Int) = some true
  | 0, i, 0, _, h => by omega
  | 0, i, k + 1, hi, _ => by
    rw [nautiluslaw08_DatKeeps.l0, if_neg (by omega)]
    exact tail_ok m a phys cp en at_ ha hm2 hg hf
  | d + 1, i, 0, _, h => by omega
  | d + 1, i, k + 1, hi, h => by
    have hlt : i < l.length := by omega
    have next := keeps_loop l m a phys cp en at_ ha hl hm hm2 hg hf ho d (i + 1) k (by omega) (by omega)
    rw [nautiluslaw08_DatKeeps.l0, if_pos (by omega), w64 i (by omega)]
    by_cases e : (i : Int) = (a : Int)
    · rw [if_pos e]; exact next
    · have hq := ho i hlt (by omega)
      rw [List.getElem?_eq_getElem hlt] at hq
      rw [if_neg e, if_pos (by omega), if_pos (by omega), rd_at l i hlt, rdq m i _ hq, if_neg (by simp)]
      exact next

/-- YOURS -/
theorem DatKeeps : nautiluslaw08_DatKeeps.Pure := by
  intro l0 a1 a2 a3 a4 hl hx _ _ _ _
  refine ⟨3001, ?_⟩
  unfold nautiluslaw08_DatKeeps.f
  rw [shown_f _ (by omega), Option.bind_some, cut_e, if_pos (by omega), if_pos (by omega), Option.bind_some]
  have hz : (List.take ((min l0.length 2000 : Nat) : Int).toNat l0).length ≤ 2000 := by rw [List.length_take]; omega
  generalize List.take ((min l0.length 2000 : Nat) : Int).toNat l0 = l at hz ⊢
  rw [begin_f l a1 a2 3001 (by omega) (by omega), Option.bind_some]
  unfold beginV
  by_cases hr : rightV l = true
  · obtain ⟨h0, h1, _, _⟩ := rightV_iff.1 hr
    obtain ⟨b1, b2⟩ := freeAt_bd h0
    rw [if_pos hr]
    by_cases h2 : 1860 ≤ freeAt l
    · rw [if_pos h2]; rfl
    rw [if_neg h2]
    by_cases h3 : freeE (tr a1 a2 0) = false ∧ oneE (tr a1 a2 0) = true
    · rw [if_pos h3, if_pos rfl]
      have hlen := beginL_len l (tr a1 a2 0)
      have hget := beginL_get l (tr a1 a2 0) b2
      have hoth := beginL_other l (tr a1 a2 0)
      obtain ⟨hlt, _⟩ := List.getElem?_eq_some_iff.1 hget
      have e1 : wrap64 (freeAt l : Int) = freeAt l := IntWalk.wrap64_in _ (by omega)
      have e2 : wrap64 ((l.length : Int) + 1) = ((l.length + 1 : Nat) : Int) := w64 _ (by omega)
      have hle : l.length ≤ (beginL l (tr a1 a2 0)).length ∧ (beginL l (tr a1 a2 0)).length ≤ l.length + 1 := by rw [hlen]; split <;> omega
      simp only [e1, e2]
      rw [if_neg (by omega), if_neg (by omega), if_neg (by omega), if_neg (by omega), if_pos (by omega), if_pos (by omega), rdq _ _ _ hget, if_neg (by simp [tr]), lives_f, Option.bind_some]
      have el : livesB (tr a1 a2 0).f0 (tr a1 a2 0).f1 (tr a1 a2 0).f2 [] = true := by
        have := h3.1
        unfold freeE at this
        unfold livesB; rw [this]; rfl
      rw [el, nautiluslaw08_DatKeeps.j0, if_neg (by decide)]
      exact keeps_loop l _ (freeAt l) a1 a2 a3 a4 (by omega) h1 hle.1 (by omega) hget h3.1 (fun i hi hne => hoth i hi hne) l.length 0 3000 (by omega) (by omega)
    · rw [if_neg h3]; rfl
  · rw [if_neg hr]; rfl
end Go.Proofs.Ytiajhfinkpddbaa.Pure
