/- The law DatSwept, in plain words: what was swept is swept; all that lives stays. -/
import Derived.Test.YtiajhfinkpddbaaQ20
import Derived.Test.YtiajhfinkpddbaaPDatL
set_option linter.unusedVariables false
namespace Go.Proofs.Ytiajhfinkpddbaa.Pure
open Go.RowKit Go.Proofs.Ytiajhfinkpddbaa.P Go.Proofs.Ytiajhfinkpddbaa.H Go.Proofs.Ytiajhfinkpddbaa.Q Go.Proofs.YtiajhfinkpddbaaW.PrintWords Go.Proofs.YtiajhfinkpddbaaW.PrintLast

theorem bareTo_end (l : List E) : ∀ n, n ≤ l.length → ∀ i, (h : i < l.length) → bareTo l n ≤ i → i < n → freeE l[i] = true
  | 0, _, i, _, _, h => by omega
  | 1, _, i, _, h1, h => by rw [bareTo] at h1; omega
  | n + 2, hn, i, hi, h1, h => by
    rw [bareTo_step l n (by omega)] at h1
    split at h1
    · rename_i hf
      by_cases e : i = n + 1
      · subst e; exact hf
      · exact bareTo_end l (n + 1) (by omega) i hi h1 (by omega)
    · omega
theorem bareTo_fix (l : List E) : ∀ n, n ≤ l.length → (1 ≤ n → 1 ≤ bareTo l n) ∧ (bareTo l n ≤ 1 ∨ ∃ j, ∃ h : j + 1 < l.length, bareTo l n = j + 2 ∧ freeE l[j + 1] = false)
  | 0, _ => by simp [bareTo]
  | 1, _ => by simp [bareTo]
  | n + 2, hn => by
    rw [bareTo_step l n (by omega)]
    split
    · have := bareTo_fix l (n + 1) (by omega)
      exact ⟨fun _ => this.1 (by omega), this.2⟩
    · rename_i hf
      exact ⟨by omega, .inr ⟨n, by omega, rfl, by simpa using hf⟩⟩
theorem bareL_pre (l : List E) (i : Nat) (h : i < (bareL l).length) : ∃ h2 : i < l.length, (bareL l)[i] = l[i] := by
  unfold bareL at h ⊢
  rw [List.length_take] at h
  exact ⟨by omega, by rw [List.getElem_take]⟩
theorem bareL_len (l : List E) : (bareL l).length = bareTo l l.length := by
  have := bareTo_le l l.length
  unfold bareL; rw [List.length_take]; omega
theorem bareL_bareL (l : List E) : bareL (bareL l) = bareL l := by
  have key : bareTo (bareL l) (bareL l).length = (bareL l).length := by
    rcases (bareTo_fix l l.length (by omega)).2 with h | ⟨j, hj, h, hf⟩
    · have : (bareL l).length = 0 ∨ (bareL l).length = 1 := by rw [bareL_len]; omega
      rcases this with e | e <;> rw [e] <;> rfl
    · have e : (bareL l).length = j + 2 := by rw [bareL_len]; exact h
      obtain ⟨h2, e2⟩ := bareL_pre l (j + 1) (by omega)
      rw [e, bareTo_step (bareL l) j (by omega), e2, hf, if_neg NF]
  show (bareL l).take (bareTo (bareL l) (bareL l).length) = bareL l
  rw [key, List.take_length]
theorem swE_free {cps : List Int} {x : E} (h : freeE x = true) : swE cps x = x := by
  unfold swE; rw [dead_no1 (x := x) h, if_neg NF]
theorem sw_not (cps : List Int) (x : E) : deadB cps (swE cps x) = false := by
  cases h : deadB cps x with
  | true => unfold swE; rw [if_pos h]; exact dead_no1 rfl
  | false => unfold swE; rw [h, if_neg NF]; exact h
theorem sw_sw (cps : List Int) (x : E) : swE cps (swE cps x) = swE cps x := by
  show (if deadB cps (swE cps x) = true then _ else swE cps x) = _
  rw [sw_not, if_neg NF]
theorem sw_one {cps : List Int} {x : E} (h : oneE x = true) : oneE (swE cps x) = true := by
  unfold swE; split
  · rfl
  · exact h
theorem sw_lives {cps : List Int} {x : E} (h : liveE x cps = true) : swE cps x = x := by
  unfold swE; rw [dead_no2 (x := x) h, if_neg NF]
theorem sw_dead {cps : List Int} {x : E} (h : liveE x cps = false) : swE cps x = tr 0 0 0 := by
  cases hf : freeE x with
  | true => rw [swE_free hf]; exact free_f0 hf
  | false => unfold swE; rw [dead_yes (x := x) hf h, if_pos rfl]; rfl
theorem bareL_mem {l : List E} {x : E} (h : x ∈ bareL l) : x ∈ l := List.mem_of_mem_take h
theorem swept_right {l : List E} (hr : rightV l = true) (cps : List Int) : rightV (bareL (l.map (swE cps))) = true := by
  obtain ⟨h0, h1, h2, h3⟩ := rightV_iff.1 hr
  have hn : 1 ≤ (bareL (l.map (swE cps))).length := by
    rw [bareL_len]; exact (bareTo_fix _ _ (by omega)).1 (by simp; omega)
  have hle : (bareL (l.map (swE cps))).length ≤ l.length := by
    rw [bareL_len]; have := bareTo_le (l.map (swE cps)) (l.map (swE cps)).length; simp at this ⊢; omega
  refine rightV_iff.2 ⟨hn, by omega, ?_, fun x hx => ?_⟩
  · obtain ⟨h, e⟩ := bareL_pre (l.map (swE cps)) 0 hn
    rw [e, List.getElem_map, swE_free h2]; exact h2
  · obtain ⟨y, hy, rfl⟩ := List.mem_map.1 (bareL_mem hx)
    exact sw_one (h3 y hy)
theorem swept_map (l : List E) (cps : List Int) : (bareL (l.map (swE cps))).map (swE cps) = bareL (l.map (swE cps)) := by
  have : ∀ x ∈ bareL (l.map (swE cps)), swE cps x = x := fun x hx => by
    obtain ⟨y, hy, rfl⟩ := List.mem_map.1 (bareL_mem hx)
    exact sw_sw cps y
  exact (List.map_congr_left this).trans (by simp)
theorem swept_dead (l : List E) (cps : List Int) : deadN cps (bareL (l.map (swE cps))) = 0 := by
  unfold deadN
  rw [List.filter_eq_nil_iff.2, List.length_nil]
  intro x hx
  obtain ⟨y, hy, rfl⟩ := List.mem_map.1 (bareL_mem hx)
  rw [sw_not]; exact NF
theorem eqE (x y : E) (h : x = y) : (!(x.f0 == y.f0) || (!(x.f1 == y.f1) || !(x.f2 == y.f2))) = false := by subst h; simp
theorem swept_loop (l : List E) (cps : List Int) (n : Nat) (hl : l.length ≤ 2000) : ∀ d i k, i + d = l.length → d + 2003 < k →
    nautiluslaw08_DatSwept.l0 k l cps true (bareL (l.map (swE cps))) (n : Int) (bareL (l.map (swE cps))) 0 0 (i : Int) = some true
  | _, i, 0, _, h => by omega
  | 0, i, k + 1, hi, h => by
    have hle : (bareL (l.map (swE cps))).length ≤ l.length := by
      rw [bareL_len]; have := bareTo_le (l.map (swE cps)) (l.map (swE cps)).length; simp at this ⊢; omega
    rw [nautiluslaw08_DatSwept.l0, if_neg (by omega), if_pos rfl, if_pos rfl, if_pos rfl, if_pos (by omega), same_refl _ k (by omega) (by omega)]; rfl
  | d + 1, i, k + 1, hi, h => by
    have hlt : i < l.length := by omega
    have ih := swept_loop l cps n hl d (i + 1) k (by omega) (by omega)
    rw [nautiluslaw08_DatSwept.l0, if_pos (by omega)]
    by_cases hm : i < (bareL (l.map (swE cps))).length
    · obtain ⟨h2, e⟩ := bareL_pre (l.map (swE cps)) i hm
      rw [List.getElem_map] at e
      rw [if_pos (by omega), if_pos (by omega), rd_at l i hlt, rd_at _ i hm, lives_f, Option.bind_some, w64 i (by omega), e]
      cases hv : liveE l[i] cps with
      | true => rw [if_pos hv, eqE _ _ (sw_lives hv), if_neg NF]; exact ih
      | false => rw [if_neg (show ¬ liveE l[i] cps = true by rw [hv]; exact NF), sw_dead hv, if_neg (by unfold tr; simp)]; exact ih
    · rw [if_neg (by omega), if_pos (by omega), rd_at l i hlt, lives_f, Option.bind_some, w64 i (by omega)]
      cases hv : liveE l[i] cps with
      | true =>
        exfalso
        have hf := bareTo_end (l.map (swE cps)) (l.map (swE cps)).length (by omega) i (by simpa using hlt) (by rw [← bareL_len]; omega) (by simpa using hlt)
        rw [List.getElem_map, sw_lives hv] at hf
        have e := free_f0 hf
        rw [e] at hv; cases hv
      | false => rw [if_neg (show ¬ liveE l[i] cps = true by rw [hv]; exact NF)]; exact ih

/-- YOURS -/
theorem DatSwept : nautiluslaw08_DatSwept.Pure := by
  intro l0 l3 hl hx hl3 _ _
  refine ⟨9000, ?_⟩
  unfold nautiluslaw08_DatSwept.f
  have e3 : mn (l3.length : Int) 100 = ((min l3.length 100 : Nat) : Int) := by unfold mn; split <;> omega
  rw [shown_f _ (by omega), Option.bind_some, cut_e, if_pos (by omega), if_pos (by omega), Option.bind_some, e3, if_pos (by omega), if_pos (by omega)]
  have hz : (List.take ((min l0.length 2000 : Nat) : Int).toNat l0).length ≤ 2000 := by rw [List.length_take]; omega
  generalize List.take ((min l0.length 2000 : Nat) : Int).toNat l0 = l at hz ⊢
  have hc : (List.take ((min l3.length 100 : Nat) : Int).toNat l3).length ≤ 100 := by rw [List.length_take]; omega
  generalize List.take ((min l3.length 100 : Nat) : Int).toNat l3 = cps at hc ⊢
  rw [sweep_f l cps (by omega), Option.bind_some]
  unfold sweepV
  cases hr : rightV l with
  | true =>
    have hle : (bareL (l.map (swE cps))).length ≤ l.length := by
      rw [bareL_len]; have := bareTo_le (l.map (swE cps)) (l.map (swE cps)).length; simp at this ⊢; omega
    rw [if_pos rfl, if_pos rfl, sweep_f (bareL (l.map (swE cps))) cps (by omega), Option.bind_some]
    unfold sweepV
    rw [if_pos (swept_right hr cps), swept_map, bareL_bareL, swept_dead]
    exact swept_loop l cps _ hz l.length 0 9000 (by omega) (by omega)
  | false => rw [if_neg NF, if_neg (by decide), if_pos rfl, right_f, hr]; rfl
end Go.Proofs.Ytiajhfinkpddbaa.Pure
