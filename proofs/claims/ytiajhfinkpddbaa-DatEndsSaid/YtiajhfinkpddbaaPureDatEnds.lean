/- The law DatEnds, in plain words: what ends, and what lives, is what the document says. -/
import Derived.Test.YtiajhfinkpddbaaQ13
import Derived.Test.YtiajhfinkpddbaaQ18
import Derived.Test.YtiajhfinkpddbaaPDatU
import Derived.Test.YtiajhfinkpddbaaPDatL
set_option linter.unusedVariables false
namespace Go.Proofs.Ytiajhfinkpddbaa.Pure
open Go.RowKit Go.Proofs.Ytiajhfinkpddbaa.P Go.Proofs.Ytiajhfinkpddbaa.H Go.Proofs.Ytiajhfinkpddbaa.Q Go.Proofs.YtiajhfinkpddbaaW.PrintWords Go.Proofs.YtiajhfinkpddbaaW.PrintLast

theorem refend_f (l : List E) (v : Nat) (cp : Int) (k : Nat) (hv : v < 4294967296) (hl : l.length ≤ 100000) (hk : l.length + 3 < k) : nautilusref08_End.f k l (v : Int) cp = some (endV l v cp) := by
  obtain ⟨k, rfl⟩ : ∃ z, k = z + 1 := ⟨k - 1, by omega⟩
  unfold nautilusref08_End.f endV
  rw [refRight_f l (k + 1) (by omega) (by omega), Option.bind_some]
  by_cases hr : rightV l = true
  · rw [if_pos hr, refused_f l v hv (by omega), Option.bind_some, usedV_right hr]
    by_cases h : v < l.length
    · rw [dif_pos h, dif_pos h]
      cases hf : freeE l[v] with
      | true => rfl
      | false =>
        have hv0 : 0 < v := by
          obtain ⟨h0, _, h2, _⟩ := rightV_iff.1 hr
          rcases Nat.eq_zero_or_pos v with e | e
          · subst e; rw [h2] at hf; cases hf
          · exact e
        have e : wrap64 (v : Int) = v := IntWalk.wrap64_in _ (by omega)
        rw [if_pos (by decide), if_pos (by omega), if_pos (by omega), rd_at l v h, nautilusref08_End.j0]
        simp only [if_neg NF, if_pos]
        by_cases h0 : l[v].f2 = 0
        · rw [if_neg (by simpa using h0), if_pos h0, if_pos (by omega), if_pos (by omega), rd_at l v h, e]
          by_cases h1 : cp = l[v].f1
          · have hw := refwith_f l v (tr 0 0 0) k h (by omega) (by omega)
            rw [rwith_with hr h hv0] at hw
            unfold tr at hw ⊢
            rw [if_pos h1, if_pos h1, hw]; rfl
          · rw [if_neg h1, if_neg h1]
            by_cases h2 : cp = 0
            · rw [if_pos h2, if_pos h2]
            · have hw := refwith_f l v (tr l[v].f0 l[v].f1 cp) k h (by omega) (by omega)
              rw [rwith_with hr h hv0] at hw
              unfold tr at hw ⊢
              rw [if_neg h2, if_neg h2, hw]; rfl
        · rw [if_pos (by simpa using h0), if_neg h0]
    · rw [dif_neg h, dif_neg h, if_neg NF, nautilusref08_End.j0, if_pos rfl]; rfl
  · rw [if_neg hr, usedV_wrong hr]; rfl

/-- YOURS -/
theorem DatEnds : nautiluslaw08_DatEnds.Pure := by
  intro l0 a1 a2 l3 hl hx w1 _ hl3 _ _
  obtain ⟨w31, w32⟩ := u32_wf w1
  obtain ⟨v, rfl⟩ : ∃ v : Nat, a1 = v := ⟨a1.toNat, by omega⟩
  refine ⟨9001, ?_⟩
  unfold nautiluslaw08_DatEnds.f
  have e3 : mn (l3.length : Int) 100 = ((min l3.length 100 : Nat) : Int) := by unfold mn; split <;> omega
  rw [shown_f _ (by omega), Option.bind_some, cut_e, if_pos (by omega), if_pos (by omega), Option.bind_some, e3, if_pos (by omega), if_pos (by omega)]
  have hz : (List.take ((min l0.length 2000 : Nat) : Int).toNat l0).length ≤ 2000 := by rw [List.length_take]; omega
  generalize List.take ((min l0.length 2000 : Nat) : Int).toNat l0 = l at hz ⊢
  have hc : (List.take ((min l3.length 100 : Nat) : Int).toNat l3).length ≤ 100 := by rw [List.length_take]; omega
  generalize List.take ((min l3.length 100 : Nat) : Int).toNat l3 = cps at hc ⊢
  have hb := endV_len l v a2
  have hs := sweepV_len l cps
  have key : ∀ x : E, nautiluslaw08_DatEnds.j0 9001 cps true (endV l v a2).1 (endV l v a2).2 (endV l v a2).1 (endV l v a2).2 (sweepV l cps).1 (sweepV l cps).2.1 (sweepV l cps).2.2 (sweepV l cps).1 (sweepV l cps).2.1 (sweepV l cps).2.2 x.f0 x.f1 x.f2 = some true := by
    intro x
    rw [nautiluslaw08_DatEnds.j0, if_pos rfl, same_refl _ 9000 (by omega) (by omega), Option.bind_some, if_pos rfl, if_pos rfl, same_refl _ 9000 (by omega) (by omega), Option.bind_some, if_pos rfl, if_pos rfl, if_pos rfl,
      lives_f, Option.bind_some, refLives_f x cps 9000 (by omega) (by omega), Option.bind_some]
    simp
  rw [end_f l v a2 (by omega) (by omega), Option.bind_some, refend_f l v a2 9001 (by omega) (by omega) (by omega), Option.bind_some, sweep_f l cps (by omega), Option.bind_some, refsweep_f l cps 9001 (by omega) (by omega) (by omega), Option.bind_some]
  split
  · rename_i h
    rw [IntWalk.u64_in _ (by omega), IntWalk.u64_in _ (by omega)] at h
    rw [if_pos (by omega)]
    exact key _
  · exact key (tr 0 0 0)
end Go.Proofs.Ytiajhfinkpddbaa.Pure
