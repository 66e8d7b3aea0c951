/- The law RootDoubles, in plain words: a root that is right is none with a block twice, and one with a block less, if that is not the last one, still. -/
import Derived.Test.YtmpcpcfdomlehaaQ13
import Derived.Test.YtmpcpcfdomlehaaPRootL
set_option linter.unusedVariables false
namespace Go.Proofs.Ytmpcpcfdomlehaa.Pure
open Go.RowKit Go.Proofs.Ytmpcpcfdomlehaa.P Go.Proofs.Ytmpcpcfdomlehaa.H Go.Proofs.Ytmpcpcfdomlehaa.Q Go.Proofs.YtmpcpcfdomlehaaW.PrintWords Go.Proofs.YtmpcpcfdomlehaaW.PrintLast Go.Proofs.YtmpcpcfdomlehaaW.PrintMore
theorem head_iff (a b : Int) (n m : Nat) : headR a b n m = false ↔ (a ≠ 0 ∧ a < 281474976710656 ∧ b < 281474976710656 ∧ (1 ≤ n ∧ n ≤ 60) ∧ 1 ≤ m ∧ m ≤ 12) := by
  unfold headR
  simp only [Bool.or_eq_false_iff, decide_eq_false_iff_not, beq_eq_false_iff_ne]
  omega
theorem right_iff (a b : Int) (d c : List Int) : rightV a b d c = true ↔ (headR a b d.length c.length = false ∧ (∀ x ∈ d ++ c, 16 ≤ x ∧ x < 4096) ∧ (d ++ c).Nodup) := by
  unfold rightV
  rw [Bool.and_eq_true, Bool.not_eq_true', okL_iff]
  exact ⟨fun h => ⟨h.1, fun x hx => (h.2.1 x hx).1, h.2.2⟩, fun h => ⟨h.1, fun x hx => ⟨h.2.1 x hx, by simp⟩, h.2.2⟩⟩
theorem twice_not (a b : Int) (d c : List Int) (x : Int) (hx : x ∈ c) : rightV a b (d ++ [x]) c = false := by
  rw [Bool.eq_false_iff]
  intro h
  have hn := ((right_iff _ _ _ _).1 h).2.2
  exact (List.nodup_append.1 hn).2.2 x (by simp) x hx rfl
theorem less_iff (a b : Int) (d c : List Int) (h : rightV a b d c = true) : rightV a b (d.drop 1) c = decide ((d.length : Int) > 1) := by
  obtain ⟨h1, h2, h3⟩ := (right_iff _ _ _ _).1 h
  rw [head_iff] at h1
  by_cases hl : (d.length : Int) > 1
  · rw [decide_eq_true hl, right_iff, head_iff, List.length_drop]
    have hs : (d.drop 1 ++ c).Sublist (d ++ c) := List.Sublist.append (List.drop_sublist 1 d) (List.Sublist.refl c)
    exact ⟨by omega, fun x hx => h2 x (hs.subset hx), hs.nodup h3⟩
  · rw [decide_eq_false hl, Bool.eq_false_iff]
    intro hr
    have := ((right_iff _ _ _ _).1 hr).1
    rw [head_iff, List.length_drop] at this
    omega
theorem RootDoubles : nautiluslaw16_RootDoubles.Pure := by
  intro a b d c ha hb hd _ hc _
  refine ⟨8999 + 1, ?_⟩
  obtain ⟨n, en, n1, n2⟩ := cut_at d
  obtain ⟨m, em, m1, m2⟩ := cut_at c
  have l1 : (d.take n).length = n := by rw [List.length_take]; omega
  have l2 : (c.take m).length = m := by rw [List.length_take]; omega
  have ha := u64_range ha
  have hb := u64_range hb
  unfold nautiluslaw16_RootDoubles.f
  rw [shown_f _ (by omega), Option.bind_some, en, em, if_pos (by omega), if_pos (by omega), if_pos (by omega), if_pos (by omega), Int.toNat_natCast, Int.toNat_natCast]
  generalize d.take n = D at l1 ⊢
  generalize c.take m = C at l2 ⊢
  rw [right_f, Option.bind_some]
  by_cases hr : rightV a b D C = true
  · have hh := ((right_iff _ _ _ _).1 hr).1
    rw [head_iff] at hh
    have h0 : 0 < C.length := by omega
    rw [if_pos hr, if_neg (by omega), decide_eq_false (by omega), nautiluslaw16_RootDoubles.j0, if_neg (by decide), IntWalk.wrap64_in _ (by omega), if_pos (by omega), if_pos (by omega), Option.bind_some,
      if_pos (by simp; omega), Option.bind_some, if_pos (by omega), Option.bind_some, if_pos (by simp; omega), if_pos (by omega), if_pos rfl, right_f, Option.bind_some]
    have e : rd C 0 = C[0] := rd_in C 0 h0
    have tw : rightV a b (List.replicate 0 0 ++ D ++ [rd C 0]) C = false := by
      rw [e, show List.replicate 0 (0 : Int) ++ D = D from rfl]
      exact twice_not a b D C _ (List.getElem_mem h0)
    rw [tw, if_neg (by decide), right_f, Option.bind_some, less_iff a b D C hr]
    simp
  · rw [if_neg hr]
end Go.Proofs.Ytmpcpcfdomlehaa.Pure
