/- The law CpsTurns, in plain words: marking one twice is marking it last; what expired expires no more; numbers rise, and are found. -/
import Derived.Test.YtllcmalgahnnhaaQ15
import Derived.Test.YtllcmalgahnnhaaPCpsM
import Derived.Test.YtllcmalgahnnhaaPCpsN
import Derived.Test.YtllcmalgahnnhaaPCpsK
set_option linter.unusedVariables false
namespace Go.Proofs.Ytllcmalgahnnhaa.Pure
open Go.RowKit Go.Proofs.Ytllcmalgahnnhaa.P Go.Proofs.Ytllcmalgahnnhaa.H Go.Proofs.Ytllcmalgahnnhaa.Q Go.Proofs.YtllcmalgahnnhaaW.PrintWords Go.Proofs.YtllcmalgahnnhaaW.PrintLast

theorem rightFrom_set (s : Bool) : ∀ (l : List CkE) (j : Nat) (hj : j < l.length) (a : Int), rightFrom a (l.set j (snapE l[j] s)) = rightFrom a l
  | [], _, h, _ => by simp at h
  | x :: xs, 0, _, a => rfl
  | x :: xs, j + 1, h, a => by
    simp only [List.set_cons_succ, List.getElem_cons_succ, rightFrom]
    rw [rightFrom_set s xs j (by simpa using h)]
theorem fndIn_set (s : Bool) (cp : Int) : ∀ (l : List CkE) (j : Nat) (hj : j < l.length) (i : Nat), fndIn cp (l.set j (snapE l[j] s)) i = fndIn cp l i
  | [], _, h, _ => by simp at h
  | x :: xs, 0, _, i => rfl
  | x :: xs, j + 1, h, i => by
    simp only [List.set_cons_succ, List.getElem_cons_succ, fndIn]
    rw [fndIn_set s cp xs j (by simpa using h)]
theorem mark_mark (l : List CkE) (cp : Int) (a b : Bool) (h : (markV l cp a).2 = 0) : markV (markV l cp a).1 cp b = markV l cp b ∧ (markV l cp b).2 = 0 := by
  unfold markV at h ⊢
  by_cases hr : rightB l = true
  · rw [if_pos hr] at h ⊢
    rw [if_pos hr]
    cases hf : fnd l cp with
    | none => rw [hf] at h; simp at h
    | some j =>
      have hj := fnd_lt hf
      simp only []
      have e : l.getD j z33 = l[j] := by rw [List.getD_eq_getElem?_getD, List.getElem?_eq_getElem hj]; rfl
      rw [e]
      have hr2 : rightB (l.set j (snapE l[j] a)) = true := by
        unfold rightB at hr ⊢
        rw [List.length_set, rightFrom_set a l j hj]; exact hr
      have hf2 : fnd (l.set j (snapE l[j] a)) cp = some j := (fndIn_set a cp l j hj 0).trans hf
      rw [if_pos hr2, hf2]
      simp only []
      refine ⟨?_, trivial⟩
      rw [List.set_set]
      have e2 : (l.set j (snapE l[j] a)).getD j z33 = snapE l[j] a := by
        rw [List.getD_eq_getElem?_getD, List.getElem?_set_self hj]; rfl
      rw [e2]; rfl
  · rw [if_neg hr] at h; simp at h
theorem mark_code (l : List CkE) (cp : Int) (a b : Bool) : (markV l cp a).2 = (markV l cp b).2 := by
  unfold markV
  split
  · split <;> rfl
  · rfl
theorem f0s_get (l : List CkE) (i : Nat) (h : i < l.length) : rd (f0s l) i = l[i].f0 := by
  simp [rd, f0s, h]
theorem turns_loop (l : List CkE) (hr : rightB l = true) (x y : List CkE) (hxy : y = x) (hx : x.length ≤ 200) : ∀ d i k, i + d = l.length → d + 300 < k →
    nautiluslaw09_CpsTurns.l0 k l true x 0 y 0 0 (f0s l) (i : Int) = some true
  | 0, i, 0, _, h => by omega
  | 0, i, k + 1, hi, _ => by
    have hlen : (f0s l).length = l.length := by simp [f0s]
    rw [nautiluslaw09_CpsTurns.l0, if_neg (by omega), if_pos rfl, if_pos rfl, if_pos rfl, if_pos rfl, hxy, same_refl x k (by omega) (by omega), Option.bind_some, if_pos rfl, hlen]; simp
  | d + 1, i, 0, _, h => by omega
  | d + 1, i, k + 1, hi, h => by
    have hlen : (f0s l).length = l.length := by simp [f0s]
    have hl := rightB_len hr
    have hlt : i < l.length := by omega
    have hm := find_mem hr (List.getElem_mem hlt)
    rw [nautiluslaw09_CpsTurns.l0, if_pos (by omega), if_pos (by omega), f0s_get l i hlt, find_f l _ k (by omega) (by omega), Option.bind_some, hm]
    unfold chkV
    rw [if_pos rfl, if_pos rfl]
    have next := turns_loop l hr x y hxy hx d (i + 1) k (by omega) (by omega)
    rw [w64 i (by omega)]
    by_cases h0 : (i : Int) > 0
    · obtain ⟨j, rfl⟩ : ∃ j, i = j + 1 := ⟨i - 1, by omega⟩
      have e : wrap64 (((j + 1 : Nat) : Int) - 1) = (j : Int) := by rw [IntWalk.wrap64_in _ (by omega)]; omega
      have hlt2 := right_lt j hlt (rightB_iff.1 hr).2
      rw [if_pos h0, e, if_pos (by omega), if_pos (by omega), f0s_get l j (by omega), if_neg (by omega)]
      exact next
    · rw [if_neg h0]; exact next

/-- YOURS -/
theorem CpsTurns : nautiluslaw09_CpsTurns.Pure := by
  intro l0 a1 a2 a3 a4 a5 hl hx _ _ _
  refine ⟨601, ?_⟩
  unfold nautiluslaw09_CpsTurns.f
  rw [shown_f _ (by omega), Option.bind_some, cut_e, if_pos (by omega), if_pos (by omega), Option.bind_some]
  have hz : (List.take ((min l0.length 200 : Nat) : Int).toNat l0).length ≤ 200 := by rw [List.length_take]; omega
  generalize List.take ((min l0.length 200 : Nat) : Int).toNat l0 = l at hz ⊢
  rw [right_f l 601 (by omega) (by omega), Option.bind_some]
  by_cases hr : rightB l = true
  · rw [if_pos hr]
    have h1 := markV_len l a1 a2
    have h2 := markV_len (markV l a1 a2).1 a1 a3
    rw [mark_f l a1 a2 601 (by omega) (by omega), Option.bind_some, mark_f _ a1 a3 601 (by omega) (by omega), Option.bind_some, mark_f l a1 a3 601 (by omega) (by omega), Option.bind_some, if_pos (mark_code l a1 a2 a3)]
    have key : nautiluslaw09_CpsTurns.j0 601 l a4 a5 true false = some true := by
      have hk := expV_right hr a4 a5
      have hs := keepL_sub a4 a5 l
      have hr2 := rightB_sub hs hr
      have hk2 := expV_right hr2 a4 a5
      have hle := hs.length_le
      rw [nautiluslaw09_CpsTurns.j0, if_neg (by decide), exp_f l a4 a5 (by omega), Option.bind_some, hk]
      simp only []
      rw [exp_f _ a4 a5 (by omega), Option.bind_some, hk2, numbers_f l 600 (by omega) (by omega), Option.bind_some, keepL_idem]
      simp only [Int.sub_self]
      exact turns_loop l hr _ _ rfl (by omega) l.length 0 600 (by omega) (by have := rightB_len hr; omega)
    by_cases h0 : (markV l a1 a2).2 = 0
    · obtain ⟨m1, m2⟩ := mark_mark l a1 a2 a3 h0
      rw [if_pos h0, m1, if_pos m2, same_refl _ 601 (by have := markV_len l a1 a3; omega) (by have := markV_len l a1 a3; omega), Option.bind_some]
      exact key
    · rw [if_neg h0]; exact key
  · rw [if_neg hr]
end Go.Proofs.Ytllcmalgahnnhaa.Pure
