/- What is marked, deleted, expires by the document. -/
import Derived.Test.YtllcmalgahnnhaaQ5
import Derived.Test.YtllcmalgahnnhaaQ6
import Derived.Test.YtllcmalgahnnhaaQ7
import Derived.Test.YtllcmalgahnnhaaQ8
import Derived.Test.YtllcmalgahnnhaaPCps
set_option linter.unusedVariables false
namespace Go.Proofs.Ytllcmalgahnnhaa.P
open Go.RowKit Go.Proofs.Ytllcmalgahnnhaa.H Go.Proofs.Ytllcmalgahnnhaa.Q Go.Proofs.YtllcmalgahnnhaaW.PrintWords Go.Proofs.YtllcmalgahnnhaaW.PrintLast Go.Proofs.YtllcmalgahnnhaaW.PrintMore

theorem refplace_loop (l : List CkE) (cp : Int) (hl : l.length ≤ 1000000000) : ∀ d i k, i + d = l.length → d < k → nautilusref09_place.l0 k l cp (i : Int) = some (match fndIn cp (l.drop i) i with | some j => (j : Int) | none => -1)
  | 0, i, 0, _, h => by omega
  | 0, i, k + 1, hi, _ => by rw [nautilusref09_place.l0, if_neg (by omega), List.drop_of_length_le (by omega)]; rfl
  | d + 1, i, 0, _, h => by omega
  | d + 1, i, k + 1, hi, h => by
    have hlt : i < l.length := by omega
    rw [nautilusref09_place.l0, if_pos (by omega), if_pos (by omega), rd_at l i hlt, List.drop_eq_getElem_cons hlt, fndIn]
    by_cases h1 : l[i].f0 = cp
    · rw [if_pos h1, if_pos h1]
    · rw [if_neg h1, if_neg h1, w64 i (by omega)]
      exact refplace_loop l cp hl d (i + 1) k (by omega) (by omega)
theorem refplace_f (l : List CkE) (cp : Int) (k : Nat) (hl : l.length ≤ 1000000000) (hk : l.length < k) : nautilusref09_place.f k l cp = some (match fnd l cp with | some j => (j : Int) | none => -1) := by
  unfold nautilusref09_place.f
  exact refplace_loop l cp hl l.length 0 k (by omega) hk
theorem reffind_f (l : List CkE) (cp : Int) (k : Nat) (hl : l.length ≤ 1000000000) (hk : l.length < k) : nautilusref09_Find.f k l cp = some (findV l cp) := by
  unfold nautilusref09_Find.f findV
  rw [refRight_f l k hl hk, Option.bind_some]
  split
  · rw [refplace_f l cp k hl hk, Option.bind_some]
    cases hf : fnd l cp with
    | none => simp only []; rw [if_pos (by omega)]
    | some j =>
      have hj := fnd_lt hf
      simp only []
      rw [if_neg (by omega), if_pos (by omega), if_pos (by omega), rd_at l j hj]
      unfold chkV
      rw [List.getD_eq_getElem?_getD, List.getElem?_eq_getElem hj]; rfl
  · rfl

def snapE (x : CkE) (s : Bool) : CkE := ⟨x.f0, x.f1, s, x.f3⟩
def markV (l : List CkE) (cp : Int) (s : Bool) : List CkE × Int := if rightB l = true then (match fnd l cp with | some j => (l.set j (snapE (l.getD j z33) s), 0) | none => ([], 92)) else ([], 90)
theorem mark_f (l : List CkE) (cp : Int) (s : Bool) (k : Nat) (hl : l.length ≤ 1000000000) (hk : l.length < k) : cps_Mark.f k l cp s = some (markV l cp s) := by
  unfold cps_Mark.f markV
  rw [place_f l cp k hl hk, Option.bind_some]
  unfold placeV
  split
  · cases hf : fnd l cp with
    | none => rfl
    | some j =>
      have hj := fnd_lt hf
      simp only [↓reduceIte]
      unfold api_Check_39.f
      rw [if_pos hl, Option.bind_some, if_pos (by omega), if_pos (by omega), rd_at l j hj]
      unfold snapE
      rw [List.getD_eq_getElem?_getD, List.getElem?_eq_getElem hj]; rfl
  · rfl
theorem refmark_f (l : List CkE) (cp : Int) (s : Bool) (k : Nat) (hl : l.length ≤ 1000000000) (hk : l.length < k) : nautilusref09_Mark.f k l cp s = some (markV l cp s) := by
  unfold nautilusref09_Mark.f markV
  rw [reffind_f l cp k hl hk, Option.bind_some]
  unfold findV
  split
  · cases hf : fnd l cp with
    | none => rfl
    | some j =>
      have hj := fnd_lt hf
      unfold chkV
      simp only [↓reduceIte]
      rw [if_pos (by omega), if_pos (by omega), Option.bind_some, if_pos (by simp; omega), Option.bind_some, refplace_f l cp k hl hk, Option.bind_some, hf]
      simp only [List.replicate_zero, List.nil_append]
      rw [if_pos (by omega), if_pos (by omega), rd_at l j hj]
      unfold snapE
      rw [List.getD_eq_getElem?_getD, List.getElem?_eq_getElem hj]; rfl
  · rfl

theorem without_loop (l : List CkE) (a : Int) (hl : l.length ≤ 1000000000) : ∀ d i k (xs : List CkE), i + d = l.length → d < k → xs.length ≤ i → nautilusref09_without.l0 k l a xs (i : Int) = some (xs ++ keptL (fun q _ => (q : Int) == a) (l.drop i) i)
  | 0, i, 0, _, _, h, _ => by omega
  | 0, i, k + 1, xs, hi, _, _ => by rw [nautilusref09_without.l0, if_neg (by omega), List.drop_of_length_le (by omega), keptL, List.append_nil]
  | d + 1, i, 0, _, _, h, _ => by omega
  | d + 1, i, k + 1, xs, hi, h, hx => by
    have hlt : i < l.length := by omega
    rw [nautilusref09_without.l0, if_pos (by omega), List.drop_eq_getElem_cons hlt, keptL]
    by_cases h1 : (i : Int) = a
    · rw [if_pos h1, if_pos (beq_iff_eq.2 h1), w64 i (by omega)]
      exact without_loop l a hl d (i + 1) k xs (by omega) (by omega) (by omega)
    · rw [if_neg h1, if_neg (show ¬ ((i : Int) == a) = true from fun e => h1 (beq_iff_eq.1 e)), if_pos (by omega), if_pos (by omega), rd_at l i hlt, w64 i (by omega), without_loop l a hl d (i + 1) k _ (by omega) (by omega) (by simp; omega), List.append_assoc]; rfl
theorem refdel_f (l : List CkE) (cp : Int) (k : Nat) (hl : l.length ≤ 1000000000) (hk : l.length < k) : nautilusref09_Delete.f k l cp = some (delV l cp) := by
  unfold nautilusref09_Delete.f delV
  rw [reffind_f l cp k hl hk, Option.bind_some]
  unfold findV
  split
  · cases hf : fnd l cp with
    | none => rfl
    | some j =>
      have hj := fnd_lt hf
      unfold chkV
      simp only [↓reduceIte]
      rw [refplace_f l cp k hl hk, Option.bind_some, hf]
      simp only []
      have e : wrap64 ((l.length : Int) - 1) = (l.length : Int) - 1 := IntWalk.wrap64_in _ (by omega)
      rw [e]
      split
      · rfl
      · split
        · rfl
        · unfold nautilusref09_without.f
          rw [show (0 : Int) = ((0 : Nat) : Int) from rfl, without_loop l _ hl l.length 0 k [] (by omega) hk (by simp), Option.bind_some]; rfl
  · rfl

theorem oldB_no {n : Nat} {now keep k : Int} {x : CkE} (h : ¬ (k < (n : Int) - 1 ∧ x.f2 = false ∧ x.f1 < now ∧ keep < IntKind.u64.wrap (now - x.f1))) : oldB n now keep k x = false := by
  cases hb : oldB n now keep k x with
  | false => rfl
  | true =>
    unfold oldB at hb
    simp at hb
    exact absurd hb h
theorem oldB_yes {n : Nat} {now keep k : Int} {x : CkE} (h1 : k < (n : Int) - 1) (h2 : x.f2 = false) (h3 : x.f1 < now) (h4 : keep < IntKind.u64.wrap (now - x.f1)) : oldB n now keep k x = true := by
  unfold oldB; simp [h1, h2, h3, h4]
theorem NF : ¬ (false = true) := by decide
theorem refexp_loop (l : List CkE) (now keep : Int) (hl : l.length ≤ 1000000000) : ∀ d i k (xs : List CkE), i + d = l.length → d < k → xs.length ≤ i →
    nautilusref09_Expire.l0 k l now keep xs (i : Int) = some (xs ++ keptL (fun q x => oldB l.length now keep q x) (l.drop i) i, (l.length : Int) - (xs ++ keptL (fun q x => oldB l.length now keep q x) (l.drop i) i).length, 0)
  | 0, i, 0, _, _, h, _ => by omega
  | 0, i, k + 1, xs, hi, _, hx => by
    rw [nautilusref09_Expire.l0, if_neg (by omega), List.drop_of_length_le (by omega), keptL, List.append_nil, IntWalk.wrap64_in _ (by omega)]
  | d + 1, i, 0, _, _, h, _ => by omega
  | d + 1, i, k + 1, xs, hi, h, hx => by
    have hlt : i < l.length := by omega
    have e : wrap64 ((l.length : Int) - 1) = (l.length : Int) - 1 := IntWalk.wrap64_in _ (by omega)
    have yes := fun (hy : oldB l.length now keep i l[i] = true) => refexp_loop l now keep hl d (i + 1) k xs (by omega) (by omega) (by omega)
    have no := refexp_loop l now keep hl d (i + 1) k (xs ++ [(⟨l[i].f0, l[i].f1, l[i].f2, l[i].f3⟩ : CkE)]) (by omega) (by omega) (by simp; omega)
    rw [List.append_assoc, List.singleton_append] at no
    rw [nautilusref09_Expire.l0, if_pos (by omega), if_pos (by omega), rd_at l i hlt, List.drop_eq_getElem_cons hlt, keptL, e, w64 i (by omega)]
    by_cases h3 : now > l[i].f1
    · rw [if_pos h3]
      by_cases h1 : (i : Int) = (l.length : Int) - 1
      · rw [if_pos h1, if_pos (by omega), oldB_no (by omega), if_neg NF]; exact no
      rw [if_neg h1]
      by_cases h2 : l[i].f2 = true
      · rw [if_pos h2, if_pos (by omega), oldB_no (fun h => by rw [h2] at h; exact absurd h.2.1 (by decide)), if_neg NF]; exact no
      · rw [if_neg h2]
        by_cases h4 : (IntKind.u64.wrap (now - l[i].f1)) > keep
        · rw [if_pos h4, oldB_yes (by omega) (by simpa using h2) h3 h4, if_pos rfl]; exact yes (oldB_yes (by omega) (by simpa using h2) h3 h4)
        · rw [if_neg h4, if_pos (by omega), oldB_no (fun h => h4 h.2.2.2), if_neg NF]; exact no
    · rw [if_neg h3, oldB_no (fun h => h3 h.2.2.1), if_neg NF]
      by_cases h1 : (i : Int) = (l.length : Int) - 1
      · rw [if_pos h1, if_pos (by omega)]; exact no
      rw [if_neg h1]
      by_cases h2 : l[i].f2 = true
      · rw [if_pos h2, if_pos (by omega)]; exact no
      · rw [if_neg h2, if_pos (by omega)]; exact no
theorem refexp_f (l : List CkE) (now keep : Int) (k : Nat) (hl : l.length ≤ 1000000000) (hk : l.length < k) : nautilusref09_Expire.f k l now keep = some (expV l now keep) := by
  unfold nautilusref09_Expire.f expV
  rw [refRight_f l k hl hk, Option.bind_some]
  split
  · rw [show (0 : Int) = ((0 : Nat) : Int) from rfl, refexp_loop l now keep hl l.length 0 k [] (by omega) hk (by simp)]; rfl
  · rfl
theorem markV_len (l : List CkE) (cp : Int) (s : Bool) : (markV l cp s).1.length ≤ l.length := by
  unfold markV; split
  · split <;> simp
  · simp
theorem delV_len (l : List CkE) (cp : Int) : (delV l cp).1.length ≤ l.length := by
  unfold delV; split
  · split
    · split
      · simp
      · split
        · simp
        · exact keptL_le _ _ _
    · simp
  · simp
theorem expV_len (l : List CkE) (now keep : Int) : (expV l now keep).1.length ≤ l.length := by
  unfold expV; split
  · exact keptL_le _ _ _
  · simp
end Go.Proofs.Ytllcmalgahnnhaa.P
