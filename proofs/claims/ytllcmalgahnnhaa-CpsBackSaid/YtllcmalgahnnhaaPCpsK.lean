/- What a table's order gives: numbers rise, so each is found; what is kept of a table that is right is right. -/
import Derived.Test.YtllcmalgahnnhaaPCps
set_option linter.unusedVariables false
namespace Go.Proofs.Ytllcmalgahnnhaa.P
open Go.RowKit Go.Proofs.Ytllcmalgahnnhaa.H Go.Proofs.Ytllcmalgahnnhaa.Q Go.Proofs.YtllcmalgahnnhaaW.PrintWords Go.Proofs.YtllcmalgahnnhaaW.PrintLast Go.Proofs.YtllcmalgahnnhaaW.PrintMore

/-- Is one as it may be, but for its number's place? -/
def okE (x : CkE) : Prop := x.f0 < 281474976710656 ∧ x.f1 < 281474976710656 ∧ x.f3.size = 42
theorem rightFrom_cons {a : Int} {x : CkE} {xs : List CkE} : rightFrom a (x :: xs) = true ↔ a < x.f0 ∧ okE x ∧ rightFrom x.f0 xs = true := by
  unfold okE
  rw [rightFrom]
  constructor
  · intro h
    split at h
    · cases h
    · split at h
      · cases h
      · split at h
        · cases h
        · split at h
          · exact ⟨by omega, ⟨by omega, by omega, by omega⟩, h⟩
          · cases h
  · rintro ⟨h1, ⟨h2, h3, h4⟩, h5⟩
    rw [if_neg (by omega), if_neg (by omega), if_neg (by omega), if_pos (by omega)]; exact h5
theorem rightFrom_lower : ∀ {l : List CkE} {a b : Int}, b ≤ a → rightFrom a l = true → rightFrom b l = true
  | [], _, _, _, _ => rfl
  | x :: xs, a, b, h, hr => by
    obtain ⟨h1, h2, h3⟩ := rightFrom_cons.1 hr
    exact rightFrom_cons.2 ⟨by omega, h2, h3⟩
theorem rightFrom_sub {l l' : List CkE} (h : l'.Sublist l) : ∀ {a : Int}, rightFrom a l = true → rightFrom a l' = true := by
  induction h with
  | slnil => intro a h; exact h
  | cons x _ ih =>
    intro a hr
    obtain ⟨h1, h2, h3⟩ := rightFrom_cons.1 hr
    exact ih (rightFrom_lower (by omega) h3)
  | cons_cons x _ ih =>
    intro a hr
    obtain ⟨h1, h2, h3⟩ := rightFrom_cons.1 hr
    exact rightFrom_cons.2 ⟨h1, h2, ih h3⟩
theorem rightB_iff {l : List CkE} : rightB l = true ↔ l.length ≤ 108 ∧ rightFrom 0 l = true := by
  unfold rightB
  split
  · constructor
    · intro h; cases h
    · rintro ⟨h, _⟩; omega
  · constructor
    · intro h; exact ⟨by omega, h⟩
    · rintro ⟨_, h⟩; exact h
theorem rightB_sub {l l' : List CkE} (h : l'.Sublist l) (hr : rightB l = true) : rightB l' = true := by
  obtain ⟨h1, h2⟩ := rightB_iff.1 hr
  exact rightB_iff.2 ⟨Nat.le_trans h.length_le h1, rightFrom_sub h h2⟩
/-- All behind are above. -/
theorem rightFrom_mem : ∀ {l : List CkE} {a : Int}, rightFrom a l = true → ∀ x ∈ l, a < x.f0
  | [], _, _, x, hx => by cases hx
  | y :: ys, a, h, x, hx => by
    obtain ⟨h1, h2, h3⟩ := rightFrom_cons.1 h
    rcases List.mem_cons.1 hx with rfl | hx
    · exact h1
    · have := rightFrom_mem h3 x hx; omega
theorem right_inj : ∀ {l : List CkE} {a : Int}, rightFrom a l = true → ∀ x ∈ l, ∀ y ∈ l, x.f0 = y.f0 → x = y
  | [], _, _, x, hx => by cases hx
  | z :: zs, a, h, x, hx => by
    intro y hy e
    obtain ⟨h1, h2, h3⟩ := rightFrom_cons.1 h
    have hm := rightFrom_mem h3
    rcases List.mem_cons.1 hx with hx' | hx' <;> rcases List.mem_cons.1 hy with hy' | hy'
    · rw [hx', hy']
    · have := hm y hy'; rw [hx'] at e; omega
    · have := hm x hx'; rw [hy'] at e; omega
    · exact right_inj h3 x hx' y hy' e
theorem right_lt : ∀ {l : List CkE} {a : Int} (i : Nat) (h : i + 1 < l.length), rightFrom a l = true → l[i].f0 < l[i + 1].f0
  | [], _, _, h, _ => by simp at h
  | [z], _, _, h, _ => by simp at h
  | z :: y :: zs, a, 0, _, h => by
    obtain ⟨h1, h2, h3⟩ := rightFrom_cons.1 h
    obtain ⟨h4, _, _⟩ := rightFrom_cons.1 h3
    simpa using h4
  | z :: y :: zs, a, i + 1, hi, h => by
    obtain ⟨h1, h2, h3⟩ := rightFrom_cons.1 h
    exact right_lt (l := y :: zs) i (by simpa using hi) h3
theorem fndIn_mem (cp : Int) : ∀ (l : List CkE) (i : Nat) (x : CkE), x ∈ l → x.f0 = cp → ∃ j, fndIn cp l i = some j
  | [], _, x, hx, _ => by cases hx
  | y :: ys, i, x, hx, e => by
    unfold fndIn
    split
    · exact ⟨i, rfl⟩
    · rename_i h
      rcases List.mem_cons.1 hx with rfl | hx
      · exact absurd e h
      · exact fndIn_mem cp ys (i + 1) x hx e
/-- One of a right table is found. -/
theorem find_mem {l : List CkE} (hr : rightB l = true) {x : CkE} (hx : x ∈ l) : findV l x.f0 = chkV x 0 := by
  obtain ⟨j, hj⟩ := fndIn_mem x.f0 l 0 x hx rfl
  have hj : fnd l x.f0 = some j := hj
  unfold findV
  rw [if_pos hr, hj]
  have hlt := fnd_lt hj
  have e : l.getD j z33 = x := by
    rw [List.getD_eq_getElem?_getD, List.getElem?_eq_getElem hlt, Option.getD_some]
    exact right_inj (rightB_iff.1 hr).2 _ (List.getElem_mem hlt) _ hx (fnd_get hj)
  simp only []
  rw [e]
/-- One that is not there is not found. -/
theorem find_none {l : List CkE} {cp : Int} (h : ∀ x ∈ l, x.f0 ≠ cp) : (findV l cp).2.2.2.2 ≠ 0 := by
  unfold findV
  split
  · cases hf : fnd l cp with
    | none => simp
    | some j => exact absurd (fnd_get hf) (h _ (List.getElem_mem _))
  · simp

/-- Is it too old, if it is not the last one? -/
def stale (now keep : Int) (x : CkE) : Bool := !x.f2 && (decide (x.f1 < now) && decide (keep < IntKind.u64.wrap (now - x.f1)))
def keepL (now keep : Int) : List CkE → List CkE
  | [] => []
  | x :: xs => if xs ≠ [] ∧ stale now keep x = true then keepL now keep xs else x :: keepL now keep xs
theorem keepL_eq (now keep : Int) (n : Nat) : ∀ (l : List CkE) (i : Nat), i + l.length = n → keptL (fun q x => oldB n now keep q x) l i = keepL now keep l
  | [], _, _ => rfl
  | x :: xs, i, h => by
    simp only [List.length_cons] at h
    rw [keptL, keepL, keepL_eq now keep n xs (i + 1) (by omega)]
    have e : oldB n now keep i x = (decide ((i : Int) < (n : Int) - 1) && stale now keep x) := rfl
    cases xs with
    | nil =>
      have : decide ((i : Int) < (n : Int) - 1) = false := decide_eq_false (by simp at h; omega)
      rw [e, this]; simp
    | cons y ys =>
      have : decide ((i : Int) < (n : Int) - 1) = true := decide_eq_true (by simp at h; omega)
      rw [e, this]; simp
theorem keepL_sub (now keep : Int) : ∀ l : List CkE, (keepL now keep l).Sublist l
  | [] => List.Sublist.slnil
  | x :: xs => by
    rw [keepL]
    split
    · exact (keepL_sub now keep xs).cons x
    · exact (keepL_sub now keep xs).cons_cons x
theorem keepL_ne (now keep : Int) : ∀ l : List CkE, l ≠ [] → keepL now keep l ≠ []
  | [], h => absurd rfl h
  | x :: xs, _ => by
    rw [keepL]
    split
    · rename_i h; exact keepL_ne now keep xs h.1
    · simp
theorem keepL_idem (now keep : Int) : ∀ l : List CkE, keepL now keep (keepL now keep l) = keepL now keep l
  | [] => rfl
  | x :: xs => by
    rw [keepL]
    split
    · exact keepL_idem now keep xs
    · rename_i h
      rw [keepL, if_neg, keepL_idem now keep xs]
      rintro ⟨h1, h2⟩
      exact h ⟨fun e => h1 (by rw [e]; rfl), h2⟩
theorem keepL_mem (now keep : Int) : ∀ (l : List CkE) (i : Nat) (hi : i < l.length), (stale now keep l[i] = false ∨ i + 1 = l.length) → l[i] ∈ keepL now keep l
  | [], _, hi, _ => by simp at hi
  | x :: xs, 0, hi, h => by
    rw [keepL, if_neg]
    · simp
    · rintro ⟨h1, h2⟩
      rcases h with h | h
      · simp at h; rw [h] at h2; cases h2
      · simp at h; exact h1 h
  | x :: xs, i + 1, hi, h => by
    have := keepL_mem now keep xs i (by simpa using hi) (by simpa using h)
    rw [keepL]
    split
    · simpa using this
    · simp only [List.getElem_cons_succ]; exact List.mem_cons_of_mem _ this
theorem expV_right {l : List CkE} (hr : rightB l = true) (now keep : Int) : expV l now keep = (keepL now keep l, (l.length : Int) - (keepL now keep l).length, 0) := by
  unfold expV
  rw [if_pos hr, keepL_eq now keep l.length l 0 (by omega)]
end Go.Proofs.Ytllcmalgahnnhaa.P
