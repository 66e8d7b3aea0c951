/- The table of checkpoints, in plain words. -/
import Derived.Test.YtllcmalgahnnhaaQ11
import Derived.Test.YtllcmalgahnnhaaQ2
import Derived.Test.YtllcmalgahnnhaaQ3
import Derived.Test.YtllcmalgahnnhaaQ8
import Derived.Test.YtllcmalgahnnhaaQ9
import Derived.Test.YtllcmalgahnnhaaHKept
import Derived.Test.YtllcmalgahnnhaaHClone
set_option linter.unusedVariables false
namespace Go.Proofs.Ytllcmalgahnnhaa.P
open Go.RowKit Go.Proofs.Ytllcmalgahnnhaa.H Go.Proofs.Ytllcmalgahnnhaa.Q Go.Proofs.YtllcmalgahnnhaaW.PrintWords Go.Proofs.YtllcmalgahnnhaaW.PrintLast Go.Proofs.YtllcmalgahnnhaaW.PrintMore

theorem u64_wfC {n : Int} (h : (Lit.int .u64 n).wf = true) : 0 ≤ n ∧ n < 18446744073709551616 := by
  simp [Lit.wf, IntKind.min, IntKind.max, IntKind.bits, IntKind.signed] at h; omega
theorem w64 (i : Nat) (h : i ≤ 4000000000000) : wrap64 ((i : Int) + 1) = ((i + 1 : Nat) : Int) := by rw [IntWalk.wrap64_in _ (by omega)]; omega
theorem rd_at (l : List CkE) (i : Nat) (h : i < l.length) : rd_T33 l (i : Int) = l[i] := by simp [rd_T33, h]

/-- A table's numbers rise, and all is as it may be. -/
def rightFrom : Int → List CkE → Bool
  | _, [] => true
  | last, x :: xs => if x.f0 ≤ last then false else if x.f0 ≥ 281474976710656 then false else if x.f1 ≥ 281474976710656 then false else if (x.f3.size : Int) = 42 then rightFrom x.f0 xs else false
def rightB (l : List CkE) : Bool := if (l.length : Int) > 108 then false else rightFrom 0 l

theorem right_loop (l : List CkE) (hl : l.length ≤ 1000000000) : ∀ d i k last, i + d = l.length → d < k → cps_Right.l0 k last l (l.length : Int) (i : Int) = some (rightFrom last (l.drop i))
  | 0, i, 0, _, _, h => by omega
  | 0, i, k + 1, last, hi, _ => by rw [cps_Right.l0, if_neg (by omega), List.drop_of_length_le (by omega), rightFrom]
  | d + 1, i, 0, _, _, h => by omega
  | d + 1, i, k + 1, last, hi, h => by
    have hlt : i < l.length := by omega
    rw [cps_Right.l0, if_pos (by omega), if_pos (by omega), if_pos (by omega), rd_at l i hlt, List.drop_eq_getElem_cons hlt, rightFrom]
    by_cases h1 : l[i].f0 ≤ last
    · rw [if_pos h1, if_pos h1]
    rw [if_neg h1, if_neg h1]
    by_cases h2 : l[i].f0 ≥ 281474976710656
    · rw [if_pos h2, if_pos h2]
    rw [if_neg h2, if_neg h2]
    by_cases h3 : l[i].f1 ≥ 281474976710656
    · rw [if_pos h3, if_pos h3]
    rw [if_neg h3, if_neg h3]
    by_cases h4 : (l[i].f3.size : Int) = 42
    · rw [if_pos h4, if_pos h4, w64 i (by omega)]
      exact right_loop l hl d (i + 1) k _ (by omega) (by omega)
    · rw [if_neg h4, if_neg h4]
theorem right_f (l : List CkE) (k : Nat) (hl : l.length ≤ 1000000000) (hk : l.length < k) : cps_Right.f k l = some (rightB l) := by
  unfold cps_Right.f rightB
  by_cases h : (l.length : Int) > 108
  · rw [if_pos h, if_pos h]
  · rw [if_neg h, if_neg h]
    exact right_loop l hl l.length 0 k 0 (by omega) hk
theorem refRight_loop (l : List CkE) (hl : l.length ≤ 1000000000) : ∀ d i k last, i + d = l.length → d < k → nautilusref09_Right.l0 k l last (i : Int) = some (rightFrom last (l.drop i))
  | 0, i, 0, _, _, h => by omega
  | 0, i, k + 1, last, hi, _ => by rw [nautilusref09_Right.l0, if_neg (by omega), List.drop_of_length_le (by omega), rightFrom]
  | d + 1, i, 0, _, _, h => by omega
  | d + 1, i, k + 1, last, hi, h => by
    have hlt : i < l.length := by omega
    rw [nautilusref09_Right.l0, if_pos (by omega), if_pos (by omega), rd_at l i hlt, List.drop_eq_getElem_cons hlt, rightFrom]
    by_cases h1 : l[i].f0 ≤ last
    · rw [if_pos h1, if_pos h1]
    rw [if_neg h1, if_neg h1]
    by_cases h2 : l[i].f0 ≥ 281474976710656
    · rw [if_pos h2, if_pos h2]
    rw [if_neg h2, if_neg h2]
    by_cases h3 : l[i].f1 ≥ 281474976710656
    · rw [if_pos h3, if_pos h3]
    rw [if_neg h3, if_neg h3]
    by_cases h4 : (l[i].f3.size : Int) = 42
    · rw [if_pos h4, if_pos h4, w64 i (by omega)]
      exact refRight_loop l hl d (i + 1) k _ (by omega) (by omega)
    · rw [if_neg h4, if_neg h4]
theorem refRight_f (l : List CkE) (k : Nat) (hl : l.length ≤ 1000000000) (hk : l.length < k) : nautilusref09_Right.f k l = some (rightB l) := by
  unfold nautilusref09_Right.f rightB
  by_cases h : (l.length : Int) > 108
  · rw [if_pos h, if_pos h]
  · rw [if_neg h, if_neg h]
    exact refRight_loop l hl l.length 0 k 0 (by omega) hk

/-- Where a number stands, from a place on. -/
def fndIn (cp : Int) : List CkE → Nat → Option Nat
  | [], _ => none
  | x :: xs, i => if x.f0 = cp then some i else fndIn cp xs (i + 1)
def fnd (l : List CkE) (cp : Int) : Option Nat := fndIn cp l 0
theorem fndIn_spec (cp : Int) : ∀ (l : List CkE) (i j : Nat), fndIn cp l i = some j → i ≤ j ∧ ∃ h : j - i < l.length, l[j - i].f0 = cp
  | [], i, j, h => by cases h
  | x :: xs, i, j, h => by
    unfold fndIn at h
    split at h
    · rename_i e
      cases h
      exact ⟨Nat.le_refl _, by simp, by simpa using e⟩
    · obtain ⟨h1, h2, h3⟩ := fndIn_spec cp xs (i + 1) j h
      refine ⟨by omega, by simp; omega, ?_⟩
      have : j - i = (j - (i + 1)) + 1 := by omega
      simp only [this, List.getElem_cons_succ]; exact h3
theorem fndIn_none (cp : Int) : ∀ (l : List CkE) (i : Nat), fndIn cp l i = none → ∀ x ∈ l, x.f0 ≠ cp
  | [], i, h, x, hx => by cases hx
  | y :: ys, i, h, x, hx => by
    unfold fndIn at h
    split at h
    · cases h
    · rename_i e
      rcases List.mem_cons.1 hx with rfl | hx
      · exact e
      · exact fndIn_none cp ys (i + 1) h x hx
theorem fnd_lt {l : List CkE} {cp : Int} {j : Nat} (h : fnd l cp = some j) : j < l.length := by
  obtain ⟨_, h2, _⟩ := fndIn_spec cp l 0 j h; simpa using h2
theorem fnd_get {l : List CkE} {cp : Int} {j : Nat} (h : fnd l cp = some j) : (l[j]'(fnd_lt h)).f0 = cp := by
  obtain ⟨_, h2, h3⟩ := fndIn_spec cp l 0 j h; simpa using h3
theorem place_loop (l : List CkE) (cp : Int) (hl : l.length ≤ 1000000000) : ∀ d i k, i + d = l.length → d < k → cps_place.l0 k cp 0 92 l (l.length : Int) (i : Int) = some (match fndIn cp (l.drop i) i with | some j => ((j : Int), 0) | none => (0, 92))
  | 0, i, 0, _, h => by omega
  | 0, i, k + 1, hi, _ => by rw [cps_place.l0, if_neg (by omega), List.drop_of_length_le (by omega)]; rfl
  | d + 1, i, 0, _, h => by omega
  | d + 1, i, k + 1, hi, h => by
    have hlt : i < l.length := by omega
    rw [cps_place.l0, if_pos (by omega), if_pos (by omega), if_pos (by omega), rd_at l i hlt, List.drop_eq_getElem_cons hlt, fndIn]
    by_cases h1 : l[i].f0 = cp
    · rw [if_pos h1, if_pos h1]
    · rw [if_neg h1, if_neg h1, w64 i (by omega)]
      exact place_loop l cp hl d (i + 1) k (by omega) (by omega)
def placeV (l : List CkE) (cp : Int) : Int × Int := if rightB l = true then (match fnd l cp with | some j => ((j : Int), 0) | none => (0, 92)) else (0, 90)
theorem place_f (l : List CkE) (cp : Int) (k : Nat) (hl : l.length ≤ 1000000000) (hk : l.length < k) : cps_place.f k l cp = some (placeV l cp) := by
  unfold cps_place.f placeV
  rw [right_f l k hl hk, Option.bind_some]
  split
  · exact place_loop l cp hl l.length 0 k (by omega) hk
  · rfl
def chkV (x : CkE) (e : Int) : Int × Int × Bool × ByteArray × Int := (x.f0, x.f1, x.f2, x.f3, e)
def findV (l : List CkE) (cp : Int) : Int × Int × Bool × ByteArray × Int := if rightB l = true then (match fnd l cp with | some j => chkV (l.getD j z33) 0 | none => (0, 0, false, ⟨#[]⟩, 92)) else (0, 0, false, ⟨#[]⟩, 90)
theorem find_f (l : List CkE) (cp : Int) (k : Nat) (hl : l.length ≤ 1000000000) (hk : l.length < k) : cps_Find.f k l cp = some (findV l cp) := by
  unfold cps_Find.f findV
  rw [place_f l cp k hl hk, Option.bind_some]
  unfold placeV
  split
  · cases hf : fnd l cp with
    | none => rfl
    | some j =>
      have hj := fnd_lt hf
      simp only [↓reduceIte]
      rw [if_pos (by omega), if_pos (by omega), rd_at l j hj]
      unfold chkV
      rw [List.getD_eq_getElem?_getD, List.getElem?_eq_getElem hj]; rfl
  · rfl

/-- Are two tables the same? -/
def eqE (x y : CkE) : Bool := !(!(x.f0 == y.f0) || (!(x.f1 == y.f1) || (!(x.f2 == y.f2) || (!((x.f3.toList) == (y.f3.toList))))))
theorem toList_inj {a b : ByteArray} (h : a.toList = b.toList) : a = b := by
  have e : ∀ s : ByteArray, s.toList = s.data.toList := Lib.toList_data
  rw [e, e] at h
  exact ByteArray.ext (Array.toList_inj.1 h)
theorem eqE_iff (x y : CkE) : eqE x y = true ↔ x = y := by
  cases x; cases y
  simp [eqE]
  intro _ _ _
  exact ⟨toList_inj, fun h => by rw [h]⟩
theorem same_loop (a b : List CkE) (hab : a.length = b.length) (hl : a.length ≤ 1000000000) : ∀ d i k, i + d = a.length → d < k → ∃ r, nautilusref09_Same.l0 k a b (i : Int) = some r ∧ (r = true ↔ a.drop i = b.drop i)
  | 0, i, 0, _, h => by omega
  | 0, i, k + 1, hi, _ => ⟨true, by rw [nautilusref09_Same.l0, if_neg (by omega)], by rw [List.drop_of_length_le (by omega), List.drop_of_length_le (by omega)]; simp⟩
  | d + 1, i, 0, _, h => by omega
  | d + 1, i, k + 1, hi, h => by
    have hlt : i < a.length := by omega
    have hlb : i < b.length := by omega
    rw [nautilusref09_Same.l0, if_pos (by omega), if_pos (by omega), if_pos (by omega), rd_at a i hlt, rd_at b i hlb, List.drop_eq_getElem_cons hlt, List.drop_eq_getElem_cons hlb]
    have he := eqE_iff a[i] b[i]
    unfold eqE at he
    by_cases h1 : (!(a[i].f0 == b[i].f0) || (!(a[i].f1 == b[i].f1) || (!(a[i].f2 == b[i].f2) || (!((a[i].f3.toList) == (b[i].f3.toList)))))) = true
    · rw [if_pos h1]
      rw [h1] at he
      refine ⟨false, rfl, ⟨fun h => absurd h (by decide), fun h => ?_⟩⟩
      rw [List.cons.injEq] at h
      exact absurd (he.2 h.1) (by decide)
    · rw [if_neg h1, w64 i (by omega)]
      rw [Bool.not_eq_true] at h1
      rw [h1] at he
      obtain ⟨r, hr, hi⟩ := same_loop a b hab hl d (i + 1) k (by omega) (by omega)
      refine ⟨r, hr, hi.trans ?_⟩
      rw [List.cons.injEq]
      exact ⟨fun h => ⟨he.1 rfl, h⟩, fun h => h.2⟩
theorem same_f (a b : List CkE) (k : Nat) (hl : a.length ≤ 1000000000) (hk : a.length < k) : ∃ r, nautilusref09_Same.f k a b = some r ∧ (r = true ↔ a = b) := by
  unfold nautilusref09_Same.f
  by_cases h : a.length = b.length
  · rw [if_pos (by omega)]
    exact same_loop a b h hl a.length 0 k (by omega) hk
  · rw [if_neg (by omega)]
    exact ⟨false, rfl, by simp; intro e; exact h (by rw [e])⟩
theorem same_refl (a : List CkE) (k : Nat) (hl : a.length ≤ 1000000000) (hk : a.length < k) : nautilusref09_Same.f k a a = some true := by
  obtain ⟨r, hr, h⟩ := same_f a a k hl hk
  rw [hr, h.2 rfl]

/-- What is deleted, and what expires. -/
def delV (l : List CkE) (cp : Int) : List CkE × Int := if rightB l = true then (match fnd l cp with | some j => if (j : Int) = (l.length : Int) - 1 then ([], 94) else if (l.getD j z33).f2 = true then ([], 93) else (keptL (fun q _ => (q : Int) == (j : Int)) l 0, 0) | none => ([], 92)) else ([], 90)
theorem del_f (l : List CkE) (cp : Int) (hl : l.length ≤ 1000000000) : cps_Delete.f l cp = some (delV l cp) := by
  unfold cps_Delete.f delV
  rw [place_f l cp _ hl (by omega), Option.bind_some]
  unfold placeV
  split
  · cases hf : fnd l cp with
    | none => rfl
    | some j =>
      have hj := fnd_lt hf
      simp only [↓reduceIte]
      split
      · rfl
      · rw [if_pos (by omega), rd_at l j hj, List.getD_eq_getElem?_getD, List.getElem?_eq_getElem hj, Option.getD_some]
        split <;> rfl
  · rfl
def expV (l : List CkE) (now keep : Int) : List CkE × Int × Int := if rightB l = true then (keptL (fun k x => oldB l.length now keep k x) l 0, (l.length : Int) - (keptL (fun k x => oldB l.length now keep k x) l 0).length, 0) else ([], 0, 90)
theorem exp_f (l : List CkE) (now keep : Int) (hl : l.length ≤ 1000000000) : cps_Expire.f l now keep = some (expV l now keep) := by
  unfold cps_Expire.f expV
  rw [right_f l _ hl (by omega), Option.bind_some]
  split
  · first | rfl | rw [if_pos hl]
  · rfl
theorem rightB_len {l : List CkE} (h : rightB l = true) : l.length ≤ 108 := by
  unfold rightB at h
  split at h
  · cases h
  · omega

theorem shown_300 : nautiluslaw09_shown.f 300 = some true := by decide +kernel
theorem shown_f : ∀ k, 300 ≤ k → nautiluslaw09_shown.f k = some true
  | 0, h => by omega
  | k + 1, h => by
    by_cases e : k + 1 = 300
    · rw [e]; exact shown_300
    · exact nautiluslaw09_shown.mono k _ (shown_f k (by omega))
theorem cut_e (l : List CkE) : mn (l.length : Int) 200 = ((min l.length 200 : Nat) : Int) := by unfold mn; split <;> omega
end Go.Proofs.Ytllcmalgahnnhaa.P
