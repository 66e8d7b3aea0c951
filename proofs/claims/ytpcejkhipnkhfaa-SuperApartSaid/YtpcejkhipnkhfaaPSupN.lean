/- Plain laws on the newer one of two super blocks. -/
import Derived.Test.YtpcejkhipnkhfaaQ14
import Derived.Test.YtpcejkhipnkhfaaHSupN
import Derived.Test.YtpcejkhipnkhfaaPSup
namespace Go.Proofs.Ytpcejkhipnkhfaa.P
open Go.RowKit Go.Proofs.Ytpcejkhipnkhfaa.H Go.Proofs.Ytpcejkhipnkhfaa.Q Go.Proofs.YtpcejkhipnkhfaaW.PrintWords Go.Proofs.YtpcejkhipnkhfaaW.PrintLast Go.Proofs.YtpcejkhipnkhfaaW.PrintMore
set_option linter.unusedVariables false

def refNewV (n : Int) (x y : Int × Int × Int × Int × Int) : Int × Int × Int × Int × Int × Int :=
  if (x.2.2.2.2 = 0 ∧ x.1 = n) ∧ (¬ (y.2.2.2.2 = 0 ∧ y.1 = n) ∨ y.2.1 ≤ x.2.1) then (x.1, x.2.1, x.2.2.1, x.2.2.2.1, 0, 0)
  else if y.2.2.2.2 = 0 ∧ y.1 = n then (y.1, y.2.1, y.2.2.1, y.2.2.2.1, 1, 0) else (0, 0, 0, 0, 0, 50)
theorem dec_ok {b : ByteArray} (h : (decodeV b).2.2.2.2 = 0) : 128 ≤ (decodeV b).1 := by
  unfold decodeV at h ⊢
  by_cases hk : okD b = true
  · rw [if_pos hk]
    exact (okR_of ((okD_iff b).1 hk).2.1).1.1
  · rw [if_neg hk] at h; simp at h
theorem bst_all (n : Int) (x y : SvE × Int) : bstJ n x y (mat n x y 2).length = (mat n x y 2).foldl nstep (0, zeroSv) := by unfold bstJ; rw [List.take_length]
def newFin (b : Int × SvE) : Int × Int × Int × Int × Int × Int := if (b.2.f0 == 0 && (b.2.f1 == 0 && (b.2.f2 == 0 && (b.2.f3 == 0)))) = true then (b.2.f0, b.2.f1, b.2.f2, b.2.f3, 0, 50) else (b.2.f0, b.2.f1, b.2.f2, b.2.f3, b.1, 0)
theorem newV_fin (n : Int) (x y : SvE × Int) : newV n x y = newFin ((mat n x y 2).foldl nstep (0, zeroSv)) := by
  rw [← bst_all]; rfl
theorem nstep_zero (p : Int × SvE) : nstep (0, zeroSv) p = p := by simp [nstep, zeroSv]
theorem newV_eq (n : Int) (x y : Int × Int × Int × Int × Int) (hx : x.2.2.2.2 = 0 → 128 ≤ x.1) (hy : y.2.2.2.2 = 0 → 128 ≤ y.1) : newV n (svOf x) (svOf y) = refNewV n x y := by
  obtain ⟨x0, x1, x2, x3, x4⟩ := x
  obtain ⟨y0, y1, y2, y3, y4⟩ := y
  have m : mat n (svOf (x0, x1, x2, x3, x4)) (svOf (y0, y1, y2, y3, y4)) 2 = (if x4 = 0 ∧ x0 = n then [((0 : Int), (⟨x0, x1, x2, x3⟩ : SvE))] else []) ++ (if y4 = 0 ∧ y0 = n then [((1 : Int), (⟨y0, y1, y2, y3⟩ : SvE))] else []) := by
    simp [mat, svAt, svOk, svOf]
  rw [newV_fin, m]
  simp only at hx hy
  by_cases h1 : x4 = 0 ∧ x0 = n
  · have hx0 : (x0 == 0) = false := by have := hx h1.1; simp; omega
    by_cases h2 : y4 = 0 ∧ y0 = n
    · have hy0 : (y0 == 0) = false := by have := hy h2.1; simp; omega
      rw [if_pos h1, if_pos h2]
      by_cases h3 : y1 ≤ x1
      · have r : refNewV n (x0, x1, x2, x3, x4) (y0, y1, y2, y3, y4) = (x0, x1, x2, x3, 0, 0) := by unfold refNewV; rw [if_pos ⟨h1, .inr h3⟩]
        rw [r]
        simp only [List.cons_append, List.nil_append, List.foldl_cons, List.foldl_nil, nstep_zero]
        simp [nstep, newFin, hx0, h3]
      · have r : refNewV n (x0, x1, x2, x3, x4) (y0, y1, y2, y3, y4) = (y0, y1, y2, y3, 1, 0) := by unfold refNewV; rw [if_neg (fun h => h.2.elim (fun k => k h2) h3), if_pos h2]
        rw [r]
        simp only [List.cons_append, List.nil_append, List.foldl_cons, List.foldl_nil, nstep_zero]
        simp [nstep, newFin, hx0, hy0, h3]
    · have r : refNewV n (x0, x1, x2, x3, x4) (y0, y1, y2, y3, y4) = (x0, x1, x2, x3, 0, 0) := by unfold refNewV; rw [if_pos ⟨h1, .inl h2⟩]
      rw [r, if_pos h1, if_neg h2]
      simp only [List.append_nil, List.foldl_cons, List.foldl_nil, nstep_zero]
      simp [newFin, hx0]
  · by_cases h2 : y4 = 0 ∧ y0 = n
    · have hy0 : (y0 == 0) = false := by have := hy h2.1; simp; omega
      have r : refNewV n (x0, x1, x2, x3, x4) (y0, y1, y2, y3, y4) = (y0, y1, y2, y3, 1, 0) := by unfold refNewV; rw [if_neg (fun h => h1 h.1), if_pos h2]
      rw [r, if_neg h1, if_pos h2]
      simp only [List.nil_append, List.foldl_cons, List.foldl_nil, nstep_zero]
      simp [newFin, hy0]
    · have r : refNewV n (x0, x1, x2, x3, x4) (y0, y1, y2, y3, y4) = (0, 0, 0, 0, 0, 50) := by unfold refNewV; rw [if_neg (fun h => h1 h.1), if_neg h2]
      rw [r, if_neg h1, if_neg h2]
      rfl
theorem newest_f (one two : ByteArray) (n : Int) (h1 : one.size ≤ 140737488351232) (h2 : two.size ≤ 140737488351232) : super_Newest.f one two n = some (refNewV n (decodeV one) (decodeV two)) := by
  unfold super_Newest.f
  rw [decode_f one h1, Option.bind_some, decode_f two h2, Option.bind_some, newV_eq n _ _ dec_ok dec_ok]
theorem refNewest_f (one two : ByteArray) (n : Int) (h1 : one.size ≤ 140737488351232) (h2 : two.size ≤ 140737488351232) (k : Nat) (hk : 12 ≤ k + 3) : nautilusref05_Newest.f (k + 3) one two n = some (refNewV n (decodeV one) (decodeV two)) := by
  unfold nautilusref05_Newest.f
  rw [refDecode_f one h1 (k + 3) hk, Option.bind_some, refDecode_f two h2 (k + 3) hk, Option.bind_some]
  generalize decodeV one = x
  generalize decodeV two = y
  obtain ⟨x0, x1, x2, x3, x4⟩ := x
  obtain ⟨y0, y1, y2, y3, y4⟩ := y
  simp only [nautilusref05_Newest.j0, nautilusref05_Newest.j1, nautilusref05_Newest.j2, refNewV]
  by_cases h1 : x4 = 0 <;> by_cases h2 : x0 = n <;> by_cases h3 : y4 = 0 <;> by_cases h4 : y0 = n <;> by_cases h5 : y1 ≤ x1 <;> simp [h1, h2, h3, h4, h5]
end Go.Proofs.Ytpcejkhipnkhfaa.P
