/- Which place lives; a table without free places at its end; the sweep: in plain words. -/
import Derived.Test.YtiajhfinkpddbaaQ13
import Derived.Test.YtiajhfinkpddbaaQ14
import Derived.Test.YtiajhfinkpddbaaQ4
import Derived.Test.YtiajhfinkpddbaaPDatR
import Derived.Test.YtiajhfinkpddbaaHSweep
set_option linter.unusedVariables false
namespace Go.Proofs.Ytiajhfinkpddbaa.P
open Go.RowKit Go.Proofs.Ytiajhfinkpddbaa.H Go.Proofs.Ytiajhfinkpddbaa.Q Go.Proofs.YtiajhfinkpddbaaW.PrintWords Go.Proofs.YtiajhfinkpddbaaW.PrintLast Go.Proofs.YtiajhfinkpddbaaW.PrintMore

abbrev liveE (x : E) (cps : List Int) : Bool := livesB x.f0 x.f1 x.f2 cps
theorem rdI (l : List Int) (i : Nat) (h : i < l.length) : rd l (i : Int) = l[i] := by simp [rd, h]
theorem refLives_loop (t0 t1 t2 : Int) (l : List Int) (hl : l.length ≤ 1000000000) : ∀ d i k, i + d = l.length → d < k → nautilusref08_Lives.l0 k l (i : Int) t0 t1 t2 = some ((l.drop i).any (withinB t1 t2))
  | 0, i, 0, _, h => by omega
  | 0, i, k + 1, hi, _ => by rw [nautilusref08_Lives.l0, if_neg (by omega), List.drop_of_length_le (by omega)]; rfl
  | d + 1, i, 0, _, h => by omega
  | d + 1, i, k + 1, hi, h => by
    have hlt : i < l.length := by omega
    have ih := refLives_loop t0 t1 t2 l hl d (i + 1) k (by omega) (by omega)
    rw [nautilusref08_Lives.l0, if_pos (by omega), if_pos (by omega), rdI l i hlt, List.drop_eq_getElem_cons hlt, List.any_cons, w64 i (by omega), ih]
    unfold withinB
    by_cases h1 : l[i] ≥ t1
    · rw [if_pos h1]
      by_cases h2 : l[i] < t2
      · rw [if_pos h2, decide_eq_true h2, decide_eq_true h1]; rfl
      · rw [if_neg h2, decide_eq_false h2]; simp
    · rw [if_neg h1, decide_eq_false h1]; simp
theorem refLives_f (x : E) (l : List Int) (k : Nat) (hl : l.length ≤ 1000000000) (hk : l.length < k) : nautilusref08_Lives.f k x.f0 x.f1 x.f2 l = some (liveE x l) := by
  unfold nautilusref08_Lives.f liveE livesB
  rw [reffree_f, Option.bind_some]
  show _ = some (!(freeE x) && _)
  cases freeE x with
  | true => rfl
  | false =>
    rw [if_neg NF]
    by_cases h : x.f2 = 0
    · rw [if_pos h, beq_iff_eq.2 h]; rfl
    · rw [if_neg h, beq_eq_false_iff_ne.2 h]
      exact refLives_loop x.f0 x.f1 x.f2 l hl l.length 0 k (by omega) hk
def bareTo (l : List E) : Nat → Nat
  | 0 => 0
  | 1 => 1
  | n + 2 => if (l[n + 1]?.getD (tr 0 0 0)).f0 = 0 ∧ freeE (l[n + 1]?.getD (tr 0 0 0)) = true then bareTo l (n + 1) else n + 2
theorem bareTo_le (l : List E) : ∀ n, bareTo l n ≤ n
  | 0 => by simp [bareTo]
  | 1 => by simp [bareTo]
  | n + 2 => by
    have := bareTo_le l (n + 1)
    rw [bareTo]; split <;> omega
theorem free_f0 {x : E} (h : freeE x = true) : x = tr 0 0 0 := by
  unfold freeE freeB at h
  simp only [Bool.and_eq_true, beq_iff_eq] at h
  obtain ⟨h0, h1, h2⟩ := h
  cases x; simp only at h0 h1 h2; subst h0; subst h1; subst h2; rfl
theorem bareTo_step (l : List E) (n : Nat) (h : n + 1 < l.length) : bareTo l (n + 2) = if freeE l[n + 1] = true then bareTo l (n + 1) else n + 2 := by
  rw [bareTo, List.getElem?_eq_getElem h]
  simp only [Option.getD_some]
  by_cases hf : freeE l[n + 1] = true
  · rw [if_pos ⟨by rw [free_f0 hf]; rfl, hf⟩, if_pos hf]
  · rw [if_neg (fun x => hf x.2), if_neg hf]
theorem w64m (i : Nat) (h : i ≤ 4000000000000) : wrap64 (((i + 1 : Nat) : Int) - 1) = (i : Int) := by rw [IntWalk.wrap64_in _ (by omega)]; omega
def bareL (l : List E) : List E := l.take (bareTo l l.length)
theorem bare_loop (l : List E) (hl : l.length ≤ 1000000000) : ∀ n k, n ≤ l.length → n < k → dat_bare.l0 k l (n : Int) = some (l.take (bareTo l n))
  | _, 0, _, h => by omega
  | 0, k + 1, hn, _ => by rw [dat_bare.l0, if_neg (by omega), if_pos (by omega), if_pos (by omega)]; rfl
  | 1, k + 1, hn, _ => by rw [dat_bare.l0, if_neg (by omega), if_pos (by omega), if_pos (by omega)]; rfl
  | n + 2, k + 1, hn, h => by
    rw [dat_bare.l0, if_pos (by omega), w64m (n + 1) (by omega), if_pos (by omega), if_pos (by omega), rd_at l (n + 1) (by omega), isfree_f, Option.bind_some, bareTo_step l n (by omega)]
    split
    · exact bare_loop l hl (n + 1) k (by omega) (by omega)
    · rw [if_pos (by omega), if_pos (by omega)]; rfl
theorem bare_f (l : List E) (k : Nat) (hl : l.length ≤ 1000000000) (hk : l.length < k) : dat_bare.f k l = some (bareL l) := bare_loop l hl l.length k (by omega) hk
theorem refbare_l : ∀ k l n, nautilusref08_bare.l0 k l n = dat_bare.l0 k l n
  | 0, _, _ => rfl
  | k + 1, l, n => by
    rw [nautilusref08_bare.l0, dat_bare.l0, refbare_l k]; rfl
theorem refbare_f (l : List E) (k : Nat) (hl : l.length ≤ 1000000000) (hk : l.length < k) : nautilusref08_bare.f k l = some (bareL l) := by
  unfold nautilusref08_bare.f
  rw [refbare_l]; exact bare_f l k hl hk
def sweepV (l : List E) (cps : List Int) : List E × Int × Int := if rightV l = true then (bareL (l.map (swE cps)), (deadN cps l : Int), 0) else ([], 0, 80)
theorem sweep_f (l : List E) (cps : List Int) (hl : l.length ≤ 1000000000) : dat_Sweep.f l cps = some (sweepV l cps) := by
  unfold dat_Sweep.f sweepV
  rw [right_f, Option.bind_some]
  split
  · rw [bare_f _ _ (by simp; omega) (by simp), Option.bind_some]
  · rfl
theorem sweepV_len (l : List E) (cps : List Int) : (sweepV l cps).1.length ≤ l.length := by
  unfold sweepV
  split
  · simp only [bareL, List.length_take, List.length_map]; omega
  · simp
theorem refsweep_loop (l : List E) (cps : List Int) (hl : l.length ≤ 100000) (hc : cps.length ≤ 100000) : ∀ d i k, i + d = l.length → d + l.length + cps.length + 1 < k → nautilusref08_Sweep.l0 k cps (swTo cps l i) (deadN cps (l.take i) : Int) (i : Int) = some (bareL (l.map (swE cps)), (deadN cps l : Int), 0)
  | _, i, 0, _, h => by omega
  | 0, i, k + 1, hi, h => by
    have e : i = l.length := by omega
    subst e
    rw [nautilusref08_Sweep.l0, if_neg (by rw [swTo_len]; omega), swTo_all, refbare_f _ k (by simp; omega) (by simp; omega), Option.bind_some, List.take_length]
  | d + 1, i, k + 1, hi, h => by
    have hlt : i < l.length := by omega
    have hlt2 : i < (swTo cps l i).length := by rw [swTo_len]; exact hlt
    have ih := refsweep_loop l cps hl hc d (i + 1) k (by omega) (by omega)
    obtain ⟨h', e'⟩ := List.getElem?_eq_some_iff.1 (swTo_get cps l i hlt)
    have hs := deadN_succ cps l i hlt
    rw [nautilusref08_Sweep.l0, if_pos (by omega), if_pos (by omega), rd_at _ i hlt2, e', refLives_f _ cps k (by omega) (by omega), Option.bind_some]
    by_cases hv : liveE l[i] cps = true
    · rw [if_pos hv, w64 i (by omega)]
      have hd := dead_no2 (x := l[i]) hv
      rw [swTo_same cps l i hlt hd] at ih
      rw [hd, if_neg NF, Nat.add_zero] at hs
      rw [hs] at ih; exact ih
    · rw [if_neg hv, reffree_f, Option.bind_some]
      by_cases hf : freeE l[i] = true
      · rw [if_pos hf, w64 i (by omega)]
        have hd := dead_no1 (cps := cps) (x := l[i]) hf
        rw [swTo_same cps l i hlt hd] at ih
        rw [hd, if_neg NF, Nat.add_zero] at hs
        rw [hs] at ih; exact ih
      · have hd := dead_yes (cps := cps) (x := l[i]) (show freeE l[i] = false by simpa using hf) (show liveE l[i] cps = false by simpa using hv)
        have hb := deadN_le cps (l.take i)
        rw [List.length_take] at hb
        rw [if_neg hf, w64 i (by omega), w64 _ (by omega)]
        rw [hd, if_pos rfl] at hs
        rw [hs, swTo_succ cps l i hlt] at ih
        unfold swE at ih
        rw [if_pos hd] at ih
        exact ih
theorem refsweep_f (l : List E) (cps : List Int) (k : Nat) (hl : l.length ≤ 100000) (hc : cps.length ≤ 100000) (hk : 2 * l.length + cps.length + 1 < k) : nautilusref08_Sweep.f k l cps = some (sweepV l cps) := by
  unfold nautilusref08_Sweep.f sweepV
  rw [refRight_f l k (by omega) (by omega), Option.bind_some]
  split
  · rw [if_pos (by omega), if_pos (by omega), Option.bind_some, if_pos (by simp; omega)]
    simp only [List.replicate_zero, List.nil_append]
    have := refsweep_loop l cps hl hc l.length 0 k (by omega) (by omega)
    rw [swTo_zero] at this
    exact this
  · rfl
end Go.Proofs.Ytiajhfinkpddbaa.P
