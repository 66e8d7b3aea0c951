/- The table of virtual numbers, in plain words. -/
import Derived.Test.YthgefgjaihagoaaQ4
import Derived.Test.YthgefgjaihagoaaQ5
import Derived.Test.YthgefgjaihagoaaQ7
import Derived.Test.YthgefgjaihagoaaHSweep
import Derived.Test.YthgefgjaihagoaaHEncD
import Derived.Test.YthgefgjaihagoaaHFuncs
import Derived.Test.YthgefgjaihagoaaPVal
import Derived.Test.YthgefgjaihagoaaB2
import Derived.Test.YthgefgjaihagoaaHDecE
import Derived.Test.YthgefgjaihagoaaHRootE
import Derived.Test.YthgefgjaihagoaaB3
import Derived.Test.YthgefgjaihagoaaB4
import Derived.Test.YthgefgjaihagoaaPTC
set_option linter.unusedVariables false
set_option linter.unusedSimpArgs false
namespace Go.Proofs.Ythgefgjaihagoaa.PD
open Go.RowKit Go.Proofs.Ythgefgjaihagoaa.H Go.Proofs.Ythgefgjaihagoaa.P Go.Proofs.YthgefgjaihagoaaW.PrintWords Go.Proofs.YthgefgjaihagoaaW.PrintLast Go.Proofs.YthgefgjaihagoaaW.PrintMore Go.Proofs.Ythgefgjaihagoaa.Q
theorem w64 (i : Nat) (h : i ≤ 4000000000000) : wrap64 ((i : Int) + 1) = ((i + 1 : Nat) : Int) := by rw [IntWalk.wrap64_in _ (by omega)]; omega
theorem rd_at (l : List E) (i : Nat) (h : i < l.length) : rd_T106 l (i : Int) = l[i] := by simp [rd_T106, h]
theorem NF : ¬ (false = true) := by decide
def freeE (x : E) : Bool := freeB x.f0 x.f1 x.f2
def oneE (x : E) : Bool := freeE x || (decide (16 ≤ x.f0) && (decide (x.f0 < 4096) && (decide (0 < x.f1) && (decide (x.f1 < 281474976710656) && (x.f2 == 0 || (decide (x.f1 < x.f2) && decide (x.f2 < 281474976710656)))))))
theorem isfree_f (x : E) : dat_isFree.f x.f0 x.f1 x.f2 = some (freeE x) := rfl
theorem one_f (x : E) : dat_isOne.f x.f0 x.f1 x.f2 = some (oneE x) := by
  unfold dat_isOne.f oneE
  rw [isfree_f, Option.bind_some]
  cases hf : freeE x with
  | true => rfl
  | false =>
    rw [if_neg NF, Bool.false_or]
    by_cases h0 : x.f2 = 0
    · rw [if_pos h0, beq_iff_eq.2 h0]
      by_cases h1 : x.f0 ≥ 16
      · rw [if_pos h1, decide_eq_true (show 16 ≤ x.f0 from h1)]
        by_cases h2 : x.f0 < 4096
        · rw [if_pos h2, decide_eq_true h2]
          by_cases h3 : x.f1 > 0
          · rw [if_pos h3, decide_eq_true (show 0 < x.f1 from h3)]
            by_cases h4 : x.f1 < 281474976710656
            · rw [if_pos h4, decide_eq_true h4]; rfl
            · rw [if_neg h4, decide_eq_false h4]; rfl
          · rw [if_neg h3, decide_eq_false (show ¬ 0 < x.f1 from h3)]; rfl
        · rw [if_neg h2, decide_eq_false h2]; rfl
      · rw [if_neg h1, decide_eq_false (show ¬ 16 ≤ x.f0 from h1)]; rfl
    · rw [if_neg h0, beq_eq_false_iff_ne.2 h0]
      by_cases h5 : x.f2 > x.f1
      · rw [if_pos h5, decide_eq_true (show x.f1 < x.f2 from h5)]
        by_cases h1 : x.f0 ≥ 16
        · rw [if_pos h1, decide_eq_true (show 16 ≤ x.f0 from h1)]
          by_cases h2 : x.f0 < 4096
          · rw [if_pos h2, decide_eq_true h2]
            by_cases h3 : x.f1 > 0
            · rw [if_pos h3, decide_eq_true (show 0 < x.f1 from h3)]
              by_cases h4 : x.f1 < 281474976710656
              · rw [if_pos h4, decide_eq_true h4]; simp
              · rw [if_neg h4, decide_eq_false h4]; rfl
            · rw [if_neg h3, decide_eq_false (show ¬ 0 < x.f1 from h3)]; rfl
          · rw [if_neg h2, decide_eq_false h2]; rfl
        · rw [if_neg h1, decide_eq_false (show ¬ 16 ≤ x.f0 from h1)]; rfl
      · rw [if_neg h5, decide_eq_false (show ¬ x.f1 < x.f2 from h5)]
        (repeat' split) <;> simp
theorem rightone_f (x : E) : dat_Right_1.f x.f0 x.f1 x.f2 = some (!oneE x) := by
  unfold dat_Right_1.f; rw [one_f]; rfl
theorem idx_one : ∀ (l : List E) (i : Int), 0 ≤ i → ∃ r, idx 80 l i = some r ∧ decide (r ≥ 0) = !(l.all oneE)
  | [], i, _ => ⟨-1, rfl, rfl⟩
  | x :: xs, i, hi => by
    have e : pred 80 x = some (!oneE x) := by unfold pred; rw [if_neg (by decide), if_pos rfl]; exact rightone_f x
    rw [idx, e, Option.bind_some]
    cases hb : oneE x with
    | true =>
      obtain ⟨r, hr, hd⟩ := idx_one xs (i + 1) (by omega)
      refine ⟨r, by simpa using hr, ?_⟩
      rw [hd, List.all_cons, hb]; rfl
    | false => exact ⟨i, by simp, by rw [List.all_cons, hb, decide_eq_true hi]; rfl⟩
/-- Is a table right? -/
def rightV : List E → Bool
  | [] => false
  | x :: xs => decide (xs.length < 1860) && (freeE x && (x :: xs).all oneE)
theorem right_f (l : List E) : dat_Right.f l = some (rightV l) := by
  unfold dat_Right.f
  cases l with
  | nil => rfl
  | cons x xs =>
    rw [if_neg (by simp only [List.length_cons]; omega)]
    show _ = some (decide (xs.length < 1860) && (freeE x && (x :: xs).all oneE))
    by_cases h1 : xs.length < 1860
    · rw [if_neg (by simp only [List.length_cons]; omega), if_pos (by simp only [List.length_cons]; omega), decide_eq_true h1]
      have e := rd_at (x :: xs) 0 (by simp)
      rw [show ((0 : Nat) : Int) = 0 from rfl] at e
      rw [e]
      simp only [List.getElem_cons_zero]
      rw [isfree_f, Option.bind_some]
      cases hf : freeE x with
      | true =>
        obtain ⟨r, hr, hd⟩ := idx_one (x :: xs) 0 (by omega)
        rw [if_pos rfl]
        unfold api_Trans_79.f
        rw [hr]
        simp only [Option.bind_some]
        rw [hd]; simp
      | false => rfl
    · rw [if_pos (by simp only [List.length_cons]; omega), decide_eq_false h1]; rfl
theorem rightV_iff {l : List E} : rightV l = true ↔ ∃ h : 0 < l.length, l.length ≤ 1860 ∧ freeE l[0] = true ∧ ∀ x ∈ l, oneE x = true := by
  cases l with
  | nil => simp [rightV]
  | cons x xs =>
    unfold rightV
    simp only [Bool.and_eq_true, decide_eq_true_eq, List.all_eq_true, List.getElem_cons_zero, List.length_cons]
    constructor
    · rintro ⟨h1, h2, h3⟩; exact ⟨by omega, by omega, h2, h3⟩
    · rintro ⟨_, h1, h2, h3⟩; exact ⟨by omega, h2, h3⟩
def tr (p c e : Int) : E := ⟨p, c, e⟩
theorem eqE_no (x : E) : (!(x.f0 == x.f0) || (!(x.f1 == x.f1) || (!(x.f2 == x.f2)))) = false := by simp
theorem same_loop (a : List E) (hl : a.length ≤ 1000000000) : ∀ d i k, i + d = a.length → d < k → nautilusref08_Same.l0 k a a (i : Int) = some true
  | 0, i, 0, _, h => by omega
  | 0, i, k + 1, hi, _ => by rw [nautilusref08_Same.l0, if_neg (by omega)]
  | d + 1, i, 0, _, h => by omega
  | d + 1, i, k + 1, hi, h => by
    rw [nautilusref08_Same.l0, if_pos (by omega), if_pos (by omega), if_pos (by omega), eqE_no, if_neg NF, w64 i (by omega)]
    exact same_loop a hl d (i + 1) k (by omega) (by omega)
theorem same_refl (a : List E) (k : Nat) (hl : a.length ≤ 1000000000) (hk : a.length < k) : nautilusref08_Same.f k a a = some true := by
  unfold nautilusref08_Same.f
  rw [if_pos rfl]
  exact same_loop a hl a.length 0 k (by omega) hk
def fits (x : E) : Prop := (0 ≤ x.f0 ∧ x.f0 < 4096) ∧ (0 ≤ x.f1 ∧ x.f1 < 281474976710656) ∧ (0 ≤ x.f2 ∧ x.f2 < 281474976710656)
theorem fits_of {x : E} (h : oneE x = true) : fits x := by
  unfold oneE freeE freeB at h
  unfold fits
  simp only [Bool.or_eq_true, Bool.and_eq_true, decide_eq_true_eq, beq_iff_eq] at h
  rcases h with ⟨h1, h2, h3⟩ | ⟨h1, h2, h3, h4, h5⟩
  · omega
  · rcases h5 with h5 | h5 <;> omega
theorem put_leB {n : Int} {w : Nat} (hw1 : 1 ≤ w) (hw8 : w ≤ 8) (h0 : 0 ≤ n) (h1 : n < 256 ^ w) (h2 : n < 18446744073709551616) : num_Put.f n (w : Int) = some (leB n w, 0) := by
  unfold num_Put.f
  rw [if_pos ⟨h0, h2⟩, if_pos ⟨by omega, by omega⟩, Int.toNat_natCast, if_pos (Int.ediv_eq_zero_of_lt h0 h1)]; rfl
theorem put4 {n : Int} (h0 : 0 ≤ n) (h1 : n < 4096) : num_Put.f n 4 = some (leB n 4, 0) := by
  have e : (256 : Int) ^ 4 = 4294967296 := by decide
  exact put_leB (w := 4) (by omega) (by omega) h0 (by rw [e]; omega) (by omega)
theorem put6 {n : Int} (h0 : 0 ≤ n) (h1 : n < 281474976710656) : num_Put.f n 6 = some (leB n 6, 0) := by
  have e : (256 : Int) ^ 6 = 281474976710656 := by decide
  exact put_leB (w := 6) (by omega) (by omega) h0 (by rw [e]; omega) (by omega)
theorem putV4 {n : Int} (h0 : 0 ≤ n) (h1 : n < 4096) : Q.putV n 4 = leB n 4 := by unfold Q.putV; rw [put4 h0 h1]; rfl
theorem putV6 {n : Int} (h0 : 0 ≤ n) (h1 : n < 281474976710656) : Q.putV n 6 = leB n 6 := by unfold Q.putV; rw [put6 h0 h1]; rfl
theorem fits_fine {x : E} (h : fits x) : fineE x = true := by
  obtain ⟨⟨a1, a2⟩, ⟨b1, b2⟩, ⟨c1, c2⟩⟩ := h
  have ew : IntKind.u64.wrap x.f0 = x.f0 := IntWalk.u64_in _ (by omega)
  unfold fineE fineP
  rw [ew, put4 a1 a2, put6 b1 b2, put6 c1 c2, putV4 a1 a2, putV6 b1 b2, putV6 c1 c2, leB_size, leB_size, leB_size]
  rfl
theorem oneV_eq {x : E} (h : fits x) : oneV x = (leB x.f0 4 ++ leB x.f1 6) ++ leB x.f2 6 := by
  obtain ⟨⟨a1, a2⟩, ⟨b1, b2⟩, ⟨c1, c2⟩⟩ := h
  have ew : IntKind.u64.wrap x.f0 = x.f0 := IntWalk.u64_in _ (by omega)
  unfold oneV
  rw [ew, putV4 a1 a2, putV6 b1 b2, putV6 c1 c2]
theorem oneV_size {x : E} (h : fits x) : (oneV x).size = 16 := by rw [oneV_eq h, ByteArray.size_append, ByteArray.size_append, leB_size, leB_size, leB_size]
def catB (p : List E) : ByteArray := ⟨(catV p).toArray⟩
theorem catB_size : ∀ (p : List E), (∀ x ∈ p, fits x) → (catB p).size = 16 * p.length
  | [], _ => rfl
  | x :: xs, h => by
    have h1 := oneV_size (h x (by simp))
    have h2 := catB_size xs (fun y hy => h y (by simp [hy]))
    have e : (catB (x :: xs)).size = (oneV x).size + (catB xs).size := by
      have e1 : catV (x :: xs) = (oneV x).data.toList ++ catV xs := by unfold catV; rw [List.map_cons, List.flatten_cons]
      show (catV (x :: xs)).toArray.size = (oneV x).data.size + (catV xs).toArray.size
      rw [e1, List.size_toArray, List.length_append, Array.length_toList]; rfl
    rw [e, h1, h2, List.length_cons]; omega
theorem catB_next (p : List E) (j : Nat) (h : j < p.length) : catB (p.take (j + 1)) = catB (p.take j) ++ oneV p[j] := by
  unfold catB
  rw [catV_take p j h]
  apply ByteArray.ext; simp
theorem block_eq (p : List E) (h : ∀ x ∈ p, fits x) (hp : p.length ≤ 31) : blockV p = catB p ++ zerosB (508 - 16 * p.length) := by
  have hs := catB_size p h
  unfold blockV
  show ((num_Fit.f (catB p) 508).getD (⟨#[]⟩, 0)).1 = _
  unfold num_Fit.f
  rw [if_neg (by omega), if_neg (by omega), if_neg (by omega), hs, show ((508 : Int) - ((16 * p.length : Nat) : Int)).toNat = 508 - 16 * p.length by omega]
  rfl
theorem part_at (l : List E) (q j : Nat) (h : j < (partL 31 l q).length) : 31 * q + j < l.length ∧ (partL 31 l q)[j]'h = l[31 * q + j]'(by rw [partL_len] at h; omega) := by
  have h' := h
  rw [partL_len] at h'
  refine ⟨by omega, ?_⟩
  simp [partL]
def encodeV (l : List E) : List ByteArray × Int := if rightV l = true then (encN l (partN 31 l), 0) else ([], 80)
theorem right_fits {l : List E} (h : rightV l = true) : ∀ x ∈ l, fits x := by
  obtain ⟨_, _, _, ho⟩ := rightV_iff.1 h
  exact fun x hx => fits_of (ho x hx)
theorem encode_f (l : List E) (hl : l.length ≤ 100000) : dat_Encode.f l = some (encodeV l) := by
  unfold dat_Encode.f encodeV
  rw [right_f, Option.bind_some]
  cases hr : rightV l with
  | false => rw [if_neg NF, if_neg NF]
  | true =>
    rw [if_pos rfl, if_pos rfl, if_pos hl, if_pos (List.all_eq_true.2 (fun x hx => fits_fine (right_fits hr x hx)))]
def bareTo (l : List E) : Nat → Nat
  | 0 => 0
  | 1 => 1
  | n + 2 => if (l[n + 1]?.getD (tr 0 0 0)).f0 = 0 ∧ freeE (l[n + 1]?.getD (tr 0 0 0)) = true then bareTo l (n + 1) else n + 2
theorem bareTo_le (l : List E) : ∀ n, bareTo l n ≤ n
  | 0 => by simp [bareTo]
  | 1 => by simp [bareTo]
  | n + 2 => by
    have := bareTo_le l (n + 1)
    rw [bareTo]; split <;> omega
theorem free_f0 {x : E} (h : freeE x = true) : x = tr 0 0 0 := by
  unfold freeE freeB at h
  simp only [Bool.and_eq_true, beq_iff_eq] at h
  obtain ⟨h0, h1, h2⟩ := h
  cases x; simp only at h0 h1 h2; subst h0; subst h1; subst h2; rfl
theorem bareTo_step (l : List E) (n : Nat) (h : n + 1 < l.length) : bareTo l (n + 2) = if freeE l[n + 1] = true then bareTo l (n + 1) else n + 2 := by
  rw [bareTo, List.getElem?_eq_getElem h]
  simp only [Option.getD_some]
  by_cases hf : freeE l[n + 1] = true
  · rw [if_pos ⟨by rw [free_f0 hf]; rfl, hf⟩, if_pos hf]
  · rw [if_neg (fun x => hf x.2), if_neg hf]
theorem w64m (i : Nat) (h : i ≤ 4000000000000) : wrap64 (((i + 1 : Nat) : Int) - 1) = (i : Int) := by rw [IntWalk.wrap64_in _ (by omega)]; omega
def bareL (l : List E) : List E := l.take (bareTo l l.length)
theorem bare_loop (l : List E) (hl : l.length ≤ 1000000000) : ∀ n k, n ≤ l.length → n < k → dat_bare.l0 k l (n : Int) = some (l.take (bareTo l n))
  | _, 0, _, h => by omega
  | 0, k + 1, hn, _ => by rw [dat_bare.l0, if_neg (by omega), if_pos (by omega), if_pos (by omega)]; rfl
  | 1, k + 1, hn, _ => by rw [dat_bare.l0, if_neg (by omega), if_pos (by omega), if_pos (by omega)]; rfl
  | n + 2, k + 1, hn, h => by
    rw [dat_bare.l0, if_pos (by omega), w64m (n + 1) (by omega), if_pos (by omega), if_pos (by omega), rd_at l (n + 1) (by omega), isfree_f, Option.bind_some, bareTo_step l n (by omega)]
    split
    · exact bare_loop l hl (n + 1) k (by omega) (by omega)
    · rw [if_pos (by omega), if_pos (by omega)]; rfl
theorem bare_f (l : List E) (k : Nat) (hl : l.length ≤ 1000000000) (hk : l.length < k) : dat_bare.f k l = some (bareL l) := bare_loop l hl l.length k (by omega) hk
def sweepV (l : List E) (cps : List Int) : List E × Int × Int := if rightV l = true then (bareL (l.map (swE cps)), (deadN cps l : Int), 0) else ([], 0, 80)
theorem sweep_f (l : List E) (cps : List Int) (hl : l.length ≤ 1000000000) : dat_Sweep.f l cps = some (sweepV l cps) := by
  unfold dat_Sweep.f sweepV
  rw [right_f, Option.bind_some]
  split
  · rw [bare_f _ _ (by simp; omega) (by simp), Option.bind_some]
  · rfl
theorem sweepV_len (l : List E) (cps : List Int) : (sweepV l cps).1.length ≤ l.length := by
  unfold sweepV
  split
  · simp only [bareL, List.length_take, List.length_map]; omega
  · simp
theorem bareTo_fix (l : List E) : ∀ n, n ≤ l.length → (1 ≤ n → 1 ≤ bareTo l n) ∧ (bareTo l n ≤ 1 ∨ ∃ j, ∃ h : j + 1 < l.length, bareTo l n = j + 2 ∧ freeE l[j + 1] = false)
  | 0, _ => by simp [bareTo]
  | 1, _ => by simp [bareTo]
  | n + 2, hn => by
    rw [bareTo_step l n (by omega)]
    split
    · have := bareTo_fix l (n + 1) (by omega)
      exact ⟨fun _ => this.1 (by omega), this.2⟩
    · rename_i hf
      exact ⟨by omega, .inr ⟨n, by omega, rfl, by simpa using hf⟩⟩
theorem bareL_pre (l : List E) (i : Nat) (h : i < (bareL l).length) : ∃ h2 : i < l.length, (bareL l)[i] = l[i] := by
  unfold bareL at h ⊢
  rw [List.length_take] at h
  exact ⟨by omega, by rw [List.getElem_take]⟩
theorem bareL_len (l : List E) : (bareL l).length = bareTo l l.length := by
  have := bareTo_le l l.length
  unfold bareL; rw [List.length_take]; omega
theorem bareL_bareL (l : List E) : bareL (bareL l) = bareL l := by
  have key : bareTo (bareL l) (bareL l).length = (bareL l).length := by
    rcases (bareTo_fix l l.length (by omega)).2 with h | ⟨j, hj, h, hf⟩
    · have : (bareL l).length = 0 ∨ (bareL l).length = 1 := by rw [bareL_len]; omega
      rcases this with e | e <;> rw [e] <;> rfl
    · have e : (bareL l).length = j + 2 := by rw [bareL_len]; exact h
      obtain ⟨h2, e2⟩ := bareL_pre l (j + 1) (by omega)
      rw [e, bareTo_step (bareL l) j (by omega), e2, hf, if_neg NF]
  show (bareL l).take (bareTo (bareL l) (bareL l).length) = bareL l
  rw [key, List.take_length]
theorem swE_free {cps : List Int} {x : E} (h : freeE x = true) : swE cps x = x := by
  unfold swE; rw [dead_no1 (x := x) h, if_neg NF]
theorem sw_one {cps : List Int} {x : E} (h : oneE x = true) : oneE (swE cps x) = true := by
  unfold swE; split
  · rfl
  · exact h
theorem bareL_mem {l : List E} {x : E} (h : x ∈ bareL l) : x ∈ l := List.mem_of_mem_take h
theorem swept_right {l : List E} (hr : rightV l = true) (cps : List Int) : rightV (bareL (l.map (swE cps))) = true := by
  obtain ⟨h0, h1, h2, h3⟩ := rightV_iff.1 hr
  have hn : 1 ≤ (bareL (l.map (swE cps))).length := by
    rw [bareL_len]; exact (bareTo_fix _ _ (by omega)).1 (by simp; omega)
  have hle : (bareL (l.map (swE cps))).length ≤ l.length := by
    rw [bareL_len]; have := bareTo_le (l.map (swE cps)) (l.map (swE cps)).length; simp at this ⊢; omega
  refine rightV_iff.2 ⟨hn, by omega, ?_, fun x hx => ?_⟩
  · obtain ⟨h, e⟩ := bareL_pre (l.map (swE cps)) 0 hn
    rw [e, List.getElem_map, swE_free h2]; exact h2
  · obtain ⟨y, hy, rfl⟩ := List.mem_map.1 (bareL_mem hx)
    exact sw_one (h3 y hy)
end Go.Proofs.Ythgefgjaihagoaa.PD

set_option linter.unusedVariables false
set_option linter.unusedSimpArgs false
namespace Go.Proofs.Ythgefgjaihagoaa.PD
open Go.RowKit Go.Proofs.Ythgefgjaihagoaa.H Go.Proofs.Ythgefgjaihagoaa.P Go.Proofs.YthgefgjaihagoaaW.PrintWords Go.Proofs.YthgefgjaihagoaaW.PrintLast Go.Proofs.YthgefgjaihagoaaW.PrintMore Go.Proofs.Ythgefgjaihagoaa.Q
theorem zerosB_size (n : Nat) : (zerosB n).size = n := by simp [zerosB, ByteArray.size]
theorem bt_zeros (n j : Nat) (h : j < n) : bt (zerosB n) j = 0 := by
  rw [bt_getElem _ _ (by rw [zerosB_size]; exact h)]
  simp [zerosB]
theorem valB_zero (s : ByteArray) (a : Nat) : ∀ w, (∀ j, j < w → bt s (a + j : Nat) = 0) → valB s a w = 0
  | 0, _ => rfl
  | w + 1, h => by
    simp only [valB]
    rw [valB_zero s a w (fun j hj => h j (by omega)), h w (by omega)]; simp
theorem valB_behind (s : ByteArray) (n a w : Nat) (h0 : s.size ≤ a) (h1 : a + w ≤ s.size + n) : valB (s ++ zerosB n) a w = 0 := by
  refine valB_zero _ _ _ fun j hj => ?_
  obtain ⟨d, rfl⟩ : ∃ d, a = s.size + d := ⟨a - s.size, by omega⟩
  rw [Nat.add_assoc, bt_append_right _ _ _ (by rw [zerosB_size]; omega), bt_zeros _ _ (by omega)]
theorem catB_append (p q : List E) : catB (p ++ q) = catB p ++ catB q := by
  unfold catB catV
  apply ByteArray.ext; simp
theorem catB_split (p : List E) (j : Nat) (h : j < p.length) : catB p = catB (p.take j) ++ oneV p[j] ++ catB (p.drop (j + 1)) := by
  rw [← catB_next p j h, ← catB_append, List.take_append_drop]
theorem at_place (A R : ByteArray) (x : E) (j : Nat) (hA : A.size = 16 * j) (h : fits x) : plcAt (A ++ ((leB x.f0 4 ++ leB x.f1 6) ++ leB x.f2 6) ++ R) j = x := by
  obtain ⟨⟨a1, a2⟩, ⟨b1, b2⟩, ⟨c1, c2⟩⟩ := h
  have p4 : (256 : Int) ^ 4 = 4294967296 := by decide
  have p6 : (256 : Int) ^ 6 = 281474976710656 := by decide
  have e0 : valB (A ++ ((leB x.f0 4 ++ leB x.f1 6) ++ leB x.f2 6) ++ R) (16 * j) 4 = x.f0 := by
    have := valB_put A (leB x.f1 6 ++ leB x.f2 6 ++ R) x.f0 4 a1 (by rw [p4]; omega)
    rw [hA] at this
    refine Eq.trans ?_ this; congr 1
    simp only [ByteArray.append_assoc]
  have e1 : valB (A ++ ((leB x.f0 4 ++ leB x.f1 6) ++ leB x.f2 6) ++ R) (16 * j + 4) 6 = x.f1 := by
    have := valB_put (A ++ leB x.f0 4) (leB x.f2 6 ++ R) x.f1 6 b1 (by rw [p6]; omega)
    rw [ByteArray.size_append, hA, leB_size] at this
    refine Eq.trans ?_ this; congr 1
    simp only [ByteArray.append_assoc]
  have e2 : valB (A ++ ((leB x.f0 4 ++ leB x.f1 6) ++ leB x.f2 6) ++ R) (16 * j + 10) 6 = x.f2 := by
    have := valB_put (A ++ leB x.f0 4 ++ leB x.f1 6) R x.f2 6 c1 (by rw [p6]; omega)
    rw [ByteArray.size_append, ByteArray.size_append, hA, leB_size, leB_size] at this
    refine Eq.trans ?_ this; congr 1
    simp only [ByteArray.append_assoc]
  unfold plcAt
  rw [e0, e1, e2]
theorem place_in (p : List E) (h : ∀ x ∈ p, fits x) (hp : p.length ≤ 31) (j : Nat) (hj : j < p.length) : plcAt (blockV p) j = p[j] := by
  rw [block_eq p h hp, catB_split p j hj, oneV_eq (h _ (List.getElem_mem hj)), ByteArray.append_assoc (b := catB (p.drop (j + 1)))]
  exact at_place _ _ _ _ (by rw [catB_size _ (fun x hx => h x (List.mem_of_mem_take hx)), List.length_take]; omega) (h _ (List.getElem_mem hj))
theorem place_out (p : List E) (h : ∀ x ∈ p, fits x) (hp : p.length ≤ 31) (j : Nat) (hj : p.length ≤ j) (hj2 : j < 31) : plcAt (blockV p) j = tr 0 0 0 := by
  have hs := catB_size p h
  rw [block_eq p h hp]
  unfold plcAt
  rw [valB_behind _ _ _ _ (by omega) (by omega), valB_behind _ _ _ _ (by omega) (by omega), valB_behind _ _ _ _ (by omega) (by omega)]; rfl
theorem block_len (p : List E) (h : ∀ x ∈ p, fits x) (hp : p.length ≤ 31) : (blockV p).size = 508 := by
  rw [block_eq p h hp, ByteArray.size_append, catB_size p h, zerosB_size]; omega
theorem block_bare (p : List E) (h : ∀ x ∈ p, fits x) (hp : p.length ≤ 31) : num_Bare.f (blockV p) 496 = some true := by
  have hl := block_len p h hp
  have hs := catB_size p h
  unfold num_Bare.f
  rw [if_pos (by omega), block_eq p h hp]
  simp only [ByteArray.data_append, Array.toList_append]
  have hc : (catB p).data.toList.length = 16 * p.length := by rw [toList_length]; exact hs
  rw [List.drop_append, List.drop_of_length_le (by rw [hc]; show _ ≤ 496; omega)]
  simp [zerosB]
/-- A table with free places behind it, to whole blocks. -/
def padL (l : List E) (n : Nat) : List E := l ++ List.replicate (31 * n - l.length) (tr 0 0 0)
theorem padL_at (l : List E) (n i : Nat) (h : i < (padL l n).length) : (padL l n)[i] = if h' : i < l.length then l[i] else tr 0 0 0 := by
  by_cases h' : i < l.length
  · rw [dif_pos h']
    exact List.getElem_append_left h'
  · rw [dif_neg h']
    refine (List.getElem_append_right (Nat.le_of_not_lt h')).trans ?_
    rw [List.getElem_replicate]
theorem padL_len (l : List E) (n : Nat) (h : l.length ≤ 31 * n) : (padL l n).length = 31 * n := by
  unfold padL; rw [List.length_append, List.length_replicate]; omega
theorem part_mem {l : List E} {q : Nat} {x : E} (h : x ∈ partL 31 l q) : x ∈ l := List.mem_of_mem_take (List.mem_of_mem_drop h)
theorem part_le (l : List E) (q : Nat) : (partL 31 l q).length ≤ 31 := by rw [partL_len]; omega
theorem cat_pad (l : List E) (hf : ∀ x ∈ l, fits x) : ∀ k, k ≤ partN 31 l → plcCat (encN l k) = (padL l (partN 31 l)).take (31 * k)
  | 0, _ => by simp [encN, plcCat]
  | k + 1, hk => by
    have ih := cat_pad l hf k (by omega)
    have hN : l.length ≤ 31 * partN 31 l := by unfold partN; omega
    have hpl := padL_len l _ hN
    have e : plcCat (encN l k ++ [blockV (partL 31 l k)]) = plcCat (encN l k) ++ plcL (blockV (partL 31 l k)) 31 := by simp [plcCat]
    rw [encN_succ, e, ih, show 31 * (k + 1) = 31 * k + 31 by omega, List.take_add]
    congr 1
    refine List.ext_getElem (by rw [plcL_len, List.length_take, List.length_drop, hpl]; omega) fun i h1 h2 => ?_
    rw [plcL_len] at h1
    rw [List.getElem_take, List.getElem_drop, padL_at]
    have ep : (plcL (blockV (partL 31 l k)) 31)[i]'(by rw [plcL_len]; exact h1) = plcAt (blockV (partL 31 l k)) i := by simp [plcL]
    rw [ep]
    by_cases hi : i < (partL 31 l k).length
    · obtain ⟨p1, p2⟩ := part_at l k i hi
      rw [place_in _ (fun x hx => hf x (part_mem hx)) (part_le l k) i hi, p2, dif_pos p1]
    · rw [place_out _ (fun x hx => hf x (part_mem hx)) (part_le l k) i (by omega) h1]
      have h3 := partL_len 31 l k
      rw [dif_neg (by omega)]
theorem bareTo_pre (l x : List E) : ∀ n, n ≤ l.length → bareTo (l ++ x) n = bareTo l n
  | 0, _ => rfl
  | 1, _ => rfl
  | n + 2, h => by
    rw [bareTo, bareTo, List.getElem?_append_left (by omega), bareTo_pre l x (n + 1) (by omega)]
theorem bareTo_pad (l : List E) (R : Nat) (h0 : 1 ≤ l.length) : ∀ r, r ≤ R → bareTo (l ++ List.replicate R (tr 0 0 0)) (l.length + r) = bareTo l l.length
  | 0, _ => bareTo_pre l _ _ (Nat.le_refl _)
  | r + 1, h => by
    obtain ⟨n, hn⟩ : ∃ n, l.length = n + 1 := ⟨l.length - 1, by omega⟩
    have ih := bareTo_pad l R h0 r (by omega)
    rw [hn] at ih ⊢
    rw [show n + 1 + (r + 1) = (n + r) + 2 by omega, bareTo_step _ _ (by rw [List.length_append, List.length_replicate]; omega), List.getElem_append_right (by omega), List.getElem_replicate,
      if_pos (by decide), show n + r + 1 = n + 1 + r by omega]
    exact ih
theorem bareL_pad (l : List E) (n : Nat) (h0 : 1 ≤ l.length) (hb : bareL l = l) : bareL (padL l n) = l := by
  have e := bareTo_pad l (31 * n - l.length) h0 _ (Nat.le_refl _)
  have hl : (padL l n).length = l.length + (31 * n - l.length) := by unfold padL; rw [List.length_append, List.length_replicate]
  unfold bareL
  rw [hl]
  show List.take (bareTo (l ++ _) _) (l ++ _) = l
  rw [e]
  have h2 := bareL_len l
  rw [hb] at h2
  rw [← h2]
  simp
theorem encN_len (l : List E) (k : Nat) : (encN l k).length = k := by simp [encN]
theorem encN_at (l : List E) (k j : Nat) (h : j < (encN l k).length) : (encN l k)[j] = blockV (partL 31 l j) := by simp [encN]
/-- The blocks of a right table without free places at its end: what dat.Decode asks. -/
theorem decode_yes (l : List E) (hr : rightV l = true) (hb : bareL l = l) :
    (encN l (partN 31 l)).length ≤ 1860 ∧ (∀ j, (hj : j < (encN l (partN 31 l)).length) → (encN l (partN 31 l))[j].size = 508 ∧ num_Bare.f (encN l (partN 31 l))[j] 496 = some true) ∧
    dat_bare.f 100000 (plcCat (encN l (partN 31 l))) = some l ∧ dat_Right.f l = some true ∧ l.length ≤ 1000000 ∧ ((l.length : Int) - 1).tdiv 31 + 1 = ((encN l (partN 31 l)).length : Int) := by
  have hf := right_fits hr
  obtain ⟨h1, h2, _, _⟩ := rightV_iff.1 hr
  have hN : partN 31 l ≤ 61 := by unfold partN; omega
  have hN2 : l.length ≤ 31 * partN 31 l := by unfold partN; omega
  refine ⟨by rw [encN_len]; omega, fun j hj => ?_, ?_, by rw [right_f, hr], by omega, ?_⟩
  · rw [encN_at]
    exact ⟨block_len _ (fun x hx => hf x (part_mem hx)) (part_le l j), block_bare _ (fun x hx => hf x (part_mem hx)) (part_le l j)⟩
  · have hp := padL_len l _ hN2
    rw [cat_pad l hf _ (Nat.le_refl _), List.take_of_length_le (by omega), bare_f _ _ (by omega) (by omega), bareL_pad l _ h1 hb]
  · rw [encN_len, Int.tdiv_eq_ediv_of_nonneg (by omega)]
    unfold partN; omega
end Go.Proofs.Ythgefgjaihagoaa.PD

set_option linter.unusedVariables false
set_option linter.unusedSimpArgs false
namespace Go.Proofs.Ythgefgjaihagoaa.PR
open Go.RowKit Go.Proofs.Ythgefgjaihagoaa.H Go.Proofs.Ythgefgjaihagoaa.P Go.Proofs.YthgefgjaihagoaaW.PrintWords Go.Proofs.YthgefgjaihagoaaW.PrintLast Go.Proofs.YthgefgjaihagoaaW.PrintMore Go.Proofs.Ythgefgjaihagoaa.Q
theorem rd_in (l : List Int) (i : Nat) (h : i < l.length) : rd l (i : Int) = l[i] := by simp [rd, h]
def ofL (l : List UInt8) : ByteArray := ⟨l.toArray⟩
theorem ofL_size (l : List UInt8) : (ofL l).size = l.length := by simp [ofL, ByteArray.size]
theorem ofL_append (l m : List UInt8) : ofL l ++ ofL m = ofL (l ++ m) := by apply ByteArray.ext; simp [ofL]
def encV (a b : Int) (d c : List Int) : ByteArray × Int := if rightV a b d c = true then (rootB a b d c, 0) else (⟨#[]⟩, 153)
theorem encode_f (a b : Int) (d c : List Int) (ha : 0 ≤ a) (hb : 0 ≤ b) : root_Encode.f a b d c = some (encV a b d c) := by
  unfold root_Encode.f encV
  split
  · rw [if_pos ⟨ha, hb⟩]
  · rfl
theorem numsB_cons (x : Int) (l : List Int) : numsB (x :: l) = lowBytes x 4 ++ numsB l := rfl
theorem numsB_append (l m : List Int) : numsB (l ++ m) = numsB l ++ numsB m := by simp [numsB]
theorem rootB_eq (a b : Int) (d c : List Int) : rootB a b d c = ofL (rootH a b d c ++ numsB d ++ numsB c ++ List.replicate (508 - (14 + 4 * d.length + 4 * c.length)) 0) := by
  unfold rootB
  rw [rootL_len]
  show ofL (rootH a b d c ++ numsB (d ++ c) ++ _) = _
  rw [numsB_append, show 14 + 4 * (d.length + c.length) = 14 + 4 * d.length + 4 * c.length by omega]
  simp only [List.append_assoc]
def numsV (s : ByteArray) (a n : Nat) : List Int := (List.range n).map fun j => valB s (a + 4 * j) 4
theorem numsV_len (s : ByteArray) (a n : Nat) : (numsV s a n).length = n := by simp [numsV]
theorem numsV_succ (s : ByteArray) (a n : Nat) : numsV s a (n + 1) = numsV s a n ++ [valB s (a + 4 * n) 4] := by simp [numsV, List.range_succ]
theorem numsV_get (s : ByteArray) (a n j : Nat) (h : j < (numsV s a n).length) : (numsV s a n)[j] = valB s (a + 4 * j) 4 := by simp [numsV]
def nOf (s : ByteArray) (i : Nat) : Nat := (bt s i).toNat
theorem nOf_eq (s : ByteArray) (i : Nat) : bt s i = nOf s i ∧ nOf s i < 256 := by have := bt_range s i; unfold nOf; omega
abbrev dD (s : ByteArray) : List Int := numsV s 14 (nOf s 12)
abbrev dC (s : ByteArray) : List Int := numsV s (14 + 4 * nOf s 12) (nOf s 13)
def errV : Int × Int × List Int × List Int × Int := (0, 0, [], [], 153)
def finV (s : ByteArray) (a b : Int) (d c : List Int) : Int × Int × List Int × List Int × Int := if rightV a b d c = true ∧ rootB a b d c = s then (a, b, d, c, 0) else errV
def decV (s : ByteArray) : Int × Int × List Int × List Int × Int := if s.size = 508 then finV s (valB s 0 6) (valB s 6 6) (dD s) (dC s) else errV
theorem bytes_eq {s t : ByteArray} (h : s.toList = t.toList) : s = t := by rw [ByteArray.toList_eq, ByteArray.toList_eq] at h; exact ByteArray.ext (Array.toList_inj.1 h)
theorem fin_eq (s : ByteArray) (a b : Int) (d c : List Int) : ((some (encV a b d c)).bind fun t => (if t.2 = 0 then (if t.1.toList = s.toList then some (a, b, d, c, (0 : Int)) else some errV) else some errV)) = some (finV s a b d c) := by
  rw [Option.bind_some]
  by_cases hr : rightV a b d c = true
  · have e : encV a b d c = (rootB a b d c, 0) := by unfold encV; rw [if_pos hr]
    rw [e]
    show (if (0 : Int) = 0 then (if (rootB a b d c).toList = s.toList then some (a, b, d, c, (0 : Int)) else some errV) else some errV) = _
    rw [if_pos (show (0 : Int) = 0 from rfl)]
    unfold finV
    by_cases he : rootB a b d c = s
    · rw [if_pos (show rightV a b d c = true ∧ rootB a b d c = s from ⟨hr, he⟩), if_pos (by rw [he])]
    · rw [if_neg (show ¬ (rightV a b d c = true ∧ rootB a b d c = s) from fun h => he h.2), if_neg (fun h => he (bytes_eq h))]
  · have e : encV a b d c = (⟨#[]⟩, 153) := by unfold encV; rw [if_neg hr]
    rw [e]
    unfold finV
    rw [if_neg (show ¬ (rightV a b d c = true ∧ rootB a b d c = s) from fun h => hr h.1)]
    rfl
theorem takeV_in (s : ByteArray) (a w : Int) (h1 : 1 ≤ w) (h2 : w ≤ 8) (h3 : 0 ≤ a) (h4 : a + w ≤ s.size) : takeV s a w = (valB s a.toNat w.toNat, 0) := by
  unfold takeV; rw [if_pos ⟨h1, h2, h3, h4⟩]
theorem val4 (s : ByteArray) (a : Nat) : valB s a 4 % 4294967296 = valB s a 4 := by
  have := valB_range s a 4
  have e : (256 : Int) ^ 4 = 4294967296 := by decide
  rw [e] at this
  exact Int.emod_eq_of_lt this.1 this.2
theorem take4 (s : ByteArray) (hs : s.size = 508) (at0 i : Nat) (h : at0 + 4 * i + 4 ≤ 508) (k : Nat) (hk : 12 ≤ k) : num_Take.f k s (wrap64 ((at0 : Int) + wrap64 (4 * (i : Int)))) 4 = some (valB s (at0 + 4 * i) 4, 0) := by
  rw [IntWalk.wrap64_in (4 * (i : Int)) (by omega), IntWalk.wrap64_in _ (by omega), take_f s _ 4 (by omega) (by omega) (by omega) k hk, takeV_in s _ 4 (by omega) (by omega) (by omega) (by omega)]
  rw [show ((at0 : Int) + 4 * (i : Int)).toNat = at0 + 4 * i by omega]; rfl
theorem dec_loop (s : ByteArray) (hs : s.size = 508) (n m : Nat) (hn : n ≤ 60) (hm : m ≤ 12) (a b : Int) (ha : 0 ≤ a) (hb : 0 ≤ b) : ∀ d i k, i + d = n + m → d + 20 < k →
    root_Decode.l0 k s n ((n + m : Nat) : Int) i a b (numsV s 14 (min i n)) (numsV s (14 + 4 * n) (i - n)) = some (finV s a b (numsV s 14 n) (numsV s (14 + 4 * n) m))
  | 0, i, k + 1, hi, hk => by
    rw [root_Decode.l0, if_neg (by omega), show min i n = n by omega, show i - n = m by omega, encode_f _ _ _ _ ha hb]
    exact fin_eq s a b _ _
  | d + 1, i, k + 1, hi, hk => by
    rw [root_Decode.l0, if_pos (by omega)]
    have ht := take4 s hs 14 i (by omega) k (by omega)
    rw [show ((14 : Nat) : Int) = 14 from rfl] at ht
    rw [ht, Option.bind_some]
    have ih := dec_loop s hs n m hn hm a b ha hb d (i + 1) k (by omega) (by omega)
    by_cases h : i < n
    · rw [if_pos (by omega), if_pos (by rw [numsV_len]; omega), IntWalk.wrap64_in _ (by omega), val4, show (i : Int) + 1 = ((i + 1 : Nat) : Int) by omega, show min i n = i by omega, show i - n = 0 by omega, ← numsV_succ]
      rw [show min (i + 1) n = i + 1 by omega, show i + 1 - n = 0 by omega] at ih
      exact ih
    · rw [if_neg (by omega), if_pos (by rw [numsV_len]; omega), IntWalk.wrap64_in _ (by omega), val4, show (i : Int) + 1 = ((i + 1 : Nat) : Int) by omega, show min i n = n by omega]
      rw [show min (i + 1) n = n by omega, show i + 1 - n = (i - n) + 1 by omega, numsV_succ, show 14 + 4 * n + 4 * (i - n) = 14 + 4 * i by omega] at ih
      exact ih
  | 0, _, 0, _, hk => by omega
  | d + 1, _, 0, _, hk => by omega
theorem fin_long (s : ByteArray) (a b : Int) (d c : List Int) (h : 60 < d.length ∨ 12 < c.length) : finV s a b d c = errV := by
  unfold finV
  rw [if_neg]
  rintro ⟨h1, h2⟩
  have := right_facts h1
  omega
theorem wrap_n (s : ByteArray) (i : Nat) : wrap64 (bt s i) = (nOf s i : Int) := by
  have := nOf_eq s i
  rw [IntWalk.wrap64_in _ (by omega)]; exact this.1
theorem decode_f (s : ByteArray) (k : Nat) (hk : 200 ≤ k) : root_Decode.f k s = some (decV s) := by
  obtain ⟨k, rfl⟩ : ∃ m, k = m + 1 := ⟨k - 1, by omega⟩
  unfold root_Decode.f decV
  by_cases hs : s.size = 508
  · have hv0 := (valB_range s 0 6).1
    have hv6 := (valB_range s 6 6).1
    have w12 := wrap_n s 12
    have w13 := wrap_n s 13
    have r12 := (nOf_eq s 12).2
    have r13 := (nOf_eq s 13).2
    rw [show ((12 : Nat) : Int) = 12 from rfl] at w12
    rw [show ((13 : Nat) : Int) = 13 from rfl] at w13
    rw [if_pos (by omega), if_pos hs, take_f s 0 6 (by omega) (by omega) (by omega) (k + 1) (by omega), takeV_in s 0 6 (by omega) (by omega) (by omega) (by omega), Option.bind_some,
      take_f s 6 6 (by omega) (by omega) (by omega) (k + 1) (by omega), takeV_in s 6 6 (by omega) (by omega) (by omega) (by omega), Option.bind_some, if_pos (by omega), if_pos (by omega), w12, w13]
    have no (x : Bool) (hx : x = true) : root_Decode.j0 (k + 1) s (nOf s 12) (nOf s 13) x (valB s (0 : Int).toNat (6 : Int).toNat) (valB s (6 : Int).toNat (6 : Int).toNat) = some errV := by rw [root_Decode.j0, if_pos hx]; rfl
    by_cases h1 : (nOf s 12 : Int) > 60
    · rw [if_pos h1, no true rfl, fin_long _ _ _ _ _ (.inl (by rw [numsV_len]; omega))]
    · rw [if_neg h1]
      by_cases h2 : (nOf s 13 : Int) > 12
      · rw [no _ (decide_eq_true h2), fin_long _ _ _ _ _ (.inr (by rw [numsV_len]; omega))]
      · rw [decide_eq_false h2, root_Decode.j0, if_neg (by decide), IntWalk.wrap64_in _ (by omega)]
        have := dec_loop s hs (nOf s 12) (nOf s 13) (by omega) (by omega) (valB s 0 6) (valB s 6 6) hv0 hv6 (nOf s 12 + nOf s 13) 0 k (by omega) (by omega)
        rw [show ((0 : Nat) : Int) = 0 from rfl, show min 0 (nOf s 12) = 0 by omega, show 0 - nOf s 12 = 0 by omega, Int.natCast_add] at this
        exact this
  · rw [if_neg (by omega), if_neg hs]; rfl
theorem valB_mid (p q : List UInt8) (x : Int) (w i : Nat) (hi : p.length = i) (h0 : 0 ≤ x) (h1 : x < 256 ^ w) : valB (ofL (p ++ lowBytes x w ++ q)) i w = x := by
  rw [← ofL_append, ← ofL_append, ← hi, ← ofL_size p]
  exact valB_put (ofL p) (ofL q) x w h0 h1
theorem bt_val (s : ByteArray) (i : Nat) : bt s i = valB s i 1 := by simp [valB]
theorem rootB_size (a b : Int) (d c : List Int) (h : d.length + c.length ≤ 72) : (rootB a b d c).size = 508 := by
  rw [rootB_eq, ofL_size]
  simp only [List.length_append, rootH_len, numsB_len, List.length_replicate]
  omega
theorem val_root {a b : Int} {d c : List Int} (ha : 0 ≤ a) (hb : 0 ≤ b) (h : rightV a b d c = true) :
    valB (rootB a b d c) 0 6 = a ∧ valB (rootB a b d c) 6 6 = b ∧ nOf (rootB a b d c) 12 = d.length ∧ nOf (rootB a b d c) 13 = c.length ∧ ∀ i (hi : i < (d ++ c).length), valB (rootB a b d c) (14 + 4 * i) 4 = (d ++ c)[i] := by
  obtain ⟨r1, r2, r3, r4, r5⟩ := right_facts h
  have e6 : (256 : Int) ^ 6 = 281474976710656 := by decide
  have e1 : (256 : Int) ^ 1 = 256 := by decide
  have e4 : (256 : Int) ^ 4 = 4294967296 := by decide
  have hB : rootB a b d c = ofL (rootH a b d c ++ numsB (d ++ c) ++ List.replicate (508 - (14 + 4 * d.length + 4 * c.length)) 0) := by rw [rootB_eq, numsB_append]; simp only [List.append_assoc]
  generalize List.replicate (508 - (14 + 4 * d.length + 4 * c.length)) (0 : UInt8) = z at hB
  have q (p u : List UInt8) (x : Int) (w i : Nat) (hi : p.length = i) (h0 : 0 ≤ x) (h1 : x < 256 ^ w) (he : rootH a b d c ++ numsB (d ++ c) ++ z = p ++ lowBytes x w ++ u) : valB (rootB a b d c) i w = x := by
    rw [hB, he]; exact valB_mid p u x w i hi h0 h1
  refine ⟨q [] (lowBytes b 6 ++ lowBytes d.length 1 ++ lowBytes c.length 1 ++ numsB (d ++ c) ++ z) a 6 0 rfl ha (by rw [e6]; omega) (by simp [rootH]),
    q (lowBytes a 6) (lowBytes d.length 1 ++ lowBytes c.length 1 ++ numsB (d ++ c) ++ z) b 6 6 (lowBytes_length _ _) hb (by rw [e6]; omega) (by simp [rootH]), ?_, ?_, ?_⟩
  · have := q (lowBytes a 6 ++ lowBytes b 6) (lowBytes c.length 1 ++ numsB (d ++ c) ++ z) d.length 1 12 (by simp [lowBytes_length]) (by omega) (by rw [e1]; omega) (by simp [rootH])
    unfold nOf
    rw [bt_val, this]; omega
  · have := q (lowBytes a 6 ++ lowBytes b 6 ++ lowBytes d.length 1) (numsB (d ++ c) ++ z) c.length 1 13 (by simp [lowBytes_length]) (by omega) (by rw [e1]; omega) (by simp [rootH])
    unfold nOf
    rw [bt_val, this]; omega
  · intro i hi
    have hx := r5 _ (List.getElem_mem hi)
    refine q (rootH a b d c ++ numsB ((d ++ c).take i)) (numsB ((d ++ c).drop (i + 1)) ++ z) _ 4 (14 + 4 * i) ?_ (by omega) (by rw [e4]; omega) ?_
    · rw [List.length_append, rootH_len, numsB_len, List.length_take]; omega
    · have e : numsB (d ++ c) = numsB ((d ++ c).take i) ++ (lowBytes (d ++ c)[i] 4 ++ numsB ((d ++ c).drop (i + 1))) := by
        rw [← numsB_cons, ← numsB_append, List.getElem_cons_drop, List.take_append_drop]
      rw [e]; simp only [List.append_assoc]
theorem decode_own {a b : Int} {d c : List Int} (ha : 0 ≤ a) (hb : 0 ≤ b) (h : rightV a b d c = true) : decV (rootB a b d c) = (a, b, d, c, 0) := by
  obtain ⟨v1, v2, v3, v4, v5⟩ := val_root ha hb h
  obtain ⟨r1, r2, r3, r4, r5⟩ := right_facts h
  have hd : dD (rootB a b d c) = d := by
    apply List.ext_getElem
    · rw [numsV_len, v3]
    · intro j h1 h2
      rw [numsV_get, v5 j (by rw [List.length_append]; omega), List.getElem_append_left h2]
  have hc : dC (rootB a b d c) = c := by
    apply List.ext_getElem
    · rw [numsV_len, v4]
    · intro j h1 h2
      rw [numsV_get, v3, show 14 + 4 * d.length + 4 * j = 14 + 4 * (d.length + j) by omega, v5 (d.length + j) (by rw [List.length_append]; omega), List.getElem_append_right (by omega)]
      simp
  unfold decV
  rw [if_pos (rootB_size a b d c (by omega)), v1, v2, hd, hc]
  unfold finV
  rw [if_pos ⟨h, rfl⟩]
theorem same_l1 (a b a' b' : Int) (d c d' c' : List Int) (hl : c.length = c'.length) (hc : c.length ≤ 1000) : ∀ m i k, i + m = c.length → m < k → nautilusref16_Same.l1 k i a b d c a' b' d' c' = some (decide (c.drop i = c'.drop i))
  | 0, i, k + 1, hi, hk => by rw [nautilusref16_Same.l1, if_neg (by omega), List.drop_of_length_le (by omega), List.drop_of_length_le (by omega)]; simp
  | m + 1, i, k + 1, hi, hk => by
    have h1 : i < c.length := by omega
    have h2 : i < c'.length := by omega
    rw [nautilusref16_Same.l1, if_pos (by omega), if_pos (by omega), if_pos (by omega), rd_in c i h1, rd_in c' i h2, List.drop_eq_getElem_cons h1, List.drop_eq_getElem_cons h2, IntWalk.wrap64_in _ (by omega), show (i : Int) + 1 = ((i + 1 : Nat) : Int) by omega]
    by_cases e : c[i] = c'[i]
    · rw [if_pos e, same_l1 a b a' b' d c d' c' hl hc m (i + 1) k (by omega) (by omega)]
      simp only [List.cons.injEq, e, true_and]
    · rw [if_neg e]; simp only [List.cons.injEq, e, false_and, decide_false]
theorem same_l0 (a b a' b' : Int) (d c d' c' : List Int) (hl : d.length = d'.length) (hc : d.length ≤ 1000) : ∀ m i k, i + m = d.length → m < k → nautilusref16_Same.l0 k i a b d c a' b' d' c' = if d.drop i = d'.drop i then nautilusref16_Same.l1 (k - m - 1) 0 a b d c a' b' d' c' else some false
  | 0, i, k + 1, hi, hk => by rw [nautilusref16_Same.l0, if_neg (by omega), List.drop_of_length_le (by omega), List.drop_of_length_le (by omega)]; simp
  | m + 1, i, k + 1, hi, hk => by
    have h1 : i < d.length := by omega
    have h2 : i < d'.length := by omega
    rw [nautilusref16_Same.l0, if_pos (by omega), if_pos (by omega), if_pos (by omega), rd_in d i h1, rd_in d' i h2, List.drop_eq_getElem_cons h1, List.drop_eq_getElem_cons h2, IntWalk.wrap64_in _ (by omega), show (i : Int) + 1 = ((i + 1 : Nat) : Int) by omega]
    by_cases e : d[i] = d'[i]
    · rw [if_pos e, same_l0 a b a' b' d c d' c' hl hc m (i + 1) k (by omega) (by omega)]
      simp only [List.cons.injEq, e, true_and, show k + 1 - (m + 1) - 1 = k - m - 1 by omega]
    · rw [if_neg e]; simp only [List.cons.injEq, e, false_and, if_false]
theorem same_f (a b a' b' : Int) (d c d' c' : List Int) (hd : d.length ≤ 1000) (hc : c.length ≤ 1000) (k : Nat) (hk : 3000 ≤ k) : nautilusref16_Same.f k a b d c a' b' d' c' = some (decide (a = a' ∧ b = b' ∧ d = d' ∧ c = c')) := by
  obtain ⟨k, rfl⟩ : ∃ m, k = m + 1 := ⟨k - 1, by omega⟩
  unfold nautilusref16_Same.f
  have no : nautilusref16_Same.j0 (k + 1) true a b d c a' b' d' c' = some false := by rw [nautilusref16_Same.j0, if_pos rfl]
  by_cases h1 : a = a'
  · rw [if_pos h1]
    by_cases h2 : b = b'
    · rw [if_pos h2]
      by_cases h3 : d.length = d'.length
      · rw [if_pos (by omega)]
        by_cases h4 : c.length = c'.length
        · rw [show (((c.length : Int) != (c'.length : Int)) = false) by simp; omega, nautilusref16_Same.j0, if_neg (by decide)]
          have g0 := same_l0 a b a' b' d c d' c' h3 hd d.length 0 k (by omega) (by omega)
          have g1 := same_l1 a b a' b' d c d' c' h4 hc c.length 0 (k - d.length - 1) (by omega) (by omega)
          rw [show ((0 : Nat) : Int) = 0 from rfl, List.drop_zero, List.drop_zero] at g0 g1
          rw [g0, g1]
          by_cases h5 : d = d'
          · rw [if_pos h5]; simp [h1, h2, h5]
          · rw [if_neg h5]; simp [h5]
        · rw [show (((c.length : Int) != (c'.length : Int)) = true) by simp; omega, no, decide_eq_false (fun h => h4 (by rw [h.2.2.2]))]
      · rw [if_neg (by omega), no, decide_eq_false (fun h => h3 (by rw [h.2.2.1]))]
    · rw [if_neg h2, no, decide_eq_false (fun h => h2 h.2.1)]
  · rw [if_neg h1, no, decide_eq_false (fun h => h1 h.1)]
end Go.Proofs.Ythgefgjaihagoaa.PR

set_option linter.unusedVariables false
set_option linter.unusedSimpArgs false
namespace Go.Proofs.Ythgefgjaihagoaa.Q
open Go.RowKit Go.Proofs.Ythgefgjaihagoaa.H Go.Proofs.Ythgefgjaihagoaa.P Go.Proofs.YthgefgjaihagoaaW.PrintWords Go.Proofs.YthgefgjaihagoaaW.PrintLast Go.Proofs.YthgefgjaihagoaaW.PrintMore
structure DatOk (m : List (S106)) (a : List ByteArray) (f : Int) : Prop where
  f0 : f = 0
  len : a.length ≤ 1860
  size : ∀ j, (hj : j < a.length) → a[j].size = 508 ∧ num_Bare.f a[j] 496 = some true
  bare : dat_bare.f 100000 (plcCat a) = some m
  right : dat_Right.f m = some true
  quo : ((m.length : Int) - 1).tdiv 31 + 1 = (a.length : Int)
  same : nautilusref08_Same.f 100000 m m = some true
theorem dat_facts (l : List (S106)) (hl : l.length ≤ 1000) (nums : List Int) : ∃ m r2 e a f, dat_Sweep.f l nums = some (m, r2, e) ∧ m.length ≤ 1000 ∧ dat_Encode.f m = some (a, f) ∧ (e = 0 → DatOk m a f) := by
  have hs := PD.sweep_f l nums (by omega)
  have hm := PD.sweepV_len l nums
  have he := PD.encode_f (PD.sweepV l nums).1 (by omega)
  refine ⟨(PD.sweepV l nums).1, (PD.sweepV l nums).2.1, (PD.sweepV l nums).2.2, (PD.encodeV (PD.sweepV l nums).1).1, (PD.encodeV (PD.sweepV l nums).1).2, hs, by omega, he, fun e0 => ?_⟩
  by_cases hr : PD.rightV l = true
  · have e1 : (PD.sweepV l nums).1 = PD.bareL (l.map (swE nums)) := by unfold PD.sweepV; rw [if_pos hr]
    have hr2 := PD.swept_right hr nums
    rw [← e1] at hr2
    have hb : PD.bareL (PD.sweepV l nums).1 = (PD.sweepV l nums).1 := by rw [e1, PD.bareL_bareL]
    obtain ⟨h1, h2, h3, h4, h5, h6⟩ := PD.decode_yes _ hr2 hb
    have ee : PD.encodeV (PD.sweepV l nums).1 = (encN (PD.sweepV l nums).1 (partN 31 (PD.sweepV l nums).1), 0) := by unfold PD.encodeV; rw [if_pos hr2]
    rw [ee]
    exact ⟨rfl, h1, h2, h3, h4, h6, PD.same_refl _ _ (by omega) (by omega)⟩
  · exfalso
    unfold PD.sweepV at e0
    rw [if_neg hr] at e0
    cases e0
structure CpsOk (c : List (S110)) (b : List ByteArray) : Prop where
  len : b.length ≤ 1000
  size : ∀ j, (hj : j < b.length) → b[j].size = 508
  dec : C.cps_Decode.f b = some (c, 0)
  same : nautilusref09_Same.f 100000 c c = some true
theorem cps_facts (c : List (S110)) (hl : c.length ≤ 100) (hw : ∀ x ∈ c, 0 ≤ x.f1) : ∃ nums b g, cps_Numbers.f 1000 c = some nums ∧ C.cps_Encode.f c = some (b, g) ∧ (g = 0 → CpsOk c b) := by
  refine ⟨_, (PC.encodeV c).1, (PC.encodeV c).2, PC.numbers_f c 1000 (by omega) (by omega), PC.encode_f c (by omega) hw, fun g0 => ?_⟩
  by_cases hr : PC.rightB c = true
  · have ee : PC.encodeV c = (C.encN c (C.partN 9 c), 0) := by unfold PC.encodeV; rw [if_pos hr]
    rw [ee]
    have hf := PC.right_fit hr hw
    have hn : (C.encN c (C.partN 9 c)).length = C.partN 9 c := by simp [C.encN]
    refine ⟨?_, fun j hj => ?_, ?_, PC.same_refl c _ (by omega) (by omega)⟩
    · show (C.encN c (C.partN 9 c)).length ≤ 1000
      rw [hn]; unfold C.partN; omega
    · have e : (C.encN c (C.partN 9 c))[j] = C.blockV (C.partL 9 c j) := by simp [C.encN]
      show (C.encN c (C.partN 9 c))[j].size = 508
      rw [e]
      exact PC.block_size (fun x hx => hf x (List.mem_of_mem_take (List.mem_of_mem_drop hx))) (by rw [C.partL_len]; omega)
    · rw [PC.decode_f, PC.decode_encode hr hw]
  · exfalso
    unfold PC.encodeV at g0
    rw [if_neg hr] at g0
    cases g0
structure RootOk (a b : Int) (d c : List Int) (s : ByteArray) : Prop where
  size : s.size = 508
  dec : root_Decode.f 200 s = some (a, b, d, c, 0)
  same : nautilusref16_Same.f 3000 a b d c a b d c = some true
theorem root_facts (a b : Int) (d c : List Int) (ha : 0 ≤ a) (hb : 0 ≤ b) : ∃ s h, root_Encode.f a b d c = some (s, h) ∧ (h = 0 → RootOk a b d c s) := by
  refine ⟨(PR.encV a b d c).1, (PR.encV a b d c).2, PR.encode_f a b d c ha hb, fun h0 => ?_⟩
  by_cases hr : rightV a b d c = true
  · have ee : PR.encV a b d c = (rootB a b d c, 0) := by unfold PR.encV; rw [if_pos hr]
    rw [ee]
    obtain ⟨r1, r2, r3, r4, r5⟩ := right_facts hr
    exact ⟨PR.rootB_size a b d c (by omega), by rw [PR.decode_f _ _ (by omega), PR.decode_own ha hb hr], by rw [PR.same_f _ _ _ _ _ _ _ _ (by omega) (by omega) _ (by omega)]; simp⟩
  · exfalso
    unfold PR.encV at h0
    rw [if_neg hr] at h0
    cases h0
end Go.Proofs.Ythgefgjaihagoaa.Q
