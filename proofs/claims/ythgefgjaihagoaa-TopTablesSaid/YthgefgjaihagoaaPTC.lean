/- The table of checkpoints, in plain words. -/
import Derived.Test.YthgefgjaihagoaaHDecL
import Derived.Test.YthgefgjaihagoaaPVal
import Derived.Test.YthgefgjaihagoaaB2
import Derived.Test.YthgefgjaihagoaaB1
set_option linter.unusedVariables false
set_option linter.unusedSimpArgs false
namespace Go.Proofs.Ythgefgjaihagoaa.PC
open Go.RowKit Go.Proofs.Ythgefgjaihagoaa.H Go.Proofs.Ythgefgjaihagoaa.P Go.Proofs.YthgefgjaihagoaaW.PrintWords Go.Proofs.YthgefgjaihagoaaW.PrintLast Go.Proofs.YthgefgjaihagoaaW.PrintMore Go.Proofs.Ythgefgjaihagoaa.Q Go.Proofs.Ythgefgjaihagoaa.C
abbrev CkE := S110
theorem w64 (i : Nat) (h : i ≤ 4000000000000) : wrap64 ((i : Int) + 1) = ((i + 1 : Nat) : Int) := by rw [IntWalk.wrap64_in _ (by omega)]; omega
theorem rd_at (l : List CkE) (i : Nat) (h : i < l.length) : rd_T110 l (i : Int) = l[i] := by simp [rd_T110, h]
/-- A table's numbers rise, and all is as it may be. -/
def rightFrom : Int → List CkE → Bool
  | _, [] => true
  | last, x :: xs => if x.f0 ≤ last then false else if x.f0 ≥ 281474976710656 then false else if x.f1 ≥ 281474976710656 then false else if (x.f3.size : Int) = 42 then rightFrom x.f0 xs else false
def rightB (l : List CkE) : Bool := if (l.length : Int) > 108 then false else rightFrom 0 l
theorem right_loop (l : List CkE) (hl : l.length ≤ 1000000000) : ∀ d i k last, i + d = l.length → d < k → cps_Right.l0 k last l (l.length : Int) (i : Int) = some (rightFrom last (l.drop i))
  | 0, i, 0, _, _, h => by omega
  | 0, i, k + 1, last, hi, _ => by rw [cps_Right.l0, if_neg (by omega), List.drop_of_length_le (by omega), rightFrom]
  | d + 1, i, 0, _, _, h => by omega
  | d + 1, i, k + 1, last, hi, h => by
    have hlt : i < l.length := by omega
    rw [cps_Right.l0, if_pos (by omega), if_pos (by omega), if_pos (by omega), rd_at l i hlt, List.drop_eq_getElem_cons hlt, rightFrom]
    by_cases h1 : l[i].f0 ≤ last
    · rw [if_pos h1, if_pos h1]
    rw [if_neg h1, if_neg h1]
    by_cases h2 : l[i].f0 ≥ 281474976710656
    · rw [if_pos h2, if_pos h2]
    rw [if_neg h2, if_neg h2]
    by_cases h3 : l[i].f1 ≥ 281474976710656
    · rw [if_pos h3, if_pos h3]
    rw [if_neg h3, if_neg h3]
    by_cases h4 : (l[i].f3.size : Int) = 42
    · rw [if_pos h4, if_pos h4, w64 i (by omega)]
      exact right_loop l hl d (i + 1) k _ (by omega) (by omega)
    · rw [if_neg h4, if_neg h4]
theorem right_f (l : List CkE) (k : Nat) (hl : l.length ≤ 1000000000) (hk : l.length < k) : cps_Right.f k l = some (rightB l) := by
  unfold cps_Right.f rightB
  by_cases h : (l.length : Int) > 108
  · rw [if_pos h, if_pos h]
  · rw [if_neg h, if_neg h]
    exact right_loop l hl l.length 0 k 0 (by omega) hk
/-- Are two tables the same? -/
def eqE (x y : CkE) : Bool := !(!(x.f0 == y.f0) || (!(x.f1 == y.f1) || (!(x.f2 == y.f2) || (!((x.f3.toList) == (y.f3.toList))))))
theorem toList_inj {a b : ByteArray} (h : a.toList = b.toList) : a = b := by
  have e : ∀ s : ByteArray, s.toList = s.data.toList := Lib.toList_data
  rw [e, e] at h
  exact ByteArray.ext (Array.toList_inj.1 h)
theorem eqE_iff (x y : CkE) : eqE x y = true ↔ x = y := by
  cases x; cases y
  simp [eqE]
  intro _ _ _
  exact ⟨toList_inj, fun h => by rw [h]⟩
theorem same_loop (a b : List CkE) (hab : a.length = b.length) (hl : a.length ≤ 1000000000) : ∀ d i k, i + d = a.length → d < k → ∃ r, nautilusref09_Same.l0 k a b (i : Int) = some r ∧ (r = true ↔ a.drop i = b.drop i)
  | 0, i, 0, _, h => by omega
  | 0, i, k + 1, hi, _ => ⟨true, by rw [nautilusref09_Same.l0, if_neg (by omega)], by rw [List.drop_of_length_le (by omega), List.drop_of_length_le (by omega)]; simp⟩
  | d + 1, i, 0, _, h => by omega
  | d + 1, i, k + 1, hi, h => by
    have hlt : i < a.length := by omega
    have hlb : i < b.length := by omega
    rw [nautilusref09_Same.l0, if_pos (by omega), if_pos (by omega), if_pos (by omega), rd_at a i hlt, rd_at b i hlb, List.drop_eq_getElem_cons hlt, List.drop_eq_getElem_cons hlb]
    have he := eqE_iff a[i] b[i]
    unfold eqE at he
    by_cases h1 : (!(a[i].f0 == b[i].f0) || (!(a[i].f1 == b[i].f1) || (!(a[i].f2 == b[i].f2) || (!((a[i].f3.toList) == (b[i].f3.toList)))))) = true
    · rw [if_pos h1]
      rw [h1] at he
      refine ⟨false, rfl, ⟨fun h => absurd h (by decide), fun h => ?_⟩⟩
      rw [List.cons.injEq] at h
      exact absurd (he.2 h.1) (by decide)
    · rw [if_neg h1, w64 i (by omega)]
      rw [Bool.not_eq_true] at h1
      rw [h1] at he
      obtain ⟨r, hr, hi⟩ := same_loop a b hab hl d (i + 1) k (by omega) (by omega)
      refine ⟨r, hr, hi.trans ?_⟩
      rw [List.cons.injEq]
      exact ⟨fun h => ⟨he.1 rfl, h⟩, fun h => h.2⟩
theorem same_f (a b : List CkE) (k : Nat) (hl : a.length ≤ 1000000000) (hk : a.length < k) : ∃ r, nautilusref09_Same.f k a b = some r ∧ (r = true ↔ a = b) := by
  unfold nautilusref09_Same.f
  by_cases h : a.length = b.length
  · rw [if_pos (by omega)]
    exact same_loop a b h hl a.length 0 k (by omega) hk
  · rw [if_neg (by omega)]
    exact ⟨false, rfl, by simp; intro e; exact h (by rw [e])⟩
theorem same_refl (a : List CkE) (k : Nat) (hl : a.length ≤ 1000000000) (hk : a.length < k) : nautilusref09_Same.f k a a = some true := by
  obtain ⟨r, hr, h⟩ := same_f a a k hl hk
  rw [hr, h.2 rfl]
theorem rightB_len {l : List CkE} (h : rightB l = true) : l.length ≤ 108 := by
  unfold rightB at h
  split at h
  · cases h
  · omega
def f0s (l : List CkE) : List Int := l.map fun x => x.f0
theorem f0s_cons {l : List CkE} {i : Nat} (h : i < l.length) : f0s (l.drop i) = l[i].f0 :: f0s (l.drop (i + 1)) := by rw [List.drop_eq_getElem_cons h]; rfl
theorem numbers_loop (l : List CkE) (hl : l.length ≤ 1000000000) : ∀ d i k (xs : List Int), i + d = l.length → d < k → xs.length ≤ i → cps_Numbers.l0 k xs l (l.length : Int) (i : Int) = some (xs ++ f0s (l.drop i))
  | 0, i, 0, _, _, h, _ => by omega
  | 0, i, k + 1, xs, hi, _, _ => by rw [cps_Numbers.l0, if_neg (by omega), List.drop_of_length_le (by omega)]; simp [f0s]
  | d + 1, i, 0, _, _, h, _ => by omega
  | d + 1, i, k + 1, xs, hi, h, hx => by
    have hlt : i < l.length := by omega
    rw [cps_Numbers.l0, if_pos (by omega), if_pos (by omega), if_pos (by omega), if_pos (by omega), rd_at l i hlt, w64 i (by omega), numbers_loop l hl d (i + 1) k _ (by omega) (by omega) (by simp; omega), f0s_cons hlt, List.append_assoc]; rfl
theorem numbers_f (l : List CkE) (k : Nat) (hl : l.length ≤ 1000000000) (hk : l.length < k) : cps_Numbers.f k l = some (f0s l) := by
  unfold cps_Numbers.f
  rw [show (0 : Int) = ((0 : Nat) : Int) from rfl, numbers_loop l hl l.length 0 k [] (by omega) hk (by simp)]; rfl
/-- Is one as it may be, but for its number's place? -/
def okE (x : CkE) : Prop := x.f0 < 281474976710656 ∧ x.f1 < 281474976710656 ∧ x.f3.size = 42
theorem rightFrom_cons {a : Int} {x : CkE} {xs : List CkE} : rightFrom a (x :: xs) = true ↔ a < x.f0 ∧ okE x ∧ rightFrom x.f0 xs = true := by
  unfold okE
  rw [rightFrom]
  constructor
  · intro h
    split at h
    · cases h
    · split at h
      · cases h
      · split at h
        · cases h
        · split at h
          · exact ⟨by omega, ⟨by omega, by omega, by omega⟩, h⟩
          · cases h
  · rintro ⟨h1, ⟨h2, h3, h4⟩, h5⟩
    rw [if_neg (by omega), if_neg (by omega), if_neg (by omega), if_pos (by omega)]; exact h5
theorem rightB_iff {l : List CkE} : rightB l = true ↔ l.length ≤ 108 ∧ rightFrom 0 l = true := by
  unfold rightB
  split
  · constructor
    · intro h; cases h
    · rintro ⟨h, _⟩; omega
  · constructor
    · intro h; exact ⟨by omega, h⟩
    · rintro ⟨_, h⟩; exact h
/-- All behind are above. -/
theorem rightFrom_mem : ∀ {l : List CkE} {a : Int}, rightFrom a l = true → ∀ x ∈ l, a < x.f0
  | [], _, _, x, hx => by cases hx
  | y :: ys, a, h, x, hx => by
    obtain ⟨h1, h2, h3⟩ := rightFrom_cons.1 h
    rcases List.mem_cons.1 hx with rfl | hx
    · exact h1
    · have := rightFrom_mem h3 x hx; omega
theorem pow256_posC (j : Nat) : (0 : Int) < 256 ^ j := Int.pow_pos (by omega)
theorem lowBytes_injC (n m : Int) (w : Nat) (hn : 0 ≤ n) (hm : 0 ≤ m) (h1 : n < 256 ^ w) (h2 : m < 256 ^ w) (h : lowBytes n w = lowBytes m w) : n = m := by
  induction w generalizing n m with
  | zero => simp at h1 h2; omega
  | succ w ih =>
    have hs : ∀ x : Int, lowBytes x (w + 1) = UInt8.ofNat (x % 256).toNat :: lowBytes (x / 256) w := by
      intro x
      simp only [lowBytes, List.range_succ_eq_map, List.map_cons, List.map_map, Int.pow_zero, Int.ediv_one, List.cons.injEq, true_and]
      apply List.map_congr_left
      intro j _
      have hp := pow256_posC j
      simp only [Function.comp_apply, Nat.succ_eq_add_one]
      rw [Int.pow_succ, Int.mul_comm, ← Int.ediv_ediv_of_nonneg (by omega)]
    rw [hs, hs] at h
    have h256 : (256 : Int) ^ (w + 1) = 256 * 256 ^ w := by rw [Int.pow_succ, Int.mul_comm]
    have e1 := (List.cons.inj h).1
    have e2 := ih (n / 256) (m / 256) (by omega) (by omega) (by omega) (by omega) (List.cons.inj h).2
    have e3 : (n % 256).toNat = (m % 256).toNat := by
      have := congrArg UInt8.toNat e1
      rw [UInt8.toNat_ofNat', UInt8.toNat_ofNat'] at this
      omega
    omega
/-- The bytes of a checkpoint. -/
def oneL (x : CkE) : List UInt8 := (lowBytes x.f0 6 ++ lowBytes x.f1 6 ++ [if x.f2 = true then 1 else 0]) ++ x.f3.data.toList
theorem put6 {n : Int} (h0 : 0 ≤ n) (h1 : n < 281474976710656) : num_Put.f n 6 = some (⟨(lowBytes n 6).toArray⟩, 0) := by
  unfold num_Put.f
  rw [if_pos ⟨h0, by omega⟩, if_pos ⟨by omega, by omega⟩, if_pos]
  · rfl
  · have e : (256 : Int) ^ (6 : Int).toNat = 281474976710656 := by decide
    rw [e]; omega
theorem oneL_len {x : CkE} (h : x.f3.size = 42) : (oneL x).length = 55 := by
  have : x.f3.data.toList.length = 42 := by rw [Array.length_toList]; exact h
  simp [oneL, lowBytes_length, this]
theorem oneV_right {x : CkE} (h0 : 0 < x.f0) (ht : 0 ≤ x.f1) (h : okE x) : cps_one.f x.f0 x.f1 x.f2 x.f3 = some (oneV x) ∧ (oneV x).data.toList = oneL x := by
  have hz1 : (⟨(lowBytes x.f0 6).toArray⟩ : ByteArray).size = 6 := by simp [ByteArray.size, lowBytes_length]
  have hz2 : (⟨(lowBytes x.f1 6).toArray⟩ : ByteArray).size = 6 := by simp [ByteArray.size, lowBytes_length]
  have e : cps_one.f x.f0 x.f1 x.f2 x.f3 = some ⟨(oneL x).toArray⟩ := by
    unfold cps_one.f oneL
    rw [put6 (by omega) h.1, Option.bind_some, put6 ht h.2.1, Option.bind_some]
    simp only
    have hr := h.2.2
    cases hb : x.f2 with
    | true =>
      rw [if_pos rfl, if_pos (by omega), if_pos (by rw [ByteArray.size_append]; omega), if_pos (by
        rw [ByteArray.size_append, ByteArray.size_append, hz1, hz2, hr]; decide)]
      congr 1
    | false =>
      rw [if_neg (by decide), if_pos (by omega), if_pos (by rw [ByteArray.size_append]; omega), if_pos (by
        rw [ByteArray.size_append, ByteArray.size_append, hz1, hz2, hr]; decide)]
      congr 1
  have e2 : oneV x = ⟨(oneL x).toArray⟩ := by unfold oneV; rw [e]; rfl
  rw [e2]; exact ⟨e, rfl⟩
/-- What is asked of those of a right table. -/
def fitE (x : CkE) : Prop := 0 < x.f0 ∧ 0 ≤ x.f1 ∧ okE x
def bodyL (p : List CkE) : List UInt8 := (p.map oneL).flatten
theorem catV_right : ∀ (p : List CkE), (∀ x ∈ p, fitE x) → catV p = bodyL p
  | [], _ => rfl
  | x :: xs, h => by
    have ih := catV_right xs (fun y hy => h y (by simp [hy]))
    obtain ⟨h0, h1, h2⟩ := h x (by simp)
    unfold catV bodyL at ih ⊢
    simp only [List.map_cons, List.flatten_cons]
    rw [ih, (oneV_right h0 h1 h2).2]
theorem bodyL_len : ∀ (p : List CkE), (∀ x ∈ p, fitE x) → (bodyL p).length = 55 * p.length
  | [], _ => rfl
  | x :: xs, h => by
    have ih := bodyL_len xs (fun y hy => h y (by simp [hy]))
    have := oneL_len (h x (by simp)).2.2.2.2
    unfold bodyL at ih ⊢
    simp only [List.map_cons, List.flatten_cons, List.length_append, List.length_cons, ih, this]; omega
theorem fine_right {x : CkE} (h : fitE x) : fineE x = true := by
  obtain ⟨h0, h1, h2⟩ := h
  obtain ⟨e, e2⟩ := oneV_right h0 h1 h2
  have hz : (oneV x).size = 55 := by
    have := oneL_len h2.2.2
    rw [← e2, Array.length_toList] at this; exact this
  unfold fineE
  rw [e, hz]; rfl
theorem zeros_first {x : CkE} (h : fitE x) (r : List UInt8) (m : Nat) : oneL x ++ r ≠ List.replicate m 0 := by
  intro e
  have hl : lowBytes x.f0 6 = List.replicate 6 0 := by
    have := congrArg (List.take 6) e
    unfold oneL at this
    simp only [List.append_assoc] at this
    rw [List.take_append_of_le_length (by simp [lowBytes_length]), List.take_of_length_le (by simp [lowBytes_length]), List.take_replicate] at this
    have hm : 6 ≤ m := by
      have h2 := congrArg List.length e
      rw [List.length_append, oneL_len h.2.2.2.2, List.length_replicate] at h2; omega
    rw [Nat.min_eq_left hm] at this; exact this
  have h0 : lowBytes 0 6 = List.replicate 6 0 := by decide
  have e6 : (256 : Int) ^ 6 = 281474976710656 := by decide
  have := lowBytes_injC x.f0 0 6 (by have := h.1; omega) (by omega) (by rw [e6]; exact h.2.2.1) (by decide) (by rw [hl, h0])
  have := h.1; omega
theorem blockV_bytes {p : List CkE} (h : ∀ x ∈ p, fitE x) (hp : p.length ≤ 9) : (blockV p).data.toList = bodyL p ++ List.replicate (508 - 55 * p.length) 0 := by
  have hz : (⟨(bodyL p).toArray⟩ : ByteArray).size = 55 * p.length := by rw [← bodyL_len p h]; simp [ByteArray.size]
  unfold blockV
  rw [catV_right p h]
  unfold num_Fit.f
  rw [if_neg (by omega), if_neg (by omega), if_neg (by omega), hz]
  show (_ ++ zerosB _ : ByteArray).data.toList = _
  rw [ByteArray.data_append]
  simp only [zerosB, Array.toList_append]
  rw [show ((508 : Int) - ((55 * p.length : Nat) : Int)).toNat = 508 - 55 * p.length by omega]
theorem part_mem {l : List CkE} {k : Nat} {x : CkE} (h : x ∈ partL 9 l k) : x ∈ l := List.mem_of_mem_take (List.mem_of_mem_drop h)
theorem rightFrom_ok : ∀ {l : List CkE} {a : Int}, rightFrom a l = true → ∀ x ∈ l, okE x
  | [], _, _, x, hx => by simp at hx
  | y :: ys, a, h, x, hx => by
    obtain ⟨_, h2, h3⟩ := rightFrom_cons.1 h
    rcases List.mem_cons.1 hx with e | e
    · rw [e]; exact h2
    · exact rightFrom_ok h3 x e
theorem right_fit {l : List CkE} (hr : rightB l = true) (hw : ∀ x ∈ l, 0 ≤ x.f1) : ∀ x ∈ l, fitE x := fun x hx => by
  obtain ⟨_, h⟩ := rightB_iff.1 hr
  exact ⟨rightFrom_mem h x hx, hw x hx, rightFrom_ok h x hx⟩
def encodeV (l : List CkE) : List ByteArray × Int := if rightB l = true then (encN l (partN 9 l), 0) else ([], 90)
theorem encode_f (l : List CkE) (hl : l.length ≤ 1000) (hw : ∀ x ∈ l, 0 ≤ x.f1) : cps_Encode.f l = some (encodeV l) := by
  unfold cps_Encode.f encodeV
  rw [right_f l (l.length + 1) (by omega) (by omega), Option.bind_some]
  by_cases hr : rightB l = true
  · rw [if_pos hr, if_pos hr, if_pos (by omega), if_pos (List.all_eq_true.2 fun x hx => fine_right (right_fit hr hw x hx))]
  · rw [if_neg hr, if_neg hr]
theorem nf : ¬ (false = true) := by decide
theorem rdO (l : List ByteArray) (i : Nat) (h : i < l.length) : rdOf ByteArray.empty l (i : Int) = l[i] := by simp [rdOf, h]
theorem equal_loop (a b : List ByteArray) (hab : a.length = b.length) (hl : a.length ≤ 1000000000) : ∀ d i k, i + d = a.length → d < k → ∃ r, slices_Equal_string_string_67.l0 k a b (a.length : Int) (i : Int) = some r ∧ (r = true ↔ a.drop i = b.drop i)
  | _, i, 0, _, h => by omega
  | 0, i, k + 1, hi, _ => ⟨true, by rw [slices_Equal_string_string_67.l0, if_neg (by omega)], by rw [List.drop_of_length_le (by omega), List.drop_of_length_le (by omega)]; simp⟩
  | d + 1, i, k + 1, hi, h => by
    have h1 : i < a.length := by omega
    have h2 : i < b.length := by omega
    obtain ⟨r, hr, hd⟩ := equal_loop a b hab hl d (i + 1) k (by omega) (by omega)
    rw [slices_Equal_string_string_67.l0, if_pos (by omega), if_pos (by omega), if_pos (by omega), if_pos (by omega), rdO a i h1, rdO b i h2, w64 i (by omega), List.drop_eq_getElem_cons h1, List.drop_eq_getElem_cons h2]
    by_cases e : a[i].toList = b[i].toList
    · have e' := toList_inj e
      rw [if_pos e]
      exact ⟨r, hr, by rw [hd, e']; exact ⟨fun z => by rw [z], fun z => (List.cons.inj z).2⟩⟩
    · rw [if_neg e]
      refine ⟨false, rfl, ⟨fun z => (nf z).elim, fun z => (e ?_).elim⟩⟩
      rw [(List.cons.inj z).1]
theorem equal_f (a b : List ByteArray) (k : Nat) (hl : a.length ≤ 1000000000) (hk : a.length < k) : ∃ r, slices_Equal_string_string_67.f k a b = some r ∧ (r = true ↔ a = b) := by
  unfold slices_Equal_string_string_67.f
  by_cases h : a.length = b.length
  · rw [if_pos (by omega)]
    obtain ⟨r, hr, hd⟩ := equal_loop a b h hl a.length 0 k (by omega) hk
    exact ⟨r, hr, by simpa using hd⟩
  · rw [if_neg (by omega)]
    exact ⟨false, rfl, by simp; intro e; exact h (by rw [e])⟩
theorem chkAt_range (b : ByteArray) (k : Nat) : 0 ≤ (chkAt b k).f1 := (valB_range b (55 * k + 6) 6).1
theorem chkCat_range (bs : List ByteArray) : ∀ x ∈ chkCat bs, 0 ≤ x.f1 := by
  intro x hx
  unfold chkCat chkL at hx
  simp only [List.mem_flatten, List.mem_map, List.mem_range] at hx
  obtain ⟨_, ⟨b, _, rfl⟩, hx⟩ := hx
  simp only [List.mem_map, List.mem_range] at hx
  obtain ⟨k, _, rfl⟩ := hx
  exact chkAt_range b k
def decodeV (bs : List ByteArray) : List CkE × Int :=
  if 108 < bs.length then ([], 90) else if bs.all (fun b => decide (b.size = 508)) = true then (if (encodeV (chkCat bs)).2 = 0 then (if (encodeV (chkCat bs)).1 = bs then (chkCat bs, 0) else ([], 90)) else ([], 90)) else ([], 90)
theorem decode_f (bs : List ByteArray) : cps_Decode.f bs = some (decodeV bs) := by
  unfold cps_Decode.f decodeV
  by_cases h1 : 108 < bs.length
  · rw [if_pos h1, if_pos h1]
  · rw [if_neg h1, if_neg h1]
    by_cases h2 : bs.all (fun b => decide (b.size = 508)) = true
    · have hl := chkCat_len bs
      rw [if_pos h2, if_pos h2, encode_f (chkCat bs) (by omega) (chkCat_range bs), Option.bind_some]
      by_cases h3 : (encodeV (chkCat bs)).2 = 0
      · rw [if_pos h3, if_pos h3]
        by_cases h5 : (encodeV (chkCat bs)).1.length = bs.length
        · obtain ⟨r, hr, hri⟩ := equal_f (encodeV (chkCat bs)).1 bs (bs.length + 2) (by omega) (by omega)
          rw [hr, Option.bind_some]
          by_cases h4 : (encodeV (chkCat bs)).1 = bs
          · rw [if_pos h4, if_pos (hri.2 h4)]
          · rw [if_neg h4, if_neg (fun e => h4 (hri.1 e))]
        · have e : slices_Equal_string_string_67.f (bs.length + 2) (encodeV (chkCat bs)).1 bs = some false := by unfold slices_Equal_string_string_67.f; rw [if_neg (by omega)]
          rw [e, Option.bind_some, if_neg nf, if_neg (fun e => h5 (by rw [e]))]
      · rw [if_neg h3, if_neg h3]
    · rw [if_neg h2, if_neg h2]
theorem bodyL_split (p : List CkE) (k : Nat) : bodyL p = bodyL (p.take k) ++ bodyL (p.drop k) := by
  unfold bodyL
  rw [← List.flatten_append, ← List.map_append, List.take_append_drop]
theorem block_drop {p : List CkE} (h : ∀ x ∈ p, fitE x) (hp : p.length ≤ 9) (k : Nat) (hk : k ≤ p.length) : (blockV p).data.toList.drop (55 * k) = bodyL (p.drop k) ++ List.replicate (508 - 55 * p.length) 0 := by
  have hl := bodyL_len (p.take k) (fun x hx => h x (List.mem_of_mem_take hx))
  rw [List.length_take, Nat.min_eq_left hk] at hl
  rw [blockV_bytes h hp, bodyL_split p k, List.append_assoc, List.drop_left' hl]
theorem block_size {p : List CkE} (h : ∀ x ∈ p, fitE x) (hp : p.length ≤ 9) : (blockV p).size = 508 := by
  have := congrArg List.length (blockV_bytes h hp)
  rw [toList_length, List.length_append, bodyL_len p h, List.length_replicate] at this
  omega
theorem block_cut {p : List CkE} (h : ∀ x ∈ p, fitE x) (hp : p.length ≤ 9) (k : Nat) (hk : k < p.length) : ∃ R, (blockV p).data.toList.drop (55 * k) = oneL p[k] ++ R := by
  rw [block_drop h hp k (by omega), List.drop_eq_getElem_cons hk]
  exact ⟨_, by unfold bodyL; rw [List.map_cons, List.flatten_cons, List.append_assoc]⟩
theorem all_zero {l : List UInt8} (h : l.all (· == 0) = true) : l = List.replicate l.length 0 := by
  rw [List.eq_replicate_iff]
  refine ⟨rfl, fun x hx => ?_⟩
  have := List.all_eq_true.1 h x hx
  simpa using this
theorem block_stop {p : List CkE} (h : ∀ x ∈ p, fitE x) (hp : p.length ≤ 9) : (∀ k, k < p.length → chkStop (blockV p) k = false) ∧ chkStop (blockV p) p.length = true := by
  refine ⟨fun k hk => ?_, ?_⟩
  · obtain ⟨R, hR⟩ := block_cut h hp k hk
    unfold chkStop
    rw [hR, Bool.eq_false_iff]
    intro e
    exact zeros_first (h _ (List.getElem_mem hk)) R _ (all_zero e)
  · unfold chkStop
    rw [block_drop h hp p.length (Nat.le_refl _), List.drop_of_length_le (Nat.le_refl _)]
    simp [bodyL]
theorem block_chkN {p : List CkE} (h : ∀ x ∈ p, fitE x) (hp : p.length ≤ 9) : chkN (blockV p) = p.length := by
  obtain ⟨h1, h2⟩ := block_stop h hp
  have h9 := chkN_le (blockV p)
  rcases Nat.lt_trichotomy (chkN (blockV p)) p.length with hlt | he | hgt
  · have a := chkN_end (b := blockV p) (by omega)
    rw [h1 _ hlt] at a; cases a
  · exact he
  · have a := chkN_run (b := blockV p) hgt
    rw [h2] at a; cases a
theorem ext_list (b : ByteArray) (i n : Nat) (h : i + n ≤ b.size) : (b.extract i (i + n)).data.toList = (b.data.toList.drop i).take n := by
  simp [ByteArray.data_extract]
theorem block_at {p : List CkE} (h : ∀ x ∈ p, fitE x) (hp : p.length ≤ 9) (k : Nat) (hk : k < p.length) : chkAt (blockV p) k = p[k] := by
  obtain ⟨R, hR⟩ := block_cut h hp k hk
  have hz := block_size h hp
  obtain ⟨x, hx⟩ : ∃ x, p[k] = x := ⟨_, rfl⟩
  have hf : fitE x := by rw [← hx]; exact h _ (List.getElem_mem hk)
  rw [hx] at hR ⊢
  generalize blockV p = b at hR hz
  obtain ⟨h0, h1, h2, h3, h4⟩ := hf
  have e6 : (256 : Int) ^ 6 = 281474976710656 := by decide
  have l42 : x.f3.data.toList.length = 42 := by rw [toList_length]; exact h4
  have d0 : b.data.toList.drop (55 * k) = lowBytes x.f0 6 ++ (lowBytes x.f1 6 ++ ([if x.f2 = true then 1 else 0] ++ (x.f3.data.toList ++ R))) := by
    rw [hR]; unfold oneL; simp only [List.append_assoc]
  have d6 : b.data.toList.drop (55 * k + 6) = lowBytes x.f1 6 ++ ([if x.f2 = true then 1 else 0] ++ (x.f3.data.toList ++ R)) := by
    rw [← List.drop_drop, d0, List.drop_left' (by rw [lowBytes_length])]
  have d12 : b.data.toList.drop (55 * k + 12) = [if x.f2 = true then 1 else 0] ++ (x.f3.data.toList ++ R) := by
    rw [show 55 * k + 12 = 55 * k + 6 + 6 by omega, ← List.drop_drop, d6, List.drop_left' (by rw [lowBytes_length])]
  have d13 : b.data.toList.drop (55 * k + 13) = x.f3.data.toList ++ R := by
    rw [show 55 * k + 13 = 55 * k + 12 + 1 by omega, ← List.drop_drop, d12]; rfl
  have a0 : valB b (55 * k) 6 = x.f0 := by
    have hr := valB_range b (55 * k) 6
    refine lowBytes_inj _ _ 6 hr.1 (by omega) hr.2 (by rw [e6]; exact h2) ?_
    rw [low_val b (55 * k) 6 (by omega), d0, List.take_left' (by rw [lowBytes_length])]
  have a1 : valB b (55 * k + 6) 6 = x.f1 := by
    have hr := valB_range b (55 * k + 6) 6
    refine lowBytes_inj _ _ 6 hr.1 h1 hr.2 (by rw [e6]; exact h3) ?_
    rw [low_val b (55 * k + 6) 6 (by omega), d6, List.take_left' (by rw [lowBytes_length])]
  have a2 : decide (0 < bt b ((55 * k + 12 : Nat) : Int)) = x.f2 := by
    have hl : 55 * k + 12 < b.data.toList.length := by rw [toList_length]; omega
    have hg : b.data.toList[55 * k + 12] = if x.f2 = true then 1 else 0 := by
      have := congrArg List.head? d12
      rw [List.drop_eq_getElem_cons hl] at this
      simpa using this
    rw [bt_getElem b (55 * k + 12) (by omega), hg]
    cases x.f2 <;> rfl
  have a3 : b.extract (55 * k + 13) (55 * k + 55) = x.f3 := by
    apply ByteArray.ext; apply Array.toList_inj.1
    rw [show 55 * k + 55 = 55 * k + 13 + 42 by omega, ext_list b _ 42 (by omega), d13, List.take_left' l42]
  unfold chkAt
  rw [a0, a1, a2, a3]
theorem block_chk {p : List CkE} (h : ∀ x ∈ p, fitE x) (hp : p.length ≤ 9) : chkL (blockV p) (chkN (blockV p)) = p := by
  rw [block_chkN h hp]
  unfold chkL
  apply List.ext_getElem
  · rw [List.length_map, List.length_range]
  · intro i h1 h2
    rw [List.getElem_map, List.getElem_range]
    exact block_at h hp i h2
theorem parts_join (l : List CkE) (h : ∀ x ∈ l, fitE x) : ∀ q, chkCat (encN l q) = l.take (9 * q)
  | 0 => by simp [encN, chkCat]
  | q + 1 => by
    have ih := parts_join l h q
    have e : chkCat (encN l q ++ [blockV (partL 9 l q)]) = chkCat (encN l q) ++ chkL (blockV (partL 9 l q)) (chkN (blockV (partL 9 l q))) := by unfold chkCat; rw [List.map_append, List.flatten_append]; simp
    rw [encN_succ, e, ih, block_chk (fun x hx => h x (part_mem hx)) (by rw [partL_len]; omega)]
    unfold partL
    by_cases hq : 9 * q ≤ l.length
    · have e2 : l.take (min (9 * q + 9) l.length) = l.take (9 * (q + 1)) := by
        by_cases h3 : 9 * q + 9 ≤ l.length
        · rw [Nat.min_eq_left h3]; rfl
        · rw [Nat.min_eq_right (by omega), List.take_of_length_le (Nat.le_refl _), List.take_of_length_le (by omega)]
      have e3 : l.take (9 * q) = (l.take (9 * (q + 1))).take (9 * q) := by rw [List.take_take, Nat.min_eq_left (by omega)]
      rw [e2, e3, List.take_append_drop]
    · rw [Nat.min_eq_right (by omega), List.take_of_length_le (by omega), List.take_of_length_le (Nat.le_refl _), List.drop_of_length_le (by omega), List.append_nil, List.take_of_length_le (by omega)]
theorem decode_encode {l : List CkE} (hr : rightB l = true) (hw : ∀ x ∈ l, 0 ≤ x.f1) : decodeV (encN l (partN 9 l)) = (l, 0) := by
  have hlen := rightB_len hr
  have hf := right_fit hr hw
  have hN : partN 9 l ≤ 12 := by unfold partN; omega
  have hc : chkCat (encN l (partN 9 l)) = l := by rw [parts_join l hf, List.take_of_length_le (by unfold partN; omega)]
  have he : encodeV l = (encN l (partN 9 l), 0) := by unfold encodeV; rw [if_pos hr]
  have hall : (encN l (partN 9 l)).all (fun b => decide (b.size = 508)) = true := by
    rw [List.all_eq_true]
    intro b hb
    unfold encN at hb
    obtain ⟨j, _, rfl⟩ := List.mem_map.1 hb
    exact decide_eq_true (block_size (fun x hx => hf x (part_mem hx)) (by rw [partL_len]; omega))
  unfold decodeV
  rw [hc, he, if_neg (by simp only [encN, List.length_map, List.length_range]; omega), if_pos hall, if_pos rfl, if_pos rfl]
end Go.Proofs.Ythgefgjaihagoaa.PC
