/- The blocks of a table of checkpoints, in plain words. -/
import Derived.Test.YtllcmalgahnnhaaPCpsK
import Derived.Test.YtllcmalgahnnhaaHEncC
set_option linter.unusedVariables false
namespace Go.Proofs.Ytllcmalgahnnhaa.P
open Go.RowKit Go.Proofs.Ytllcmalgahnnhaa.H Go.Proofs.Ytllcmalgahnnhaa.Q Go.Proofs.YtllcmalgahnnhaaW.PrintWords Go.Proofs.YtllcmalgahnnhaaW.PrintLast Go.Proofs.YtllcmalgahnnhaaW.PrintMore

theorem pow256_posC (j : Nat) : (0 : Int) < 256 ^ j := Int.pow_pos (by omega)
theorem lowBytes_injC (n m : Int) (w : Nat) (hn : 0 ≤ n) (hm : 0 ≤ m) (h1 : n < 256 ^ w) (h2 : m < 256 ^ w) (h : lowBytes n w = lowBytes m w) : n = m := by
  induction w generalizing n m with
  | zero => simp at h1 h2; omega
  | succ w ih =>
    have hs : ∀ x : Int, lowBytes x (w + 1) = UInt8.ofNat (x % 256).toNat :: lowBytes (x / 256) w := by
      intro x
      simp only [lowBytes, List.range_succ_eq_map, List.map_cons, List.map_map, Int.pow_zero, Int.ediv_one, List.cons.injEq, true_and]
      apply List.map_congr_left
      intro j _
      have hp := pow256_posC j
      simp only [Function.comp_apply, Nat.succ_eq_add_one]
      rw [Int.pow_succ, Int.mul_comm, ← Int.ediv_ediv_of_nonneg (by omega)]
    rw [hs, hs] at h
    have h256 : (256 : Int) ^ (w + 1) = 256 * 256 ^ w := by rw [Int.pow_succ, Int.mul_comm]
    have e1 := (List.cons.inj h).1
    have e2 := ih (n / 256) (m / 256) (by omega) (by omega) (by omega) (by omega) (List.cons.inj h).2
    have e3 : (n % 256).toNat = (m % 256).toNat := by
      have := congrArg UInt8.toNat e1
      rw [UInt8.toNat_ofNat', UInt8.toNat_ofNat'] at this
      omega
    omega
/-- The bytes of a checkpoint. -/
def oneL (x : CkE) : List UInt8 := (lowBytes x.f0 6 ++ lowBytes x.f1 6 ++ [if x.f2 = true then 1 else 0]) ++ x.f3.data.toList
theorem put6 {n : Int} (h0 : 0 ≤ n) (h1 : n < 281474976710656) : num_Put.f n 6 = some (⟨(lowBytes n 6).toArray⟩, 0) := by
  unfold num_Put.f
  rw [if_pos ⟨h0, by omega⟩, if_pos ⟨by omega, by omega⟩, if_pos]
  · rfl
  · have e : (256 : Int) ^ (6 : Int).toNat = 281474976710656 := by decide
    rw [e]; omega
theorem oneL_len {x : CkE} (h : x.f3.size = 42) : (oneL x).length = 55 := by
  have : x.f3.data.toList.length = 42 := by rw [Array.length_toList]; exact h
  simp [oneL, lowBytes_length, this]
theorem oneV_right {x : CkE} (h0 : 0 < x.f0) (ht : 0 ≤ x.f1) (h : okE x) : cps_one.f x.f0 x.f1 x.f2 x.f3 = some (oneV x) ∧ (oneV x).data.toList = oneL x := by
  have hz1 : (⟨(lowBytes x.f0 6).toArray⟩ : ByteArray).size = 6 := by simp [ByteArray.size, lowBytes_length]
  have hz2 : (⟨(lowBytes x.f1 6).toArray⟩ : ByteArray).size = 6 := by simp [ByteArray.size, lowBytes_length]
  have e : cps_one.f x.f0 x.f1 x.f2 x.f3 = some ⟨(oneL x).toArray⟩ := by
    unfold cps_one.f oneL
    rw [put6 (by omega) h.1, Option.bind_some, put6 ht h.2.1, Option.bind_some]
    simp only
    have hr := h.2.2
    cases hb : x.f2 with
    | true =>
      rw [if_pos rfl, if_pos (by omega), if_pos (by rw [ByteArray.size_append]; omega), if_pos (by
        rw [ByteArray.size_append, ByteArray.size_append, hz1, hz2, hr]; decide)]
      congr 1
    | false =>
      rw [if_neg (by decide), if_pos (by omega), if_pos (by rw [ByteArray.size_append]; omega), if_pos (by
        rw [ByteArray.size_append, ByteArray.size_append, hz1, hz2, hr]; decide)]
      congr 1
  have e2 : oneV x = ⟨(oneL x).toArray⟩ := by unfold oneV; rw [e]; rfl
  rw [e2]; exact ⟨e, rfl⟩
theorem oneL_inj {x y : CkE} (hx0 : 0 ≤ x.f0) (hx1 : 0 ≤ x.f1) (hx : okE x) (hy0 : 0 ≤ y.f0) (hy1 : 0 ≤ y.f1) (hy : okE y) (h : oneL x = oneL y) : x = y := by
  have e : (256 : Int) ^ 6 = 281474976710656 := by decide
  unfold oneL at h
  obtain ⟨h1, h2⟩ := List.append_inj h (by simp [lowBytes_length])
  obtain ⟨h3, h4⟩ := List.append_inj h1 (by simp [lowBytes_length])
  obtain ⟨h5, h6⟩ := List.append_inj h3 (by simp [lowBytes_length])
  have a0 := lowBytes_injC _ _ 6 hx0 hy0 (by rw [e]; exact hx.1) (by rw [e]; exact hy.1) h5
  have a1 := lowBytes_injC _ _ 6 hx1 hy1 (by rw [e]; exact hx.2.1) (by rw [e]; exact hy.2.1) h6
  have a2 : x.f2 = y.f2 := by
    cases hx2 : x.f2 <;> cases hy2 : y.f2 <;> rw [hx2, hy2] at h4 <;> simp at h4 ⊢
  have a3 : x.f3 = y.f3 := by apply ByteArray.ext; exact Array.toList_inj.1 h2
  cases x; cases y; simp only at a0 a1 a2 a3; subst a0; subst a1; subst a2; subst a3; rfl
/-- What is asked of those of a right table. -/
def fitE (x : CkE) : Prop := 0 < x.f0 ∧ 0 ≤ x.f1 ∧ okE x
def bodyL (p : List CkE) : List UInt8 := (p.map oneL).flatten
theorem catV_right : ∀ (p : List CkE), (∀ x ∈ p, fitE x) → catV p = bodyL p
  | [], _ => rfl
  | x :: xs, h => by
    have ih := catV_right xs (fun y hy => h y (by simp [hy]))
    obtain ⟨h0, h1, h2⟩ := h x (by simp)
    unfold catV bodyL at ih ⊢
    simp only [List.map_cons, List.flatten_cons]
    rw [ih, (oneV_right h0 h1 h2).2]
theorem bodyL_len : ∀ (p : List CkE), (∀ x ∈ p, fitE x) → (bodyL p).length = 55 * p.length
  | [], _ => rfl
  | x :: xs, h => by
    have ih := bodyL_len xs (fun y hy => h y (by simp [hy]))
    have := oneL_len (h x (by simp)).2.2.2.2
    unfold bodyL at ih ⊢
    simp only [List.map_cons, List.flatten_cons, List.length_append, List.length_cons, ih, this]; omega
theorem fine_right {x : CkE} (h : fitE x) : fineE x = true := by
  obtain ⟨h0, h1, h2⟩ := h
  obtain ⟨e, e2⟩ := oneV_right h0 h1 h2
  have hz : (oneV x).size = 55 := by
    have := oneL_len h2.2.2
    rw [← e2, Array.length_toList] at this; exact this
  unfold fineE
  rw [e, hz]; rfl
theorem zeros_first {x : CkE} (h : fitE x) (r : List UInt8) (m : Nat) : oneL x ++ r ≠ List.replicate m 0 := by
  intro e
  have hl : lowBytes x.f0 6 = List.replicate 6 0 := by
    have := congrArg (List.take 6) e
    unfold oneL at this
    simp only [List.append_assoc] at this
    rw [List.take_append_of_le_length (by simp [lowBytes_length]), List.take_of_length_le (by simp [lowBytes_length]), List.take_replicate] at this
    have hm : 6 ≤ m := by
      have h2 := congrArg List.length e
      rw [List.length_append, oneL_len h.2.2.2.2, List.length_replicate] at h2; omega
    rw [Nat.min_eq_left hm] at this; exact this
  have h0 : lowBytes 0 6 = List.replicate 6 0 := by decide
  have e6 : (256 : Int) ^ 6 = 281474976710656 := by decide
  have := lowBytes_injC x.f0 0 6 (by have := h.1; omega) (by omega) (by rw [e6]; exact h.2.2.1) (by decide) (by rw [hl, h0])
  have := h.1; omega
/-- Unlike parts have unlike blocks. -/
theorem body_inj : ∀ (p q : List CkE) (m n : Nat), (∀ x ∈ p, fitE x) → (∀ x ∈ q, fitE x) → bodyL p ++ List.replicate m 0 = bodyL q ++ List.replicate n 0 → p = q
  | [], [], _, _, _, _, _ => rfl
  | [], y :: ys, m, n, _, hq, h => by
    unfold bodyL at h
    simp only [List.map_nil, List.flatten_nil, List.nil_append, List.map_cons, List.flatten_cons, List.append_assoc] at h
    exact absurd h.symm (zeros_first (hq y (by simp)) _ _)
  | x :: xs, [], m, n, hp, _, h => by
    unfold bodyL at h
    simp only [List.map_nil, List.flatten_nil, List.nil_append, List.map_cons, List.flatten_cons, List.append_assoc] at h
    exact absurd h (zeros_first (hp x (by simp)) _ _)
  | x :: xs, y :: ys, m, n, hp, hq, h => by
    unfold bodyL at h
    simp only [List.map_cons, List.flatten_cons, List.append_assoc] at h
    obtain ⟨hx0, hx1, hx2⟩ := hp x (by simp)
    obtain ⟨hy0, hy1, hy2⟩ := hq y (by simp)
    obtain ⟨h1, h2⟩ := List.append_inj h (by rw [oneL_len hx2.2.2, oneL_len hy2.2.2])
    have e := oneL_inj (by omega) hx1 hx2 (by omega) hy1 hy2 h1
    have e2 := body_inj xs ys m n (fun z hz => hp z (by simp [hz])) (fun z hz => hq z (by simp [hz])) h2
    rw [e, e2]
theorem blockV_bytes {p : List CkE} (h : ∀ x ∈ p, fitE x) (hp : p.length ≤ 9) : (blockV p).data.toList = bodyL p ++ List.replicate (508 - 55 * p.length) 0 := by
  have hz : (⟨(bodyL p).toArray⟩ : ByteArray).size = 55 * p.length := by rw [← bodyL_len p h]; simp [ByteArray.size]
  unfold blockV
  rw [catV_right p h]
  unfold num_Fit.f
  rw [if_neg (by omega), if_neg (by omega), if_neg (by omega), hz]
  show (_ ++ zerosB _ : ByteArray).data.toList = _
  rw [ByteArray.data_append]
  simp only [zerosB, Array.toList_append]
  rw [show ((508 : Int) - ((55 * p.length : Nat) : Int)).toNat = 508 - 55 * p.length by omega]
theorem part_get (l : List CkE) (i : Nat) : (partL 9 l (i / 9))[i % 9]? = l[i]? := by
  unfold partL
  rw [List.getElem?_drop, List.getElem?_take, show 9 * (i / 9) + i % 9 = i by omega]
  by_cases h : i < l.length
  · rw [if_pos (by omega)]
  · rw [if_neg (by omega), List.getElem?_eq_none (by omega)]
theorem part_mem {l : List CkE} {k : Nat} {x : CkE} (h : x ∈ partL 9 l k) : x ∈ l := List.mem_of_mem_take (List.mem_of_mem_drop h)
/-- Unlike tables have unlike blocks. -/
theorem enc_inj {l l' : List CkE} (h : ∀ x ∈ l, fitE x) (h' : ∀ x ∈ l', fitE x) (e : encN l (partN 9 l) = encN l' (partN 9 l')) : l = l' := by
  have hN : partN 9 l = partN 9 l' := by
    have := congrArg List.length e
    simpa [encN] using this
  have hk : ∀ k, k < partN 9 l → partL 9 l k = partL 9 l' k := fun k hk => by
    have h1 : blockV (partL 9 l k) = blockV (partL 9 l' k) := by
      have h2 := congrArg (fun z => z[k]?) e
      unfold encN at h2
      simp only [List.getElem?_map] at h2
      rw [List.getElem?_range hk, List.getElem?_range (by omega)] at h2
      simpa using h2
    have e1 := blockV_bytes (p := partL 9 l k) (fun x hx => h x (part_mem hx)) (by rw [partL_len]; omega)
    have e2 := blockV_bytes (p := partL 9 l' k) (fun x hx => h' x (part_mem hx)) (by rw [partL_len]; omega)
    rw [h1, e2] at e1
    exact (body_inj _ _ _ _ (fun x hx => h' x (part_mem hx)) (fun x hx => h x (part_mem hx)) e1).symm
  apply List.ext_getElem?
  intro i
  rw [← part_get l i, ← part_get l' i]
  by_cases hi : i / 9 < partN 9 l
  · rw [hk _ hi]
  · have a1 : ¬ 9 * (i / 9) < l.length := fun c => hi ((partN_lt (by omega) l _).2 c)
    have a2 : ¬ 9 * (i / 9) < l'.length := fun c => hi (by rw [hN]; exact (partN_lt (by omega) l' _).2 c)
    rw [List.getElem?_eq_none (by rw [partL_len]; omega), List.getElem?_eq_none (by rw [partL_len]; omega)]
theorem rightFrom_ok : ∀ {l : List CkE} {a : Int}, rightFrom a l = true → ∀ x ∈ l, okE x
  | [], _, _, x, hx => by simp at hx
  | y :: ys, a, h, x, hx => by
    obtain ⟨_, h2, h3⟩ := rightFrom_cons.1 h
    rcases List.mem_cons.1 hx with e | e
    · rw [e]; exact h2
    · exact rightFrom_ok h3 x e
theorem right_fit {l : List CkE} (hr : rightB l = true) (hw : ∀ x ∈ l, 0 ≤ x.f1) : ∀ x ∈ l, fitE x := fun x hx => by
  obtain ⟨_, h⟩ := rightB_iff.1 hr
  exact ⟨rightFrom_mem h x hx, hw x hx, rightFrom_ok h x hx⟩
def encodeV (l : List CkE) : List ByteArray × Int := if rightB l = true then (encN l (partN 9 l), 0) else ([], 90)
theorem encode_f (l : List CkE) (hl : l.length ≤ 1000) (hw : ∀ x ∈ l, 0 ≤ x.f1) : cps_Encode.f l = some (encodeV l) := by
  unfold cps_Encode.f encodeV
  rw [right_f l (l.length + 1) (by omega) (by omega), Option.bind_some]
  by_cases hr : rightB l = true
  · rw [if_pos hr, if_pos hr, if_pos (by omega), if_pos (List.all_eq_true.2 fun x hx => fine_right (right_fit hr hw x hx))]
  · rw [if_neg hr, if_neg hr]
end Go.Proofs.Ytllcmalgahnnhaa.P
