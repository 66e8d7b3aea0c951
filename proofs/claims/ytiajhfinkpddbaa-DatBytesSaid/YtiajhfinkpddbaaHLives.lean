/- dat.Lives, and what it hands its closure to: slices.ContainsFunc at whole numbers. -/
import Derived.Test.YtiajhfinkpddbaaQ0
import Derived.Test.YtiajhfinkpddbaaQ2
import Derived.Shelf.Abstract
import Derived.Laws.EntriesVeiled
set_option linter.unusedVariables false
set_option linter.unusedSimpArgs false
namespace Go.Proofs.Ytiajhfinkpddbaa.Q
open Go.RowKit Go.Proofs.Ytiajhfinkpddbaa.H Go.Proofs.YtiajhfinkpddbaaW.PrintWords Go.Proofs.YtiajhfinkpddbaaW.PrintLast Go.Proofs.YtiajhfinkpddbaaW.PrintMore
set_option maxRecDepth 100000

def idxP (p : Int → Bool) : List Int → Int → Int
  | [], _ => -1
  | x :: xs, i => if p x = true then i else idxP p xs (i + 1)
theorem idxP_any (p : Int → Bool) : ∀ (l : List Int) (i : Int), 0 ≤ i → decide (idxP p l i ≥ 0) = l.any p
  | [], _, _ => rfl
  | x :: xs, i, h => by
    rw [idxP, List.any_cons]
    cases hp : p x with
    | true => rw [if_pos rfl, decide_eq_true h]; rfl
    | false => rw [if_neg (by decide), idxP_any p xs (i + 1) (by omega)]; rfl
theorem cell_alloc' {w : World} {p : Addr} {v : Value} (h : w.cell? p = some v) (o : Obj) : (w.alloc o).cell? p = some v := (Below.cell (below_alloc (Below.refl _ w) o) (World.block_lt_of_cell? w _ h)).trans h

set_option maxHeartbeats 1000000 in
theorem idxU_calls (g : Nat) (caps : Array Value) (p : Int → Bool) (A : Option Addr) (c : Nat) (l : List Int) (w : World) (hC : Kd.C (Kd.int .u64) w A l.length l)
    (hen : ∀ args w, (callFunc g args).run Try.prog w = .ok (.enter g args) w)
    (hcall : ∀ (x : Int) (W : World), Below w.heap.size w W → Calls Try.prog g (#[.int .u64 x] ++ caps) W fun e w' => e = .returned (.bool (p x)) ∧ Below W.heap.size W w') :
    Calls Try.prog 53 #[.slice A l.length c, .func (.func g) #[] caps] w fun e w' => e = .returned (.int .i64 (idxP p l 0)) ∧ Below w.heap.size w w' := by
  have hmax := Kd.C_max hC
  have HR := Aside0.mk hC
  have HCALL := Aside0.mk hcall
  clear hC hcall
  go_enter Try.func53, Try.ntmps53
  go_wp2
  go_loopg [5, 8] l.length (fun gg _ s8 wr => ∃ kk : Nat, kk ≤ l.length ∧ l.length - kk ≤ gg ∧ s8 = .int .i64 kk ∧ Aside0 (Below w.heap.size w wr) ∧ Aside0 (idxP p (l.drop kk) kk = idxP p l 0))
  case atStart => exact ⟨0, Nat.zero_le _, by omega, rfl, ⟨Below.refl _ w⟩, ⟨rfl⟩⟩
  case round =>
    obtain ⟨kk, hkk, hg, rfl, HB, HL⟩ := hrel
    by_cases hlt : kk < l.length
    · have hltz : (kk : Int) < (l.length : Int) := by omega
      obtain ⟨ad, rfl, h0⟩ := Kd.at_int HR.out kk (by omega) hltz
      simp only [Int.toNat_natCast] at h0
      replace h0 := (HB.out.cell (World.block_lt_of_cell? w _ h0)).trans h0
      have e0 : rd l kk = l[kk] := by simp [rd, hlt]
      rw [e0] at h0
      have HL1 := HL.out
      rw [List.drop_eq_getElem_cons hlt, idxP] at HL1
      have hca := fun W hW => HCALL.out l[kk] W hW
      generalize l[kk] = x at HL1 h0 hca
      clear e0 HL
      cases hp : p x with
      | true =>
        rw [hp] at hca
        rw [if_pos hp] at HL1
        have HL := Aside0.mk HL1
        have HCA := Aside0.mk hca
        clear HL1 hca hp
        go_wp2_with (go_at_fn g; refine (HCA.out _ ?hB).mono ?_; (case hB => exact HB.out); rintro e w1 ⟨rfl, hb⟩)
        go_ret
        exact ⟨by rw [← HL.out]; rfl, below_step HB.out hb⟩
      | false =>
        rw [hp] at hca
        rw [if_neg (by rw [hp]; decide)] at HL1
        have HL := Aside0.mk HL1
        have HCA := Aside0.mk hca
        clear HL1 hca hp
        go_wp2_with (go_at_fn g; refine (HCA.out _ ?hB).mono ?_; (case hB => exact HB.out); rintro e w1 ⟨rfl, hb⟩)
        go_roundg (l.length - (kk + 1))
        case measure => omega
        case rel => exact ⟨kk + 1, by omega, by omega, by go_num, ⟨below_step HB.out hb⟩, ⟨HL.out⟩⟩
    · have hltz : ¬ (kk : Int) < (l.length : Int) := by omega
      go_wp2
      go_ret
      have HL1 := HL.out
      rw [List.drop_of_length_le (by omega), idxP] at HL1
      exact ⟨by rw [← HL1]; rfl, HB.out⟩
theorem containsU_calls (g : Nat) (caps : Array Value) (p : Int → Bool) (A : Option Addr) (c : Nat) (l : List Int) (w : World) (hC : Kd.C (Kd.int .u64) w A l.length l)
    (hen : ∀ args w, (callFunc g args).run Try.prog w = .ok (.enter g args) w)
    (hcall : ∀ (x : Int) (W : World), Below w.heap.size w W → Calls Try.prog g (#[.int .u64 x] ++ caps) W fun e w' => e = .returned (.bool (p x)) ∧ Below W.heap.size W w') :
    Calls Try.prog 35 #[.slice A l.length c, .func (.func g) #[] caps] w fun e w' => e = .returned (.bool (l.any p)) ∧ Below w.heap.size w w' := by
  have hca := idxU_calls g caps p A c l w hC hen hcall
  have e := idxP_any p l 0 (by omega)
  generalize idxP p l 0 = r at e hca
  have HE := Aside0.mk e
  have HC := Aside0.mk hca
  clear e hcall hC hca
  go_enter Try.func35, Try.ntmps35
  go_wp2_with (refine HC.out.mono ?_; rintro e w' ⟨rfl, hb'⟩)
  go_ret
  exact ⟨by rw [← HE.out]; rfl, hb'⟩

def withinB (s e x : Int) : Bool := decide (s ≤ x) && decide (x < e)
theorem within_calls (t0 t1 t2 x : Int) (B : Nat) (w : World) (h1 : w.cell? ⟨B, 1, none⟩ = some (.int .u64 t1)) (h2 : w.cell? ⟨B, 2, none⟩ = some (.int .u64 t2)) :
    Calls Try.prog 34 #[.int .u64 x, .pointer (some ⟨B, 0, none⟩)] w fun e w' => e = .returned (.bool (withinB t1 t2 x)) ∧ Below w.heap.size w w' := by
  unfold withinB
  cases hb : decide (t1 ≤ x) with
  | false =>
    go_enter Try.func34, Try.ntmps34
    go_wp2
    go_ret
    exact ⟨rfl, Below.refl _ _⟩
  | true =>
    go_enter Try.func34, Try.ntmps34
    go_wp2
    go_ret
    exact ⟨rfl, Below.refl _ _⟩

def freeB (t0 t1 t2 : Int) : Bool := t0 == 0 && (t1 == 0 && t2 == 0)
theorem free_f (t0 t1 t2 : Int) : dat_isFree.f t0 t1 t2 = some (freeB t0 t1 t2) := rfl
/-- dat.Lives -/
def livesB (t0 t1 t2 : Int) (l : List Int) : Bool := !freeB t0 t1 t2 && ((t2 == 0) || l.any (withinB t1 t2))
def dat_Lives.f (t0 t1 t2 : Int) (l : List Int) : Option Bool := some (livesB t0 t1 t2 l)
set_option maxHeartbeats 1000000 in
theorem dat_Lives.calls (a0_0 a0_1 a0_2 : Int) (A1 : Option Addr) (c1 : Nat) (l1 : List Int) (r : Bool) (w : World) (hr1 : Kd.C (Kd.int .u64) w A1 l1.length l1) (hc1 : l1.length ≤ c1) (h : dat_Lives.f a0_0 a0_1 a0_2 l1 = some r) :
    Calls Try.prog 12 #[.agg #[.int .u32 a0_0, .int .u64 a0_1, .int .u64 a0_2], .slice A1 l1.length c1] w fun e w' => e = .returned (.bool r) ∧ Below w.heap.size w w' := by
  obtain rfl := Option.some.inj h
  clear h
  have HR := Aside0.mk hr1
  clear hr1
  have hfr := free_f a0_0 a0_1 a0_2
  unfold livesB
  cases hf : freeB a0_0 a0_1 a0_2 with
  | true =>
    rw [hf] at hfr
    have HF := Aside0.mk hfr
    clear hf hfr
    go_enter Try.func12, Try.ntmps12
    go_wp2_with (go_at_call 31; refine (dat_isFree.calls _ _ _ true _ HF.out).mono ?_; rintro e w1 ⟨rfl, hb⟩; have HB := Aside0.mk (below_step (below_alloc (Below.refl _ w) _) hb))
    go_ret
    exact ⟨rfl, HB.out⟩
  | false =>
    rw [hf] at hfr
    have HF := Aside0.mk hfr
    clear hf hfr
    cases he : a0_2 == 0 with
    | true =>
      go_enter Try.func12, Try.ntmps12
      go_wp2_with (go_at_call 31; refine (dat_isFree.calls _ _ _ false _ HF.out).mono ?_; rintro e w1 ⟨rfl, hb⟩; have HB := Aside0.mk (below_step (below_alloc (Below.refl _ w) _) hb); have hsz := hb.size; simp only [World.size_alloc] at hsz; have g2 : w1.cell? ⟨w.heap.size, 2, none⟩ = some (.int .u64 a0_2) := (by rw [hb.cell (p := ⟨w.heap.size, 2, none⟩) (by simp)]; go_simp))
      go_ret
      exact ⟨rfl, HB.out⟩
    | false =>
      have HEN := Aside0.mk (enters_of Try.func34 rfl rfl)
      go_enter Try.func12, Try.ntmps12
      go_wp2_with (first | (go_at_call 31; refine (dat_isFree.calls _ _ _ false _ HF.out).mono ?_; rintro e w1 ⟨rfl, hb⟩; have HB := Aside0.mk (below_step (below_alloc (Below.refl _ w) _) hb); have hsz := hb.size; simp only [World.size_alloc] at hsz; have g1 : w1.cell? ⟨w.heap.size, 1, none⟩ = some (.int .u64 a0_1) := (by rw [hb.cell (p := ⟨w.heap.size, 1, none⟩) (by simp)]; go_simp); have g2 : w1.cell? ⟨w.heap.size, 2, none⟩ = some (.int .u64 a0_2) := (by rw [hb.cell (p := ⟨w.heap.size, 2, none⟩) (by simp)]; go_simp)) | (go_at_call 35; refine (containsU_calls 34 #[.pointer (some ⟨w.heap.size, 0, none⟩)] (withinB a0_1 a0_2) _ _ l1 _ ?s1 HEN.out ?s2).mono ?_; (case s1 => exact Kd.C_below HR.out HB.out); (case s2 => intro x W hW; exact within_calls a0_0 _ _ _ _ _ ((hW.cell (World.block_lt_of_cell? w1 _ g1)).trans g1) ((hW.cell (World.block_lt_of_cell? w1 _ g2)).trans g2)); rintro e w2 ⟨rfl, hb2⟩; have HB2 := Aside0.mk (below_step HB.out hb2)))
      go_ret
      exact ⟨rfl, HB2.out⟩
end Go.Proofs.Ytiajhfinkpddbaa.Q
