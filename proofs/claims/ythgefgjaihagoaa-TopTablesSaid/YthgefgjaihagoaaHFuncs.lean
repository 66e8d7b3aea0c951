/- slices.IndexFunc and slices.ContainsFunc at the seat's struct, for the functions that the seat hands to them. -/
import Derived.Test.YthgefgjaihagoaaQ0
import Derived.Test.YthgefgjaihagoaaQ3
import Derived.Test.YthgefgjaihagoaaQ7
import Derived.Shelf.Abstract
set_option linter.unusedVariables false
set_option linter.unusedSimpArgs false
namespace Go.Proofs.Ythgefgjaihagoaa.Q
open Go.RowKit Go.Proofs.YthgefgjaihagoaaW.PrintWords Go.Proofs.YthgefgjaihagoaaW.PrintLast

abbrev E := S106
def encE (x : E) : Value := .agg #[.int .u32 x.f0, .int .u64 x.f1, .int .u64 x.f2]
/-- What a function that is handed over tells of an element. -/
def pred (g : Nat) (x : E) : Option Bool := if g = 47 then dat_isFree.f x.f0 x.f1 x.f2 else if g = 80 then dat_Right_1.f x.f0 x.f1 x.f2 else none
theorem pred_calls (g : Nat) (x : E) (r : Bool) (W : World) (h : pred g x = some r) : Calls Try.prog g #[encE x] W fun e w' => e = .returned (.bool r) ∧ Below W.heap.size W w' := by
  unfold pred at h
  split at h
  · rename_i hg; subst hg; exact dat_isFree.calls _ _ _ r W h
  · split at h
    · rename_i hg; subst hg; exact dat_Right_1.calls _ _ _ r W h
    · cases h
theorem pred_fn (g : Nat) (x : E) (r : Bool) (h : pred g x = some r) : ∀ args w, (callFunc g args).run Try.prog w = .ok (.enter g args) w := by
  unfold pred at h
  split at h
  · rename_i hg; subst hg; exact enters_of Try.func47 rfl rfl
  · split at h
    · rename_i hg; subst hg; exact enters_of Try.func80 rfl rfl
    · cases h
def idx (g : Nat) : List E → Int → Option Int
  | [], _ => some (-1)
  | x :: xs, i => (pred g x).bind fun b => if b = true then some i else idx g xs (i + 1)

def api_Trans_101.f (l : List E) (g : Nat) : Option Int := idx g l 0
theorem api_Trans_101.calls (A0 : Option Addr) (c0 : Nat) (l0 : List E) (g : Nat) (r : Int) (w : World) (hr0 : Kd.C k106 w A0 l0.length l0) (hc0 : l0.length ≤ c0)
    (h : api_Trans_101.f l0 g = some r) :
    Calls Try.prog 101 #[.slice A0 l0.length c0, .func (.func g) #[] #[]] w fun e w' => e = .returned (.int .i64 r) ∧ Below w.heap.size w w' := by
  have hbig : l0.length ≤ 9223372036854775807 := Kd.C_max hr0
  have HR := Aside0.mk hr0
  have H0 : Aside0 (idx g l0 0 = some r) := ⟨h⟩
  clear hr0 h hc0
  go_enter Try.func101, Try.ntmps101
  go_wp2
  go_loopg [5, 8] l0.length (fun gg _ s8 wr => ∃ kk : Nat, kk ≤ l0.length ∧ l0.length - kk ≤ gg ∧ s8 = .int .i64 kk ∧ Aside0 (Below w.heap.size w wr) ∧ Aside0 (idx g (l0.drop kk) kk = some r))
  case atStart => exact ⟨0, Nat.zero_le _, by omega, rfl, ⟨Below.refl _ w⟩, by simpa using H0⟩
  case round =>
    clear H0
    obtain ⟨kk, hkk, hg, rfl, BW, A⟩ := hrel
    by_cases hlt : kk < l0.length
    · have hltz : (kk : Int) < (l0.length : Int) := by omega
      obtain ⟨ad, rfl, h0, h1, h2⟩ := at_T106 HR.out kk (by omega) hltz
      simp only [Int.toNat_natCast] at h0 h1 h2
      replace h0 := (BW.out.cell (World.block_lt_of_cell? w _ h0)).trans h0
      replace h1 := (BW.out.cell (World.block_lt_of_cell? w _ h1)).trans h1
      replace h2 := (BW.out.cell (World.block_lt_of_cell? w _ h2)).trans h2
      have e0 : rd_T106 l0 kk = l0[kk] := by simp [rd_T106, hlt]
      rw [e0] at h0 h1 h2
      have A1 := A.out
      rw [List.drop_eq_getElem_cons hlt, idx] at A1
      obtain ⟨b, hb, A2⟩ := Option.bind_eq_some_iff.1 A1
      generalize l0[kk] = x at hb h0 h1 h2
      have hen := pred_fn g x b hb
      have hca := pred_calls g x b wr hb
      have A3 := Aside0.mk A2
      clear A A1 A2 e0 hb
      unfold encE at hca
      cases b with
      | true =>
        go_wp2_with (go_at_fn g; refine hca.mono ?_; rintro e w' ⟨rfl, hb'⟩)
        go_ret
        have A4 := A3.out
        have A5 : (kk : Int) = r := by simpa using A4
        exact ⟨by rw [← A5]; rfl, below_step BW.out hb'⟩
      | false =>
        go_wp2_with (go_at_fn g; refine hca.mono ?_; rintro e w' ⟨rfl, hb'⟩)
        go_roundg (l0.length - (kk + 1))
        case measure => omega
        case rel =>
          have A4 := A3.out
          simp only [Bool.false_eq_true, if_false] at A4
          exact ⟨kk + 1, by omega, by omega, by go_num, ⟨below_step BW.out hb'⟩, ⟨A4⟩⟩
    · have hltz : ¬ (kk : Int) < (l0.length : Int) := by omega
      go_wp2
      go_ret
      have A1 := A.out
      rw [List.drop_of_length_le (by omega), idx] at A1
      exact ⟨by rw [← Option.some.inj A1]; rfl, BW.out⟩

def api_Trans_79.f (l : List E) (g : Nat) : Option Bool := (idx g l 0).bind fun i => some (decide (i ≥ 0))
theorem api_Trans_79.calls (A0 : Option Addr) (c0 : Nat) (l0 : List E) (g : Nat) (r : Bool) (w : World) (hr0 : Kd.C k106 w A0 l0.length l0) (hc0 : l0.length ≤ c0)
    (h : api_Trans_79.f l0 g = some r) :
    Calls Try.prog 79 #[.slice A0 l0.length c0, .func (.func g) #[] #[]] w fun e w' => e = .returned (.bool r) ∧ Below w.heap.size w w' := by
  obtain ⟨i, hi, hr⟩ := Option.bind_eq_some_iff.1 h
  obtain rfl := Option.some.inj hr
  have hca := fun W (hW : Kd.C k106 W A0 l0.length l0) => api_Trans_101.calls A0 c0 l0 g i W hW hc0 hi
  have HR := Aside0.mk hr0
  have HC := Aside0.mk hca
  clear hi h hr hr0 hca
  go_enter Try.func79, Try.ntmps79
  go_wp2_with (refine (HC.out _ HR.out).mono ?_; rintro e w' ⟨rfl, hb'⟩)
  go_ret
  exact ⟨rfl, hb'⟩
end Go.Proofs.Ythgefgjaihagoaa.Q
