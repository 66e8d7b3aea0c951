/- record.Right answers at every record; record.Encode as one contract. -/
import Derived.Test.YthgefgjaihagoaaHRecE
set_option linter.unusedVariables false
set_option linter.unusedSimpArgs false
namespace Go.Proofs.Ythgefgjaihagoaa.Q
open Go.RowKit Go.Proofs.Ythgefgjaihagoaa.H Go.Proofs.YthgefgjaihagoaaW.PrintWords Go.Proofs.YthgefgjaihagoaaW.PrintLast
set_option maxRecDepth 100000
theorem isE_total (k : Nat) (a b c d : Int) : ∃ r, record_isEntry.f (k + 1) a b c d = some r := by
  simp only [record_isEntry.f, record_isEntry.j0]
  repeat (first | exact ⟨_, rfl⟩ | split)
theorem rl0_total (l : List SEn) (hl : l.length ≤ 15) (x3 : Int) (a0 a1 : Int) (a2 a3 : Bool) (a4 : Int) : ∀ (d j K : Nat), j + d = l.length → d + 2 ≤ K → ∃ b, record_Right.l0 K x3 l (l.length : Int) (j : Int) a0 a1 a2 a3 a4 l = some b
  | 0, j, K + 1, hj, _ => ⟨true, by rw [record_Right.l0, if_neg (by omega)]⟩
  | d + 1, j, K + 2, hj, hK => by
    obtain ⟨b, hb⟩ := rl0_total l hl x3 a0 a1 a2 a3 a4 d (j + 1) (K + 1) (by omega) (by omega)
    obtain ⟨t, ht⟩ := isE_total K (rd_T43 l (j : Int)).f0 (rd_T43 l (j : Int)).f1 (rd_T43 l (j : Int)).f2 (rd_T43 l (j : Int)).f3
    have e : wrap64 ((j : Int) + 1) = ((j + 1 : Nat) : Int) := by
      unfold wrap64; omega
    rw [record_Right.l0, if_pos (by omega), if_pos (by omega), if_pos (by omega), ht, Option.bind_some, e]
    repeat (first | exact ⟨b, hb⟩ | exact ⟨_, rfl⟩ | split)
theorem rj0_total (l : List SEn) (b : Bool) (hl : b = false → l.length ≤ 15) (a0 a1 : Int) (a2 a3 : Bool) (a4 : Int) : ∃ r, record_Right.j0 20 b a0 a1 a2 a3 a4 l = some r := by
  rw [record_Right.j0]
  split
  · exact ⟨_, rfl⟩
  · have hl' := hl (by simpa using ‹¬b = true›)
    exact rl0_total l hl' _ a0 a1 a2 a3 a4 l.length 0 19 (by omega) (by omega)
theorem right_total (a0 a1 : Int) (a2 a3 : Bool) (a4 : Int) (l : List SEn) : ∃ b, record_Right.f 20 a0 a1 a2 a3 a4 l = some b := by
  have t : ∃ r, record_Right.j0 20 true a0 a1 a2 a3 a4 l = some r := rj0_total l true (by simp) a0 a1 a2 a3 a4
  simp only [record_Right.f, record_isNumber.f]
  by_cases h15 : l.length ≤ 15
  · have f : ∀ b, ∃ r, record_Right.j0 20 b a0 a1 a2 a3 a4 l = some r := fun b => rj0_total l b (fun _ => h15) a0 a1 a2 a3 a4
    repeat (first | exact f _ | (simp only [Option.bind_some]) | split)
  · have h : (l.length : Int) > 15 := by omega
    simp only [h, if_true]
    repeat (first | exact t | (simp only [Option.bind_some]) | split)
/-- record.Encode, whatever the record is. -/
theorem recE.calls (a0 a1 : Int) (a2 a3 : Bool) (a4 : Int) (A : Option Addr) (c : Nat) (l : List SEn) (w : World) (hC : Kd.C k43 w A l.length l) (hc : l.length ≤ c) (h0 : 0 ≤ a0 ∧ a0 < 18446744073709551616) (h1 : 0 ≤ a1 ∧ a1 < 18446744073709551616) :
    Calls Try.prog 36 #[.agg #[.int .u64 a0, .int .u64 a1, .bool a2, .bool a3, .int .i64 a4, .slice A l.length c]] w (EncPost w) := by
  obtain ⟨b, hb⟩ := right_total a0 a1 a2 a3 a4 l
  cases b with
  | false => exact recE_no 20 a0 a1 a2 a3 a4 A c l w hC hc hb
  | true => exact recE_yes 20 a0 a1 a2 a3 a4 A c l w hC hc h0 h1 hb
end Go.Proofs.Ythgefgjaihagoaa.Q
