/- nautilusref10.mapped: may a map be, of a size? -/
import Derived.Test.YtpcokafalmafgaaQ6
import Derived.Test.YtpcokafalmafgaaHArr
import Derived.Test.YtpcokafalmafgaaHRF
import Derived.Lib.Hide
set_option linter.unusedVariables false
set_option linter.unusedSimpArgs false
namespace Go.Proofs.Ytpcokafalmafgaa.Q
open Go.RowKit Go.Proofs.Ytpcokafalmafgaa.H Go.Proofs.YtpcokafalmafgaaW.PrintWords Go.Proofs.YtpcokafalmafgaaW.PrintLast Go.Proofs.YtpcokafalmafgaaW.PrintMore
set_option maxRecDepth 100000

/-- Are all of them 0, from the i-th one on? -/
def zeroF (l : List Int) (i : Nat) : Bool := (l.drop i).all (· == 0)
theorem zeroF_step (l : List Int) (i : Nat) (h : i < l.length) : zeroF l i = ((l.getD i 0 == 0) && zeroF l (i + 1)) := by
 unfold zeroF
 rw [List.drop_eq_getElem_cons h, List.all_cons]; simp [h]
theorem zeroF_end (l : List Int) (i : Nat) (h : l.length ≤ i) : zeroF l i = true := by
 unfold zeroF
 rw [List.drop_of_length_le h]; rfl
def nautilusref10_mapped.f (m0 m1 m2 m3 m4 m5 sz : Int) : Option Bool :=
 (nautilusref10_Blocks.f sz).bind fun n => (nautilusref10_Depth.f sz).bind fun d =>
  if d > 0 then (if m0 = 0 then some false else some (zeroF [m0, m1, m2, m3, m4, m5] 1)) else (if 0 ≤ n ∧ n < 9223372036854775000 then some (zeroF [m0, m1, m2, m3, m4, m5] n.toNat) else none)
theorem six_cell {W : World} {H : Nat} {t : TypeId} {m0 m1 m2 m3 m4 m5 : Int} (h : W.heap[H]? = some (.cells #[.int .u32 m0, .int .u32 m1, .int .u32 m2, .int .u32 m3, .int .u32 m4, .int .u32 m5] t (0, 0))) (i : Nat) (hi : i < 6) :
  W.cell? ⟨H, i, none⟩ = some (.int .u32 ([m0, m1, m2, m3, m4, m5].getD i 0)) := by
 rw [Lib.cell_of_heap h]
 match i, hi with
 | 0, _ => rfl
 | 1, _ => rfl
 | 2, _ => rfl
 | 3, _ => rfl
 | 4, _ => rfl
 | 5, _ => rfl
theorem w1 (i : Nat) (h : i ≤ 9223372036854775806) : wrap64 ((i : Int) + 1) = ((i + 1 : Nat) : Int) := by rw [IntWalk.wrap64_in _ (by omega)]; omega

set_option maxHeartbeats 8000000 in
theorem nautilusref10_mapped.calls (m0 m1 m2 m3 m4 m5 sz : Int) (r : Bool) (w : World) (h : nautilusref10_mapped.f m0 m1 m2 m3 m4 m5 sz = some r) :
  Calls Try.prog 51 #[.agg #[.int .u32 m0, .int .u32 m1, .int .u32 m2, .int .u32 m3, .int .u32 m4, .int .u32 m5], .int .u32 sz] w fun e w' => e = .returned (.bool r) ∧ Below w.heap.size w w' := by
 unfold nautilusref10_mapped.f at h
 obtain ⟨n, hn, h⟩ := Option.bind_eq_some_iff.mp h
 obtain ⟨d, hd, h⟩ := Option.bind_eq_some_iff.mp h
 have HN := Aside0.mk hn
 have HD := Aside0.mk hd
 have HH := Aside0.mk h
 clear hn hd h
 go_enter Try.func51, Try.ntmps51
 go_wp2_with (first | (go_at_call 41; refine (nautilusref10_Blocks.calls sz n _ HN.out).mono ?_; rintro e w1 ⟨rfl, hb1⟩) | fail)
 refine (nautilusref10_Depth.calls sz d _ HD.out).mono ?_
 rintro e w2 ⟨rfl, hb2⟩
 obtain ⟨H, hH⟩ : ∃ H, w.heap.size = H := ⟨_, rfl⟩
 have hx : w2.heap[H]? = some (.cells #[.int .u32 m0, .int .u32 m1, .int .u32 m2, .int .u32 m3, .int .u32 m4, .int .u32 m5] 40 (0, 0)) := by
  obtain ⟨n2, rfl⟩ := hb2.out
  obtain ⟨n1, rfl⟩ := hb1.out
  have := World.alloc_heap_new w (.cells #[.int .u32 m0, .int .u32 m1, .int .u32 m2, .int .u32 m3, .int .u32 m4, .int .u32 m5] 40)
  rw [hH] at this; exact this
 have hB : Below H w w2 := by
  have h0 := (Below.refl H w).alloc (by omega) (.cells #[.int .u32 m0, .int .u32 m1, .int .u32 m2, .int .u32 m3, .int .u32 m4, .int .u32 m5] 40)
  obtain ⟨n2, rfl⟩ := hb2.out
  obtain ⟨n1, rfl⟩ := hb1.out
  exact pw_below_drewN (pw_below_drewN h0 n1) n2
 have hz : w2.cell? ⟨H, 0, none⟩ = some (.int .u32 m0) := six_cell hx 0 (by omega)
 rw [hH]
 clear hb1 hb2
 have hh := HH.out
 by_cases hd0 : d > 0
 ·have hd1 : decide (0 < d) = true := decide_eq_true hd0
  rw [if_pos hd0] at hh
  by_cases hm : m0 = 0
  ·rw [if_pos hm] at hh
   cases hh
   have hm1 : (m0 == 0) = true := by simp [hm]
   clear hm
   go_wp2_with fail
   go_ret
   exact ⟨rfl, by rw [hH]; exact hB⟩
  ·rw [if_neg hm] at hh
   have hr := Option.some.inj hh
   have hm1 : (m0 == 0) = false := by simp [hm]
   have HR := Aside0.mk hr
   clear hm hh hr
   go_wp2_with fail
   go_loopg [6] 7 (fun gg v6 w' => ∃ i : Nat, v6 = .int .i64 i ∧ 6 - i ≤ gg ∧ Aside0 (i < 9223372036854775000) ∧ Aside0 (zeroF [m0, m1, m2, m3, m4, m5] i = r) ∧ Aside0 (w'.heap[H]? = some (.cells #[.int .u32 m0, .int .u32 m1, .int .u32 m2, .int .u32 m3, .int .u32 m4, .int .u32 m5] 40 (0, 0))) ∧ Aside0 (Below H w w'))
   case atStart => exact ⟨1, rfl, by omega, ⟨by omega⟩, HR, ⟨hx⟩, ⟨hB⟩⟩
   case round =>
    obtain ⟨i, rfl, hg, HI, HZ, HX, HB⟩ := hrel
    by_cases hlt : i < 6
    ·have hc := six_cell HX.out i hlt
     have hltz : decide ((i : Int) < 6) = true := decide_eq_true (by omega)
     have hi0 : (0 : Int) ≤ (i : Int) := by omega
     have hi6 : (i : Int) < 6 := by omega
     have hst := zeroF_step [m0, m1, m2, m3, m4, m5] i hlt
     rw [HZ.out] at hst
     obtain ⟨u, hu⟩ : ∃ u, [m0, m1, m2, m3, m4, m5].getD i 0 = u := ⟨_, rfl⟩
     rw [hu] at hc hst
     by_cases hu0 : u = 0
     ·have hne : (u != 0) = false := by simp [hu0]
      rw [hu0] at hst
      have HS := Aside0.mk hst
      clear hst hu hu0 hz hx HZ
      go_wp2_with fail
      go_roundg (6 - (i + 1))
      case measure => omega
      case rel => exact ⟨i + 1, rfl, by omega, ⟨by omega⟩, ⟨by have := HS.out; simpa using this.symm⟩, HX, HB⟩
     ·have hne : (u != 0) = true := by simp [hu0]
      have hf : r = false := by rw [hst]; simp [hu0]
      subst hf
      clear hst hu hu0 hz hx HZ
      go_wp2_with fail
      go_ret
      exact ⟨rfl, by rw [hH]; exact HB.out⟩
    ·have hltz : decide ((i : Int) < 6) = false := decide_eq_false (by omega)
     have hst := zeroF_end [m0, m1, m2, m3, m4, m5] i (by show 6 ≤ i; omega)
     rw [HZ.out] at hst
     subst hst
     clear hz hx
     go_wp2_with fail
     go_ret
     exact ⟨rfl, by rw [hH]; exact HB.out⟩
 ·have hd1 : decide (0 < d) = false := decide_eq_false hd0
  rw [if_neg hd0] at hh
  by_cases hn0 : 0 ≤ n ∧ n < 9223372036854775000
  ·rw [if_pos hn0] at hh
   obtain ⟨q, rfl⟩ := Int.eq_ofNat_of_zero_le hn0.1
   have hr := Option.some.inj hh
   have hq : q < 9223372036854775000 := by omega
   rw [Int.toNat_natCast] at hr
   have HR := Aside0.mk hr
   clear hh hr hn0
   go_wp2_with fail
   go_loopg [6] 7 (fun gg v6 w' => ∃ i : Nat, v6 = .int .i64 i ∧ 6 - i ≤ gg ∧ Aside0 (i < 9223372036854775000) ∧ Aside0 (zeroF [m0, m1, m2, m3, m4, m5] i = r) ∧ Aside0 (w'.heap[H]? = some (.cells #[.int .u32 m0, .int .u32 m1, .int .u32 m2, .int .u32 m3, .int .u32 m4, .int .u32 m5] 40 (0, 0))) ∧ Aside0 (Below H w w'))
   case atStart => exact ⟨q, rfl, by omega, ⟨by omega⟩, HR, ⟨hx⟩, ⟨hB⟩⟩
   case round =>
    obtain ⟨i, rfl, hg, HI, HZ, HX, HB⟩ := hrel
    by_cases hlt : i < 6
    ·have hc := six_cell HX.out i hlt
     have hltz : decide ((i : Int) < 6) = true := decide_eq_true (by omega)
     have hi0 : (0 : Int) ≤ (i : Int) := by omega
     have hi6 : (i : Int) < 6 := by omega
     have hst := zeroF_step [m0, m1, m2, m3, m4, m5] i hlt
     rw [HZ.out] at hst
     obtain ⟨u, hu⟩ : ∃ u, [m0, m1, m2, m3, m4, m5].getD i 0 = u := ⟨_, rfl⟩
     rw [hu] at hc hst
     by_cases hu0 : u = 0
     ·have hne : (u != 0) = false := by simp [hu0]
      rw [hu0] at hst
      have HS := Aside0.mk hst
      clear hst hu hu0 hz hx HZ
      go_wp2_with fail
      go_roundg (6 - (i + 1))
      case measure => omega
      case rel => exact ⟨i + 1, rfl, by omega, ⟨by omega⟩, ⟨by have := HS.out; simpa using this.symm⟩, HX, HB⟩
     ·have hne : (u != 0) = true := by simp [hu0]
      have hf : r = false := by rw [hst]; simp [hu0]
      subst hf
      clear hst hu hu0 hz hx HZ
      go_wp2_with fail
      go_ret
      exact ⟨rfl, by rw [hH]; exact HB.out⟩
    ·have hltz : decide ((i : Int) < 6) = false := decide_eq_false (by omega)
     have hst := zeroF_end [m0, m1, m2, m3, m4, m5] i (by show 6 ≤ i; omega)
     rw [HZ.out] at hst
     subst hst
     clear hz hx
     go_wp2_with fail
     go_ret
     exact ⟨rfl, by rw [hH]; exact HB.out⟩
  ·rw [if_neg hn0] at hh; cases hh
end Go.Proofs.Ytpcokafalmafgaa.Q
