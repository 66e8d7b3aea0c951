/- vol.Trim: files without those at the end that are none. -/
import Derived.Test.YtpcokafalmafgaaQ0
set_option linter.unusedVariables false
set_option linter.unusedSimpArgs false
namespace Go.Proofs.Ytpcokafalmafgaa.Q
open Go.RowKit Go.Proofs.Ytpcokafalmafgaa.H Go.Proofs.YtpcokafalmafgaaW.PrintWords Go.Proofs.YtpcokafalmafgaaW.PrintLast Go.Proofs.YtpcokafalmafgaaW.PrintMore
attribute [local go_sem] max2_int min2_int max_two min_two
set_option maxRecDepth 100000

abbrev NdE := S35
def noneN (x : NdE) : Bool := x.f0 == 0 && (x.f1 == 0 && (x.f2 == 0 && (x.f3 == 0 && (x.f4.toList == []))))
def trimTo (l : List NdE) : Nat → Nat
 | 0 => 0
 | n + 1 => if 3 < n + 1 then (if noneN (rd_T35 l (n : Int)) = true then trimTo l n else n + 1) else n + 1
theorem trimTo_le (l : List NdE) : ∀ n, trimTo l n ≤ n
 | 0 => by simp [trimTo]
 | n + 1 => by
  have := trimTo_le l n
  rw [trimTo]; (repeat' split) <;> omega
def vol_Trim.n (l : List NdE) : Int := (trimTo l l.length : Int)

set_option maxHeartbeats 2000000 in
theorem vol_Trim.calls (A : Option Addr) (c : Nat) (l : List NdE) (m : Nat) (w : World) (hC : Kd.C k35 w A l.length l) (hc : l.length ≤ c) (hm : m = (vol_Trim.n l).toNat) :
  Calls Try.prog 14 #[.slice A l.length c] w fun e w' => e = .returned (.slice A m c) ∧ w = w' := by
 have hmx := Kd.C_max hC
 obtain ⟨i0, hi0, _, hsz, _⟩ := info_parts info35
 have HC := Aside0.mk hC
 have HI := Aside0.mk hi0
 have HCC := Aside0.mk hc
 unfold vol_Trim.n at hm
 simp only [Int.toNat_natCast] at hm
 have HM := Aside0.mk hm
 clear hC hi0 hc hm
 go_enter Try.func14, Try.ntmps14
 go_wp2
 go_loopg [3] l.length (fun g v3 w' => ∃ n : Nat, n ≤ l.length ∧ n ≤ g ∧ v3 = .int .i64 n ∧ Aside0 (m = trimTo l n) ∧ Aside0 (w = w'))
 case atStart => exact ⟨l.length, by omega, by omega, rfl, HM, ⟨rfl⟩⟩
 case round =>
  obtain ⟨n, hn, hg, rfl, HN, HW⟩ := hrel
  have HW := HW.out
  subst HW
  by_cases h3 : 3 < n
  ·obtain ⟨q, rfl⟩ : ∃ q, n = q + 1 := ⟨n - 1, by omega⟩
   have hd1 : decide (((q + 1 : Nat) : Int) > 3) = true := decide_eq_true (by omega)
   obtain ⟨ad, e0, h0, h1, h2, h4, h5⟩ := at_T35 HC.out (q : Int) (by omega) (by omega)
   subst e0
   simp only [Int.toNat_natCast] at h0 h1 h2 h4 h5
   have hcut := cut_to (P := Try.prog) 28 35 .i64 Try.underlying28 HI.out (some ad) l.length c ((q : Int) + 1) (by omega) (by omega) HCC.out
   have hstop : noneN (rd_T35 l (q : Int)) = false → m = q + 1 := fun hz => by
    rw [HN.out, trimTo, if_pos h3, hz, if_neg (by decide)]
   have HS := Aside0.mk hstop
   clear hstop
   by_cases e0 : (rd_T35 l (q : Int)).f0 = 0
   ·by_cases e1 : (rd_T35 l (q : Int)).f1 = 0
    ·by_cases e2 : (rd_T35 l (q : Int)).f2 = 0
     ·by_cases e3 : (rd_T35 l (q : Int)).f3 = 0
      ·by_cases e4 : (rd_T35 l (q : Int)).f4.toList = []
       ·have hz : noneN (rd_T35 l (q : Int)) = true := by unfold noneN; rw [e0, e1, e2, e3, e4]; rfl
        have HZ := Aside0.mk hz
        clear hz
        go_wp2
        go_roundg (gk - 1)
        case measure => omega
        case rel => exact ⟨q, by omega, by omega, by simp, ⟨by rw [HN.out, trimTo, if_pos h3, if_pos HZ.out]⟩, ⟨rfl⟩⟩
       ·have hz : noneN (rd_T35 l (q : Int)) = false := by unfold noneN; rw [beq_eq_false_iff_ne.2 e4]; simp
        have HZ := Aside0.mk (HS.out hz)
        clear hz
        go_wp2
        go_ret
        refine ⟨?_, rfl⟩
        first | rfl | (rw [HZ.out]; rfl)
      ·have hz : noneN (rd_T35 l (q : Int)) = false := by unfold noneN; rw [beq_eq_false_iff_ne.2 e3]; simp
       have HZ := Aside0.mk (HS.out hz)
       clear hz
       go_wp2
       go_ret
       refine ⟨?_, rfl⟩
       first | rfl | (rw [HZ.out]; rfl)
     ·have hz : noneN (rd_T35 l (q : Int)) = false := by unfold noneN; rw [beq_eq_false_iff_ne.2 e2]; simp
      have HZ := Aside0.mk (HS.out hz)
      clear hz
      go_wp2
      go_ret
      refine ⟨?_, rfl⟩
      first | rfl | (rw [HZ.out]; rfl)
    ·have hz : noneN (rd_T35 l (q : Int)) = false := by unfold noneN; rw [beq_eq_false_iff_ne.2 e1]; simp
     have HZ := Aside0.mk (HS.out hz)
     clear hz
     go_wp2
     go_ret
     refine ⟨?_, rfl⟩
     first | rfl | (rw [HZ.out]; rfl)
   ·have hz : noneN (rd_T35 l (q : Int)) = false := by unfold noneN; rw [beq_eq_false_iff_ne.2 e0]; simp
    have HZ := Aside0.mk (HS.out hz)
    clear hz
    go_wp2
    go_ret
    refine ⟨?_, rfl⟩
    first | rfl | (rw [HZ.out]; rfl)
  ·have hd1 : decide ((n : Int) > 3) = false := decide_eq_false (by omega)
   have hcut := cut_to (P := Try.prog) 28 35 .i64 Try.underlying28 HI.out A l.length c (n : Int) (by omega) (by omega) HCC.out
   simp only [Int.toNat_natCast] at hcut
   have HZ : m = n := by
    rw [HN.out]
    cases n with
    | zero => rfl
    | succ z => rw [trimTo, if_neg h3]
   have HZ := Aside0.mk HZ
   go_wp2
   go_ret
   refine ⟨?_, rfl⟩
   first | rfl | (rw [HZ.out]; rfl)
end Go.Proofs.Ytpcokafalmafgaa.Q

set_option linter.unusedVariables false
set_option linter.unusedSimpArgs false
namespace Go.Proofs.Ytpcokafalmafgaa.Q
open Go.RowKit Go.Proofs.Ytpcokafalmafgaa.H Go.Proofs.YtpcokafalmafgaaW.PrintWords Go.Proofs.YtpcokafalmafgaaW.PrintLast Go.Proofs.YtpcokafalmafgaaW.PrintMore
attribute [local go_sem] max2_int min2_int max_two min_two
set_option maxRecDepth 100000

def nautilusref17_Trim.n (l : List NdE) : Int := (trimTo l l.length : Int)

set_option maxHeartbeats 2000000 in
theorem nautilusref17_Trim.calls (A : Option Addr) (c : Nat) (l : List NdE) (m : Nat) (w : World) (hC : Kd.C k35 w A l.length l) (hc : l.length ≤ c) (hm : m = (nautilusref17_Trim.n l).toNat) :
  Calls Try.prog 21 #[.slice A l.length c] w fun e w' => e = .returned (.slice A m c) ∧ w = w' := by
 have hmx := Kd.C_max hC
 obtain ⟨i0, hi0, _, hsz, _⟩ := info_parts info35
 have HC := Aside0.mk hC
 have HI := Aside0.mk hi0
 have HCC := Aside0.mk hc
 unfold nautilusref17_Trim.n at hm
 simp only [Int.toNat_natCast] at hm
 have HM := Aside0.mk hm
 clear hC hi0 hc hm
 go_enter Try.func21, Try.ntmps21
 go_wp2
 go_loopg [3] l.length (fun g v3 w' => ∃ n : Nat, n ≤ l.length ∧ n ≤ g ∧ v3 = .int .i64 n ∧ Aside0 (m = trimTo l n) ∧ Aside0 (w = w'))
 case atStart => exact ⟨l.length, by omega, by omega, rfl, HM, ⟨rfl⟩⟩
 case round =>
  obtain ⟨n, hn, hg, rfl, HN, HW⟩ := hrel
  have HW := HW.out
  subst HW
  by_cases h3 : 3 < n
  ·obtain ⟨q, rfl⟩ : ∃ q, n = q + 1 := ⟨n - 1, by omega⟩
   have hd1 : decide (((q + 1 : Nat) : Int) > 3) = true := decide_eq_true (by omega)
   obtain ⟨ad, e0, h0, h1, h2, h4, h5⟩ := at_T35 HC.out (q : Int) (by omega) (by omega)
   subst e0
   simp only [Int.toNat_natCast] at h0 h1 h2 h4 h5
   have hcut := cut_to (P := Try.prog) 28 35 .i64 Try.underlying28 HI.out (some ad) l.length c ((q : Int) + 1) (by omega) (by omega) HCC.out
   have hstop : noneN (rd_T35 l (q : Int)) = false → m = q + 1 := fun hz => by
    rw [HN.out, trimTo, if_pos h3, hz, if_neg (by decide)]
   have HS := Aside0.mk hstop
   clear hstop
   by_cases e0 : (rd_T35 l (q : Int)).f0 = 0
   ·by_cases e1 : (rd_T35 l (q : Int)).f1 = 0
    ·by_cases e2 : (rd_T35 l (q : Int)).f2 = 0
     ·by_cases e3 : (rd_T35 l (q : Int)).f3 = 0
      ·by_cases e4 : (rd_T35 l (q : Int)).f4.toList = []
       ·have hz : noneN (rd_T35 l (q : Int)) = true := by unfold noneN; rw [e0, e1, e2, e3, e4]; rfl
        have HZ := Aside0.mk hz
        clear hz
        go_wp2
        go_roundg (gk - 1)
        case measure => omega
        case rel => exact ⟨q, by omega, by omega, by simp, ⟨by rw [HN.out, trimTo, if_pos h3, if_pos HZ.out]⟩, ⟨rfl⟩⟩
       ·have hz : noneN (rd_T35 l (q : Int)) = false := by unfold noneN; rw [beq_eq_false_iff_ne.2 e4]; simp
        have HZ := Aside0.mk (HS.out hz)
        clear hz
        go_wp2
        go_ret
        refine ⟨?_, rfl⟩
        first | rfl | (rw [HZ.out]; rfl)
      ·have hz : noneN (rd_T35 l (q : Int)) = false := by unfold noneN; rw [beq_eq_false_iff_ne.2 e3]; simp
       have HZ := Aside0.mk (HS.out hz)
       clear hz
       go_wp2
       go_ret
       refine ⟨?_, rfl⟩
       first | rfl | (rw [HZ.out]; rfl)
     ·have hz : noneN (rd_T35 l (q : Int)) = false := by unfold noneN; rw [beq_eq_false_iff_ne.2 e2]; simp
      have HZ := Aside0.mk (HS.out hz)
      clear hz
      go_wp2
      go_ret
      refine ⟨?_, rfl⟩
      first | rfl | (rw [HZ.out]; rfl)
    ·have hz : noneN (rd_T35 l (q : Int)) = false := by unfold noneN; rw [beq_eq_false_iff_ne.2 e1]; simp
     have HZ := Aside0.mk (HS.out hz)
     clear hz
     go_wp2
     go_ret
     refine ⟨?_, rfl⟩
     first | rfl | (rw [HZ.out]; rfl)
   ·have hz : noneN (rd_T35 l (q : Int)) = false := by unfold noneN; rw [beq_eq_false_iff_ne.2 e0]; simp
    have HZ := Aside0.mk (HS.out hz)
    clear hz
    go_wp2
    go_ret
    refine ⟨?_, rfl⟩
    first | rfl | (rw [HZ.out]; rfl)
  ·have hd1 : decide ((n : Int) > 3) = false := decide_eq_false (by omega)
   have hcut := cut_to (P := Try.prog) 28 35 .i64 Try.underlying28 HI.out A l.length c (n : Int) (by omega) (by omega) HCC.out
   simp only [Int.toNat_natCast] at hcut
   have HZ : m = n := by
    rw [HN.out]
    cases n with
    | zero => rfl
    | succ z => rw [trimTo, if_neg h3]
   have HZ := Aside0.mk HZ
   go_wp2
   go_ret
   refine ⟨?_, rfl⟩
   first | rfl | (rw [HZ.out]; rfl)
end Go.Proofs.Ytpcokafalmafgaa.Q
