/- The law UsageTakes: its walk. -/
import Derived.Test.YtklhmhliencgeaaQ13
import Derived.Test.YtklhmhliencgeaaQ7
import Derived.Test.YtklhmhliencgeaaQ8
import Derived.Test.YtklhmhliencgeaaQ9
set_option linter.unusedVariables false
set_option linter.unusedSimpArgs false
namespace Go.Proofs.Ytklhmhliencgeaa.Q
open Go.RowKit Go.Proofs.Ytklhmhliencgeaa.H Go.Proofs.YtklhmhliencgeaaW.PrintWords Go.Proofs.YtklhmhliencgeaaW.PrintLast Go.Proofs.YtklhmhliencgeaaW.PrintMore
attribute [local go_sem] max2_int min2_int max_two min_two
set_option maxRecDepth 100000

abbrev SG := S30
def takesL (K : Nat) (n : Int) : Nat → List SG → Int → Int → Option (List SG × Int)
  | 0, _, _, _ => none
  | g + 1, l, fr, k => if k < n then
      (usage_Next.f K l fr).bind fun t => if t.2 = true then (if 0 ≤ t.1 then (if t.1 < (l.length : Int) then (if (rd_T30 l t.1).f2 = 0 then
        (usage_Set.f K l t.1 0 0 2).bind fun m => if m.2 = 0 then (if m.1.length = l.length then (usage_CleanOnes.f K m.1).bind fun c =>
          if c = wrap64 (wrap64 (n - k) - 1) then takesL K n g m.1 t.1 (wrap64 (k + 1)) else none else none) else none else none) else none) else none) else none
    else some (l, fr)
def takesTail (K : Nat) (t : Bool) (l : List SG) (fr : Int) : Option Bool :=
  (usage_CleanOnes.f K l).bind fun n => (takesL K n K l fr 0).bind fun m => (usage_Next.f K m.1 m.2).bind fun o => if t = true then some (!o.2) else none
def takesCut (l : List SG) : List SG := l.take (min l.length 300)
def nautiluslaw06_UsageTakes.f (K : Nat) (l0 : List SG) (fr : Int) : Option Bool :=
  (nautiluslaw06_shown.f K).bind fun t => (usage_Right.f (takesCut l0)).bind fun r =>
    if r = true then (if fr < 0 then some t else if fr ≥ ((takesCut l0).length : Int) then some t else takesTail K t (takesCut l0) fr) else some t

set_option maxHeartbeats 8000000 in
theorem nautiluslaw06_UsageTakes.calls (K : Nat) (A : Option Addr) (c : Nat) (l0 : List SG) (fr : Int) (r : Bool) (w : World) (hC : Kd.C k30 w A l0.length l0) (hc : l0.length ≤ c) (h : nautiluslaw06_UsageTakes.f K l0 fr = some r) :
    Calls Try.prog 6 #[.slice A l0.length c, .int .i64 fr] w fun e w' => e = .returned (.bool r) ∧ Below w.heap.size w w' := by
  unfold nautiluslaw06_UsageTakes.f at h
  obtain ⟨t, ht, h1⟩ := Option.bind_eq_some_iff.mp h
  obtain ⟨rt, hrt, h2⟩ := Option.bind_eq_some_iff.mp h1
  clear h h1
  obtain ⟨i0, hi, hz0, hz1, hz2⟩ := info_parts info30
  obtain ⟨m, hm⟩ : ∃ m : Int, (if (300 : Int) < (l0.length : Int) then (300 : Int) else (l0.length : Int)) = m := ⟨_, rfl⟩
  obtain ⟨l, hl⟩ : ∃ l, takesCut l0 = l := ⟨_, rfl⟩
  have hll : m = (l.length : Int) := by rw [← hm, ← hl]; unfold takesCut; rw [List.length_take]; split <;> omega
  have hlc : l.length ≤ c := by rw [← hl]; unfold takesCut; rw [List.length_take]; omega
  have hcut : ∀ W : World, (Instr.slice 22 (.slice A l0.length c) none (some (.int .i64 m)) none).run Try.prog W = .ok (.slice A l.length c) W := by
    have := cut_to (P := Try.prog) 22 30 .i64 Try.underlying22 hi A l0.length c m (by omega) (by rw [← hm]; split <;> omega) hc
    rw [hll] at this ⊢; rw [Int.toNat_natCast] at this; exact this
  have hCl : Kd.C k30 w A l.length l := by rw [← hl]; exact Kd.C_take hC (by omega)
  rw [hl] at h2 hrt
  have HT := Aside0.mk ht
  have HRT := Aside0.mk hrt
  have HCL := Aside0.mk hCl
  have HH := Aside0.mk h2
  have hm0 : 0 ≤ m := by omega
  clear ht hrt hCl hC hi hz0 hz1 hz2 hl h2 hll
  go_enter Try.func6, Try.ntmps6
  go_wp2_with fail
  refine (nautiluslaw06_shown.calls K t _ HT.out).mono ?_
  rintro e w1 ⟨rfl, hb1⟩
  have hb1' : Below w.heap.size w w1 := by first | exact hb1 | exact (pw_below_drewN (Below.refl _ w) _).trans hb1
  have HB := Aside0.mk hb1'
  clear hb1 hb1'
  go_wp2_with fail
  refine (usage_Right.calls A c l rt _ (Kd.C_below HCL.out HB.out) hlc HRT.out).mono ?_
  rintro e w2 ⟨rfl, hb⟩
  have HB2 := Aside0.mk (HB.out.trans (hb.mono HB.out.size))
  clear hb HB hcut HT HRT hm hm0
  cases rt with
  | false =>
    go_wp2_with fail
    go_ret
    have h := (HH.out : (if false = true then _ else some t) = some r)
    rw [if_neg (by decide)] at h
    obtain rfl := Option.some.inj h
    exact ⟨by first | rfl | (simp; done), HB2.out⟩
  | true =>
    have he := HH.out
    rw [if_pos rfl] at he
    have HE := Aside0.mk he
    clear he HH
    by_cases c1 : fr < 0
    · have d1 : decide (fr < 0) = true := decide_eq_true c1
      have HC1 := Aside0.mk c1
      clear c1
      go_wp2_with fail
      go_ret
      have h := HE.out
      rw [if_pos HC1.out] at h
      obtain rfl := Option.some.inj h
      exact ⟨by first | rfl | (simp; done), HB2.out⟩
    have d1 : decide (fr < 0) = false := decide_eq_false c1
    by_cases c2 : fr ≥ (l.length : Int)
    · have d2 : decide ((l.length : Int) ≤ fr) = true := decide_eq_true c2
      have HC1 := Aside0.mk c1
      have HC2 := Aside0.mk c2
      clear c1 c2
      go_wp2_with fail
      go_ret
      have h := HE.out
      rw [if_neg (show ¬ fr < 0 by have := HC1.out; omega), if_pos (show fr ≥ (l.length : Int) by have := HC2.out; omega)] at h
      obtain rfl := Option.some.inj h
      exact ⟨by first | rfl | (simp; done), HB2.out⟩
    have d2 : decide ((l.length : Int) ≤ fr) = false := decide_eq_false c2
    have h := HE.out
    rw [if_neg c1, if_neg c2] at h
    unfold takesTail at h
    obtain ⟨n, hn, h1⟩ := Option.bind_eq_some_iff.mp h
    obtain ⟨m9, hm9, h2⟩ := Option.bind_eq_some_iff.mp h1
    obtain ⟨o9, ho9, h3⟩ := Option.bind_eq_some_iff.mp h2
    have HN := Aside0.mk hn
    have HM := Aside0.mk hm9
    have HO := Aside0.mk ho9
    have H3 := Aside0.mk h3
    clear h h1 h2 h3 hn hm9 ho9 HE c1 c2
    go_wp2_with fail
    refine (usage_CleanOnes.calls K A c l n _ (Kd.C_below HCL.out HB2.out) hlc HN.out).mono ?_
    rintro e w3 ⟨rfl, hb⟩
    have HB3 := Aside0.mk (HB2.out.trans (hb.mono HB2.out.size))
    have HC3 := Aside0.mk (Kd.C_below HCL.out HB3.out)
    clear hb HB2 HCL HN d1 d2
    go_wp2_with fail
    go_loopg [0, 1, 7] K (fun gg v0 v1 v7 wr => ∃ (A : Option Addr) (c : Nat) (l : List SG) (fr kk : Int), v0 = .slice A l.length c ∧ v1 = .int .i64 fr ∧ v7 = .int .i64 kk ∧ l.length ≤ c ∧ Aside0 (takesL K n gg l fr kk = some m9) ∧ Aside0 (Kd.C k30 wr A l.length l) ∧ Aside0 (Below w.heap.size w wr))
    case atStart => exact ⟨A, c, l, fr, 0, rfl, rfl, rfl, hlc, HM, HC3, HB3⟩
    case round =>
      clear HM HC3 HB3 hlc
      obtain ⟨A, c, l, fr, kk, rfl, rfl, rfl, hlc, HM, HC, HB⟩ := hrel
      cases gk with
      | zero => exact absurd HM.out (by simp [takesL])
      | succ gk =>
        have h := HM.out
        rw [takesL] at h
        by_cases c1 : kk < n
        case neg =>
          rw [if_neg c1] at h
          obtain rfl := Option.some.inj h
          have d1 : decide (kk < n) = false := decide_eq_false c1
          have HC1 := Aside0.mk c1
          clear c1 h HM
          go_wp2_with fail
          refine (usage_Next.calls K A c l fr o9.1 o9.2 _ HC.out hlc HO.out).mono ?_
          rintro e w4 ⟨rfl, hb⟩
          have HB4 := Aside0.mk (HB.out.trans (hb.mono HB.out.size))
          clear hb HB
          obtain ⟨o1, o2⟩ := o9
          cases t with
          | false =>
            have h := H3.out
            simp at h
          | true =>
            go_wp2_with fail
            go_ret
            have h := H3.out
            simp at h
            subst h
            exact ⟨by first | rfl | (simp; done), HB4.out⟩
        rw [if_pos c1] at h
        have d1 : decide (kk < n) = true := decide_eq_true c1
        obtain ⟨⟨i, ok⟩, hnx, h1⟩ := Option.bind_eq_some_iff.mp h
        simp only at h1
        cases ok with
        | false => simp at h1
        | true =>
          rw [if_pos rfl] at h1
          by_cases c2 : 0 ≤ i
          case neg => rw [if_neg c2] at h1; simp at h1
          rw [if_pos c2] at h1
          by_cases c3 : i < (l.length : Int)
          case neg => rw [if_neg c3] at h1; simp at h1
          rw [if_pos c3] at h1
          by_cases c4 : (rd_T30 l i).f2 = 0
          case neg => rw [if_neg c4] at h1; simp at h1
          rw [if_pos c4] at h1
          obtain ⟨⟨m, e⟩, hst, h2⟩ := Option.bind_eq_some_iff.mp h1
          simp only at h2
          by_cases c5 : e = 0
          case neg => rw [if_neg c5] at h2; simp at h2
          rw [if_pos c5] at h2
          subst c5
          by_cases c6 : m.length = l.length
          case neg => rw [if_neg c6] at h2; simp at h2
          rw [if_pos c6] at h2
          obtain ⟨cc, hcc, h3⟩ := Option.bind_eq_some_iff.mp h2
          by_cases c7 : cc = wrap64 (wrap64 (n - kk) - 1)
          case neg => rw [if_neg c7] at h3; simp at h3
          rw [if_pos c7] at h3
          have HNX := Aside0.mk hnx
          have HST := Aside0.mk hst
          have HCC := Aside0.mk hcc
          have HM2 := Aside0.mk h3
          have C6 := Aside0.mk c6
          have C7 := Aside0.mk c7
          have d2 : decide (i < 0) = false := decide_eq_false (by omega)
          have d3 : decide ((l.length : Int) ≤ i) = false := decide_eq_false (by omega)
          have d4 : ((rd_T30 l i).f2 != 0) = false := bne_eq_false_iff_eq.mpr c4
          obtain ⟨ad, ea, x0, x1, x2⟩ := at_T30 HC.out i c2 c3
          have X0 := Aside0.mk x0
          have X1 := Aside0.mk x1
          have X2 := Aside0.mk x2
          have HI := Aside0.mk (And.intro c2 c3)
          clear h h1 h2 h3 hnx hst hcc c1 c4 c6 c7 x0 x1 x2 HM c2 c3
          cases ea
          go_wp2_with fail
          refine (usage_Next.calls K _ c l fr i true _ HC.out hlc HNX.out).mono ?_
          rintro e w4 ⟨rfl, hb⟩
          have HB4 := Aside0.mk (HB.out.trans (hb.mono HB.out.size))
          have HC4 := Aside0.mk (Kd.C_below HC.out hb)
          have y2 := (hb.cell (World.block_lt_of_cell? wr _ X2.out)).trans X2.out
          have y0 := (hb.cell (World.block_lt_of_cell? wr _ X0.out)).trans X0.out
          have y1 := (hb.cell (World.block_lt_of_cell? wr _ X1.out)).trans X1.out
          have p2 := HI.out.1
          have p3 := HI.out.2
          clear hb HB HC X0 X1 X2
          go_wp2_with fail
          refine (usage_Set.calls K _ c l i 0 0 2 m 0 _ HC4.out hlc HST.out).mono ?_
          rintro e w5 ⟨v5, rfl, hr5, hb⟩
          have HB5 := Aside0.mk (HB4.out.trans (hb.mono HB4.out.size))
          obtain ⟨A5, c5, rfl, hc5, hC5⟩ := Kd.R_reads hr5
          have HC5 := Aside0.mk hC5
          have L5 := Aside0.mk hc5
          have l5 : (m.length : Int) = (l.length : Int) := by have := C6.out; omega
          have d5 : ((m.length : Int) != (l.length : Int)) = false := bne_eq_false_iff_eq.mpr l5
          clear hb hr5 hC5 hc5 HB4 HC4 y2 y0 y1 l5
          go_wp2_with fail
          refine (usage_CleanOnes.calls K A5 c5 m cc _ HC5.out L5.out HCC.out).mono ?_
          rintro e w6 ⟨rfl, hb⟩
          have HB6 := Aside0.mk (HB5.out.trans (hb.mono HB5.out.size))
          have HC6 := Aside0.mk (Kd.C_below HC5.out hb)
          have d6 : (cc != wrap64 (wrap64 (n - kk) - 1)) = false := bne_eq_false_iff_eq.mpr C7.out
          clear hb HB5 HC5
          go_wp2_with fail
          go_roundg gk
          case rel => exact ⟨A5, c5, m, i, wrap64 (kk + 1), rfl, rfl, rfl, L5.out, HM2, HC6, HB6⟩
          case measure => omega
end Go.Proofs.Ytklhmhliencgeaa.Q
