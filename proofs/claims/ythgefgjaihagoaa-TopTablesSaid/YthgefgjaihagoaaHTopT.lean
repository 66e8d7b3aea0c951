/- What Wrap and Unwrap answer. -/
import Derived.Test.YthgefgjaihagoaaQ13
import Derived.Test.YthgefgjaihagoaaHNum
import Derived.Test.YthgefgjaihagoaaQ13
import Derived.Test.YthgefgjaihagoaaHRecF
import Derived.Test.YthgefgjaihagoaaPTX
import Derived.Deep.CutBlock
import Derived.Deep.DeepCutAuto
set_option linter.unusedVariables false
namespace Go.Proofs.Ythgefgjaihagoaa.Q
open Go.RowKit Go.Proofs.Ythgefgjaihagoaa.H Go.Proofs.YthgefgjaihagoaaW.PrintWords
def preB : ByteArray := ⟨#[80, 0, 0, 0]⟩
def padB (c : ByteArray) : ByteArray := c ++ zerosB (508 - c.size)
def wrapB (c : ByteArray) : ByteArray := preB ++ padB c
theorem zerosB_size (n : Nat) : (zerosB n).size = n := by
  show (List.replicate n (0 : UInt8)).toArray.size = n
  simp
theorem padB_size (c : ByteArray) (h : c.size ≤ 508) : (padB c).size = 508 := by
  unfold padB; rw [ByteArray.size_append, zerosB_size]; omega
theorem wrapB_size (c : ByteArray) (h : c.size ≤ 508) : (wrapB c).size = 512 := by
  unfold wrapB; rw [ByteArray.size_append, padB_size c h]; rfl
theorem wrap_yes (c : ByteArray) (h : c.size ≤ 508) : record_Wrap.f c = some (wrapB c, 0) := by
  have h4 : (⟨#[80, 0, 0, 0]⟩ : ByteArray).size = 4 := rfl
  unfold record_Wrap.f num_Fit.f
  rw [if_neg (by omega), if_pos (by omega), if_neg (by rw [ByteArray.size_append, h4]; omega), if_neg (by rw [ByteArray.size_append, h4]; omega), if_neg (by omega), Option.bind_some]
  unfold wrapB padB preB
  rw [ByteArray.append_assoc, ByteArray.size_append, h4, show (512 - ((4 + c.size : Nat) : Int)).toNat = 508 - c.size by omega]
theorem unwrap_yes (c : ByteArray) (h : c.size ≤ 508) : record_Unwrap.f (wrapB c) = some (padB c, 0) := by
  have h4 : (⟨#[80, 0, 0, 0]⟩ : ByteArray).size = 4 := rfl
  have h5 := wrapB_size c h
  have e1 : (wrapB c).extract 0 4 = ⟨#[80, 0, 0, 0]⟩ := by unfold wrapB preB; exact ByteArray.extract_append_eq_left rfl
  have e2 : (wrapB c).extract 4 512 = padB c := by unfold wrapB preB; exact ByteArray.extract_append_eq_right rfl (by rw [padB_size c h]; rfl)
  unfold record_Unwrap.f strings_CutPrefix.f stringslite_CutPrefix.f stringslite_HasPrefix.f
  rw [h4, h5]
  simp only [Int.toNat_natCast, e1, e2]
  simp
theorem shown_true : nautilustop_shownTables.f = some true := by kernel_rfl
end Go.Proofs.Ythgefgjaihagoaa.Q

set_option linter.unusedVariables false
set_option linter.unusedSimpArgs false
namespace Go.Proofs.Ythgefgjaihagoaa.Q
open Go.RowKit Go.Shelf Go.Proofs.Ythgefgjaihagoaa.H Go.Proofs.Ythgefgjaihagoaa.P Go.Proofs.YthgefgjaihagoaaW.PrintWords Go.Proofs.YthgefgjaihagoaaW.PrintLast Go.Proofs.YthgefgjaihagoaaW.PrintMore
set_option maxRecDepth 100000
theorem gateT {P : Program} {ops : Array Oper} {rest : List Oper} {o : Oper} {a : Act} {Q : Exit → Act → World → Prop} {W : World} {b : Builtin} {xs : Array Operand} {ts : Array TypeId} (_ho : o.op = .call { callee := .builtin b, args := xs, argTypes := ts }) (h : wpList P ops Q (o :: rest) a W) : wpList P ops Q (o :: rest) a W := h
theorem infoStr : (Try.prog.info? 9).map (fun i => (i.zero, i.size, i.bytes)) = some (some (.string ⟨#[]⟩), 1, 16) := by kernel_rfl
theorem pad_full {c : ByteArray} (h : c.size = 508) : padB c = c := by
  unfold padB
  rw [h]
  apply ByteArray.ext; simp [zerosB]
theorem wrap_head (c : ByteArray) : (wrapB c).data.toList.head? ≠ some 82 := by
  have : (wrapB c).data.toList.head? = some 80 := by simp [wrapB, preB, ByteArray.data_append]
  rw [this]; decide
set_option maxHeartbeats 8000000 in
theorem through.calls (A0 : Option Addr) (c0 : Nat) (l0 : List ByteArray) (w : World) (hr0 : Kd.C Kd.string w A0 l0.length l0) (hc0 : l0.length ≤ c0) (hl : l0.length ≤ 100000) (hs : ∀ j, (hj : j < l0.length) → l0[j].size = 508) :
    Calls Try.prog 20 #[.slice A0 l0.length c0] w fun e w' => ∃ v0_ : Value, e = .returned (.tuple #[v0_, .bool true]) ∧ Kd.R Kd.string 9 w' w.heap.size (fun _ => True) v0_ l0 ∧ Below w.heap.size w w' := by
  have HR := Aside0.mk hr0
  have HC := Aside0.mk hc0
  have HS := Aside0.mk hs
  have HL := Aside0.mk hl
  clear hr0 hc0 hs hl
  go_enter Try.func20, Try.ntmps20
  go_wp2
  go_loopg [4, 5] l0.length (fun gg v4 v5 w' => ∃ (kk : Nat) (v : Value), kk ≤ l0.length ∧ l0.length - kk ≤ gg ∧ v5 = .int .i64 kk ∧ v4 = v ∧ Aside0 (Kd.R Kd.string 9 w' w.heap.size (fun _ => True) v (l0.take kk) ∧ Below w.heap.size w w'))
  case atStart => exact ⟨0, _, Nat.zero_le _, by omega, rfl, rfl, ⟨by simpa using Kd.R_nil _ _ _ _ _, Below.refl _ _⟩⟩
  case round =>
    obtain ⟨kk, v, hkk, hg, rfl, rfl, U⟩ := hrel
    by_cases hlt : kk < l0.length
    · have hltz : decide ((kk : Int) < (l0.length : Int)) = true := decide_eq_true (by omega)
      have hltn : decide (kk < l0.length) = true := decide_eq_true hlt
      obtain ⟨ad, rfl, h0⟩ := Kd.at_string (Kd.C_below HR.out U.out.2) (kk : Int) (by omega) (by omega)
      have e0 : rdOf ByteArray.empty l0 (kk : Int) = l0[kk] := by simp [rdOf, hlt]
      rw [e0] at h0
      have hs := HS.out kk hlt
      obtain ⟨b, hb⟩ : ∃ b, l0[kk] = b := ⟨_, rfl⟩
      rw [hb] at hs
      rw [hb, Int.toNat_natCast] at h0
      clear e0
      have HSB := Aside0.mk hs
      have HBB := Aside0.mk hb
      have hk0 : (0 : Int) ≤ (kk : Int) := by omega
      have hk1 : (kk : Int) < (l0.length : Int) := by omega
      clear hs hb
      go_wp2_with fail
      refine (record_Wrap.calls b _ _ _ (wrap_yes b (by have := HSB.out; omega))).mono ?_
      rintro e w1 ⟨rfl, hb1⟩
      go_wp2_with fail
      refine (record_Unwrap.calls _ _ _ _ (unwrap_yes b (by have := HSB.out; omega))).mono ?_
      rintro e w2 ⟨rfl, hd2⟩
      go_wp2_with fail
      refine (recDec_no (wrapB b) (wrapB_size b (by have := HSB.out; omega)) (wrap_head b) _).mono ?_
      rintro e w3 ⟨rfl, hb3⟩
      rw [pad_full HSB.out]
      have hb23 := hb1.trans (hd2.below.mono hb1.size)
      have hb33 := hb23.trans (hb3.mono hb23.size)
      have U3 := Aside0.mk (And.intro (Kd.R_below U.out.1 hb33) (U.out.2.trans (hb33.mono U.out.2.size)))
      clear U hb1 hd2 hb3 hb23 hb33 h0
      go_wp2_with (first
        | ((with_reducible refine gateT (b := .append) (xs := #[.tmp 46, .tmp 48]) rfl ?_); at_builtin; refine Aside0.out ?_))
      refine ⟨?_⟩
      obtain ⟨W, hW⟩ : ∃ W, w3.alloc (.cells #[.int .u64 0, .int .u64 0, .bool false, .bool false, .int .i64 0, .slice none 0 0] 86) = W := ⟨_, rfl⟩
      have hsz : w3.heap.size + 1 = W.heap.size := by rw [← hW]; simp
      have UW := Aside0.mk (show Kd.R Kd.string 9 W w.heap.size (fun _ => True) u4 (l0.take kk) ∧ Below w.heap.size w W from by
        rw [← hW]
        exact ⟨Kd.R_alloc U3.out.1 _, U3.out.2.alloc U3.out.2.size _⟩)
      simp only [hW, hsz]
      clear hW hsz U3
      refine Kd.R_append Kd.string (w0 := w) w.heap.size rfl (.tmp 46) (.tmp 48) 35 9 (.string ⟨#[]⟩) 16 rfl Try.underlying35 infoStr rfl (by decide) (by omega) u4 (l0.take kk) b [.string b] (fun _ => True) (fun _ => False) rfl rfl rfl (fun _ hk => hk.elim) (fun _ _ => trivial) UW.out.1 UW.out.2 UW.out.2.size (by rw [List.length_take]; have := HL.out; omega) ?_
      intro v1 w4 ho hb hg1 hat
      have et : l0.take kk ++ [b] = l0.take (kk + 1) := by rw [List.take_succ_eq_append_getElem hlt, HBB.out]
      rw [et] at ho
      have U4 := Aside0.mk (And.intro ho hb)
      have ew : IntKind.i64.wrap ((kk : Int) + 1) = ((kk + 1 : Nat) : Int) := by rw [IntKind.wrap_i64]; have := HL.out; omega
      clear ho hb hg1 hat et UW
      go_wp2_with fail
      go_roundg (l0.length - (kk + 1))
      case rel => exact ⟨kk + 1, _, by omega, by omega, by first | rfl | (rw [ew]; rfl) | (rw [show wrap64 ((kk : Int) + 1) = ((kk + 1 : Nat) : Int) from by rw [IntWalk.wrap64_in _ (by have := HL.out; omega)]; omega]), rfl, U4⟩
      case measure => omega
    · have hltz : decide ((kk : Int) < (l0.length : Int)) = false := decide_eq_false (by omega)
      have hltn : decide (kk < l0.length) = false := decide_eq_false hlt
      have hk1 : ¬ (kk : Int) < (l0.length : Int) := by omega
      rw [show l0.take kk = l0 from List.take_of_length_le (by omega)] at U
      go_wp2
      go_ret2
      exact ⟨_, rfl, U.out.1, U.out.2⟩
end Go.Proofs.Ythgefgjaihagoaa.Q

set_option linter.unusedVariables false
set_option linter.unusedSimpArgs false
namespace Go.Proofs.Ythgefgjaihagoaa.Q
open Go.RowKit Go.Shelf Go.Proofs.Ythgefgjaihagoaa.H Go.Proofs.Ythgefgjaihagoaa.P Go.Proofs.YthgefgjaihagoaaW.PrintWords Go.Proofs.YthgefgjaihagoaaW.PrintLast Go.Proofs.YthgefgjaihagoaaW.PrintMore
set_option maxRecDepth 100000
theorem min2_t (k k' : IntKind) (x y : Int) : Builtin.min2 (.int k x) (.int k' y) = pure (.int k (if y < x then y else x)) := by simp only [Builtin.min2]
theorem min_t (ats : Array TypeId) (ty : TypeId) (a b : Value) : Builtin.min_ ats ty #[a, b] = (Builtin.min2 a b >>= fun s => pure s) := by simp only [Builtin.min_, List.foldlM_cons, List.foldlM_nil]
attribute [local go_sem] min2_t min_t
theorem one_C (w : World) (s : ByteArray) : Kd.C Kd.string (w.alloc (.cells #[.string s] 9)) (some ⟨w.heap.size, 0, none⟩) [s].length [s] := by
  refine ⟨rfl, by simp, fun _ => ⟨_, rfl, fun j p hj => ?_⟩⟩
  cases j with
  | succ j => simp at hj
  | zero =>
    simp at hj; subst hj
    refine ⟨[.string s], rfl, rfl, fun i u hu => ?_⟩
    cases i with
    | succ i => simp at hu
    | zero =>
      simp at hu; subst hu
      show (w.alloc (.cells #[.string s] 9)).cell? ((⟨w.heap.size, 0, none⟩ : Addr).add (0 * 1 + 0)) = _
      rw [show ((⟨w.heap.size, 0, none⟩ : Addr).add (0 * 1 + 0)) = ⟨w.heap.size, 0, none⟩ from rfl, Lib.cell_of_heap (World.alloc_heap_new w _)]; rfl
/-- What the law's two tables and root are. -/
structure TopIn (w : World) (A0 : Option Addr) (n0 c0 : Nat) (l : List (S106)) (A1 : Option Addr) (n1 c1 : Nat) (c : List (S110)) (a b : Int) (A2 : Option Addr) (c2 : Nat) (d : List Int) (A3 : Option Addr) (c3 : Nat) (k : List Int) : Prop where
  hl : Kd.C k106 w A0 l.length l
  hl2 : l.length ≤ c0
  hc : Kd.C k110 w A1 c.length c
  hc2 : c.length ≤ c1
  hd : Kd.C (Kd.int .u32) w A2 d.length d
  hd2 : d.length ≤ c2
  hk : Kd.C (Kd.int .u32) w A3 k.length k
  hk2 : k.length ≤ c3
  hcr : ∀ x ∈ c, 0 ≤ x.f1
  ha : 0 ≤ a
  hb : 0 ≤ b
set_option maxHeartbeats 16000000 in
theorem top.calls (A0 : Option Addr) (c0 : Nat) (l : List (S106)) (A1 : Option Addr) (c1 : Nat) (c : List (S110)) (a b : Int) (A2 : Option Addr) (c2 : Nat) (d : List Int) (A3 : Option Addr) (c3 : Nat) (k : List Int) (w : World)
    (hin : TopIn w A0 l.length c0 l A1 c.length c1 c a b A2 c2 d A3 c3 k) :
    Calls Try.prog 4 #[.slice A0 l.length c0, .slice A1 c.length c1, .agg #[.int .u64 a, .int .u64 b, .slice A2 d.length c2, .slice A3 k.length c3]] w fun e w' => e = .returned (.bool true) ∧ Below w.heap.size w w' := by
  obtain ⟨n0, hn0⟩ : ∃ n, min l.length 1000 = n := ⟨_, rfl⟩
  obtain ⟨n1, hn1⟩ : ∃ n, min c.length 100 = n := ⟨_, rfl⟩
  have hm0 : (if (1000 : Int) < (l.length : Int) then (1000 : Int) else (l.length : Int)) = (n0 : Int) := by split <;> omega
  have hm1 : (if (100 : Int) < (c.length : Int) then (100 : Int) else (c.length : Int)) = (n1 : Int) := by split <;> omega
  have HN := Aside0.mk (show n0 ≤ l.length ∧ n0 ≤ 1000 ∧ n1 ≤ c.length ∧ n1 ≤ 100 by omega)
  have H := Aside0.mk hin
  have hn0l : n0 ≤ l.length := by omega
  have hn0c : l.length ≤ c0 := hin.hl2
  have hn1l : n1 ≤ c.length := by omega
  have hn1c : c.length ≤ c1 := hin.hc2
  clear hin hn0 hn1
  go_enter Try.func4, Try.ntmps4
  go_wp2_with fail
  refine (nautilustop_shownTables.calls true _ shown_true).mono ?_
  rintro e w1 ⟨rfl, hb1⟩
  go_wp2_with fail
  obtain ⟨lt, hlt⟩ : ∃ x, l.take n0 = x := ⟨_, rfl⟩
  obtain ⟨ct, hct⟩ : ∃ x, c.take n1 = x := ⟨_, rfl⟩
  obtain rfl : lt.length = n0 := by rw [← hlt, List.length_take]; omega
  obtain rfl : ct.length = n1 := by rw [← hct, List.length_take]; omega
  have I := Aside0.mk (show Kd.C k106 w A0 lt.length lt ∧ lt.length ≤ c0 ∧ Kd.C k110 w A1 ct.length ct ∧ ct.length ≤ c1 from
    ⟨by have := Kd.C_take H.out.hl HN.out.1; rwa [hlt] at this, by omega, by have := Kd.C_take H.out.hc HN.out.2.2.1; rwa [hct] at this, by omega⟩)
  have hctr : ∀ x ∈ ct, 0 ≤ x.f1 := fun x hx => H.out.hcr x (List.mem_of_mem_take (by rw [hct]; exact hx))
  obtain ⟨nums, b', g, hnum, hce, hcok⟩ := cps_facts ct HN.out.2.2.2 hctr
  obtain ⟨m, r2, ee, a', f, hsw, hml, hde, hdok⟩ := dat_facts lt HN.out.2.1 nums
  obtain ⟨s, h, hre, hrok⟩ := root_facts a b d k H.out.ha H.out.hb
  have X := Aside0.mk (And.intro hnum (And.intro hce (And.intro hsw (And.intro hde hre))))
  have HML := Aside0.mk hml
  have HD := Aside0.mk hdok
  have HC := Aside0.mk hcok
  have HR := Aside0.mk hrok
  have b0 : Below w.heap.size w (w.alloc (.cells #[.int .u64 a, .int .u64 b, .slice A2 d.length c2, .slice A3 k.length c3] 55)) := (Below.refl _ w).alloc (Nat.le_refl _) _
  have B1 := Aside0.mk (b0.trans (hb1.mono (by simp)))
  have x1 : w1.heap[w.heap.size]? = some (.cells #[.int .u64 a, .int .u64 b, .slice A2 d.length c2, .slice A3 k.length c3] 55 (0, 0)) := (hb1.block _ (by simp)).trans (World.alloc_heap_new w _)
  have X1 := Aside0.mk x1
  clear hlt hct hctr hnum hce hcok hsw hml hde hdok hre hrok b0 hb1 x1 hm0 hm1 hn0l hn0c hn1l hn1c
  refine (cps_Numbers.calls 1000 A1 c1 ct nums _ (Kd.C_below I.out.2.2.1 B1.out) I.out.2.2.2 X.out.1).mono ?_
  rintro e w2 ⟨v2, rfl, hR2, hb2⟩
  obtain ⟨A5, c5, rfl, hl5, hC5⟩ := Kd.R_reads hR2
  have B2 := Aside0.mk (B1.out.trans (hb2.mono B1.out.size))
  have X2 := Aside0.mk ((hb2.block _ (Array.getElem?_eq_some_iff.1 X1.out).1).trans X1.out)
  have C5 := Aside0.mk (And.intro hC5 hl5)
  clear hR2 hb2 hl5 hC5 B1 X1
  go_wp2_with fail
  refine (dat_Sweep.calls A0 c0 lt A5 c5 nums m r2 ee _ (Kd.C_below I.out.1 B2.out) I.out.2.1 C5.out.1 C5.out.2 X.out.2.2.1).mono ?_
  rintro e w3 ⟨v3, rfl, hR3, hb3⟩
  obtain ⟨A6, c6, rfl, hl6, hC6⟩ := Kd.R_reads hR3
  have B3 := Aside0.mk (B2.out.trans (hb3.mono B2.out.size))
  have X3 := Aside0.mk ((hb3.block _ (Array.getElem?_eq_some_iff.1 X2.out).1).trans X2.out)
  have C6 := Aside0.mk (And.intro hC6 hl6)
  clear hR3 hb3 hl6 hC6 B2 X2 C5
  go_wp2_with fail
  refine (dat_Encode.calls A6 c6 m a' f _ C6.out.1 C6.out.2 X.out.2.2.2.1).mono ?_
  rintro e w4 ⟨v4, rfl, hR4, hb4⟩
  obtain ⟨A7, c7, rfl, hl7, hC7⟩ := Kd.R_reads hR4
  have B4 := Aside0.mk (B3.out.trans (hb4.mono B3.out.size))
  have X4 := Aside0.mk ((hb4.block _ (Array.getElem?_eq_some_iff.1 X3.out).1).trans X3.out)
  have C6' := Aside0.mk (And.intro (Kd.C_below C6.out.1 hb4) C6.out.2)
  have C7 := Aside0.mk (And.intro hC7 hl7)
  clear hR4 hb4 hl7 hC7 B3 X3 C6
  go_wp2_with fail
  refine (C.cps_Encode.calls A1 c1 ct b' g _ (Kd.C_below I.out.2.2.1 B4.out) I.out.2.2.2 X.out.2.1).mono ?_
  rintro e w5 ⟨v5, rfl, hR5, hb5⟩
  obtain ⟨A8, c8, rfl, hl8, hC8⟩ := Kd.R_reads hR5
  have B5 := Aside0.mk (B4.out.trans (hb5.mono B4.out.size))
  have X5 := Aside0.mk ((hb5.block _ (Array.getElem?_eq_some_iff.1 X4.out).1).trans X4.out)
  have C6 := Aside0.mk (And.intro (Kd.C_below C6'.out.1 hb5) C6'.out.2)
  have C7' := Aside0.mk (And.intro (Kd.C_below C7.out.1 hb5) C7.out.2)
  have C8 := Aside0.mk (And.intro hC8 hl8)
  have r0 : w5.cell? ⟨w.heap.size, 0, none⟩ = some (.int .u64 a) := by rw [Lib.cell_of_heap X5.out]; rfl
  have r1 : w5.cell? ⟨w.heap.size, 1, none⟩ = some (.int .u64 b) := by rw [Lib.cell_of_heap X5.out]; rfl
  have r2' : w5.cell? ⟨w.heap.size, 2, none⟩ = some (.slice A2 d.length c2) := by rw [Lib.cell_of_heap X5.out]; rfl
  have r3 : w5.cell? ⟨w.heap.size, 3, none⟩ = some (.slice A3 k.length c3) := by rw [Lib.cell_of_heap X5.out]; rfl
  clear hR5 hb5 hl8 hC8 B4 X4 C6' C7
  go_wp2_with fail
  refine (root_Encode.calls a b A2 c2 d A3 c3 k s h _ (Kd.C_below H.out.hd B5.out) H.out.hd2 (Kd.C_below H.out.hk B5.out) H.out.hk2 X.out.2.2.2.2).mono ?_
  rintro e w6 ⟨rfl, hb6⟩
  have B6 := Aside0.mk (B5.out.trans (hb6.mono B5.out.size))
  have X6 := Aside0.mk ((hb6.block _ (Array.getElem?_eq_some_iff.1 X5.out).1).trans X5.out)
  have T6 := Aside0.mk (show Kd.C k106 w6 A6 m.length m ∧ m.length ≤ c6 ∧ Kd.C Kd.string w6 A7 a'.length a' ∧ a'.length ≤ c7 ∧ Kd.C Kd.string w6 A8 b'.length b' ∧ b'.length ≤ c8 from
    ⟨Kd.C_below C6.out.1 hb6, C6.out.2, Kd.C_below C7'.out.1 hb6, C7'.out.2, Kd.C_below C8.out.1 hb6, C8.out.2⟩)
  clear hb6 B5 X5 C6 C7' C8 r0 r1 r2' r3 X
  go_upto_if 64 with (fail)
  go_cut [] from 17 to 91 (fun wc => Aside0 (Below w.heap.size w wc ∧ wc.heap[w.heap.size]? = some (.cells #[.int .u64 a, .int .u64 b, .slice A2 d.length c2, .slice A3 k.length c3] 55 (0, 0)) ∧ Kd.C Kd.string wc A8 b'.length b' ∧ b'.length ≤ c8))
  case first =>
    by_cases hee : ee = 0
    · obtain ⟨q1, q2, q3, q4, q5, q6, q7⟩ := HD.out hee
      subst hee q1
      have Q := Aside0.mk (And.intro q2 (And.intro q3 (And.intro q4 (And.intro q5 (And.intro q6 q7)))))
      clear q2 q3 q4 q5 q6 q7 HD
      go_wp2_with fail
      refine (through.calls A7 c7 a' _ T6.out.2.2.1 T6.out.2.2.2.1 (Nat.le_trans Q.out.1 (by decide)) (fun j hj => (Q.out.2.1 j hj).1)).mono ?_
      rintro e w7 ⟨v7, rfl, hR7, hb7⟩
      obtain ⟨A9, c9, rfl, hl9, hC9⟩ := Kd.R_reads hR7
      have B7 := Aside0.mk (B6.out.trans (hb7.mono B6.out.size))
      have X7 := Aside0.mk ((hb7.block _ (Array.getElem?_eq_some_iff.1 X6.out).1).trans X6.out)
      have T7 := Aside0.mk (show Kd.C k106 w7 A6 m.length m ∧ m.length ≤ c6 ∧ Kd.C Kd.string w7 A9 a'.length a' ∧ a'.length ≤ c9 ∧ Kd.C Kd.string w7 A8 b'.length b' ∧ b'.length ≤ c8 from
        ⟨Kd.C_below T6.out.1 hb7, T6.out.2.1, hC9, hl9, Kd.C_below T6.out.2.2.2.2.1 hb7, T6.out.2.2.2.2.2⟩)
      clear hR7 hl9 hC9 hb7 T6 B6 X6
      go_wp2_with fail
      refine (dat_Decode.yes 100000 A9 c9 a' m _ T7.out.2.2.1 T7.out.2.2.2.1 Q.out.1 Q.out.2.1 Q.out.2.2.1 Q.out.2.2.2.1 (Nat.le_trans HML.out (by decide)) Q.out.2.2.2.2.1).mono ?_
      rintro e w8 ⟨v8, rfl, hR8, hb8⟩
      obtain ⟨A10, c10, rfl, hl10, hC10⟩ := Kd.R_reads hR8
      have B8 := Aside0.mk (B7.out.trans (hb8.mono B7.out.size))
      have X8 := Aside0.mk ((hb8.block _ (Array.getElem?_eq_some_iff.1 X7.out).1).trans X7.out)
      have T8 := Aside0.mk (show Kd.C k106 w8 A6 m.length m ∧ m.length ≤ c6 ∧ Kd.C k106 w8 A10 m.length m ∧ m.length ≤ c10 ∧ Kd.C Kd.string w8 A8 b'.length b' ∧ b'.length ≤ c8 from
        ⟨Kd.C_below T7.out.1 hb8, T7.out.2.1, hC10, hl10, Kd.C_below T7.out.2.2.2.2.1 hb8, T7.out.2.2.2.2.2⟩)
      clear hR8 hl10 hC10 hb8 T7 B7 X7
      go_wp2_with fail
      refine (nautilusref08_Same.calls 100000 A10 c10 m A6 c6 m true _ T8.out.2.2.1 T8.out.2.2.2.1 T8.out.1 T8.out.2.1 Q.out.2.2.2.2.2).mono ?_
      rintro e w9 ⟨rfl, hd9⟩
      have hb9 := hd9.below
      have Z := Aside0.mk (show Below w.heap.size w w9 ∧ w9.heap[w.heap.size]? = some (.cells #[.int .u64 a, .int .u64 b, .slice A2 d.length c2, .slice A3 k.length c3] 55 (0, 0)) ∧ Kd.C Kd.string w9 A8 b'.length b' ∧ b'.length ≤ c8 from
        ⟨B8.out.trans (hb9.mono B8.out.size), (hb9.block _ (Array.getElem?_eq_some_iff.1 X8.out).1).trans X8.out, Kd.C_below T8.out.2.2.2.2.1 hb9, T8.out.2.2.2.2.2⟩)
      clear hb9 hd9 T8 B8 X8
      go_wp2_with fail
      go_meet
      case rel => exact Z
    · have he0 : (ee == 0) = false := by simp [hee]
      have Z := Aside0.mk (show Below w.heap.size w w6 ∧ w6.heap[w.heap.size]? = some (.cells #[.int .u64 a, .int .u64 b, .slice A2 d.length c2, .slice A3 k.length c3] 55 (0, 0)) ∧ Kd.C Kd.string w6 A8 b'.length b' ∧ b'.length ≤ c8 from
        ⟨B6.out, X6.out, T6.out.2.2.2.2.1, T6.out.2.2.2.2.2⟩)
      clear hee
      go_wp2_with fail
      go_meet
      case rel => exact Z
  case rest =>
    clear B6 X6 T6
    go_upto_if 92 with (fail)
    have T := hcut
    clear hcut
    go_cut [] from 17 to 115 (fun wc => Aside0 (Below w.heap.size w wc ∧ wc.heap[w.heap.size]? = some (.cells #[.int .u64 a, .int .u64 b, .slice A2 d.length c2, .slice A3 k.length c3] 55 (0, 0))))
    case first =>
      by_cases hg : g = 0
      · have Q := Aside0.mk (HC.out hg)
        subst hg
        clear HC
        go_wp2_with fail
        refine (through.calls A8 c8 b' _ T.out.2.2.1 T.out.2.2.2 (Nat.le_trans Q.out.len (by decide)) Q.out.size).mono ?_
        rintro e w7 ⟨v7, rfl, hR7, hb7⟩
        obtain ⟨A9, c9, rfl, hl9, hC9⟩ := Kd.R_reads hR7
        have T7 := Aside0.mk (show (Below w.heap.size w w7 ∧ w7.heap[w.heap.size]? = some (.cells #[.int .u64 a, .int .u64 b, .slice A2 d.length c2, .slice A3 k.length c3] 55 (0, 0))) ∧ Kd.C Kd.string w7 A9 b'.length b' ∧ b'.length ≤ c9 from
          ⟨⟨T.out.1.trans (hb7.mono T.out.1.size), (hb7.block _ (Array.getElem?_eq_some_iff.1 T.out.2.1).1).trans T.out.2.1⟩, hC9, hl9⟩)
        clear hR7 hl9 hC9 hb7 T
        go_wp2_with fail
        refine (C.cps_Decode.calls A9 c9 b' ct 0 _ T7.out.2.1 T7.out.2.2 Q.out.dec).mono ?_
        rintro e w8 ⟨v8, rfl, hR8, hb8⟩
        obtain ⟨A10, c10, rfl, hl10, hC10⟩ := Kd.R_reads hR8
        have T8 := Aside0.mk (show (Below w.heap.size w w8 ∧ w8.heap[w.heap.size]? = some (.cells #[.int .u64 a, .int .u64 b, .slice A2 d.length c2, .slice A3 k.length c3] 55 (0, 0))) ∧ Kd.C k110 w8 A10 ct.length ct ∧ ct.length ≤ c10 from
          ⟨⟨T7.out.1.1.trans (hb8.mono T7.out.1.1.size), (hb8.block _ (Array.getElem?_eq_some_iff.1 T7.out.1.2).1).trans T7.out.1.2⟩, hC10, hl10⟩)
        clear hR8 hl10 hC10 hb8 T7
        go_wp2_with fail
        refine (nautilusref09_Same.calls 100000 A10 c10 ct A1 c1 ct true _ T8.out.2.1 T8.out.2.2 (Kd.C_below I.out.2.2.1 T8.out.1.1) I.out.2.2.2 Q.out.same).mono ?_
        rintro e w9 ⟨rfl, hd9⟩
        have hb9 := hd9.below
        have Z := Aside0.mk (show Below w.heap.size w w9 ∧ w9.heap[w.heap.size]? = some (.cells #[.int .u64 a, .int .u64 b, .slice A2 d.length c2, .slice A3 k.length c3] 55 (0, 0)) from
          ⟨T8.out.1.1.trans (hb9.mono T8.out.1.1.size), (hb9.block _ (Array.getElem?_eq_some_iff.1 T8.out.1.2).1).trans T8.out.1.2⟩)
        clear hb9 hd9 T8
        go_wp2_with fail
        go_meet
        case rel => exact Z
      · have hg0 : (g == 0) = false := by simp [hg]
        have Z := Aside0.mk (And.intro T.out.1 T.out.2.1)
        clear hg T
        go_wp2_with fail
        go_meet
        case rel => exact Z
    case rest =>
      clear T
      have T := hcut
      clear hcut
      by_cases hh : h = 0
      · have Q := Aside0.mk (HR.out hh)
        subst hh
        clear HR
        go_wp2_with fail
        have b7 : Below w.heap.size w (wc.alloc (.cells #[.string s] 9)) := T.out.1.alloc T.out.1.size _
        have X7 := Aside0.mk (show Below w.heap.size w (wc.alloc (.cells #[.string s] 9)) ∧ (wc.alloc (.cells #[.string s] 9)).heap[w.heap.size]? = some (.cells #[.int .u64 a, .int .u64 b, .slice A2 d.length c2, .slice A3 k.length c3] 55 (0, 0)) from
          ⟨b7, (Below.heap_alloc _ _ _ (Array.getElem?_eq_some_iff.1 T.out.2).1).trans T.out.2⟩)
        clear b7 T
        refine (through.calls (some ⟨wc.heap.size, 0, none⟩) 1 [s] _ (one_C wc s) (Nat.le_refl _) (by simp) (fun j hj => ?_)).mono ?_
        · obtain rfl : j = 0 := by have : j < 1 := hj; omega
          exact Q.out.size
        rintro e w8 ⟨v8, rfl, hR8, hb8⟩
        obtain ⟨A9, c9, rfl, hl9, hC9⟩ := Kd.R_reads hR8
        obtain ⟨ad, rfl, h9⟩ := Kd.at_string hC9 0 (by decide) (by simp)
        have e9 : rdOf ByteArray.empty [s] 0 = s := rfl
        rw [e9] at h9
        have h9' : w8.cell? ad = some (.string s) := by
          have ea : ad.add 0 = ad := by unfold Addr.add; split <;> simp_all
          have := h9
          rw [show (0 : Int).toNat = 0 from rfl, ea] at this
          exact this
        clear h9
        have X8 := Aside0.mk (show Below w.heap.size w w8 ∧ w8.heap[w.heap.size]? = some (.cells #[.int .u64 a, .int .u64 b, .slice A2 d.length c2, .slice A3 k.length c3] 55 (0, 0)) from
          ⟨X7.out.1.trans (hb8.mono X7.out.1.size), (hb8.block _ (Array.getElem?_eq_some_iff.1 X7.out.2).1).trans X7.out.2⟩)
        clear hR8 hC9 hl9 hb8 e9 X7
        go_wp2_with fail
        refine (root_Decode.calls 200 s a b d k 0 _ Q.out.dec).mono ?_
        rintro e w9 ⟨v2, v3, rfl, hR2, hR3, hb9⟩
        obtain ⟨E2, f2, rfl, hl2, hC2⟩ := Kd.R_reads hR2
        obtain ⟨E3, f3, rfl, hl3, hC3⟩ := Kd.R_reads hR3
        have X9 := Aside0.mk (show Below w.heap.size w w9 ∧ w9.heap[w.heap.size]? = some (.cells #[.int .u64 a, .int .u64 b, .slice A2 d.length c2, .slice A3 k.length c3] 55 (0, 0)) from
          ⟨X8.out.1.trans (hb9.mono X8.out.1.size), (hb9.block _ (Array.getElem?_eq_some_iff.1 X8.out.2).1).trans X8.out.2⟩)
        have S9 := Aside0.mk (And.intro hC2 (And.intro hl2 (And.intro hC3 hl3)))
        clear hR2 hR3 hb9 hC2 hl2 hC3 hl3 X8 h9'
        have X10 := Aside0.mk (show Below w.heap.size w (w9.alloc (.cells #[.int .u64 a, .int .u64 b, .slice E2 d.length f2, .slice E3 k.length f3] 55)) ∧ (w9.alloc (.cells #[.int .u64 a, .int .u64 b, .slice E2 d.length f2, .slice E3 k.length f3] 55)).heap[w.heap.size]? = some (.cells #[.int .u64 a, .int .u64 b, .slice A2 d.length c2, .slice A3 k.length c3] 55 (0, 0)) from
          ⟨X9.out.1.alloc X9.out.1.size _, (Below.heap_alloc _ _ _ (Array.getElem?_eq_some_iff.1 X9.out.2).1).trans X9.out.2⟩)
        have S10 := Aside0.mk (And.intro (Kd.C_alloc S9.out.1 (.cells #[.int .u64 a, .int .u64 b, .slice E2 d.length f2, .slice E3 k.length f3] 55)) (And.intro S9.out.2.1 (And.intro (Kd.C_alloc S9.out.2.2.1 (.cells #[.int .u64 a, .int .u64 b, .slice E2 d.length f2, .slice E3 k.length f3] 55)) S9.out.2.2.2)))
        have r0 : (w9.alloc (.cells #[.int .u64 a, .int .u64 b, .slice E2 d.length f2, .slice E3 k.length f3] 55)).cell? ⟨w.heap.size, 0, none⟩ = some (.int .u64 a) := by rw [Lib.cell_of_heap X10.out.2]; rfl
        have r1 : (w9.alloc (.cells #[.int .u64 a, .int .u64 b, .slice E2 d.length f2, .slice E3 k.length f3] 55)).cell? ⟨w.heap.size, 1, none⟩ = some (.int .u64 b) := by rw [Lib.cell_of_heap X10.out.2]; rfl
        have r2' : (w9.alloc (.cells #[.int .u64 a, .int .u64 b, .slice E2 d.length f2, .slice E3 k.length f3] 55)).cell? ⟨w.heap.size, 2, none⟩ = some (.slice A2 d.length c2) := by rw [Lib.cell_of_heap X10.out.2]; rfl
        have r3 : (w9.alloc (.cells #[.int .u64 a, .int .u64 b, .slice E2 d.length f2, .slice E3 k.length f3] 55)).cell? ⟨w.heap.size, 3, none⟩ = some (.slice A3 k.length c3) := by rw [Lib.cell_of_heap X10.out.2]; rfl
        clear X9 S9
        go_wp2_with fail
        refine (nautilusref16_Same.calls 3000 a b E2 f2 d E3 f3 k a b A2 c2 d A3 c3 k true _ S10.out.1 S10.out.2.1 S10.out.2.2.1 S10.out.2.2.2 (Kd.C_below H.out.hd X10.out.1) H.out.hd2 (Kd.C_below H.out.hk X10.out.1) H.out.hk2 Q.out.same).mono ?_
        rintro e w11 ⟨rfl, hb11⟩
        have Z := Aside0.mk (X10.out.1.trans (hb11.mono X10.out.1.size))
        clear hb11 X10 S10 r0 r1 r2' r3
        go_wp2
        go_ret
        exact ⟨rfl, Z.out⟩
      · have hh0 : (h != 0) = true := by simp [hh]
        clear hh
        go_wp2
        go_ret
        exact ⟨rfl, T.out.1⟩
end Go.Proofs.Ythgefgjaihagoaa.Q
