/- nautiluslaw02.filled: the list that stands there. -/
import Derived.Test.YtkfcflflgecljaaHBagZI
import Derived.Test.YtkfcflflgecljaaHBagO
import Derived.Deep.QuietTactic
import Derived.BigQuiet
set_option linter.unusedVariables false
set_option linter.unusedSimpArgs false
namespace Go.Proofs.Ytkfcflflgecljaa.H
open Go.RowKit Go.Proofs.YtkfcflflgecljaaW.PrintWords Go.Proofs.YtkfcflflgecljaaW.PrintLast
set_option maxRecDepth 100000
theorem FreshI.drewN {base bb : Nat} {w0 w : World} {own : Own} {es : List (Int × Int)} (h : FreshI base w0 w own bb es) (q : Nat) : FreshI base w0 (w.drewN q) own bb es := by
  obtain ⟨H, d, t, hB, he⟩ := h.is
  exact h.next ⟨H, d, t, ⟨hB.heap.drewN q, hB.ok, hB.nodup, hB.rise, hB.one, hB.len, hB.cell, hB.out⟩, he⟩ ((Fr.drewN own w q).toB bb)
theorem FreshI.drew {base bb : Nat} {w0 w : World} {own : Own} {es : List (Int × Int)} (h : FreshI base w0 w own bb es) : FreshI base w0 w.drew own bb es := h.drewN 1
theorem filled_w (j : Nat) (h : j < 200) : IntKind.i64.wrap ((j : Int) + 1) = (j : Int) + 1 := by
  rw [IntKind.wrap_i64]; omega
set_option maxHeartbeats 4000000 in
theorem filled.calls (A : Option Addr) (c : Nat) (l : List Int) (w : World) (hC : Kd.C (Kd.int .i64) w A l.length l) (hl : l.length ≤ 200) :
    Calls Try.prog 10 #[.slice A l.length c] w (fun e w' => ∃ own bb, e = .returned (.pointer (some ⟨bb, 0, none⟩)) ∧ FreshI w.heap.size w w' own bb (fill l [])) := by
  obtain ⟨base, hbase⟩ : ∃ base, w.heap.size = base := ⟨_, rfl⟩
  have HN := Aside0.mk (znewI base w w (Below.refl _ _) (by omega))
  have HC := Aside0.mk hC
  have HB := Aside0.mk hbase
  rw [hbase]
  clear hC hbase
  obtain ⟨Q, hQ⟩ : ∃ Q : Ending → World → Prop, (fun (e : Ending) (w' : World) => ∃ own bb, e = .returned (.pointer (some ⟨bb, 0, none⟩)) ∧ FreshI base w w' own bb (fill l [])) = Q := ⟨_, rfl⟩
  rw [hQ]
  have HQ := Aside0.mk hQ
  have HL := Aside0.mk hl
  clear hQ hl
  obtain ⟨n, hn⟩ : ∃ n, l.length = n := ⟨_, rfl⟩
  have HNN := Aside0.mk hn
  rw [hn]
  clear hn
  go_enter Try.func10, Try.ntmps10
  go_wp2_with fail
  refine HN.out.mono ?_
  rintro e w1 ⟨own1, bb, rfl, F1⟩
  have HF := Aside0.mk F1
  clear F1 HN
  go_wp2_with fail
  go_loopg [4] n (fun gg s4 wr => ∃ (j : Nat) (own : Own), s4 = .int .i64 j ∧ j + gg = n ∧ Aside0 (FreshI base w wr own bb (fill (l.take j) [])))
  case atStart => exact ⟨0, own1, rfl, by omega, HF⟩
  case round =>
    clear HF
    obtain ⟨j, own, rfl, hj, HF⟩ := hrel
    by_cases hlt : j < n
    · have hd : decide ((j : Int) < (n : Int)) = true := decide_eq_true (by omega)
      have hjl : j < l.length := by rw [HNN.out]; exact hlt
      obtain ⟨ad, e0, g0⟩ := Kd.at_int (Kd.C_below HC.out (by rw [HB.out]; exact HF.out.below)) (j : Int) (by omega) (by omega)
      subst e0
      rw [show rd l (j : Int) = l.getD j 0 by simp [rd], Int.toNat_natCast] at g0
      have hj0 : (0 : Int) ≤ (j : Int) := by omega
      have hj1 : (j : Int) < (n : Int) := by omega
      have ew := filled_w j (by have := HL.out; omega)
      have es := fill_take l j hjl
      have el : (fill (l.take j) []).length ≤ 200 := by have := fill_len (l.take j) [] List.Pairwise.nil; rw [List.length_take] at this; have := HL.out; simp at *; omega
      obtain ⟨x, hx⟩ : ∃ x, l.getD j 0 = x := ⟨_, rfl⟩
      rw [hx] at g0 es
      have HAD := Aside0.mk (show ∀ W, Below base w W → W.cell? (ad.add j) = some (.int .i64 x) from fun W hb => by
        obtain ⟨ad', e', g'⟩ := Kd.at_int (Kd.C_below HC.out (by rw [HB.out]; exact hb)) (j : Int) hj0 (by rw [HNN.out]; exact hj1)
        injection e' with e'
        subst e'
        rw [show rd l (j : Int) = l.getD j 0 by simp [rd], Int.toNat_natCast, hx] at g'
        exact g')
      have HES := Aside0.mk es
      have HEL := Aside0.mk el
      clear hjl es el hx
      go_wp2_with fail
      refine startL (fun W => W.cell? (ad.add j) = some (.int .i64 x)) [] (by kernel_rfl) ?_
      change WalkL _ _ _ _ _ _ 10 #[false, false, false, false, false, false, false, false, false, false] _ _
      have hS : wr.drew.cell? (ad.add j) = some (.int .i64 x) := g0
      refine pu 0 (.pointer (some ⟨bb, 0, none⟩)) hS rfl ?_
      refine pu 1 (.slice (some ad) n c) hS rfl ?_
      refine pu 2 (.int .i64 (j : Int)) hS rfl ?_
      refine pu 3 (.pointer (some (ad.add j))) hS rfl ?_
      refine ld 4 (.int .i64 x) hS rfl ?_
      refine pu 5 (.slice (some ad) n c) hS rfl ?_
      refine pu 6 (.int .i64 (j : Int)) hS rfl ?_
      refine pu 7 (.pointer (some (ad.add j))) hS rfl ?_
      refine ld 8 (.int .i64 x) hS rfl ?_
      refine co 9 21 13 #[.pointer (some ⟨bb, 0, none⟩), .int .i64 x, .int .i64 x] (zputI (HF.out.drew) (by have := HEL.out; omega) x x) (by kernel_rfl) rfl ?_
      rintro e w3 ⟨own3, rfl, F3⟩
      rw [← HES.out] at F3
      refine ⟨_, rfl, HAD.out w3 F3.below, ?_⟩
      have HF3 := Aside0.mk F3
      clear F3 HES HEL HF g0 hS HAD
      refine doneL (by kernel_rfl) ?_ _
      go_wp2_with fail
      go_roundg (n - (j + 1))
      case rel => exact ⟨j + 1, own3, by first | rfl | (rw [ew]; rfl), by omega, HF3⟩
      case measure => omega
    · have hd : decide (j < n) = false := decide_eq_false (by omega)
      have hjn : j = l.length := by have := HNN.out; omega
      have hq : Q (.returned (.pointer (some ⟨bb, 0, none⟩))) wr := by
        rw [← HQ.out]
        have h := HF.out
        rw [hjn, List.take_length] at h
        exact ⟨own, bb, rfl, h⟩
      have HQ2 := Aside0.mk hq
      clear hq hjn HF hlt hj
      go_wp2_with fail
      first | exact HQ2.out | (go_ret; exact HQ2.out)
/-! ### What is cut to two hundred. -/
theorem min2_i (k k' : IntKind) (x y : Int) : Builtin.min2 (.int k x) (.int k' y) = pure (.int k (if y < x then y else x)) := by simp only [Builtin.min2]
theorem min_2 (ats : Array TypeId) (ty : TypeId) (a b : Value) : Builtin.min_ ats ty #[a, b] = (Builtin.min2 a b >>= fun s => pure s) := by simp only [Builtin.min_, List.foldlM_cons, List.foldlM_nil]
theorem infoI : (Try.prog.info? 2).map (fun i => (i.zero, i.size, i.bytes)) = some (some (.int .i64 0), 1, 8) := by kernel_rfl
theorem zgetIv {base bb : Nat} {w0 w : World} {own : Own} {es : List (Int × Int)} (h : FreshI base w0 w own bb es) (at_ : Int) (v : Int) (b : Bool) (hv : (getL at_ es).getD 0 = v) (hb : (getL at_ es).isSome = b) :
    Calls Try.prog 12 #[.pointer (some ⟨bb, 0, none⟩), .int .i64 at_] w (fun e w' => e = .returned (.tuple #[.int .i64 v, .bool b]) ∧ w' = w) := by
  subst hv
  subst hb
  refine (zgetI h at_).mono ?_
  rintro e w' ⟨rfl, rfl⟩
  refine ⟨?_, rfl⟩
  cases getL at_ es <;> rfl
/-- What is cut to two hundred. -/
def cut200 (l : List Int) : List Int := l.take (min l.length 200)
theorem cut200_len (l : List Int) : (cut200 l).length ≤ 200 := by unfold cut200; rw [List.length_take]; omega
theorem cut200_run (A : Option Addr) (l : List Int) (c : Nat) (hc : l.length ≤ c) (m : Int) (hm : (if (200 : Int) < (l.length : Int) then (200 : Int) else (l.length : Int)) = m) :
    ∀ W : World, (Instr.slice 22 (.slice A l.length c) none (some (.int .i64 m)) none).run Try.prog W = .ok (.slice A (cut200 l).length c) W := by
  obtain ⟨i0, hi, hz0, hz1, hz2⟩ := info_parts infoI
  have hll : m = ((cut200 l).length : Int) := by rw [← hm]; unfold cut200; rw [List.length_take]; split <;> omega
  have h := cut_to (P := Try.prog) 22 2 .i64 Try.underlying22 hi A l.length c m (by omega) (by rw [← hm]; split <;> omega) hc
  rw [hll] at h ⊢
  rw [Int.toNat_natCast] at h
  exact h
theorem one_w (n : Nat) (h : n ≤ 200) : IntKind.i64.wrap ((n : Int) + 1) = (n : Int) + 1 := by
  rw [IntKind.wrap_i64]; omega
end Go.Proofs.Ytkfcflflgecljaa.H
