/- nautiluslaw02.BagDoes: its walk. -/
import Derived.Test.YtkfcflflgecljaaHBagDoes
import Derived.Test.YtkfcflflgecljaaHBagShown
import Derived.Test.YtkfcflflgecljaaHBagShapeS
import Derived.Test.YtkfcflflgecljaaHBagShaped
set_option linter.unusedVariables false
set_option linter.unusedSimpArgs false
namespace Go.Proofs.Ytkfcflflgecljaa.H
open Go.RowKit Go.Proofs.YtkfcflflgecljaaW.PrintWords Go.Proofs.YtkfcflflgecljaaW.PrintLast
set_option maxRecDepth 100000
structure SOp where
  f0 : Int
  f1 : Int
  f2 : Int
  f3 : ByteArray
def zOp : SOp := ⟨(0 : Int), (0 : Int), (0 : Int), (⟨#[]⟩ : ByteArray)⟩
def kOp : Kd SOp := Kd.iso (Kd.pair (Kd.int .i64) (Kd.pair (Kd.int .i64) (Kd.pair (Kd.int .i64) Kd.string))) (fun x : SOp => (x.f0, x.f1, x.f2, x.f3))
theorem kOp_open {w : World} {x : SOp} {cs : List Value} (h : kOp.K w x cs) : cs = [.int .i64 x.f0, .int .i64 x.f1, .int .i64 x.f2, .string x.f3] := by
  obtain ⟨_, _, rfl, rfl, ⟨_, _, rfl, rfl, ⟨_, _, rfl, rfl, rfl⟩⟩⟩ := h
  exact rfl
theorem kOp_mk (w : World) (x : SOp)  : kOp.K w x [.int .i64 x.f0, .int .i64 x.f1, .int .i64 x.f2, .string x.f3] := ⟨[.int .i64 x.f0], [.int .i64 x.f1, .int .i64 x.f2, .string x.f3], rfl, rfl, ⟨[.int .i64 x.f1], [.int .i64 x.f2, .string x.f3], rfl, rfl, ⟨[.int .i64 x.f2], [.string x.f3], rfl, rfl, rfl⟩⟩⟩
def rdOp (xs : List SOp) (i : Int) : SOp := xs.getD i.toNat zOp
theorem atOp {w : World} {A : Option Addr} {n : Nat} {xs : List SOp} (h : Kd.C kOp w A n xs) (i : Int) (h0 : 0 ≤ i) (h1 : i < n) : ∃ ad , A = some ad ∧ w.cell? (ad.add (i.toNat * 4)) = some (.int .i64 (rdOp xs i).f0) ∧ w.cell? ⟨(ad.add (i.toNat * 4)).block, (ad.add (i.toNat * 4)).off + 1, none⟩ = some (.int .i64 (rdOp xs i).f1) ∧ w.cell? ⟨(ad.add (i.toNat * 4)).block, (ad.add (i.toNat * 4)).off + 2, none⟩ = some (.int .i64 (rdOp xs i).f2) ∧ w.cell? ⟨(ad.add (i.toNat * 4)).block, (ad.add (i.toNat * 4)).off + 3, none⟩ = some (.string (rdOp xs i).f3) := by
  obtain ⟨ad, c, e, _, hK, hc0⟩ := Kd.C_get h zOp i h0 h1
  have hc : ∀ j u, c[j]? = some u → w.cell? (ad.add (i.toNat * 4 + j)) = some u := hc0
  obtain rfl := kOp_open hK
  exact ⟨ad, e, hc 0 _ rfl, by rw [← add_field _ _ 1 (by omega)]; exact hc 1 _ rfl, by rw [← add_field _ _ 2 (by omega)]; exact hc 2 _ rfl, by rw [← add_field _ _ 3 (by omega)]; exact hc 3 _ rfl⟩
theorem script_w (n : Nat) (h : n < 300) : IntKind.i64.wrap ((n : Int) + 1) = (n : Int) + 1 := by rw [IntKind.wrap_i64]; omega
theorem script_wf {n : Int} (h : (Lit.int .i64 n).wf = true) : -9223372036854775808 ≤ n ∧ n < 9223372036854775808 := by
  simp [Lit.wf, IntKind.min, IntKind.max, IntKind.bits, IntKind.signed] at h; omega
set_option maxHeartbeats 8000000 in
theorem script.calls (A : Option Addr) (c : Nat) (l : List SOp) (w : World) (hC : Kd.C kOp w A l.length l) (hc : l.length ≤ c) (hwf : ∀ x ∈ l, (Lit.int .i64 x.f0).wf = true) :
    Calls Try.prog 6 #[.slice A l.length c] w (fun e w' => e = .returned (.bool true) ∧ Below w.heap.size w w') := by
  obtain ⟨base, hbase⟩ : ∃ base, w.heap.size = base := ⟨_, rfl⟩
  rw [hbase]
  have H1 := Aside0.mk (shown.calls base w w (Below.refl _ _) (by omega))
  obtain ⟨Q, hQ⟩ : ∃ Q : Ending → World → Prop, (fun (e : Ending) (w' : World) => e = .returned (.bool true) ∧ Below base w w') = Q := ⟨_, rfl⟩
  rw [hQ]
  have HQ := Aside0.mk hQ
  have HCL := Aside0.mk hC
  have HB := Aside0.mk hbase
  have HWF := Aside0.mk hwf
  have hu := Try.underlying45
  obtain ⟨n, hn⟩ : ∃ n, l.length = n := ⟨_, rfl⟩
  rw [hn]
  have HN := Aside0.mk hn
  clear hQ hbase hC hc hwf hn
  go_enter Try.func6, Try.ntmps6
  go_wp2_with fail
  refine H1.out.mono ?_
  rintro e w1 ⟨rfl, hb1, hs1⟩
  have HNW := Aside0.mk (znewS w1.heap.size w1 w1 (Below.refl _ _) (Nat.le_refl _))
  have B1 := Aside0.mk (And.intro hb1 hs1)
  clear H1 hb1 hs1
  go_wp2_with fail
  refine HNW.out.mono ?_
  rintro e w2 ⟨own, bb, rfl, F⟩
  have HF := Aside0.mk F
  clear F HNW
  go_wp2_with fail
  go_loopg [5, 6] (300 + 1) (fun gg s5 s6 wr => ∃ (j : Nat) (own : Own) (es : List EB), s6 = .int .i64 (j : Int) ∧ j + gg = 300 + 1 ∧ Aside0 (FreshS w1.heap.size w1 wr own bb es ∧ LisAt wr own bb s5 es ∧ es.length ≤ j))
  case atStart => exact ⟨0, own, [], rfl, by omega, ⟨HF.out, LisAt.nil _ _ _, Nat.le_refl _⟩⟩
  case round =>
    clear HF
    obtain ⟨j, own, es, rfl, hj, U⟩ := hrel
    have HBW := Aside0.mk (show Below base w wr from B1.out.1.trans (U.out.1.below.mono B1.out.2))
    by_cases hlt : j < n
    · by_cases h3 : j < 300
      · have hd : decide (j < n) = true := decide_eq_true hlt
        have hd' : decide ((j : Int) < (n : Int)) = true := decide_eq_true (by omega)
        have hd2 : decide (j < 300) = true := decide_eq_true h3
        have hd3 : decide ((j : Int) < 300) = true := decide_eq_true (by omega)
        have hjl : j < l.length := by rw [HN.out]; exact hlt
        obtain ⟨ad, e0, x0, x1, x2, x3⟩ := atOp (Kd.C_below HCL.out (by rw [HB.out]; exact HBW.out)) (j : Int) (by omega) (by omega)
        subst e0
        obtain ⟨x, hx⟩ : ∃ x, rdOp l (j : Int) = x := ⟨_, rfl⟩
        rw [hx, Int.toNat_natCast] at x0 x1 x2 x3
        have hxm : x ∈ l := by
          rw [← hx]; unfold rdOp
          rw [Int.toNat_natCast, List.getD_eq_getElem?_getD, List.getElem?_eq_getElem hjl]; exact List.getElem_mem hjl
        obtain ⟨w0_, w1_⟩ := script_wf (HWF.out x hxm)
        have HD := Aside0.mk (does.calls wr U.out.1 (by have := U.out.2.2; omega) _ U.out.2.1 x.f0 x.f1 x.f2 x.f3 w0_ w1_)
        have HEL := Aside0.mk U.out.2.2
        have hj0 : (0 : Int) ≤ (j : Int) := by omega
        have hj1 : (j : Int) < (n : Int) := by omega
        have ew := script_w j h3
        clear hjl hx hxm w0_ w1_ U HBW
        go_wp2_with fail
        refine HD.out.mono ?_
        rintro e w4 ⟨own4, v4, es4, rfl, F4, L4, hl4⟩
        obtain ⟨A4, c4, rfl, _, _⟩ := L4.reads
        have hle := toE_len es4
        have HLN := zlenS F4
        obtain ⟨n4, hn4⟩ : ∃ n4, es4.length = n4 := ⟨_, rfl⟩
        rw [hn4] at hle hl4
        have hl5 : n4 ≤ 301 := by have := HEL.out; omega
        have HSH := Aside0.mk (zshapeS F4 (by rw [hn4]; omega))
        rw [hn4] at HLN
        have HLN := Aside0.mk HLN
        have HU4 := Aside0.mk (And.intro F4 (And.intro L4 (show es4.length ≤ j + 1 by rw [hn4]; have := HEL.out; omega)))
        have HN4 := Aside0.mk hn4
        have HLE := Aside0.mk hle
        have HL5 := Aside0.mk hl5
        rw [hle]
        clear F4 L4 hl4 hl5 hle hn4 HD x0 x1 x2 x3
        go_wp2_with fail
        refine HLN.out.mono ?_
        rintro e w' ⟨rfl, hw⟩; obtain rfl := hw.symm; clear hw HLN
        go_wp2_with fail
        refine HSH.out.mono ?_
        rintro e w5 ⟨rows, A5, c5, hgood, rfl, hc5, hC5, hb5⟩
        rw [HN4.out] at hgood
        obtain ⟨K5, hK5⟩ := shaped_good (by have := HL5.out; omega) hgood
        have HS5 := Aside0.mk (nautilusref02_Shaped.calls K5 A5 c5 rows (n4 : Int) true w5 hC5 hc5 hK5)
        have HU5 := Aside0.mk (And.intro (HU4.out.1.still hb5) (And.intro (HU4.out.2.1.still hb5) HU4.out.2.2))
        clear hgood hc5 hC5 hb5 HSH hK5
        go_wp2_with fail
        refine HS5.out.mono ?_
        rintro e w6 ⟨rfl, hdr⟩
        obtain ⟨qn, hqn⟩ := hdr.out
        have hb6 : Below w5.heap.size w5 w6 := by rw [hqn]; exact pw_below_drewN (Below.refl _ w5) qn
        have h6 : FreshS w1.heap.size w1 w6 own4 bb es4 ∧ LisAt w6 own4 bb (.slice A4 n4 c4) es4 ∧ es4.length ≤ j + 1 := by
          have hL := HU5.out.2.1.still hb6
          rw [HLE.out] at hL
          exact ⟨HU5.out.1.still hb6, hL, HU5.out.2.2⟩
        have HU6 := Aside0.mk h6
        clear hdr hqn hb6 HS5 HU5 h6
        go_wp2_with fail
        go_roundg (300 + 1 - (j + 1))
        case rel => exact ⟨j + 1, own4, es4, by first | rfl | (rw [ew]; rfl), by omega, HU6⟩
        case measure => omega
      · have hd : decide (j < n) = true := decide_eq_true hlt
        have hd' : decide ((j : Int) < (n : Int)) = true := decide_eq_true (by omega)
        have hd2 : decide (j < 300) = false := decide_eq_false h3
        have hd3 : decide ((j : Int) < 300) = false := decide_eq_false (by omega)
        clear U
        go_wp2_with fail
        first | exact HQ.out ▸ ⟨rfl, HBW.out⟩ | (go_ret; rw [← HQ.out]; exact ⟨rfl, HBW.out⟩)
    · have hd : decide (j < n) = false := decide_eq_false hlt
      have hd' : decide ((j : Int) < (n : Int)) = false := decide_eq_false (by omega)
      clear U
      go_wp2_with fail
      first | exact HQ.out ▸ ⟨rfl, HBW.out⟩ | (go_ret; rw [← HQ.out]; exact ⟨rfl, HBW.out⟩)
end Go.Proofs.Ytkfcflflgecljaa.H
