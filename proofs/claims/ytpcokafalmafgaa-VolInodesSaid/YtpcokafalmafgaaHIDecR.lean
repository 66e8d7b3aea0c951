/- A region that draws, operation by operation: what is pure is taken first; a load, an allocation, a store or a call that comes up. -/
import Derived.Test.YtpcokafalmafgaaHMake
import Derived.RegionTactic
import Derived.Test.YtpcokafalmafgaaQ11
import Derived.Test.YtpcokafalmafgaaHIDec
import Derived.Test.YtpcokafalmafgaaHIEncR
set_option linter.unusedVariables false
namespace Go.Proofs.Ytpcokafalmafgaa.H
open Go.RowKit
variable {P : Program} {ops : Array Oper} {Q : Exit → Act → World → Prop} {md : Region.Mode}
/-- An operation of a region that draws is taken first: it yields its value in whatever world. -/
theorem take0 (i : Nat) {oi : Oper} {v : Value} {fuel : Nat} {listed l' : Array Bool} {a a' : Act} {w : World} (hi : ops[i]? = some oi) (hs : Region.noSelect ops = true)
  (hf : Region.free md ops listed i = true) (hr : (Region.ready md ops listed).contains i = true) (hQ : ∀ c a w, Q (.panic c) (a.put oi.dst v) w → Q (.panic c) a w)
  (hw : Region.wanted oi (yielded ops a.tmps) = true) (hv : ∀ w, (execOp a.eval oi).run P w = .ok (.value v) w) (ha : a.put oi.dst v = a') (hl : listed.setIfInBounds i true = l')
  (h : wpAny P md ops Q fuel l' a' w) : wpAny P md ops Q (fuel + 1) listed a w :=
 wpAny_take hi hs hf hr hQ (.inl ⟨hw, hv⟩) (ha ▸ hl ▸ h)
/-- One that comes up: it leaves its value, in a world that may be another one. -/
theorem ready0 (i : Nat) {oi : Oper} {v : Value} {fuel : Nat} {listed l' : Array Bool} {a a' : Act} {w w1 : World} {rs : List Nat} (hi : ops[i]? = some oi)
  (hw : Region.wanted oi (yielded ops a.tmps) = true) (hv : (execOp a.eval oi).run P w = .ok (.value v) w1) (ha : a.put oi.dst v = a') (hl : listed.setIfInBounds i true = l')
  (h : wpAny P md ops Q fuel l' a' w1) (hs : AllReady P md ops Q fuel listed a w rs) : AllReady P md ops Q fuel listed a w (i :: rs) := by
 refine AllReady.cons hi (fun K' hK => ?_) hs
 rw [if_pos hw]
 unfold Oper.wp
 rw [hv]
 exact hK _ _ (ha ▸ hl ▸ h)
/-- One that leaves no value. -/
theorem skip0 (i : Nat) {oi : Oper} {fuel : Nat} {listed l' : Array Bool} {a a' : Act} {w w1 : World} {rs : List Nat} (hi : ops[i]? = some oi)
  (hw : Region.wanted oi (yielded ops a.tmps) = true) (hv : (execOp a.eval oi).run P w = .ok .skip w1) (ha : a.put oi.dst undef = a') (hl : listed.setIfInBounds i true = l')
  (h : wpAny P md ops Q fuel l' a' w1) (hs : AllReady P md ops Q fuel listed a w rs) : AllReady P md ops Q fuel listed a w (i :: rs) := by
 refine AllReady.cons hi (fun K' hK => ?_) hs
 rw [if_pos hw]
 unfold Oper.wp
 rw [hv]
 exact hK _ _ (ha ▸ hl ▸ h)
/-- A call of a function that comes up. -/
theorem enter0 (i : Nat) (d : Tmp) {oi : Oper} {f : FuncId} {args : Array Value} {R : Ending → World → Prop} {fuel : Nat} {listed l' : Array Bool} {a : Act} {w : World} {rs : List Nat} (hi : ops[i]? = some oi) (hdst : oi.dst = some d)
  (hw : Region.wanted oi (yielded ops a.tmps) = true) (hv : (execOp a.eval oi).run P w = .ok (.enter f args) w) (hR : Calls P f args w R) (hl : listed.setIfInBounds i true = l')
  (h : ∀ e w', R e w' → ∃ v, e = .returned v ∧ ∃ a', a.put (some d) v = a' ∧ wpAny P md ops Q fuel l' a' w')
  (hs : AllReady P md ops Q fuel listed a w rs) : AllReady P md ops Q fuel listed a w (i :: rs) := by
 refine AllReady.cons hi (fun K' hK => ?_) hs
 rw [if_pos hw]
 unfold Oper.wp
 rw [hv]
 refine hR.mono ?_
 rintro e w' he
 obtain ⟨v, rfl, a', ha', h⟩ := h e w' he
 subst ha'
 subst hl
 rw [← hdst] at h
 exact hK _ _ h
/-- The goal under a name. -/
theorem named0 {fuel : Nat} {listed : Array Bool} {a : Act} {w : World} (h : ∀ G : Nat → Array Bool → Act → World → Prop, G = (fun fuel listed a w => wpAny P md ops Q fuel listed a w) → G fuel listed a w) : wpAny P md ops Q fuel listed a w := h _ rfl
end Go.Proofs.Ytpcokafalmafgaa.H

set_option linter.unusedVariables false
set_option linter.unusedSimpArgs false
namespace Go.Proofs.Ytpcokafalmafgaa.Q
open Go.RowKit Go.Shelf Go.Sort Go.Proofs.Ytpcokafalmafgaa.H Go.Proofs.YtpcokafalmafgaaW.PrintWords Go.Proofs.YtpcokafalmafgaaW.PrintLast Go.Proofs.YtpcokafalmafgaaW.PrintMore
set_option maxRecDepth 100000

def nautilusref10_Decode.f (b : ByteArray) : Option (Int × Int × Int × Int × Int × Int × Int × Int × Int × Int × Int × Int × Int) :=
 if b.size = 42 then (nautilusref10_Encode.f (inoN b 0) (inoN b 1) (inoN b 2) (inoN b 3) (inoN b 4) (inoN b 5) (inoN b 6) (inoN b 7) (inoN b 8) (inoN b 9) (inoN b 10) (inoN b 11)).bind fun e => if e.2 = 0 then (if e.1 = b then some (inoN b 0, inoN b 1, inoN b 2, inoN b 3, inoN b 4, inoN b 5, inoN b 6, inoN b 7, inoN b 8, inoN b 9, inoN b 10, inoN b 11, 0) else some (0, 0, 0, 0, 0, 0, 0, 0, 0, 0, 0, 0, 100)) else some (0, 0, 0, 0, 0, 0, 0, 0, 0, 0, 0, 0, 100)
 else some (0, 0, 0, 0, 0, 0, 0, 0, 0, 0, 0, 0, 100)
theorem takeR_calls (s : ByteArray) (at_ : Int) (wd : Int) (i : Nat) (w : World) (hv : P.valB s at_.toNat wd.toNat = inoN s i) (h1 : 1 ≤ wd) (h8 : wd ≤ 8) (hs : s.size = 42) (ha : 0 ≤ at_ ∧ at_ + wd ≤ 42) :
  Calls Try.prog 75 #[.string s, .int .i64 at_, .int .i64 wd] w fun e w' => e = .returned (.int .u64 (inoN s i)) ∧ Drawn0 w w' := by
 refine nautilusref10_take.calls 12 s at_ wd (inoN s i) w ?_
 unfold nautilusref10_take.f
 rw [P.refTake_f s at_ wd (by omega) (by omega) (by omega) 12 (by omega)]
 rw [show P.takeV s at_ wd = (P.valB s at_.toNat wd.toNat, 0) by unfold P.takeV; rw [if_pos (by omega)], hv]
 rfl
theorem byte_is (b : ByteArray) (i : Nat) (h : i < b.size) : ((b[i]'h).toNat : Int) = P.valB b i 1 := by
 simp [P.valB, bt, h]
theorem pn {w W W' : World} {H : Nat} {cs : Array Value} {t : TypeId} (hD : Drawn0 W W') (h : W.heap[H]? = some (.cells cs t (0, 0)) ∧ W.heap.size = H + 1 ∧ Below H w W) : W'.heap[H]? = some (.cells cs t (0, 0)) ∧ W'.heap.size = H + 1 ∧ Below H w W' := by
 have e := drawn_heap hD
 exact ⟨by rw [e]; exact h.1, by rw [e]; exact h.2.1, h.2.2.trans (hD.below.mono (by omega))⟩
theorem pa {w W W' : World} {H : Nat} {cs ds : Array Value} {t : TypeId} (hD : Drawn0 W W') (h : W.heap[H]? = some (.cells cs t (0, 0)) ∧ W.heap[H + 1]? = some (.cells ds t (0, 0)) ∧ Below H w W) : W'.heap[H]? = some (.cells cs t (0, 0)) ∧ W'.heap[H + 1]? = some (.cells ds t (0, 0)) ∧ Below H w W' := by
 have e := drawn_heap hD
 exact ⟨by rw [e]; exact h.1, by rw [e]; exact h.2.1, h.2.2.trans (hD.below.mono (by have := (Array.getElem?_eq_some_iff.1 h.1).1; omega))⟩
theorem pna {w W : World} {H : Nat} {cs ds : Array Value} {t : TypeId} (h : W.heap[H]? = some (.cells cs t (0, 0)) ∧ W.heap.size = H + 1 ∧ Below H w W) : (W.alloc (.cells ds t)).heap[H]? = some (.cells cs t (0, 0)) ∧ (W.alloc (.cells ds t)).heap[H + 1]? = some (.cells ds t (0, 0)) ∧ Below H w (W.alloc (.cells ds t)) := by
 obtain ⟨h1, h2, h3⟩ := h
 exact ⟨(Below.heap_alloc _ _ _ (by omega)).trans h1, by rw [← h2]; exact World.alloc_heap_new W _, h3.alloc (by omega) _⟩
set_option maxHeartbeats 8000000 in
theorem inoDR_yes (b : ByteArray) (eb : ByteArray) (ee : Int) (r : Array Value) (re : Int) (w : World) (hsz : b.size = 42) (henc : nautilusref10_Encode.f (inoN b 0) (inoN b 1) (inoN b 2) (inoN b 3) (inoN b 4) (inoN b 5) (inoN b 6) (inoN b 7) (inoN b 8) (inoN b 9) (inoN b 10) (inoN b 11) = some (eb, ee))
  (hr : (if ee = 0 then (if eb = b then (inoC (inoN b 0) (inoN b 1) (inoN b 2) (inoN b 3) (inoN b 4) (inoN b 5) (inoN b 6) (inoN b 7) (inoN b 8) (inoN b 9) (inoN b 10) (inoN b 11), (0 : Int)) else (#[.int .i64 0, .int .u16 0, .int .u16 0, .int .u32 0, .int .u64 0, .int .i64 0, .int .u32 0, .int .u32 0, .int .u32 0, .int .u32 0, .int .u32 0, .int .u32 0], 100)) else (#[.int .i64 0, .int .u16 0, .int .u16 0, .int .u32 0, .int .u64 0, .int .i64 0, .int .u32 0, .int .u32 0, .int .u32 0, .int .u32 0, .int .u32 0, .int .u32 0], 100)) = (r, re)) :
  Calls Try.prog 62 #[.string b] w fun e w' => e = .returned (.tuple #[.agg r, .int .i64 re]) ∧ Below w.heap.size w w' := by
 have hu := Try.underlying42
 have hs1 : ((b.size : Int) != 42) = false := by simp; omega
 have hs2 : (15 : Int) < (b.size : Int) := by omega
 have hs3 : (0 : Int) < (b.size : Int) := by omega
 have HE := Aside0.mk henc
 have HRR := Aside0.mk hr
 clear henc hr
 have HS := Aside0.mk hsz
 clear hsz
 go_enter Try.func62, Try.ntmps62
 go_wp2_with fail
 obtain ⟨H, hH⟩ : ∃ H, w.heap.size = H := ⟨_, rfl⟩
 rw [hH]
 have hB0 : Below H w (w.alloc (.cells #[.int .i64 0, .int .u16 0, .int .u16 0, .int .u32 0, .int .u64 0, .int .i64 0, .int .u32 0, .int .u32 0, .int .u32 0, .int .u32 0, .int .u32 0, .int .u32 0] 42)) := ((Below.refl H w).alloc (by omega) _)
 have hz0 : (w.alloc (.cells #[.int .i64 0, .int .u16 0, .int .u16 0, .int .u32 0, .int .u64 0, .int .i64 0, .int .u32 0, .int .u32 0, .int .u32 0, .int .u32 0, .int .u32 0, .int .u32 0] 42)).heap[H]? = some (.cells #[.int .i64 0, .int .u16 0, .int .u16 0, .int .u32 0, .int .u64 0, .int .i64 0, .int .u32 0, .int .u32 0, .int .u32 0, .int .u32 0, .int .u32 0, .int .u32 0] 42 (0, 0)) := by
  rw [← hH]; exact World.alloc_heap_new w _
 have hs0 : (w.alloc (.cells #[.int .i64 0, .int .u16 0, .int .u16 0, .int .u32 0, .int .u64 0, .int .i64 0, .int .u32 0, .int .u32 0, .int .u32 0, .int .u32 0, .int .u32 0, .int .u32 0] 42)).heap.size = H + 1 := by simp [hH]
 generalize w.alloc (.cells #[.int .i64 0, .int .u16 0, .int .u16 0, .int .u32 0, .int .u64 0, .int .i64 0, .int .u32 0, .int .u32 0, .int .u32 0, .int .u32 0, .int .u32 0, .int .u32 0] 42) = W0 at hB0 hz0 hs0 ⊢
 have q0 : wrap64 (inoN b 0) = inoN b 0 := by have := inoN_range b; exact IntWalk.wrap64_in _ (by omega)
 have q1 : IntKind.u16.wrap (inoN b 1) = inoN b 1 := by have := inoN_range b; exact IntWalk.u16_in _ (by omega)
 have q2 : IntKind.u16.wrap (inoN b 2) = inoN b 2 := by have := inoN_range b; exact IntWalk.u16_in _ (by omega)
 have q3 : IntKind.u32.wrap (inoN b 3) = inoN b 3 := by have := inoN_range b; exact IntWalk.u32_in _ (by omega)
 have q5 : wrap64 (inoN b 5) = inoN b 5 := by have := inoN_range b; exact IntWalk.wrap64_in _ (by omega)
 have tk1 : ∀ W : World, Calls Try.prog 75 #[.string b, .int .i64 1, .int .i64 2] W (fun e w' => e = .returned (.int .u64 (inoN b 1)) ∧ Drawn0 W w') := fun W => takeR_calls b 1 2 1 W rfl (by omega) (by omega) HS.out (by omega)
 have tk2 : ∀ W : World, Calls Try.prog 75 #[.string b, .int .i64 3, .int .i64 2] W (fun e w' => e = .returned (.int .u64 (inoN b 2)) ∧ Drawn0 W w') := fun W => takeR_calls b 3 2 2 W rfl (by omega) (by omega) HS.out (by omega)
 have tk3 : ∀ W : World, Calls Try.prog 75 #[.string b, .int .i64 5, .int .i64 4] W (fun e w' => e = .returned (.int .u64 (inoN b 3)) ∧ Drawn0 W w') := fun W => takeR_calls b 5 4 3 W rfl (by omega) (by omega) HS.out (by omega)
 have tk4 : ∀ W : World, Calls Try.prog 75 #[.string b, .int .i64 9, .int .i64 6] W (fun e w' => e = .returned (.int .u64 (inoN b 4)) ∧ Drawn0 W w') := fun W => takeR_calls b 9 6 4 W rfl (by omega) (by omega) HS.out (by omega)
 refine Code.wp_mono (Q := fun e a' W' => e = .normal ∧ a' = { tmps := #[.string b, undef, .pointer (some ⟨H, 0, none⟩), .int .i64 0, .pointer (some ⟨H + 1, 0, none⟩), undef, undef, undef, .string b, .int .i64 b.size, .bool false, undef, .string b, .int .u8 (inoN b 0), .int .i64 (inoN b 0), .string b, .int .u64 (inoN b 1), .int .u16 (inoN b 1), .string b, .int .u64 (inoN b 2), .int .u16 (inoN b 2), .string b, .int .u64 (inoN b 3), .int .u32 (inoN b 3), .string b, .int .u64 (inoN b 4), .string b, .int .u8 (inoN b 5), .int .i64 (inoN b 5), .agg #[.int .i64 (inoN b 0), .int .u16 (inoN b 1), .int .u16 (inoN b 2), .int .u32 (inoN b 3), .int .u64 (inoN b 4), .int .i64 (inoN b 5), .int .u32 0, .int .u32 0, .int .u32 0, .int .u32 0, .int .u32 0, .int .u32 0], undef, undef, undef, undef, undef, undef, undef, undef, undef, undef, undef, undef, undef, undef, undef, undef, undef, undef, undef, undef, undef, undef, undef, undef, undef, undef, undef], defers := [] } ∧ W'.heap[H]? = some (.cells #[.int .i64 0, .int .u16 0, .int .u16 0, .int .u32 0, .int .u64 0, .int .i64 0, .int .u32 0, .int .u32 0, .int .u32 0, .int .u32 0, .int .u32 0, .int .u32 0] 42 (0, 0)) ∧ W'.heap[H + 1]? = some (.cells (decC b 0) 42 (0, 0)) ∧ Below H w W') ?post ?_
 case post =>
  rintro e a' W7 ⟨rfl, rfl, hZ7, hG7, hB7⟩
  clear tk1 tk2 tk3 tk4 q0 q1 q2 q3 q5 hB0 hz0 hs0 hs1 hs2 hs3 W0
  go_wp2_with fail
  go_loopg [5] 7 (fun gg v5 w' => ∃ k : Nat, v5 = .int .i64 k ∧ 6 - k ≤ gg ∧ k ≤ 6 ∧ Aside0 (w'.heap[H]? = some (.cells #[.int .i64 0, .int .u16 0, .int .u16 0, .int .u32 0, .int .u64 0, .int .i64 0, .int .u32 0, .int .u32 0, .int .u32 0, .int .u32 0, .int .u32 0, .int .u32 0] 42 (0, 0))) ∧ Aside0 (w'.heap[H + 1]? = some (.cells (decC b k) 42 (0, 0))) ∧ Aside0 (Below H w w'))
  case atStart => exact ⟨0, rfl, by omega, by omega, ⟨hZ7⟩, ⟨hG7⟩, ⟨hB7⟩⟩
  case round =>
   obtain ⟨k, rfl, hg, hk, HZ, HG, HB⟩ := hrel
   clear hZ7 hG7 hB7
   by_cases hlt : k < 6
   ·have hltz : decide ((k : Int) < 6) = true := decide_eq_true (by omega)
    have hk0 : (0 : Int) ≤ (k : Int) := by omega
    have hk6 : (k : Int) < 6 := by omega
    go_wp2_with fail
    refine (show Calls Try.prog 75 #[.string b, .int .i64 (16 + 4 * (k : Int)), .int .i64 4] wr (fun e w' => e = .returned (.int .u64 (inoN b (6 + k))) ∧ Drawn0 wr w') from takeR_calls b (16 + 4 * (k : Int)) 4 (6 + k) wr (by rw [Nat.add_comm 6 k]; show P.valB b (16 + 4 * (k : Int)).toNat 4 = P.valB b (16 + 4 * k) 4; rw [show (16 + 4 * (k : Int)).toNat = 16 + 4 * k by omega]) (by omega) (by omega) HS.out (by omega)).mono ?_
    rintro e w8 ⟨rfl, hD8⟩
    have hh8 := drawn_heap hD8
    have HZ8 : Aside0 (w8.heap[H]? = some (.cells #[.int .i64 0, .int .u16 0, .int .u16 0, .int .u32 0, .int .u64 0, .int .i64 0, .int .u32 0, .int .u32 0, .int .u32 0, .int .u32 0, .int .u32 0, .int .u32 0] 42 (0, 0))) := ⟨by rw [hh8]; exact HZ.out⟩
    have HG8 : w8.heap[H + 1]? = some (.cells (decC b k) 42 (0, 0)) := by rw [hh8]; exact HG.out
    have HB8 : Aside0 (Below H w w8) := ⟨HB.out.trans (hD8.below.mono (by have := (Array.getElem?_eq_some_iff.1 HG.out).1; omega))⟩
    have hg8 := decC_cell HG8 hlt
    have hf8 := ino_free HG8 (6 + k)
    have hS8 := decC_set HG8 hlt
    have hub := inoN_map b k
    obtain ⟨u, hu6⟩ : ∃ u, inoN b (6 + k) = u := ⟨_, rfl⟩
    rw [hu6] at hS8 hub ⊢
    have eu : IntKind.u32.wrap u = u := IntWalk.u32_in u (by omega)
    have HS8 := Aside0.mk hS8
    clear hh8 hD8 HZ HG HB hS8 hub HG8 hu6
    go_wp2_with fail
    go_roundg (6 - (k + 1))
    case measure => omega
    case rel =>
     refine ⟨k + 1, rfl, by omega, by omega, ⟨?_⟩, HS8, ⟨HB8.out.setCell (p := ⟨H + 1, 6 + k, none⟩) (by show H ≤ H + 1; omega) _⟩⟩
     rw [Below.heap_setCell _ _ _ _ (by show H ≠ H + 1; omega)]; exact HZ8.out
   ·obtain rfl : k = 6 := by omega
    have hG := HG.out
    rw [decC_end] at hG
    have hB := HB.out
    have hZ := HZ.out
    have hlt6 : decide (((6 : Nat) : Int) < 6) = false := decide_eq_false (by omega)
    obtain ⟨g0, g1, g2, g3, g4, g5, g6, g7, g8, g9, g10, g11⟩ := ino_cells hG
    clear HG HB HZ hlt hg hk
    go_wp2_with fail
    refine (nautilusref10_Encode.calls _ _ _ _ _ _ _ _ _ _ _ _ _ _ wr HE.out).mono ?_
    rintro e w8 ⟨rfl, hb8⟩
    have hlt2 : H + 1 < wr.heap.size := (Array.getElem?_eq_some_iff.1 hG).1
    have hZ8 := (hb8.block H (by omega)).trans hZ
    have hG8 := (hb8.block (H + 1) (by omega)).trans hG
    have hB8 : Below H w w8 := hB.trans (hb8.mono (by omega))
    clear g0 g1 g2 g3 g4 g5 g6 g7 g8 g9 g10 g11 hb8 hB hZ hG hlt2
    have hrr := HRR.out
    by_cases he : ee = 0
    ·rw [if_pos he] at hrr
     have he1 : (ee != 0) = false := by simp [he]
     have HEE := Aside0.mk he
     clear he
     by_cases hb : eb = b
     ·rw [if_pos hb] at hrr
      have hbl : (eb.toList == b.toList) = true := by rw [hb]; simp
      simp only [Prod.mk.injEq] at hrr
      have HBB := Aside0.mk hb
      have HRE := Aside0.mk hrr
      clear hb hrr
      obtain ⟨g0, g1, g2, g3, g4, g5, g6, g7, g8, g9, g10, g11⟩ := ino_cells hG8
      obtain ⟨z0, z1, z2, z3, z4, z5, z6, z7, z8, z9, z10, z11⟩ := ino_cells hZ8
      have f0 := ino_free hZ8 0
      have f1 := ino_free hZ8 1
      have f2 := ino_free hZ8 2
      have f3 := ino_free hZ8 3
      have f4 := ino_free hZ8 4
      have f5 := ino_free hZ8 5
      have f6 := ino_free hZ8 6
      have f7 := ino_free hZ8 7
      have f8 := ino_free hZ8 8
      have f9 := ino_free hZ8 9
      have f10 := ino_free hZ8 10
      have f11 := ino_free hZ8 11
      go_wp2
      refine bodyPost_ret (results_ct rfl _ _ H 42 (inoC (inoN b 0) (inoN b 1) (inoN b 2) (inoN b 3) (inoN b 4) (inoN b 5) (inoN b 6) (inoN b 7) (inoN b 8) (inoN b 9) (inoN b 10) (inoN b 11)) (0, 0) _ rfl (set12_cells hZ8 _ _ _ _ _ _ _ _ _ _ _ _) Try.underlying42 rfl (by kernel_rfl)) rfl ?_
      exact ⟨by rw [← HRE.out.1, ← HRE.out.2]; rfl, by rw [hH]; exact set12_below hB8 (by omega) _ _ _ _ _ _ _ _ _ _ _ _⟩
     ·rw [if_neg hb] at hrr
      have hbl : (eb.toList == b.toList) = false := by
       rw [beq_eq_false_iff_ne]; intro h; rw [ByteArray.toList_eq, ByteArray.toList_eq] at h; exact hb (ByteArray.ext (Array.toList_inj.1 h))
      simp only [Prod.mk.injEq] at hrr
      have HRE := Aside0.mk hrr
      clear hb hrr
      obtain ⟨z0, z1, z2, z3, z4, z5, z6, z7, z8, z9, z10, z11⟩ := ino_cells hZ8
      have f0 := ino_free hZ8 0
      have f1 := ino_free hZ8 1
      have f2 := ino_free hZ8 2
      have f3 := ino_free hZ8 3
      have f4 := ino_free hZ8 4
      have f5 := ino_free hZ8 5
      have f6 := ino_free hZ8 6
      have f7 := ino_free hZ8 7
      have f8 := ino_free hZ8 8
      have f9 := ino_free hZ8 9
      have f10 := ino_free hZ8 10
      have f11 := ino_free hZ8 11
      go_wp2
      refine bodyPost_ret (results_ct rfl _ _ H 42 #[.int .i64 0, .int .u16 0, .int .u16 0, .int .u32 0, .int .u64 0, .int .i64 0, .int .u32 0, .int .u32 0, .int .u32 0, .int .u32 0, .int .u32 0, .int .u32 0] (0, 0) _ rfl (set12_cells hZ8 _ _ _ _ _ _ _ _ _ _ _ _) Try.underlying42 rfl (by kernel_rfl)) rfl ?_
      exact ⟨by rw [← HRE.out.1, ← HRE.out.2]; rfl, by rw [hH]; exact set12_below hB8 (by omega) _ _ _ _ _ _ _ _ _ _ _ _⟩
    ·rw [if_neg he] at hrr
     have he1 : (ee != 0) = true := by simp [he]
     simp only [Prod.mk.injEq] at hrr
     have HRE := Aside0.mk hrr
     clear he hrr
     obtain ⟨z0, z1, z2, z3, z4, z5, z6, z7, z8, z9, z10, z11⟩ := ino_cells hZ8
     have f0 := ino_free hZ8 0
     have f1 := ino_free hZ8 1
     have f2 := ino_free hZ8 2
     have f3 := ino_free hZ8 3
     have f4 := ino_free hZ8 4
     have f5 := ino_free hZ8 5
     have f6 := ino_free hZ8 6
     have f7 := ino_free hZ8 7
     have f8 := ino_free hZ8 8
     have f9 := ino_free hZ8 9
     have f10 := ino_free hZ8 10
     have f11 := ino_free hZ8 11
     go_wp2
     refine bodyPost_ret (results_ct rfl _ _ H 42 #[.int .i64 0, .int .u16 0, .int .u16 0, .int .u32 0, .int .u64 0, .int .i64 0, .int .u32 0, .int .u32 0, .int .u32 0, .int .u32 0, .int .u32 0, .int .u32 0] (0, 0) _ rfl (set12_cells hZ8 _ _ _ _ _ _ _ _ _ _ _ _) Try.underlying42 rfl (by kernel_rfl)) rfl ?_
     exact ⟨by rw [← HRE.out.1, ← HRE.out.2]; rfl, by rw [hH]; exact set12_below hB8 (by omega) _ _ _ _ _ _ _ _ _ _ _ _⟩
 refine wp_region_any (by kernel_rfl) ?_
 have hPN : W0.drew.heap[H]? = some (.cells #[.int .i64 0, .int .u16 0, .int .u16 0, .int .u32 0, .int .u64 0, .int .i64 0, .int .u32 0, .int .u32 0, .int .u32 0, .int .u32 0, .int .u32 0, .int .u32 0] 42 (0, 0)) ∧ W0.drew.heap.size = H + 1 ∧ Below H w W0.drew := ⟨hz0, hs0, pw_below_drewN hB0 1⟩
 change wpAny _ _ _ _ 20 #[false, false, false, false, false, false, false, false, false, false, false, false, false, false, false, false, false, false, false, false] _ W0.drew
 generalize W0.drew = W1 at hPN ⊢
 refine take0 0 (l' := #[true, false, false, false, false, false, false, false, false, false, false, false, false, false, false, false, false, false, false, false]) (v := .string b) rfl (by kernel_rfl) (by kernel_rfl) (by kernel_rfl) (fun _ _ _ h => by cases h.1) (by kernel_rfl) (fun w => by go_simp) (by show Act.put _ (some 12) _ = _; simp only [Act.put, List.setIfInBounds_toArray, List.set_cons_zero, List.set_cons_succ]; try rfl) (by kernel_rfl) ?_
 refine take0 3 (l' := #[true, false, false, true, false, false, false, false, false, false, false, false, false, false, false, false, false, false, false, false]) (v := .string b) rfl (by kernel_rfl) (by kernel_rfl) (by kernel_rfl) (fun _ _ _ h => by cases h.1) (by kernel_rfl) (fun w => by go_simp) (by show Act.put _ (some 15) _ = _; simp only [Act.put, List.setIfInBounds_toArray, List.set_cons_zero, List.set_cons_succ]; try rfl) (by kernel_rfl) ?_
 refine take0 6 (l' := #[true, false, false, true, false, false, true, false, false, false, false, false, false, false, false, false, false, false, false, false]) (v := .string b) rfl (by kernel_rfl) (by kernel_rfl) (by kernel_rfl) (fun _ _ _ h => by cases h.1) (by kernel_rfl) (fun w => by go_simp) (by show Act.put _ (some 18) _ = _; simp only [Act.put, List.setIfInBounds_toArray, List.set_cons_zero, List.set_cons_succ]; try rfl) (by kernel_rfl) ?_
 refine take0 9 (l' := #[true, false, false, true, false, false, true, false, false, true, false, false, false, false, false, false, false, false, false, false]) (v := .string b) rfl (by kernel_rfl) (by kernel_rfl) (by kernel_rfl) (fun _ _ _ h => by cases h.1) (by kernel_rfl) (fun w => by go_simp) (by show Act.put _ (some 21) _ = _; simp only [Act.put, List.setIfInBounds_toArray, List.set_cons_zero, List.set_cons_succ]; try rfl) (by kernel_rfl) ?_
 refine take0 12 (l' := #[true, false, false, true, false, false, true, false, false, true, false, false, true, false, false, false, false, false, false, false]) (v := .string b) rfl (by kernel_rfl) (by kernel_rfl) (by kernel_rfl) (fun _ _ _ h => by cases h.1) (by kernel_rfl) (fun w => by go_simp) (by show Act.put _ (some 24) _ = _; simp only [Act.put, List.setIfInBounds_toArray, List.set_cons_zero, List.set_cons_succ]; try rfl) (by kernel_rfl) ?_
 refine take0 14 (l' := #[true, false, false, true, false, false, true, false, false, true, false, false, true, false, true, false, false, false, false, false]) (v := .string b) rfl (by kernel_rfl) (by kernel_rfl) (by kernel_rfl) (fun _ _ _ h => by cases h.1) (by kernel_rfl) (fun w => by go_simp) (by show Act.put _ (some 26) _ = _; simp only [Act.put, List.setIfInBounds_toArray, List.set_cons_zero, List.set_cons_succ]; try rfl) (by kernel_rfl) ?_
 refine take0 1 (l' := #[true, true, false, true, false, false, true, false, false, true, false, false, true, false, true, false, false, false, false, false]) (v := .int .u8 (inoN b 0)) rfl (by kernel_rfl) (by kernel_rfl) (by kernel_rfl) (fun _ _ _ h => by cases h.1) (by kernel_rfl) (fun w => by go_simp; first | exact byte_is b 0 (by have := HS.out; omega) | (rw [dif_pos (by have := HS.out; omega)]; simp only [Result.andThen_ok]; rw [byte_is b 0 (by have := HS.out; omega)]; rfl)) (by show Act.put _ (some 13) _ = _; simp only [Act.put, List.setIfInBounds_toArray, List.set_cons_zero, List.set_cons_succ]; try rfl) (by kernel_rfl) ?_
 refine take0 15 (l' := #[true, true, false, true, false, false, true, false, false, true, false, false, true, false, true, true, false, false, false, false]) (v := .int .u8 (inoN b 5)) rfl (by kernel_rfl) (by kernel_rfl) (by kernel_rfl) (fun _ _ _ h => by cases h.1) (by kernel_rfl) (fun w => by go_simp; first | exact byte_is b 15 (by have := HS.out; omega) | (rw [dif_pos (by have := HS.out; omega)]; simp only [Result.andThen_ok]; rw [byte_is b 15 (by have := HS.out; omega)]; rfl)) (by show Act.put _ (some 27) _ = _; simp only [Act.put, List.setIfInBounds_toArray, List.set_cons_zero, List.set_cons_succ]; try rfl) (by kernel_rfl) ?_
 refine take0 2 (l' := #[true, true, true, true, false, false, true, false, false, true, false, false, true, false, true, true, false, false, false, false]) (v := .int .i64 (inoN b 0)) rfl (by kernel_rfl) (by kernel_rfl) (by kernel_rfl) (fun _ _ _ h => by cases h.1) (by kernel_rfl) (fun w => by go_simp; exact IntWalk.i64_in _ (by have := inoN_range b; omega)) (by show Act.put _ (some 14) _ = _; simp only [Act.put, List.setIfInBounds_toArray, List.set_cons_zero, List.set_cons_succ]; try rfl) (by kernel_rfl) ?_
 refine take0 16 (l' := #[true, true, true, true, false, false, true, false, false, true, false, false, true, false, true, true, true, false, false, false]) (v := .int .i64 (inoN b 5)) rfl (by kernel_rfl) (by kernel_rfl) (by kernel_rfl) (fun _ _ _ h => by cases h.1) (by kernel_rfl) (fun w => by go_simp; exact IntWalk.i64_in _ (by have := inoN_range b; omega)) (by show Act.put _ (some 28) _ = _; simp only [Act.put, List.setIfInBounds_toArray, List.set_cons_zero, List.set_cons_succ]; try rfl) (by kernel_rfl) ?_
 refine named0 (fun G hG => ?_)
 have LA4 : ∀ W : World, (W.heap[H]? = some (.cells #[.int .i64 0, .int .u16 0, .int .u16 0, .int .u32 0, .int .u64 0, .int .i64 0, .int .u32 0, .int .u32 0, .int .u32 0, .int .u32 0, .int .u32 0, .int .u32 0] 42 (0, 0)) ∧ W.heap[H + 1]? = some (.cells #[.int .i64 0, .int .u16 0, .int .u16 0, .int .u32 0, .int .u64 0, .int .i64 0, .int .u32 0, .int .u32 0, .int .u32 0, .int .u32 0, .int .u32 0, .int .u32 0] 42 (0, 0)) ∧ Below H w W) → G 1 #[true, true, true, true, true, true, true, true, true, true, true, true, true, true, true, true, true, true, true, false] { tmps := #[.string b, undef, .pointer (some ⟨H, 0, none⟩), .int .i64 0, .pointer (some ⟨H + 1, 0, none⟩), undef, undef, undef, .string b, .int .i64 b.size, .bool false, undef, .string b, .int .u8 (inoN b 0), .int .i64 (inoN b 0), .string b, .int .u64 (inoN b 1), .int .u16 (inoN b 1), .string b, .int .u64 (inoN b 2), .int .u16 (inoN b 2), .string b, .int .u64 (inoN b 3), .int .u32 (inoN b 3), .string b, .int .u64 (inoN b 4), .string b, .int .u8 (inoN b 5), .int .i64 (inoN b 5), .agg #[.int .i64 (inoN b 0), .int .u16 (inoN b 1), .int .u16 (inoN b 2), .int .u32 (inoN b 3), .int .u64 (inoN b 4), .int .i64 (inoN b 5), .int .u32 0, .int .u32 0, .int .u32 0, .int .u32 0, .int .u32 0, .int .u32 0], undef, undef, undef, undef, undef, undef, undef, undef, undef, undef, undef, undef, undef, undef, undef, undef, undef, undef, undef, undef, undef, undef, undef, undef, undef, undef, undef], defers := [] } W := by
  intro W hW
  obtain ⟨hz, ha, hB⟩ := hW
  obtain ⟨z0, z1, z2, z3, z4, z5, z6, z7, z8, z9, z10, z11⟩ := ino_cells ha
  have f0 := ino_free ha 0
  have f1 := ino_free ha 1
  have f2 := ino_free ha 2
  have f3 := ino_free ha 3
  have f4 := ino_free ha 4
  have f5 := ino_free ha 5
  have f6 := ino_free ha 6
  have f7 := ino_free ha 7
  have f8 := ino_free ha 8
  have f9 := ino_free ha 9
  have f10 := ino_free ha 10
  have f11 := ino_free ha 11
  rw [hG]
  refine wpAny_ready (rs := [19]) (by kernel_rfl) (by decide) (skip0 19 (l' := #[true, true, true, true, true, true, true, true, true, true, true, true, true, true, true, true, true, true, true, true]) (w1 := set12 W (H + 1) (.int .i64 (inoN b 0)) (.int .u16 (inoN b 1)) (.int .u16 (inoN b 2)) (.int .u32 (inoN b 3)) (.int .u64 (inoN b 4)) (.int .i64 (inoN b 5)) (.int .u32 0) (.int .u32 0) (.int .u32 0) (.int .u32 0) (.int .u32 0) (.int .u32 0)) rfl (by kernel_rfl) (by go_simp; first | done | rfl) (by rfl) (by kernel_rfl) ?_ AllReady.nil)
  refine wpAny_done (by kernel_rfl) ⟨rfl, rfl, ?_, set12_cells ha _ _ _ _ _ _ _ _ _ _ _ _, set12_below hB (by omega) _ _ _ _ _ _ _ _ _ _ _ _⟩ _
  rw [set12_other _ _ _ (by omega)]; exact hz
 have LA3 : ∀ W : World, (W.heap[H]? = some (.cells #[.int .i64 0, .int .u16 0, .int .u16 0, .int .u32 0, .int .u64 0, .int .i64 0, .int .u32 0, .int .u32 0, .int .u32 0, .int .u32 0, .int .u32 0, .int .u32 0] 42 (0, 0)) ∧ W.heap[H + 1]? = some (.cells #[.int .i64 0, .int .u16 0, .int .u16 0, .int .u32 0, .int .u64 0, .int .i64 0, .int .u32 0, .int .u32 0, .int .u32 0, .int .u32 0, .int .u32 0, .int .u32 0] 42 (0, 0)) ∧ Below H w W) → G 3 #[true, true, true, true, true, true, true, true, true, true, true, true, true, false, true, true, true, false, true, false] { tmps := #[.string b, undef, .pointer (some ⟨H, 0, none⟩), .int .i64 0, .pointer (some ⟨H + 1, 0, none⟩), undef, undef, undef, .string b, .int .i64 b.size, .bool false, undef, .string b, .int .u8 (inoN b 0), .int .i64 (inoN b 0), .string b, .int .u64 (inoN b 1), .int .u16 (inoN b 1), .string b, .int .u64 (inoN b 2), .int .u16 (inoN b 2), .string b, .int .u64 (inoN b 3), .int .u32 (inoN b 3), .string b, undef, .string b, .int .u8 (inoN b 5), .int .i64 (inoN b 5), undef, undef, undef, undef, undef, undef, undef, undef, undef, undef, undef, undef, undef, undef, undef, undef, undef, undef, undef, undef, undef, undef, undef, undef, undef, undef, undef, undef], defers := [] } W := by
  intro W hW
  rw [hG]
  refine wpAny_ready (rs := [13]) (by kernel_rfl) (by decide) (enter0 13 25 (l' := #[true, true, true, true, true, true, true, true, true, true, true, true, true, true, true, true, true, false, true, false]) (f := 75) (args := #[.string b, .int .i64 9, .int .i64 6]) rfl rfl (by kernel_rfl) (by go_simp) (tk4 _) (by kernel_rfl) ?_ AllReady.nil)
  rintro e W2 ⟨rfl, hD⟩
  refine ⟨_, rfl, _, (by show Act.put _ (some 25) _ = _; simp only [Act.put, List.setIfInBounds_toArray, List.set_cons_zero, List.set_cons_succ]; try rfl), ?_⟩
  refine take0 17 (l' := #[true, true, true, true, true, true, true, true, true, true, true, true, true, true, true, true, true, true, true, false]) (v := .agg #[.int .i64 (inoN b 0), .int .u16 (inoN b 1), .int .u16 (inoN b 2), .int .u32 (inoN b 3), .int .u64 (inoN b 4), .int .i64 (inoN b 5), .int .u32 0, .int .u32 0, .int .u32 0, .int .u32 0, .int .u32 0, .int .u32 0]) rfl (by kernel_rfl) (by kernel_rfl) (by kernel_rfl) (fun _ _ _ h => by cases h.1) (by kernel_rfl) (fun w => by go_simp) (by show Act.put _ (some 29) _ = _; simp only [Act.put, List.setIfInBounds_toArray, List.set_cons_zero, List.set_cons_succ]; try rfl) (by kernel_rfl) ?_
  have := LA4 W2 (pa hD hW)
  rw [hG] at this
  exact this
 have LA2 : ∀ W : World, (W.heap[H]? = some (.cells #[.int .i64 0, .int .u16 0, .int .u16 0, .int .u32 0, .int .u64 0, .int .i64 0, .int .u32 0, .int .u32 0, .int .u32 0, .int .u32 0, .int .u32 0, .int .u32 0] 42 (0, 0)) ∧ W.heap[H + 1]? = some (.cells #[.int .i64 0, .int .u16 0, .int .u16 0, .int .u32 0, .int .u64 0, .int .i64 0, .int .u32 0, .int .u32 0, .int .u32 0, .int .u32 0, .int .u32 0, .int .u32 0] 42 (0, 0)) ∧ Below H w W) → G 5 #[true, true, true, true, true, true, true, true, true, true, false, false, true, false, true, true, true, false, true, false] { tmps := #[.string b, undef, .pointer (some ⟨H, 0, none⟩), .int .i64 0, .pointer (some ⟨H + 1, 0, none⟩), undef, undef, undef, .string b, .int .i64 b.size, .bool false, undef, .string b, .int .u8 (inoN b 0), .int .i64 (inoN b 0), .string b, .int .u64 (inoN b 1), .int .u16 (inoN b 1), .string b, .int .u64 (inoN b 2), .int .u16 (inoN b 2), .string b, undef, undef, .string b, undef, .string b, .int .u8 (inoN b 5), .int .i64 (inoN b 5), undef, undef, undef, undef, undef, undef, undef, undef, undef, undef, undef, undef, undef, undef, undef, undef, undef, undef, undef, undef, undef, undef, undef, undef, undef, undef, undef, undef], defers := [] } W := by
  intro W hW
  rw [hG]
  refine wpAny_ready (rs := [10]) (by kernel_rfl) (by decide) (enter0 10 22 (l' := #[true, true, true, true, true, true, true, true, true, true, true, false, true, false, true, true, true, false, true, false]) (f := 75) (args := #[.string b, .int .i64 5, .int .i64 4]) rfl rfl (by kernel_rfl) (by go_simp) (tk3 _) (by kernel_rfl) ?_ AllReady.nil)
  rintro e W2 ⟨rfl, hD⟩
  refine ⟨_, rfl, _, (by show Act.put _ (some 22) _ = _; simp only [Act.put, List.setIfInBounds_toArray, List.set_cons_zero, List.set_cons_succ]; try rfl), ?_⟩
  refine take0 11 (l' := #[true, true, true, true, true, true, true, true, true, true, true, true, true, false, true, true, true, false, true, false]) (v := .int .u32 (inoN b 3)) rfl (by kernel_rfl) (by kernel_rfl) (by kernel_rfl) (fun _ _ _ h => by cases h.1) (by kernel_rfl) (fun w => by go_simp) (by show Act.put _ (some 23) _ = _; simp only [Act.put, List.setIfInBounds_toArray, List.set_cons_zero, List.set_cons_succ]; try rfl) (by kernel_rfl) ?_
  have := LA3 W2 (pa hD hW)
  rw [hG] at this
  exact this
 have LA1 : ∀ W : World, (W.heap[H]? = some (.cells #[.int .i64 0, .int .u16 0, .int .u16 0, .int .u32 0, .int .u64 0, .int .i64 0, .int .u32 0, .int .u32 0, .int .u32 0, .int .u32 0, .int .u32 0, .int .u32 0] 42 (0, 0)) ∧ W.heap[H + 1]? = some (.cells #[.int .i64 0, .int .u16 0, .int .u16 0, .int .u32 0, .int .u64 0, .int .i64 0, .int .u32 0, .int .u32 0, .int .u32 0, .int .u32 0, .int .u32 0, .int .u32 0] 42 (0, 0)) ∧ Below H w W) → G 7 #[true, true, true, true, true, true, true, false, false, true, false, false, true, false, true, true, true, false, true, false] { tmps := #[.string b, undef, .pointer (some ⟨H, 0, none⟩), .int .i64 0, .pointer (some ⟨H + 1, 0, none⟩), undef, undef, undef, .string b, .int .i64 b.size, .bool false, undef, .string b, .int .u8 (inoN b 0), .int .i64 (inoN b 0), .string b, .int .u64 (inoN b 1), .int .u16 (inoN b 1), .string b, undef, undef, .string b, undef, undef, .string b, undef, .string b, .int .u8 (inoN b 5), .int .i64 (inoN b 5), undef, undef, undef, undef, undef, undef, undef, undef, undef, undef, undef, undef, undef, undef, undef, undef, undef, undef, undef, undef, undef, undef, undef, undef, undef, undef, undef, undef], defers := [] } W := by
  intro W hW
  rw [hG]
  refine wpAny_ready (rs := [7]) (by kernel_rfl) (by decide) (enter0 7 19 (l' := #[true, true, true, true, true, true, true, true, false, true, false, false, true, false, true, true, true, false, true, false]) (f := 75) (args := #[.string b, .int .i64 3, .int .i64 2]) rfl rfl (by kernel_rfl) (by go_simp) (tk2 _) (by kernel_rfl) ?_ AllReady.nil)
  rintro e W2 ⟨rfl, hD⟩
  refine ⟨_, rfl, _, (by show Act.put _ (some 19) _ = _; simp only [Act.put, List.setIfInBounds_toArray, List.set_cons_zero, List.set_cons_succ]; try rfl), ?_⟩
  refine take0 8 (l' := #[true, true, true, true, true, true, true, true, true, true, false, false, true, false, true, true, true, false, true, false]) (v := .int .u16 (inoN b 2)) rfl (by kernel_rfl) (by kernel_rfl) (by kernel_rfl) (fun _ _ _ h => by cases h.1) (by kernel_rfl) (fun w => by go_simp) (by show Act.put _ (some 20) _ = _; simp only [Act.put, List.setIfInBounds_toArray, List.set_cons_zero, List.set_cons_succ]; try rfl) (by kernel_rfl) ?_
  have := LA2 W2 (pa hD hW)
  rw [hG] at this
  exact this
 have LA0 : ∀ W : World, (W.heap[H]? = some (.cells #[.int .i64 0, .int .u16 0, .int .u16 0, .int .u32 0, .int .u64 0, .int .i64 0, .int .u32 0, .int .u32 0, .int .u32 0, .int .u32 0, .int .u32 0, .int .u32 0] 42 (0, 0)) ∧ W.heap[H + 1]? = some (.cells #[.int .i64 0, .int .u16 0, .int .u16 0, .int .u32 0, .int .u64 0, .int .i64 0, .int .u32 0, .int .u32 0, .int .u32 0, .int .u32 0, .int .u32 0, .int .u32 0] 42 (0, 0)) ∧ Below H w W) → G 9 #[true, true, true, true, false, false, true, false, false, true, false, false, true, false, true, true, true, false, true, false] { tmps := #[.string b, undef, .pointer (some ⟨H, 0, none⟩), .int .i64 0, .pointer (some ⟨H + 1, 0, none⟩), undef, undef, undef, .string b, .int .i64 b.size, .bool false, undef, .string b, .int .u8 (inoN b 0), .int .i64 (inoN b 0), .string b, undef, undef, .string b, undef, undef, .string b, undef, undef, .string b, undef, .string b, .int .u8 (inoN b 5), .int .i64 (inoN b 5), undef, undef, undef, undef, undef, undef, undef, undef, undef, undef, undef, undef, undef, undef, undef, undef, undef, undef, undef, undef, undef, undef, undef, undef, undef, undef, undef, undef], defers := [] } W := by
  intro W hW
  rw [hG]
  refine wpAny_ready (rs := [4]) (by kernel_rfl) (by decide) (enter0 4 16 (l' := #[true, true, true, true, true, false, true, false, false, true, false, false, true, false, true, true, true, false, true, false]) (f := 75) (args := #[.string b, .int .i64 1, .int .i64 2]) rfl rfl (by kernel_rfl) (by go_simp) (tk1 _) (by kernel_rfl) ?_ AllReady.nil)
  rintro e W2 ⟨rfl, hD⟩
  refine ⟨_, rfl, _, (by show Act.put _ (some 16) _ = _; simp only [Act.put, List.setIfInBounds_toArray, List.set_cons_zero, List.set_cons_succ]; try rfl), ?_⟩
  refine take0 5 (l' := #[true, true, true, true, true, true, true, false, false, true, false, false, true, false, true, true, true, false, true, false]) (v := .int .u16 (inoN b 1)) rfl (by kernel_rfl) (by kernel_rfl) (by kernel_rfl) (fun _ _ _ h => by cases h.1) (by kernel_rfl) (fun w => by go_simp) (by show Act.put _ (some 17) _ = _; simp only [Act.put, List.setIfInBounds_toArray, List.set_cons_zero, List.set_cons_succ]; try rfl) (by kernel_rfl) ?_
  have := LA1 W2 (pa hD hW)
  rw [hG] at this
  exact this
 have LN4 : ∀ W : World, (W.heap[H]? = some (.cells #[.int .i64 0, .int .u16 0, .int .u16 0, .int .u32 0, .int .u64 0, .int .i64 0, .int .u32 0, .int .u32 0, .int .u32 0, .int .u32 0, .int .u32 0, .int .u32 0] 42 (0, 0)) ∧ W.heap.size = H + 1 ∧ Below H w W) → G 2 #[true, true, true, true, true, true, true, true, true, true, true, true, true, true, true, true, true, true, false, false] { tmps := #[.string b, undef, .pointer (some ⟨H, 0, none⟩), .int .i64 0, undef, undef, undef, undef, .string b, .int .i64 b.size, .bool false, undef, .string b, .int .u8 (inoN b 0), .int .i64 (inoN b 0), .string b, .int .u64 (inoN b 1), .int .u16 (inoN b 1), .string b, .int .u64 (inoN b 2), .int .u16 (inoN b 2), .string b, .int .u64 (inoN b 3), .int .u32 (inoN b 3), .string b, .int .u64 (inoN b 4), .string b, .int .u8 (inoN b 5), .int .i64 (inoN b 5), .agg #[.int .i64 (inoN b 0), .int .u16 (inoN b 1), .int .u16 (inoN b 2), .int .u32 (inoN b 3), .int .u64 (inoN b 4), .int .i64 (inoN b 5), .int .u32 0, .int .u32 0, .int .u32 0, .int .u32 0, .int .u32 0, .int .u32 0], undef, undef, undef, undef, undef, undef, undef, undef, undef, undef, undef, undef, undef, undef, undef, undef, undef, undef, undef, undef, undef, undef, undef, undef, undef, undef, undef], defers := [] } W := by
  intro W hW
  have := LA4 _ (pna hW)
  rw [hG] at this ⊢
  exact wpAny_ready (rs := [18]) (by kernel_rfl) (by decide) (ready0 18 (l' := #[true, true, true, true, true, true, true, true, true, true, true, true, true, true, true, true, true, true, true, false]) (v := .pointer (some ⟨H + 1, 0, none⟩)) (w1 := W.alloc (.cells #[.int .i64 0, .int .u16 0, .int .u16 0, .int .u32 0, .int .u64 0, .int .i64 0, .int .u32 0, .int .u32 0, .int .u32 0, .int .u32 0, .int .u32 0, .int .u32 0] 42)) rfl (by kernel_rfl) (by go_simp; try (rw [hW.2.1]; try rfl)) (by show Act.put _ (some 4) _ = _; simp only [Act.put, List.setIfInBounds_toArray, List.set_cons_zero, List.set_cons_succ]; try rfl) (by kernel_rfl) this AllReady.nil)
 have LN3 : ∀ W : World, (W.heap[H]? = some (.cells #[.int .i64 0, .int .u16 0, .int .u16 0, .int .u32 0, .int .u64 0, .int .i64 0, .int .u32 0, .int .u32 0, .int .u32 0, .int .u32 0, .int .u32 0, .int .u32 0] 42 (0, 0)) ∧ W.heap.size = H + 1 ∧ Below H w W) → G 4 #[true, true, true, true, true, true, true, true, true, true, true, true, true, false, true, true, true, false, false, false] { tmps := #[.string b, undef, .pointer (some ⟨H, 0, none⟩), .int .i64 0, undef, undef, undef, undef, .string b, .int .i64 b.size, .bool false, undef, .string b, .int .u8 (inoN b 0), .int .i64 (inoN b 0), .string b, .int .u64 (inoN b 1), .int .u16 (inoN b 1), .string b, .int .u64 (inoN b 2), .int .u16 (inoN b 2), .string b, .int .u64 (inoN b 3), .int .u32 (inoN b 3), .string b, undef, .string b, .int .u8 (inoN b 5), .int .i64 (inoN b 5), undef, undef, undef, undef, undef, undef, undef, undef, undef, undef, undef, undef, undef, undef, undef, undef, undef, undef, undef, undef, undef, undef, undef, undef, undef, undef, undef, undef], defers := [] } W := by
  intro W hW
  have hA := LA3 _ (pna hW)
  rw [hG] at hA ⊢
  refine wpAny_ready (rs := [13, 18]) (by kernel_rfl) (by decide) (enter0 13 25 (l' := #[true, true, true, true, true, true, true, true, true, true, true, true, true, true, true, true, true, false, false, false]) (f := 75) (args := #[.string b, .int .i64 9, .int .i64 6]) rfl rfl (by kernel_rfl) (by go_simp) (tk4 _) (by kernel_rfl) ?_ (ready0 18 (l' := #[true, true, true, true, true, true, true, true, true, true, true, true, true, false, true, true, true, false, true, false]) (v := .pointer (some ⟨H + 1, 0, none⟩)) (w1 := W.alloc (.cells #[.int .i64 0, .int .u16 0, .int .u16 0, .int .u32 0, .int .u64 0, .int .i64 0, .int .u32 0, .int .u32 0, .int .u32 0, .int .u32 0, .int .u32 0, .int .u32 0] 42)) rfl (by kernel_rfl) (by go_simp; try (rw [hW.2.1]; try rfl)) (by show Act.put _ (some 4) _ = _; simp only [Act.put, List.setIfInBounds_toArray, List.set_cons_zero, List.set_cons_succ]; try rfl) (by kernel_rfl) hA AllReady.nil))
  rintro e W2 ⟨rfl, hD⟩
  refine ⟨_, rfl, _, (by show Act.put _ (some 25) _ = _; simp only [Act.put, List.setIfInBounds_toArray, List.set_cons_zero, List.set_cons_succ]; try rfl), ?_⟩
  refine take0 17 (l' := #[true, true, true, true, true, true, true, true, true, true, true, true, true, true, true, true, true, true, false, false]) (v := .agg #[.int .i64 (inoN b 0), .int .u16 (inoN b 1), .int .u16 (inoN b 2), .int .u32 (inoN b 3), .int .u64 (inoN b 4), .int .i64 (inoN b 5), .int .u32 0, .int .u32 0, .int .u32 0, .int .u32 0, .int .u32 0, .int .u32 0]) rfl (by kernel_rfl) (by kernel_rfl) (by kernel_rfl) (fun _ _ _ h => by cases h.1) (by kernel_rfl) (fun w => by go_simp) (by show Act.put _ (some 29) _ = _; simp only [Act.put, List.setIfInBounds_toArray, List.set_cons_zero, List.set_cons_succ]; try rfl) (by kernel_rfl) ?_
  have := LN4 W2 (pn hD hW)
  rw [hG] at this
  exact this
 have LN2 : ∀ W : World, (W.heap[H]? = some (.cells #[.int .i64 0, .int .u16 0, .int .u16 0, .int .u32 0, .int .u64 0, .int .i64 0, .int .u32 0, .int .u32 0, .int .u32 0, .int .u32 0, .int .u32 0, .int .u32 0] 42 (0, 0)) ∧ W.heap.size = H + 1 ∧ Below H w W) → G 6 #[true, true, true, true, true, true, true, true, true, true, false, false, true, false, true, true, true, false, false, false] { tmps := #[.string b, undef, .pointer (some ⟨H, 0, none⟩), .int .i64 0, undef, undef, undef, undef, .string b, .int .i64 b.size, .bool false, undef, .string b, .int .u8 (inoN b 0), .int .i64 (inoN b 0), .string b, .int .u64 (inoN b 1), .int .u16 (inoN b 1), .string b, .int .u64 (inoN b 2), .int .u16 (inoN b 2), .string b, undef, undef, .string b, undef, .string b, .int .u8 (inoN b 5), .int .i64 (inoN b 5), undef, undef, undef, undef, undef, undef, undef, undef, undef, undef, undef, undef, undef, undef, undef, undef, undef, undef, undef, undef, undef, undef, undef, undef, undef, undef, undef, undef], defers := [] } W := by
  intro W hW
  have hA := LA2 _ (pna hW)
  rw [hG] at hA ⊢
  refine wpAny_ready (rs := [10, 18]) (by kernel_rfl) (by decide) (enter0 10 22 (l' := #[true, true, true, true, true, true, true, true, true, true, true, false, true, false, true, true, true, false, false, false]) (f := 75) (args := #[.string b, .int .i64 5, .int .i64 4]) rfl rfl (by kernel_rfl) (by go_simp) (tk3 _) (by kernel_rfl) ?_ (ready0 18 (l' := #[true, true, true, true, true, true, true, true, true, true, false, false, true, false, true, true, true, false, true, false]) (v := .pointer (some ⟨H + 1, 0, none⟩)) (w1 := W.alloc (.cells #[.int .i64 0, .int .u16 0, .int .u16 0, .int .u32 0, .int .u64 0, .int .i64 0, .int .u32 0, .int .u32 0, .int .u32 0, .int .u32 0, .int .u32 0, .int .u32 0] 42)) rfl (by kernel_rfl) (by go_simp; try (rw [hW.2.1]; try rfl)) (by show Act.put _ (some 4) _ = _; simp only [Act.put, List.setIfInBounds_toArray, List.set_cons_zero, List.set_cons_succ]; try rfl) (by kernel_rfl) hA AllReady.nil))
  rintro e W2 ⟨rfl, hD⟩
  refine ⟨_, rfl, _, (by show Act.put _ (some 22) _ = _; simp only [Act.put, List.setIfInBounds_toArray, List.set_cons_zero, List.set_cons_succ]; try rfl), ?_⟩
  refine take0 11 (l' := #[true, true, true, true, true, true, true, true, true, true, true, true, true, false, true, true, true, false, false, false]) (v := .int .u32 (inoN b 3)) rfl (by kernel_rfl) (by kernel_rfl) (by kernel_rfl) (fun _ _ _ h => by cases h.1) (by kernel_rfl) (fun w => by go_simp) (by show Act.put _ (some 23) _ = _; simp only [Act.put, List.setIfInBounds_toArray, List.set_cons_zero, List.set_cons_succ]; try rfl) (by kernel_rfl) ?_
  have := LN3 W2 (pn hD hW)
  rw [hG] at this
  exact this
 have LN1 : ∀ W : World, (W.heap[H]? = some (.cells #[.int .i64 0, .int .u16 0, .int .u16 0, .int .u32 0, .int .u64 0, .int .i64 0, .int .u32 0, .int .u32 0, .int .u32 0, .int .u32 0, .int .u32 0, .int .u32 0] 42 (0, 0)) ∧ W.heap.size = H + 1 ∧ Below H w W) → G 8 #[true, true, true, true, true, true, true, false, false, true, false, false, true, false, true, true, true, false, false, false] { tmps := #[.string b, undef, .pointer (some ⟨H, 0, none⟩), .int .i64 0, undef, undef, undef, undef, .string b, .int .i64 b.size, .bool false, undef, .string b, .int .u8 (inoN b 0), .int .i64 (inoN b 0), .string b, .int .u64 (inoN b 1), .int .u16 (inoN b 1), .string b, undef, undef, .string b, undef, undef, .string b, undef, .string b, .int .u8 (inoN b 5), .int .i64 (inoN b 5), undef, undef, undef, undef, undef, undef, undef, undef, undef, undef, undef, undef, undef, undef, undef, undef, undef, undef, undef, undef, undef, undef, undef, undef, undef, undef, undef, undef], defers := [] } W := by
  intro W hW
  have hA := LA1 _ (pna hW)
  rw [hG] at hA ⊢
  refine wpAny_ready (rs := [7, 18]) (by kernel_rfl) (by decide) (enter0 7 19 (l' := #[true, true, true, true, true, true, true, true, false, true, false, false, true, false, true, true, true, false, false, false]) (f := 75) (args := #[.string b, .int .i64 3, .int .i64 2]) rfl rfl (by kernel_rfl) (by go_simp) (tk2 _) (by kernel_rfl) ?_ (ready0 18 (l' := #[true, true, true, true, true, true, true, false, false, true, false, false, true, false, true, true, true, false, true, false]) (v := .pointer (some ⟨H + 1, 0, none⟩)) (w1 := W.alloc (.cells #[.int .i64 0, .int .u16 0, .int .u16 0, .int .u32 0, .int .u64 0, .int .i64 0, .int .u32 0, .int .u32 0, .int .u32 0, .int .u32 0, .int .u32 0, .int .u32 0] 42)) rfl (by kernel_rfl) (by go_simp; try (rw [hW.2.1]; try rfl)) (by show Act.put _ (some 4) _ = _; simp only [Act.put, List.setIfInBounds_toArray, List.set_cons_zero, List.set_cons_succ]; try rfl) (by kernel_rfl) hA AllReady.nil))
  rintro e W2 ⟨rfl, hD⟩
  refine ⟨_, rfl, _, (by show Act.put _ (some 19) _ = _; simp only [Act.put, List.setIfInBounds_toArray, List.set_cons_zero, List.set_cons_succ]; try rfl), ?_⟩
  refine take0 8 (l' := #[true, true, true, true, true, true, true, true, true, true, false, false, true, false, true, true, true, false, false, false]) (v := .int .u16 (inoN b 2)) rfl (by kernel_rfl) (by kernel_rfl) (by kernel_rfl) (fun _ _ _ h => by cases h.1) (by kernel_rfl) (fun w => by go_simp) (by show Act.put _ (some 20) _ = _; simp only [Act.put, List.setIfInBounds_toArray, List.set_cons_zero, List.set_cons_succ]; try rfl) (by kernel_rfl) ?_
  have := LN2 W2 (pn hD hW)
  rw [hG] at this
  exact this
 have LN0 : ∀ W : World, (W.heap[H]? = some (.cells #[.int .i64 0, .int .u16 0, .int .u16 0, .int .u32 0, .int .u64 0, .int .i64 0, .int .u32 0, .int .u32 0, .int .u32 0, .int .u32 0, .int .u32 0, .int .u32 0] 42 (0, 0)) ∧ W.heap.size = H + 1 ∧ Below H w W) → G 10 #[true, true, true, true, false, false, true, false, false, true, false, false, true, false, true, true, true, false, false, false] { tmps := #[.string b, undef, .pointer (some ⟨H, 0, none⟩), .int .i64 0, undef, undef, undef, undef, .string b, .int .i64 b.size, .bool false, undef, .string b, .int .u8 (inoN b 0), .int .i64 (inoN b 0), .string b, undef, undef, .string b, undef, undef, .string b, undef, undef, .string b, undef, .string b, .int .u8 (inoN b 5), .int .i64 (inoN b 5), undef, undef, undef, undef, undef, undef, undef, undef, undef, undef, undef, undef, undef, undef, undef, undef, undef, undef, undef, undef, undef, undef, undef, undef, undef, undef, undef, undef], defers := [] } W := by
  intro W hW
  have hA := LA0 _ (pna hW)
  rw [hG] at hA ⊢
  refine wpAny_ready (rs := [4, 18]) (by kernel_rfl) (by decide) (enter0 4 16 (l' := #[true, true, true, true, true, false, true, false, false, true, false, false, true, false, true, true, true, false, false, false]) (f := 75) (args := #[.string b, .int .i64 1, .int .i64 2]) rfl rfl (by kernel_rfl) (by go_simp) (tk1 _) (by kernel_rfl) ?_ (ready0 18 (l' := #[true, true, true, true, false, false, true, false, false, true, false, false, true, false, true, true, true, false, true, false]) (v := .pointer (some ⟨H + 1, 0, none⟩)) (w1 := W.alloc (.cells #[.int .i64 0, .int .u16 0, .int .u16 0, .int .u32 0, .int .u64 0, .int .i64 0, .int .u32 0, .int .u32 0, .int .u32 0, .int .u32 0, .int .u32 0, .int .u32 0] 42)) rfl (by kernel_rfl) (by go_simp; try (rw [hW.2.1]; try rfl)) (by show Act.put _ (some 4) _ = _; simp only [Act.put, List.setIfInBounds_toArray, List.set_cons_zero, List.set_cons_succ]; try rfl) (by kernel_rfl) hA AllReady.nil))
  rintro e W2 ⟨rfl, hD⟩
  refine ⟨_, rfl, _, (by show Act.put _ (some 16) _ = _; simp only [Act.put, List.setIfInBounds_toArray, List.set_cons_zero, List.set_cons_succ]; try rfl), ?_⟩
  refine take0 5 (l' := #[true, true, true, true, true, true, true, false, false, true, false, false, true, false, true, true, true, false, false, false]) (v := .int .u16 (inoN b 1)) rfl (by kernel_rfl) (by kernel_rfl) (by kernel_rfl) (fun _ _ _ h => by cases h.1) (by kernel_rfl) (fun w => by go_simp) (by show Act.put _ (some 17) _ = _; simp only [Act.put, List.setIfInBounds_toArray, List.set_cons_zero, List.set_cons_succ]; try rfl) (by kernel_rfl) ?_
  have := LN1 W2 (pn hD hW)
  rw [hG] at this
  exact this
 exact LN0 W1 hPN

set_option maxHeartbeats 4000000 in
theorem inoDR_size (b : ByteArray) (w : World) (hsz : ¬ b.size = 42) :
  Calls Try.prog 62 #[.string b] w fun e w' => e = .returned (.tuple #[.agg #[.int .i64 0, .int .u16 0, .int .u16 0, .int .u32 0, .int .u64 0, .int .i64 0, .int .u32 0, .int .u32 0, .int .u32 0, .int .u32 0, .int .u32 0, .int .u32 0], .int .i64 100]) ∧ Below w.heap.size w w' := by
 have hu := Try.underlying42
 have hs1 : ((b.size : Int) != 42) = true := by simp; omega
 clear hsz
 go_enter Try.func62, Try.ntmps62
 go_wp2_with fail
 refine bodyPost_ret (results_ct rfl _ _ w.heap.size 42 #[.int .i64 0, .int .u16 0, .int .u16 0, .int .u32 0, .int .u64 0, .int .i64 0, .int .u32 0, .int .u32 0, .int .u32 0, .int .u32 0, .int .u32 0, .int .u32 0] (0, 0) _ rfl (World.alloc_heap_new w _) Try.underlying42 rfl (by kernel_rfl)) rfl ?_
 exact ⟨rfl, ((Below.refl _ w).alloc (by omega) _)⟩
theorem nautilusref10_Decode.calls (b : ByteArray) (r1 r2 r3 r4 r5 r6 r7 r8 r9 r10 r11 r12 r13 : Int) (w : World) (h : nautilusref10_Decode.f b = some (r1, r2, r3, r4, r5, r6, r7, r8, r9, r10, r11, r12, r13)) :
  Calls Try.prog 62 #[.string b] w fun e w' => e = .returned (.tuple #[.agg #[.int .i64 r1, .int .u16 r2, .int .u16 r3, .int .u32 r4, .int .u64 r5, .int .i64 r6, .int .u32 r7, .int .u32 r8, .int .u32 r9, .int .u32 r10, .int .u32 r11, .int .u32 r12], .int .i64 r13]) ∧ Below w.heap.size w w' := by
 unfold nautilusref10_Decode.f at h
 by_cases hsz : b.size = 42
 ·rw [if_pos hsz] at h
  obtain ⟨⟨eb, ee⟩, henc, h⟩ := Option.bind_eq_some_iff.mp h
  refine inoDR_yes b eb ee (#[.int .i64 r1, .int .u16 r2, .int .u16 r3, .int .u32 r4, .int .u64 r5, .int .i64 r6, .int .u32 r7, .int .u32 r8, .int .u32 r9, .int .u32 r10, .int .u32 r11, .int .u32 r12]) r13 w hsz henc ?_
  by_cases he : ee = 0
  ·rw [if_pos he] at h ⊢
   by_cases hb : eb = b
   ·rw [if_pos hb] at h ⊢; cases h; rfl
   ·rw [if_neg hb] at h ⊢; cases h; rfl
  ·rw [if_neg he] at h ⊢; cases h; rfl
 ·rw [if_neg hsz] at h
  cases h
  exact inoDR_size b w hsz
end Go.Proofs.Ytpcokafalmafgaa.Q
