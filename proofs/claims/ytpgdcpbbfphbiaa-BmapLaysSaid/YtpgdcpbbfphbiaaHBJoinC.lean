/- slices.Clone, IndexFunc and ContainsFunc at uint32. -/
import Derived.Test.YtpgdcpbbfphbiaaHBNum
import Derived.Shelf.Abstract
import Derived.Lib.LazyBuf
import Derived.Test.YtpgdcpbbfphbiaaHBLay
import Derived.Test.YtpgdcpbbfphbiaaHIRgt
set_option linter.unusedVariables false
set_option linter.unusedSimpArgs false
namespace Go.Proofs.Ytpgdcpbbfphbiaa.Q
open Go.RowKit Go.Proofs.Ytpgdcpbbfphbiaa.H Go.Proofs.YtpgdcpbbfphbiaaW.PrintWords Go.Proofs.YtpgdcpbbfphbiaaW.PrintLast Go.Proofs.YtpgdcpbbfphbiaaW.PrintMore
set_option maxRecDepth 100000

def cloneU.f (l : List Int) : Option (List Int) := if l.length ≤ 1000000000 then some l else none
theorem cloneU.calls (A0 : Option Addr) (c0 : Nat) (l0 : List Int) (r : List Int) (w : World) (hr0 : Kd.C (Kd.int .u32) w A0 l0.length l0) (hc0 : l0.length ≤ c0)
    (h : cloneU.f l0 = some r) :
    Calls Try.prog 33 #[.slice A0 l0.length c0] w fun e w' => ∃ v0_ : Value, e = .returned v0_ ∧ Kd.R (Kd.int .u32) 22 w' w.heap.size (fun _ => True) v0_ r ∧ Below w.heap.size w w' := by
  unfold cloneU.f at h
  split at h
  case isFalse => cases h
  case isTrue hlim =>
  obtain rfl := Option.some.inj h
  clear h
  cases A0 with
  | none =>
    have hl : l0 = [] := by
      apply List.eq_nil_of_length_eq_zero
      apply Classical.byContradiction
      intro hne
      obtain ⟨ad, c, e, _⟩ := Kd.C_get hr0 (0 : Int) 0 (by omega) (by omega)
      cases e
    subst hl
    have he := Go.run_eql_slice_nil (P := Try.prog) w 31 22 none 0 c0 Try.underlying31
    go_enter Try.func33, Try.ntmps33
    go_wp2
    go_ret
    exact ⟨_, rfl, Kd.R_nil _ _ _ _ _, Below.refl _ _⟩
  | some ad =>
    have HR := Aside0.mk hr0
    clear hr0
    have he := Go.run_eql_slice_nil (P := Try.prog) w 31 22 (some ad) l0.length c0 Try.underlying31
    go_enter Try.func33, Try.ntmps33
    go_wp2_with (first
      | ((with_reducible refine gate_dst (N := 5) rfl ?_); refine Kd.R_lit (Kd.int .u32) w.heap.size 22 ?hg (N := 5) ?hd (xs := []) (inner := []) (ok := fun _ => True) (okp := fun _ => True) ?hr ?hp (fun _ hk => hk) trivial (Below.refl _ _) (Nat.le_refl _) (by simp) ?_; (case hd => rfl); (case hg => rfl); (case hr => first | (go_simp; done) | (go_simp; rfl)); (case hp => exact Reps.none _ _); intro v1 w1 ho1 hb1 hg1 hn1; have HO1 := Aside0.mk ho1; have HB1 := Aside0.mk hb1; clear ho1 hb1 hg1 hn1)
      | ((with_reducible refine gate_dst (N := 7) rfl ?_); refine Kd.R_append_rows (Kd.int .u32) (w0 := w) w.heap.size rfl _ _ 31 22 (.int .u32 0) 4 rfl Try.underlying31 info_u32 rfl (by decide) (by omega) v1 [] l0 _ _ _ (fun _ => True) (fun _ => False) rfl rfl ?aO ?aR (fun _ _ h => h) (fun _ h => h.elim) (fun _ _ => trivial) HB1.out (below_size HB1.out) ?aL ?_; (case aR => exact Kd.C_below HR.out HB1.out); (case aO => exact HO1.out); (case aL => simp only [List.length_nil]; omega); intro v2 w2 ho2 hb2 hg2 hn2; have HO2 := Aside0.mk ho2; have HB2 := Aside0.mk hb2; clear ho2 hb2 hg2 hn2))
    go_ret
    exact ⟨_, rfl, HO2.out, HB2.out⟩
/-- Is a number above nothing? -/
theorem pos_calls (x : Int) (w : World) : Calls Try.prog 35 #[.int .u32 x] w fun e w' => e = .returned (.bool (decide (x > 0))) ∧ Below w.heap.size w w' := by
  go_enter Try.func35, Try.ntmps35
  go_wp2
  go_ret
  exact ⟨rfl, Below.refl _ _⟩
def pred (g : Nat) (x : Int) : Option Bool := if g = 35 then some (decide (x > 0)) else none
theorem pred_calls (g : Nat) (x : Int) (r : Bool) (W : World) (h : pred g x = some r) : Calls Try.prog g #[.int .u32 x] W fun e w' => e = .returned (.bool r) ∧ Below W.heap.size W w' := by
  unfold pred at h
  split at h
  · rename_i hg; subst hg; obtain rfl := Option.some.inj h; exact pos_calls x W
  · cases h
theorem pred_fn (g : Nat) (x : Int) (r : Bool) (h : pred g x = some r) : ∀ args w, (callFunc g args).run Try.prog w = .ok (.enter g args) w := by
  unfold pred at h
  split at h
  · rename_i hg; subst hg; exact enters_of Try.func35 rfl rfl
  · cases h
def idx (g : Nat) : List Int → Int → Option Int
  | [], _ => some (-1)
  | x :: xs, i => (pred g x).bind fun b => if b = true then some i else idx g xs (i + 1)

def indexU.f (l : List Int) (g : Nat) : Option Int := idx g l 0
theorem indexU.calls (A0 : Option Addr) (c0 : Nat) (l0 : List Int) (g : Nat) (r : Int) (w : World) (hr0 : Kd.C (Kd.int .u32) w A0 l0.length l0) (hc0 : l0.length ≤ c0)
    (h : indexU.f l0 g = some r) :
    Calls Try.prog 45 #[.slice A0 l0.length c0, .func (.func g) #[] #[]] w fun e w' => e = .returned (.int .i64 r) ∧ Below w.heap.size w w' := by
  have hbig : l0.length ≤ 9223372036854775807 := Kd.C_max hr0
  have HR := Aside0.mk hr0
  have H0 : Aside0 (idx g l0 0 = some r) := ⟨h⟩
  clear hr0 h hc0
  go_enter Try.func45, Try.ntmps45
  go_wp2
  go_loopg [5, 8] l0.length (fun gg _ s8 wr => ∃ kk : Nat, kk ≤ l0.length ∧ l0.length - kk ≤ gg ∧ s8 = .int .i64 kk ∧ Aside0 (Below w.heap.size w wr) ∧ Aside0 (idx g (l0.drop kk) kk = some r))
  case atStart => exact ⟨0, Nat.zero_le _, by omega, rfl, ⟨Below.refl _ w⟩, by simpa using H0⟩
  case round =>
    clear H0
    obtain ⟨kk, hkk, hg, rfl, BW, A⟩ := hrel
    by_cases hlt : kk < l0.length
    · have hltz : (kk : Int) < (l0.length : Int) := by omega
      obtain ⟨ad, rfl, h0⟩ := Kd.at_int HR.out kk (by omega) hltz
      simp only [Int.toNat_natCast] at h0
      replace h0 := (BW.out.cell (World.block_lt_of_cell? w _ h0)).trans h0
      have e0 : rd l0 kk = l0[kk] := by simp [rd, hlt]
      rw [e0] at h0
      have A1 := A.out
      rw [List.drop_eq_getElem_cons hlt, idx] at A1
      obtain ⟨b, hb, A2⟩ := Option.bind_eq_some_iff.1 A1
      generalize l0[kk] = x at hb h0
      have hen := pred_fn g x b hb
      have hca := pred_calls g x b wr hb
      have A3 := Aside0.mk A2
      clear A A1 A2 e0 hb
      cases b with
      | true =>
        go_wp2_with (go_at_fn g; refine hca.mono ?_; rintro e w' ⟨rfl, hb'⟩)
        go_ret
        have A4 := A3.out
        have A5 : (kk : Int) = r := by simpa using A4
        exact ⟨by rw [← A5]; rfl, below_step BW.out hb'⟩
      | false =>
        go_wp2_with (go_at_fn g; refine hca.mono ?_; rintro e w' ⟨rfl, hb'⟩)
        go_roundg (l0.length - (kk + 1))
        case measure => omega
        case rel =>
          have A4 := A3.out
          simp only [Bool.false_eq_true, if_false] at A4
          exact ⟨kk + 1, by omega, by omega, by go_num, ⟨below_step BW.out hb'⟩, ⟨A4⟩⟩
    · have hltz : ¬ (kk : Int) < (l0.length : Int) := by omega
      go_wp2
      go_ret
      have A1 := A.out
      rw [List.drop_of_length_le (by omega), idx] at A1
      exact ⟨by rw [← Option.some.inj A1]; rfl, BW.out⟩

def containsU.f (l : List Int) (g : Nat) : Option Bool := (idx g l 0).bind fun i => some (decide (i ≥ 0))
theorem containsU.calls (A0 : Option Addr) (c0 : Nat) (l0 : List Int) (g : Nat) (r : Bool) (w : World) (hr0 : Kd.C (Kd.int .u32) w A0 l0.length l0) (hc0 : l0.length ≤ c0)
    (h : containsU.f l0 g = some r) :
    Calls Try.prog 34 #[.slice A0 l0.length c0, .func (.func g) #[] #[]] w fun e w' => e = .returned (.bool r) ∧ Below w.heap.size w w' := by
  obtain ⟨i, hi, hr⟩ := Option.bind_eq_some_iff.1 h
  obtain rfl := Option.some.inj hr
  have hca := fun W (hW : Kd.C (Kd.int .u32) W A0 l0.length l0) => indexU.calls A0 c0 l0 g i W hW hc0 hi
  have HR := Aside0.mk hr0
  have HC := Aside0.mk hca
  clear hi h hr hr0 hca
  go_enter Try.func34, Try.ntmps34
  go_wp2_with (refine (HC.out _ HR.out).mono ?_; rintro e w' ⟨rfl, hb'⟩)
  go_ret
  exact ⟨rfl, hb'⟩
end Go.Proofs.Ytpgdcpbbfphbiaa.Q

set_option linter.unusedVariables false
set_option linter.unusedSimpArgs false
namespace Go.Proofs.Ytpgdcpbbfphbiaa.Q
open Go.RowKit Go.Sort Go.Shelf Go.Proofs.Ytpgdcpbbfphbiaa.H Go.Proofs.YtpgdcpbbfphbiaaW.PrintWords Go.Proofs.YtpgdcpbbfphbiaaW.PrintLast Go.Proofs.YtpgdcpbbfphbiaaW.PrintMore
attribute [local go_sem] Oper.semAt_some
set_option maxRecDepth 100000

theorem drawn_same {w w' : World} (h : Drawn0 w w') : w'.heap = w.heap := by obtain ⟨n, rfl⟩ := h.out; rfl
set_option maxHeartbeats 8000000 in
theorem join_e1 (size : Int) (m0 m1 m2 m3 m4 m5 : Int) (A : Option Addr) (cb : Nat) (bs : List ByteArray) (dp : Int) (w : World) (hd : inode_Depth.f size = some dp) (hr : inode_Right.f 1 0 0 size 0 dp m0 m1 m2 m3 m4 m5 = some false) :
    Calls Try.prog 18 #[.int .u32 size, .agg #[.int .u32 m0, .int .u32 m1, .int .u32 m2, .int .u32 m3, .int .u32 m4, .int .u32 m5], .slice A bs.length cb] w fun e w' => e = .returned (.tuple #[.slice none 0 0, .int .i64 130]) ∧ Below w.heap.size w w' := by
  have hu := Try.underlying54
  have HD := Aside0.mk hd
  have HR := Aside0.mk hr
  clear hd hr
  go_enter Try.func18, Try.ntmps18
  go_wp2_with fail
  obtain ⟨H, hH⟩ : ∃ H, w.heap.size = H := ⟨_, rfl⟩
  simp only [hH]
  have hm : (w.alloc (.cells #[.int .u32 m0, .int .u32 m1, .int .u32 m2, .int .u32 m3, .int .u32 m4, .int .u32 m5] 32)).heap[H]? = some (.cells #[.int .u32 m0, .int .u32 m1, .int .u32 m2, .int .u32 m3, .int .u32 m4, .int .u32 m5] 32 (0, 0)) := by rw [← hH]; exact World.alloc_heap_new w _
  have hs : (w.alloc (.cells #[.int .u32 m0, .int .u32 m1, .int .u32 m2, .int .u32 m3, .int .u32 m4, .int .u32 m5] 32)).heap.size = H + 1 := by rw [World.size_alloc, hH]
  have hb : Below H w (w.alloc (.cells #[.int .u32 m0, .int .u32 m1, .int .u32 m2, .int .u32 m3, .int .u32 m4, .int .u32 m5] 32)) := (Below.refl H w).alloc (by omega) _
  generalize w.alloc (.cells #[.int .u32 m0, .int .u32 m1, .int .u32 m2, .int .u32 m3, .int .u32 m4, .int .u32 m5] 32) = W0 at hm hs hb ⊢
  refine Code.wp_mono (Q := fun e a' W' => e = .normal ∧ a' = { tmps := #[.int .u32 size, .agg #[.int .u32 m0, .int .u32 m1, .int .u32 m2, .int .u32 m3, .int .u32 m4, .int .u32 m5], .slice A bs.length cb, undef, .pointer (some ⟨H, 0, none⟩), undef, .slice none 0 0, .int .i64 0, .pointer (some ⟨H + 1, 0, none⟩), undef, undef, undef, undef, undef, undef, undef, undef, .int .u32 size, .int .u32 size, .int .i64 dp, .agg #[.int .u32 m0, .int .u32 m1, .int .u32 m2, .int .u32 m3, .int .u32 m4, .int .u32 m5], .agg #[.int .i64 1, .int .u16 0, .int .u16 0, .int .u32 size, .int .u64 0, .int .i64 dp, .int .u32 m0, .int .u32 m1, .int .u32 m2, .int .u32 m3, .int .u32 m4, .int .u32 m5], undef, undef, undef, undef, undef, undef, undef, undef, undef, undef, undef, undef, undef, undef, undef, undef, undef, undef, undef, undef, undef, undef, undef, undef, undef, undef, undef, undef, undef, undef, undef, undef, undef, undef, undef, undef, undef, undef, undef, undef, undef, undef, undef, undef, undef, undef, undef, undef, undef, undef, undef, undef, undef, undef, undef, undef, undef, undef], defers := [] } ∧ W'.heap[H]? = some (.cells #[.int .u32 m0, .int .u32 m1, .int .u32 m2, .int .u32 m3, .int .u32 m4, .int .u32 m5] 32 (0, 0)) ∧ W'.heap[H + 1]? = some (.cells #[.int .i64 1, .int .u16 0, .int .u16 0, .int .u32 size, .int .u64 0, .int .i64 dp, .int .u32 m0, .int .u32 m1, .int .u32 m2, .int .u32 m3, .int .u32 m4, .int .u32 m5] 54 (0, 0)) ∧ Below H w W') ?post ?_
  case post =>
    rintro e a' W7 ⟨rfl, rfl, hm7, hx7, hb7⟩
    clear hm hs hb W0 HD
    obtain ⟨g0, g1, g2, g3, g4, g5, g6, g7, g8, g9, g10, g11⟩ := ino_cells hx7
    go_wp2_with fail
    refine (inode_Right.calls _ _ _ _ _ _ _ _ _ _ _ _ false W7 HR.out).mono ?_
    rintro e w8 ⟨rfl, hb8⟩
    have hl7 := (Array.getElem?_eq_some_iff.1 hx7).1
    have hm8 := (hb8.block H (by omega)).trans hm7
    have hx8 := (hb8.block (H + 1) (by omega)).trans hx7
    have hB8 : Below H w w8 := hb7.trans (hb8.mono (by omega))
    clear g0 g1 g2 g3 g4 g5 g6 g7 g8 g9 g10 g11 hm7 hx7 hb7 hb8 hl7
    go_wp2_with fail
    go_ret2
    exact ⟨rfl, by rw [hH]; exact hB8⟩
  refine wp_region_held (S := fun W => W.heap[H]? = some (.cells #[.int .u32 m0, .int .u32 m1, .int .u32 m2, .int .u32 m3, .int .u32 m4, .int .u32 m5] 32 (0, 0))) (by kernel_rfl) ?_
  have hPN : (W0.drew.heap[H]? = some (.cells #[.int .u32 m0, .int .u32 m1, .int .u32 m2, .int .u32 m3, .int .u32 m4, .int .u32 m5] 32 (0, 0))) ∧ W0.drew.heap.size = H + 1 ∧ Below H w W0.drew := ⟨hm, hs, pw_below_drewN hb 1⟩
  change wpAnyH _ _ _ _ _ 7 #[false, false, false, false, false, false, false] _ W0.drew
  clear hm hs hb
  generalize W0.drew = W1 at hPN ⊢
  obtain ⟨hS, hs, hb⟩ := hPN
  refine takeH 0 (l' := #[true, false, false, false, false, false, false]) (v := .int .u32 size) rfl (by kernel_rfl) (by kernel_rfl) (by kernel_rfl) (fun _ _ _ h => by cases h.1) (by kernel_rfl) (fun _ _ => by go_simp) hS (by show Act.put _ (some 17) _ = _; simp only [Act.put, List.setIfInBounds_toArray, List.set_cons_zero, List.set_cons_succ]; try rfl) (by kernel_rfl) ?_
  refine takeH 1 (l' := #[true, true, false, false, false, false, false]) (v := .int .u32 size) rfl (by kernel_rfl) (by kernel_rfl) (by kernel_rfl) (fun _ _ _ h => by cases h.1) (by kernel_rfl) (fun _ _ => by go_simp) hS (by show Act.put _ (some 18) _ = _; simp only [Act.put, List.setIfInBounds_toArray, List.set_cons_zero, List.set_cons_succ]; try rfl) (by kernel_rfl) ?_
  refine takeH 3 (l' := #[true, true, false, true, false, false, false]) (v := .agg #[.int .u32 m0, .int .u32 m1, .int .u32 m2, .int .u32 m3, .int .u32 m4, .int .u32 m5]) rfl (by kernel_rfl) (by kernel_rfl) (by kernel_rfl) (fun _ _ _ h => by cases h.1) (by kernel_rfl) (fun W hS => by have c0 := six_cell hS 0 (by omega); have c1 := six_cell hS 1 (by omega); have c2 := six_cell hS 2 (by omega); have c3 := six_cell hS 3 (by omega); have c4 := six_cell hS 4 (by omega); have c5 := six_cell hS 5 (by omega); simp only [List.getD_cons_zero, List.getD_cons_succ] at c0 c1 c2 c3 c4 c5; go_simp) hS (by show Act.put _ (some 20) _ = _; simp only [Act.put, List.setIfInBounds_toArray, List.set_cons_zero, List.set_cons_succ]; try rfl) (by kernel_rfl) ?_
  refine allH (rs := [2, 5]) (by kernel_rfl) (by decide) (enterH 2 19 (l' := #[true, true, true, true, false, false, false]) (f := 23) (args := #[.int .u32 size]) rfl rfl (by kernel_rfl) (by go_simp) (inode_Depth.calls size dp W1 HD.out) (by kernel_rfl) ?_ (readyH 5 (l' := #[true, true, false, true, false, true, false]) (v := .pointer (some ⟨H + 1, 0, none⟩)) (w1 := W1.alloc (.cells #[.int .i64 0, .int .u16 0, .int .u16 0, .int .u32 0, .int .u64 0, .int .i64 0, .int .u32 0, .int .u32 0, .int .u32 0, .int .u32 0, .int .u32 0, .int .u32 0] 54)) rfl (by kernel_rfl) (by go_simp; try (rw [hs]; try rfl)) (by show Act.put _ (some 8) _ = _; simp only [Act.put, List.setIfInBounds_toArray, List.set_cons_zero, List.set_cons_succ]; try rfl) (by kernel_rfl) ((Below.heap_alloc _ _ _ (by omega)).trans hS) ?_ AllH.nil))
  · rintro e W2 ⟨rfl, hD⟩
    have e2 := drawn_same hD
    have hS2 : W2.heap[H]? = some (.cells #[.int .u32 m0, .int .u32 m1, .int .u32 m2, .int .u32 m3, .int .u32 m4, .int .u32 m5] 32 (0, 0)) := by rw [e2]; exact hS
    have hs2 : W2.heap.size = H + 1 := by rw [e2]; exact hs
    have hb2 : Below H w W2 := hb.trans (hD.below.mono (by omega))
    refine ⟨_, rfl, hS2, _, (by show Act.put _ (some 19) _ = _; simp only [Act.put, List.setIfInBounds_toArray, List.set_cons_zero, List.set_cons_succ]; try rfl), ?_⟩
    refine takeH 4 (l' := #[true, true, true, true, true, false, false]) (v := .agg #[.int .i64 1, .int .u16 0, .int .u16 0, .int .u32 size, .int .u64 0, .int .i64 dp, .int .u32 m0, .int .u32 m1, .int .u32 m2, .int .u32 m3, .int .u32 m4, .int .u32 m5]) rfl (by kernel_rfl) (by kernel_rfl) (by kernel_rfl) (fun _ _ _ h => by cases h.1) (by kernel_rfl) (fun _ _ => by go_simp; first | done | rfl) hS2 (by show Act.put _ (some 21) _ = _; simp only [Act.put, List.setIfInBounds_toArray, List.set_cons_zero, List.set_cons_succ]; try rfl) (by kernel_rfl) ?_
    refine allH (rs := [5]) (by kernel_rfl) (by decide) (readyH 5 (l' := #[true, true, true, true, true, true, false]) (v := .pointer (some ⟨H + 1, 0, none⟩)) (w1 := W2.alloc (.cells #[.int .i64 0, .int .u16 0, .int .u16 0, .int .u32 0, .int .u64 0, .int .i64 0, .int .u32 0, .int .u32 0, .int .u32 0, .int .u32 0, .int .u32 0, .int .u32 0] 54)) rfl (by kernel_rfl) (by go_simp; try (rw [hs2]; try rfl)) (by show Act.put _ (some 8) _ = _; simp only [Act.put, List.setIfInBounds_toArray, List.set_cons_zero, List.set_cons_succ]; try rfl) (by kernel_rfl) ((Below.heap_alloc _ _ _ (by omega)).trans hS2) ?_ AllH.nil)
    have hx : (W2.alloc (.cells #[.int .i64 0, .int .u16 0, .int .u16 0, .int .u32 0, .int .u64 0, .int .i64 0, .int .u32 0, .int .u32 0, .int .u32 0, .int .u32 0, .int .u32 0, .int .u32 0] 54)).heap[H + 1]? = some (.cells #[.int .i64 0, .int .u16 0, .int .u16 0, .int .u32 0, .int .u64 0, .int .i64 0, .int .u32 0, .int .u32 0, .int .u32 0, .int .u32 0, .int .u32 0, .int .u32 0] 54 (0, 0)) := by rw [← hs2]; exact World.alloc_heap_new W2 _
    have hS3 : (W2.alloc (.cells #[.int .i64 0, .int .u16 0, .int .u16 0, .int .u32 0, .int .u64 0, .int .i64 0, .int .u32 0, .int .u32 0, .int .u32 0, .int .u32 0, .int .u32 0, .int .u32 0] 54)).heap[H]? = some (.cells #[.int .u32 m0, .int .u32 m1, .int .u32 m2, .int .u32 m3, .int .u32 m4, .int .u32 m5] 32 (0, 0)) := (Below.heap_alloc _ _ _ (by omega)).trans hS2
    have hb3 : Below H w (W2.alloc (.cells #[.int .i64 0, .int .u16 0, .int .u16 0, .int .u32 0, .int .u64 0, .int .i64 0, .int .u32 0, .int .u32 0, .int .u32 0, .int .u32 0, .int .u32 0, .int .u32 0] 54)) := hb2.alloc (by omega) _
    generalize W2.alloc (.cells #[.int .i64 0, .int .u16 0, .int .u16 0, .int .u32 0, .int .u64 0, .int .i64 0, .int .u32 0, .int .u32 0, .int .u32 0, .int .u32 0, .int .u32 0, .int .u32 0] 54) = W3 at hx hS3 hb3 ⊢
    obtain ⟨z0, z1, z2, z3, z4, z5, z6, z7, z8, z9, z10, z11⟩ := ino_cells hx
    have f0 := ino_free hx 0
    have f1 := ino_free hx 1
    have f2 := ino_free hx 2
    have f3 := ino_free hx 3
    have f4 := ino_free hx 4
    have f5 := ino_free hx 5
    have f6 := ino_free hx 6
    have f7 := ino_free hx 7
    have f8 := ino_free hx 8
    have f9 := ino_free hx 9
    have f10 := ino_free hx 10
    have f11 := ino_free hx 11
    refine allH (rs := [6]) (by kernel_rfl) (by decide) (skipH 6 (l' := #[true, true, true, true, true, true, true]) (w1 := set12 W3 (H + 1) (.int .i64 1) (.int .u16 0) (.int .u16 0) (.int .u32 size) (.int .u64 0) (.int .i64 dp) (.int .u32 m0) (.int .u32 m1) (.int .u32 m2) (.int .u32 m3) (.int .u32 m4) (.int .u32 m5)) rfl (by kernel_rfl) (by go_simp; first | done | rfl) (by rfl) (by kernel_rfl) (by rw [set12_other _ _ _ (by omega)]; exact hS3) ?_ AllH.nil)
    exact wpAnyH_done (by kernel_rfl) ⟨rfl, rfl, by rw [set12_other _ _ _ (by omega)]; exact hS3, set12_cells hx _ _ _ _ _ _ _ _ _ _ _ _, set12_below hb3 (by omega) _ _ _ _ _ _ _ _ _ _ _ _⟩ _
  · have hx1 : (W1.alloc (.cells #[.int .i64 0, .int .u16 0, .int .u16 0, .int .u32 0, .int .u64 0, .int .i64 0, .int .u32 0, .int .u32 0, .int .u32 0, .int .u32 0, .int .u32 0, .int .u32 0] 54)).heap[H + 1]? = some (.cells #[.int .i64 0, .int .u16 0, .int .u16 0, .int .u32 0, .int .u64 0, .int .i64 0, .int .u32 0, .int .u32 0, .int .u32 0, .int .u32 0, .int .u32 0, .int .u32 0] 54 (0, 0)) := by rw [← hs]; exact World.alloc_heap_new W1 _
    have hS1 : (W1.alloc (.cells #[.int .i64 0, .int .u16 0, .int .u16 0, .int .u32 0, .int .u64 0, .int .i64 0, .int .u32 0, .int .u32 0, .int .u32 0, .int .u32 0, .int .u32 0, .int .u32 0] 54)).heap[H]? = some (.cells #[.int .u32 m0, .int .u32 m1, .int .u32 m2, .int .u32 m3, .int .u32 m4, .int .u32 m5] 32 (0, 0)) := (Below.heap_alloc _ _ _ (by omega)).trans hS
    have hb1 : Below H w (W1.alloc (.cells #[.int .i64 0, .int .u16 0, .int .u16 0, .int .u32 0, .int .u64 0, .int .i64 0, .int .u32 0, .int .u32 0, .int .u32 0, .int .u32 0, .int .u32 0, .int .u32 0] 54)) := hb.alloc (by omega) _
    generalize W1.alloc (.cells #[.int .i64 0, .int .u16 0, .int .u16 0, .int .u32 0, .int .u64 0, .int .i64 0, .int .u32 0, .int .u32 0, .int .u32 0, .int .u32 0, .int .u32 0, .int .u32 0] 54) = W5 at hx1 hS1 hb1 ⊢
    refine allH (rs := [2]) (by kernel_rfl) (by decide) (enterH 2 19 (l' := #[true, true, true, true, false, true, false]) (f := 23) (args := #[.int .u32 size]) rfl rfl (by kernel_rfl) (by go_simp) (inode_Depth.calls size dp W5 HD.out) (by kernel_rfl) ?_ AllH.nil)
    rintro e W3 ⟨rfl, hD⟩
    have e2 := drawn_same hD
    have hS3 : W3.heap[H]? = some (.cells #[.int .u32 m0, .int .u32 m1, .int .u32 m2, .int .u32 m3, .int .u32 m4, .int .u32 m5] 32 (0, 0)) := by rw [e2]; exact hS1
    have hS2 := hS3
    have hx : W3.heap[H + 1]? = some (.cells #[.int .i64 0, .int .u16 0, .int .u16 0, .int .u32 0, .int .u64 0, .int .i64 0, .int .u32 0, .int .u32 0, .int .u32 0, .int .u32 0, .int .u32 0, .int .u32 0] 54 (0, 0)) := by rw [e2]; exact hx1
    have hb3 : Below H w W3 := hb1.trans (hD.below.mono (by have := (Array.getElem?_eq_some_iff.1 hx1).1; omega))
    refine ⟨_, rfl, hS3, _, (by show Act.put _ (some 19) _ = _; simp only [Act.put, List.setIfInBounds_toArray, List.set_cons_zero, List.set_cons_succ]; try rfl), ?_⟩
    refine takeH 4 (l' := #[true, true, true, true, true, true, false]) (v := .agg #[.int .i64 1, .int .u16 0, .int .u16 0, .int .u32 size, .int .u64 0, .int .i64 dp, .int .u32 m0, .int .u32 m1, .int .u32 m2, .int .u32 m3, .int .u32 m4, .int .u32 m5]) rfl (by kernel_rfl) (by kernel_rfl) (by kernel_rfl) (fun _ _ _ h => by cases h.1) (by kernel_rfl) (fun _ _ => by go_simp; first | done | rfl) hS2 (by show Act.put _ (some 21) _ = _; simp only [Act.put, List.setIfInBounds_toArray, List.set_cons_zero, List.set_cons_succ]; try rfl) (by kernel_rfl) ?_
    obtain ⟨z0, z1, z2, z3, z4, z5, z6, z7, z8, z9, z10, z11⟩ := ino_cells hx
    have f0 := ino_free hx 0
    have f1 := ino_free hx 1
    have f2 := ino_free hx 2
    have f3 := ino_free hx 3
    have f4 := ino_free hx 4
    have f5 := ino_free hx 5
    have f6 := ino_free hx 6
    have f7 := ino_free hx 7
    have f8 := ino_free hx 8
    have f9 := ino_free hx 9
    have f10 := ino_free hx 10
    have f11 := ino_free hx 11
    refine allH (rs := [6]) (by kernel_rfl) (by decide) (skipH 6 (l' := #[true, true, true, true, true, true, true]) (w1 := set12 W3 (H + 1) (.int .i64 1) (.int .u16 0) (.int .u16 0) (.int .u32 size) (.int .u64 0) (.int .i64 dp) (.int .u32 m0) (.int .u32 m1) (.int .u32 m2) (.int .u32 m3) (.int .u32 m4) (.int .u32 m5)) rfl (by kernel_rfl) (by go_simp; first | done | rfl) (by rfl) (by kernel_rfl) (by rw [set12_other _ _ _ (by omega)]; exact hS3) ?_ AllH.nil)
    exact wpAnyH_done (by kernel_rfl) ⟨rfl, rfl, by rw [set12_other _ _ _ (by omega)]; exact hS3, set12_cells hx _ _ _ _ _ _ _ _ _ _ _ _, set12_below hb3 (by omega) _ _ _ _ _ _ _ _ _ _ _ _⟩ _
set_option maxHeartbeats 8000000 in
theorem join_e2 (size : Int) (m0 m1 m2 m3 m4 m5 : Int) (A : Option Addr) (cb : Nat) (bs : List ByteArray) (dp : Int) (w : World) (hd : inode_Depth.f size = some dp) (hr : inode_Right.f 1 0 0 size 0 dp m0 m1 m2 m3 m4 m5 = some true) (cnt : Int) (hct : bmap_Count.f size = some cnt) (hne : ((bs.length : Int) != cnt) = true) :
    Calls Try.prog 18 #[.int .u32 size, .agg #[.int .u32 m0, .int .u32 m1, .int .u32 m2, .int .u32 m3, .int .u32 m4, .int .u32 m5], .slice A bs.length cb] w fun e w' => e = .returned (.tuple #[.slice none 0 0, .int .i64 130]) ∧ Below w.heap.size w w' := by
  have hu := Try.underlying54
  have HD := Aside0.mk hd
  have HR := Aside0.mk hr
  clear hd hr
  go_enter Try.func18, Try.ntmps18
  go_wp2_with fail
  obtain ⟨H, hH⟩ : ∃ H, w.heap.size = H := ⟨_, rfl⟩
  simp only [hH]
  have hm : (w.alloc (.cells #[.int .u32 m0, .int .u32 m1, .int .u32 m2, .int .u32 m3, .int .u32 m4, .int .u32 m5] 32)).heap[H]? = some (.cells #[.int .u32 m0, .int .u32 m1, .int .u32 m2, .int .u32 m3, .int .u32 m4, .int .u32 m5] 32 (0, 0)) := by rw [← hH]; exact World.alloc_heap_new w _
  have hs : (w.alloc (.cells #[.int .u32 m0, .int .u32 m1, .int .u32 m2, .int .u32 m3, .int .u32 m4, .int .u32 m5] 32)).heap.size = H + 1 := by rw [World.size_alloc, hH]
  have hb : Below H w (w.alloc (.cells #[.int .u32 m0, .int .u32 m1, .int .u32 m2, .int .u32 m3, .int .u32 m4, .int .u32 m5] 32)) := (Below.refl H w).alloc (by omega) _
  generalize w.alloc (.cells #[.int .u32 m0, .int .u32 m1, .int .u32 m2, .int .u32 m3, .int .u32 m4, .int .u32 m5] 32) = W0 at hm hs hb ⊢
  refine Code.wp_mono (Q := fun e a' W' => e = .normal ∧ a' = { tmps := #[.int .u32 size, .agg #[.int .u32 m0, .int .u32 m1, .int .u32 m2, .int .u32 m3, .int .u32 m4, .int .u32 m5], .slice A bs.length cb, undef, .pointer (some ⟨H, 0, none⟩), undef, .slice none 0 0, .int .i64 0, .pointer (some ⟨H + 1, 0, none⟩), undef, undef, undef, undef, undef, undef, undef, undef, .int .u32 size, .int .u32 size, .int .i64 dp, .agg #[.int .u32 m0, .int .u32 m1, .int .u32 m2, .int .u32 m3, .int .u32 m4, .int .u32 m5], .agg #[.int .i64 1, .int .u16 0, .int .u16 0, .int .u32 size, .int .u64 0, .int .i64 dp, .int .u32 m0, .int .u32 m1, .int .u32 m2, .int .u32 m3, .int .u32 m4, .int .u32 m5], undef, undef, undef, undef, undef, undef, undef, undef, undef, undef, undef, undef, undef, undef, undef, undef, undef, undef, undef, undef, undef, undef, undef, undef, undef, undef, undef, undef, undef, undef, undef, undef, undef, undef, undef, undef, undef, undef, undef, undef, undef, undef, undef, undef, undef, undef, undef, undef, undef, undef, undef, undef, undef, undef, undef, undef, undef, undef], defers := [] } ∧ W'.heap[H]? = some (.cells #[.int .u32 m0, .int .u32 m1, .int .u32 m2, .int .u32 m3, .int .u32 m4, .int .u32 m5] 32 (0, 0)) ∧ W'.heap[H + 1]? = some (.cells #[.int .i64 1, .int .u16 0, .int .u16 0, .int .u32 size, .int .u64 0, .int .i64 dp, .int .u32 m0, .int .u32 m1, .int .u32 m2, .int .u32 m3, .int .u32 m4, .int .u32 m5] 54 (0, 0)) ∧ Below H w W') ?post ?_
  case post =>
    rintro e a' W7 ⟨rfl, rfl, hm7, hx7, hb7⟩
    clear hm hs hb W0 HD
    obtain ⟨g0, g1, g2, g3, g4, g5, g6, g7, g8, g9, g10, g11⟩ := ino_cells hx7
    go_wp2_with fail
    refine (inode_Right.calls _ _ _ _ _ _ _ _ _ _ _ _ true W7 HR.out).mono ?_
    rintro e w8 ⟨rfl, hb8⟩
    have hl7 := (Array.getElem?_eq_some_iff.1 hx7).1
    have hm8 := (hb8.block H (by omega)).trans hm7
    have hx8 := (hb8.block (H + 1) (by omega)).trans hx7
    have hB8 : Below H w w8 := hb7.trans (hb8.mono (by omega))
    clear g0 g1 g2 g3 g4 g5 g6 g7 g8 g9 g10 g11 hm7 hx7 hb7 hb8 hl7
    go_wp2_with fail
    refine (bmap_Count.calls size cnt _ hct).mono ?_
    rintro e w9 ⟨rfl, m9, rfl⟩
    go_wp2_with fail
    go_ret2
    exact ⟨rfl, by rw [hH]; exact pw_below_drewN hB8 m9⟩
  refine wp_region_held (S := fun W => W.heap[H]? = some (.cells #[.int .u32 m0, .int .u32 m1, .int .u32 m2, .int .u32 m3, .int .u32 m4, .int .u32 m5] 32 (0, 0))) (by kernel_rfl) ?_
  have hPN : (W0.drew.heap[H]? = some (.cells #[.int .u32 m0, .int .u32 m1, .int .u32 m2, .int .u32 m3, .int .u32 m4, .int .u32 m5] 32 (0, 0))) ∧ W0.drew.heap.size = H + 1 ∧ Below H w W0.drew := ⟨hm, hs, pw_below_drewN hb 1⟩
  change wpAnyH _ _ _ _ _ 7 #[false, false, false, false, false, false, false] _ W0.drew
  clear hm hs hb
  generalize W0.drew = W1 at hPN ⊢
  obtain ⟨hS, hs, hb⟩ := hPN
  refine takeH 0 (l' := #[true, false, false, false, false, false, false]) (v := .int .u32 size) rfl (by kernel_rfl) (by kernel_rfl) (by kernel_rfl) (fun _ _ _ h => by cases h.1) (by kernel_rfl) (fun _ _ => by go_simp) hS (by show Act.put _ (some 17) _ = _; simp only [Act.put, List.setIfInBounds_toArray, List.set_cons_zero, List.set_cons_succ]; try rfl) (by kernel_rfl) ?_
  refine takeH 1 (l' := #[true, true, false, false, false, false, false]) (v := .int .u32 size) rfl (by kernel_rfl) (by kernel_rfl) (by kernel_rfl) (fun _ _ _ h => by cases h.1) (by kernel_rfl) (fun _ _ => by go_simp) hS (by show Act.put _ (some 18) _ = _; simp only [Act.put, List.setIfInBounds_toArray, List.set_cons_zero, List.set_cons_succ]; try rfl) (by kernel_rfl) ?_
  refine takeH 3 (l' := #[true, true, false, true, false, false, false]) (v := .agg #[.int .u32 m0, .int .u32 m1, .int .u32 m2, .int .u32 m3, .int .u32 m4, .int .u32 m5]) rfl (by kernel_rfl) (by kernel_rfl) (by kernel_rfl) (fun _ _ _ h => by cases h.1) (by kernel_rfl) (fun W hS => by have c0 := six_cell hS 0 (by omega); have c1 := six_cell hS 1 (by omega); have c2 := six_cell hS 2 (by omega); have c3 := six_cell hS 3 (by omega); have c4 := six_cell hS 4 (by omega); have c5 := six_cell hS 5 (by omega); simp only [List.getD_cons_zero, List.getD_cons_succ] at c0 c1 c2 c3 c4 c5; go_simp) hS (by show Act.put _ (some 20) _ = _; simp only [Act.put, List.setIfInBounds_toArray, List.set_cons_zero, List.set_cons_succ]; try rfl) (by kernel_rfl) ?_
  refine allH (rs := [2, 5]) (by kernel_rfl) (by decide) (enterH 2 19 (l' := #[true, true, true, true, false, false, false]) (f := 23) (args := #[.int .u32 size]) rfl rfl (by kernel_rfl) (by go_simp) (inode_Depth.calls size dp W1 HD.out) (by kernel_rfl) ?_ (readyH 5 (l' := #[true, true, false, true, false, true, false]) (v := .pointer (some ⟨H + 1, 0, none⟩)) (w1 := W1.alloc (.cells #[.int .i64 0, .int .u16 0, .int .u16 0, .int .u32 0, .int .u64 0, .int .i64 0, .int .u32 0, .int .u32 0, .int .u32 0, .int .u32 0, .int .u32 0, .int .u32 0] 54)) rfl (by kernel_rfl) (by go_simp; try (rw [hs]; try rfl)) (by show Act.put _ (some 8) _ = _; simp only [Act.put, List.setIfInBounds_toArray, List.set_cons_zero, List.set_cons_succ]; try rfl) (by kernel_rfl) ((Below.heap_alloc _ _ _ (by omega)).trans hS) ?_ AllH.nil))
  · rintro e W2 ⟨rfl, hD⟩
    have e2 := drawn_same hD
    have hS2 : W2.heap[H]? = some (.cells #[.int .u32 m0, .int .u32 m1, .int .u32 m2, .int .u32 m3, .int .u32 m4, .int .u32 m5] 32 (0, 0)) := by rw [e2]; exact hS
    have hs2 : W2.heap.size = H + 1 := by rw [e2]; exact hs
    have hb2 : Below H w W2 := hb.trans (hD.below.mono (by omega))
    refine ⟨_, rfl, hS2, _, (by show Act.put _ (some 19) _ = _; simp only [Act.put, List.setIfInBounds_toArray, List.set_cons_zero, List.set_cons_succ]; try rfl), ?_⟩
    refine takeH 4 (l' := #[true, true, true, true, true, false, false]) (v := .agg #[.int .i64 1, .int .u16 0, .int .u16 0, .int .u32 size, .int .u64 0, .int .i64 dp, .int .u32 m0, .int .u32 m1, .int .u32 m2, .int .u32 m3, .int .u32 m4, .int .u32 m5]) rfl (by kernel_rfl) (by kernel_rfl) (by kernel_rfl) (fun _ _ _ h => by cases h.1) (by kernel_rfl) (fun _ _ => by go_simp; first | done | rfl) hS2 (by show Act.put _ (some 21) _ = _; simp only [Act.put, List.setIfInBounds_toArray, List.set_cons_zero, List.set_cons_succ]; try rfl) (by kernel_rfl) ?_
    refine allH (rs := [5]) (by kernel_rfl) (by decide) (readyH 5 (l' := #[true, true, true, true, true, true, false]) (v := .pointer (some ⟨H + 1, 0, none⟩)) (w1 := W2.alloc (.cells #[.int .i64 0, .int .u16 0, .int .u16 0, .int .u32 0, .int .u64 0, .int .i64 0, .int .u32 0, .int .u32 0, .int .u32 0, .int .u32 0, .int .u32 0, .int .u32 0] 54)) rfl (by kernel_rfl) (by go_simp; try (rw [hs2]; try rfl)) (by show Act.put _ (some 8) _ = _; simp only [Act.put, List.setIfInBounds_toArray, List.set_cons_zero, List.set_cons_succ]; try rfl) (by kernel_rfl) ((Below.heap_alloc _ _ _ (by omega)).trans hS2) ?_ AllH.nil)
    have hx : (W2.alloc (.cells #[.int .i64 0, .int .u16 0, .int .u16 0, .int .u32 0, .int .u64 0, .int .i64 0, .int .u32 0, .int .u32 0, .int .u32 0, .int .u32 0, .int .u32 0, .int .u32 0] 54)).heap[H + 1]? = some (.cells #[.int .i64 0, .int .u16 0, .int .u16 0, .int .u32 0, .int .u64 0, .int .i64 0, .int .u32 0, .int .u32 0, .int .u32 0, .int .u32 0, .int .u32 0, .int .u32 0] 54 (0, 0)) := by rw [← hs2]; exact World.alloc_heap_new W2 _
    have hS3 : (W2.alloc (.cells #[.int .i64 0, .int .u16 0, .int .u16 0, .int .u32 0, .int .u64 0, .int .i64 0, .int .u32 0, .int .u32 0, .int .u32 0, .int .u32 0, .int .u32 0, .int .u32 0] 54)).heap[H]? = some (.cells #[.int .u32 m0, .int .u32 m1, .int .u32 m2, .int .u32 m3, .int .u32 m4, .int .u32 m5] 32 (0, 0)) := (Below.heap_alloc _ _ _ (by omega)).trans hS2
    have hb3 : Below H w (W2.alloc (.cells #[.int .i64 0, .int .u16 0, .int .u16 0, .int .u32 0, .int .u64 0, .int .i64 0, .int .u32 0, .int .u32 0, .int .u32 0, .int .u32 0, .int .u32 0, .int .u32 0] 54)) := hb2.alloc (by omega) _
    generalize W2.alloc (.cells #[.int .i64 0, .int .u16 0, .int .u16 0, .int .u32 0, .int .u64 0, .int .i64 0, .int .u32 0, .int .u32 0, .int .u32 0, .int .u32 0, .int .u32 0, .int .u32 0] 54) = W3 at hx hS3 hb3 ⊢
    obtain ⟨z0, z1, z2, z3, z4, z5, z6, z7, z8, z9, z10, z11⟩ := ino_cells hx
    have f0 := ino_free hx 0
    have f1 := ino_free hx 1
    have f2 := ino_free hx 2
    have f3 := ino_free hx 3
    have f4 := ino_free hx 4
    have f5 := ino_free hx 5
    have f6 := ino_free hx 6
    have f7 := ino_free hx 7
    have f8 := ino_free hx 8
    have f9 := ino_free hx 9
    have f10 := ino_free hx 10
    have f11 := ino_free hx 11
    refine allH (rs := [6]) (by kernel_rfl) (by decide) (skipH 6 (l' := #[true, true, true, true, true, true, true]) (w1 := set12 W3 (H + 1) (.int .i64 1) (.int .u16 0) (.int .u16 0) (.int .u32 size) (.int .u64 0) (.int .i64 dp) (.int .u32 m0) (.int .u32 m1) (.int .u32 m2) (.int .u32 m3) (.int .u32 m4) (.int .u32 m5)) rfl (by kernel_rfl) (by go_simp; first | done | rfl) (by rfl) (by kernel_rfl) (by rw [set12_other _ _ _ (by omega)]; exact hS3) ?_ AllH.nil)
    exact wpAnyH_done (by kernel_rfl) ⟨rfl, rfl, by rw [set12_other _ _ _ (by omega)]; exact hS3, set12_cells hx _ _ _ _ _ _ _ _ _ _ _ _, set12_below hb3 (by omega) _ _ _ _ _ _ _ _ _ _ _ _⟩ _
  · have hx1 : (W1.alloc (.cells #[.int .i64 0, .int .u16 0, .int .u16 0, .int .u32 0, .int .u64 0, .int .i64 0, .int .u32 0, .int .u32 0, .int .u32 0, .int .u32 0, .int .u32 0, .int .u32 0] 54)).heap[H + 1]? = some (.cells #[.int .i64 0, .int .u16 0, .int .u16 0, .int .u32 0, .int .u64 0, .int .i64 0, .int .u32 0, .int .u32 0, .int .u32 0, .int .u32 0, .int .u32 0, .int .u32 0] 54 (0, 0)) := by rw [← hs]; exact World.alloc_heap_new W1 _
    have hS1 : (W1.alloc (.cells #[.int .i64 0, .int .u16 0, .int .u16 0, .int .u32 0, .int .u64 0, .int .i64 0, .int .u32 0, .int .u32 0, .int .u32 0, .int .u32 0, .int .u32 0, .int .u32 0] 54)).heap[H]? = some (.cells #[.int .u32 m0, .int .u32 m1, .int .u32 m2, .int .u32 m3, .int .u32 m4, .int .u32 m5] 32 (0, 0)) := (Below.heap_alloc _ _ _ (by omega)).trans hS
    have hb1 : Below H w (W1.alloc (.cells #[.int .i64 0, .int .u16 0, .int .u16 0, .int .u32 0, .int .u64 0, .int .i64 0, .int .u32 0, .int .u32 0, .int .u32 0, .int .u32 0, .int .u32 0, .int .u32 0] 54)) := hb.alloc (by omega) _
    generalize W1.alloc (.cells #[.int .i64 0, .int .u16 0, .int .u16 0, .int .u32 0, .int .u64 0, .int .i64 0, .int .u32 0, .int .u32 0, .int .u32 0, .int .u32 0, .int .u32 0, .int .u32 0] 54) = W5 at hx1 hS1 hb1 ⊢
    refine allH (rs := [2]) (by kernel_rfl) (by decide) (enterH 2 19 (l' := #[true, true, true, true, false, true, false]) (f := 23) (args := #[.int .u32 size]) rfl rfl (by kernel_rfl) (by go_simp) (inode_Depth.calls size dp W5 HD.out) (by kernel_rfl) ?_ AllH.nil)
    rintro e W3 ⟨rfl, hD⟩
    have e2 := drawn_same hD
    have hS3 : W3.heap[H]? = some (.cells #[.int .u32 m0, .int .u32 m1, .int .u32 m2, .int .u32 m3, .int .u32 m4, .int .u32 m5] 32 (0, 0)) := by rw [e2]; exact hS1
    have hS2 := hS3
    have hx : W3.heap[H + 1]? = some (.cells #[.int .i64 0, .int .u16 0, .int .u16 0, .int .u32 0, .int .u64 0, .int .i64 0, .int .u32 0, .int .u32 0, .int .u32 0, .int .u32 0, .int .u32 0, .int .u32 0] 54 (0, 0)) := by rw [e2]; exact hx1
    have hb3 : Below H w W3 := hb1.trans (hD.below.mono (by have := (Array.getElem?_eq_some_iff.1 hx1).1; omega))
    refine ⟨_, rfl, hS3, _, (by show Act.put _ (some 19) _ = _; simp only [Act.put, List.setIfInBounds_toArray, List.set_cons_zero, List.set_cons_succ]; try rfl), ?_⟩
    refine takeH 4 (l' := #[true, true, true, true, true, true, false]) (v := .agg #[.int .i64 1, .int .u16 0, .int .u16 0, .int .u32 size, .int .u64 0, .int .i64 dp, .int .u32 m0, .int .u32 m1, .int .u32 m2, .int .u32 m3, .int .u32 m4, .int .u32 m5]) rfl (by kernel_rfl) (by kernel_rfl) (by kernel_rfl) (fun _ _ _ h => by cases h.1) (by kernel_rfl) (fun _ _ => by go_simp; first | done | rfl) hS2 (by show Act.put _ (some 21) _ = _; simp only [Act.put, List.setIfInBounds_toArray, List.set_cons_zero, List.set_cons_succ]; try rfl) (by kernel_rfl) ?_
    obtain ⟨z0, z1, z2, z3, z4, z5, z6, z7, z8, z9, z10, z11⟩ := ino_cells hx
    have f0 := ino_free hx 0
    have f1 := ino_free hx 1
    have f2 := ino_free hx 2
    have f3 := ino_free hx 3
    have f4 := ino_free hx 4
    have f5 := ino_free hx 5
    have f6 := ino_free hx 6
    have f7 := ino_free hx 7
    have f8 := ino_free hx 8
    have f9 := ino_free hx 9
    have f10 := ino_free hx 10
    have f11 := ino_free hx 11
    refine allH (rs := [6]) (by kernel_rfl) (by decide) (skipH 6 (l' := #[true, true, true, true, true, true, true]) (w1 := set12 W3 (H + 1) (.int .i64 1) (.int .u16 0) (.int .u16 0) (.int .u32 size) (.int .u64 0) (.int .i64 dp) (.int .u32 m0) (.int .u32 m1) (.int .u32 m2) (.int .u32 m3) (.int .u32 m4) (.int .u32 m5)) rfl (by kernel_rfl) (by go_simp; first | done | rfl) (by rfl) (by kernel_rfl) (by rw [set12_other _ _ _ (by omega)]; exact hS3) ?_ AllH.nil)
    exact wpAnyH_done (by kernel_rfl) ⟨rfl, rfl, by rw [set12_other _ _ _ (by omega)]; exact hS3, set12_cells hx _ _ _ _ _ _ _ _ _ _ _ _, set12_below hb3 (by omega) _ _ _ _ _ _ _ _ _ _ _ _⟩ _
end Go.Proofs.Ytpgdcpbbfphbiaa.Q

set_option linter.unusedVariables false
set_option linter.unusedSimpArgs false
namespace Go.Proofs.Ytpgdcpbbfphbiaa.Q
open Go.RowKit Go.Sort Go.Shelf Go.Proofs.Ytpgdcpbbfphbiaa.H Go.Proofs.YtpgdcpbbfphbiaaW.PrintWords Go.Proofs.YtpgdcpbbfphbiaaW.PrintLast Go.Proofs.YtpgdcpbbfphbiaaW.PrintMore
attribute [local go_sem] Oper.semAt_some
set_option maxRecDepth 100000


theorem add_zero_off (H j : Nat) : (⟨H, 0, none⟩ : Addr).add j = ⟨H, j, none⟩ := by unfold Addr.add; split <;> simp_all
theorem arr_C {W : World} {H : Nat} {t : TypeId} {m0 m1 m2 m3 m4 m5 : Int} (h : W.heap[H]? = some (.cells #[.int .u32 m0, .int .u32 m1, .int .u32 m2, .int .u32 m3, .int .u32 m4, .int .u32 m5] t (0, 0))) : Kd.C (Kd.int .u32) W (some ⟨H, 0, none⟩) 6 [m0, m1, m2, m3, m4, m5] :=
  Kd.C_of_reads (enc := Value.int .u32) (d := (0 : Int)) (h1 := fun _ => rfl) ⟨rfl, by omega, fun _ => ⟨_, rfl, fun j hj => by rw [add_zero_off]; exact six_cell h j hj⟩⟩
def joinL : List ByteArray → List Int → Option (List Int × Int)
  | [], out => some (out, 0)
  | b :: bs, out => (bmap_Numbers.f b).bind fun t => if t.2 = 0 then joinL bs (out ++ t.1) else some ([], t.2)
def joinEnd (many : Int) (r : List Int × Int) : Option (List Int × Int) :=
  if r.2 = 0 then (if 0 ≤ many ∧ many ≤ (r.1.length : Int) then ((containsU.f (r.1.drop many.toNat) 35).bind fun c => if c = true then some ([], 130) else some (r.1.take many.toNat, 0)) else none) else some ([], r.2)
theorem num_len {b : ByteArray} {l : List Int} {e : Int} (h : bmap_Numbers.f b = some (l, e)) : l.length ≤ 127 := by
  unfold bmap_Numbers.f at h
  split at h
  · split at h
    · cases h; rw [numsN_len]; omega
    · cases h
  · cases h; simp
theorem info_str2 : (Try.prog.info? 9).map (fun i => (i.zero, i.size, i.bytes)) = some (some (.string ⟨#[]⟩), 1, 16) := by kernel_rfl
set_option maxHeartbeats 8000000 in
theorem join_0 (size : Int) (m0 m1 m2 m3 m4 m5 : Int) (A : Option Addr) (cb : Nat) (bs : List ByteArray) (dp : Int) (w : World) (hd : inode_Depth.f size = some dp) (hr : inode_Right.f 1 0 0 size 0 dp m0 m1 m2 m3 m4 m5 = some true) (many : Int) (hbl : inode_Blocks.f size = some many) (hct : bmap_Count.f size = some (bs.length : Int)) (hC : Kd.C Kd.string w A bs.length bs) (hcb : bs.length ≤ cb) (hn : bs.length ≤ 1000) (res : List Int × Int) (hp : decide (0 < dp) = false) (hq : (dp == 2) = false) (hres : joinL bs [m0, m1, m2, m3, m4, m5] = some res) (r1 : List Int) (r2 : Int) (he : joinEnd many res = some (r1, r2)) :
    Calls Try.prog 18 #[.int .u32 size, .agg #[.int .u32 m0, .int .u32 m1, .int .u32 m2, .int .u32 m3, .int .u32 m4, .int .u32 m5], .slice A bs.length cb] w fun e w' => ∃ v, e = .returned (.tuple #[v, .int .i64 r2]) ∧ Kd.R (Kd.int .u32) 22 w' w.heap.size (fun _ => True) v r1 ∧ Below w.heap.size w w' := by
  have hu := Try.underlying54
  have HD := Aside0.mk hd
  have HR := Aside0.mk hr
  clear hd hr
  have HCS := Aside0.mk hC
  have HE := Aside0.mk he
  have HRES := Aside0.mk hres
  clear hC he hres
  go_enter Try.func18, Try.ntmps18
  go_wp2_with fail
  obtain ⟨H, hH⟩ : ∃ H, w.heap.size = H := ⟨_, rfl⟩
  simp only [hH]
  have hm : (w.alloc (.cells #[.int .u32 m0, .int .u32 m1, .int .u32 m2, .int .u32 m3, .int .u32 m4, .int .u32 m5] 32)).heap[H]? = some (.cells #[.int .u32 m0, .int .u32 m1, .int .u32 m2, .int .u32 m3, .int .u32 m4, .int .u32 m5] 32 (0, 0)) := by rw [← hH]; exact World.alloc_heap_new w _
  have hs : (w.alloc (.cells #[.int .u32 m0, .int .u32 m1, .int .u32 m2, .int .u32 m3, .int .u32 m4, .int .u32 m5] 32)).heap.size = H + 1 := by rw [World.size_alloc, hH]
  have hb : Below H w (w.alloc (.cells #[.int .u32 m0, .int .u32 m1, .int .u32 m2, .int .u32 m3, .int .u32 m4, .int .u32 m5] 32)) := (Below.refl H w).alloc (by omega) _
  generalize w.alloc (.cells #[.int .u32 m0, .int .u32 m1, .int .u32 m2, .int .u32 m3, .int .u32 m4, .int .u32 m5] 32) = W0 at hm hs hb ⊢
  refine Code.wp_mono (Q := fun e a' W' => e = .normal ∧ a' = { tmps := #[.int .u32 size, .agg #[.int .u32 m0, .int .u32 m1, .int .u32 m2, .int .u32 m3, .int .u32 m4, .int .u32 m5], .slice A bs.length cb, undef, .pointer (some ⟨H, 0, none⟩), undef, .slice none 0 0, .int .i64 0, .pointer (some ⟨H + 1, 0, none⟩), undef, undef, undef, undef, undef, undef, undef, undef, .int .u32 size, .int .u32 size, .int .i64 dp, .agg #[.int .u32 m0, .int .u32 m1, .int .u32 m2, .int .u32 m3, .int .u32 m4, .int .u32 m5], .agg #[.int .i64 1, .int .u16 0, .int .u16 0, .int .u32 size, .int .u64 0, .int .i64 dp, .int .u32 m0, .int .u32 m1, .int .u32 m2, .int .u32 m3, .int .u32 m4, .int .u32 m5], undef, undef, undef, undef, undef, undef, undef, undef, undef, undef, undef, undef, undef, undef, undef, undef, undef, undef, undef, undef, undef, undef, undef, undef, undef, undef, undef, undef, undef, undef, undef, undef, undef, undef, undef, undef, undef, undef, undef, undef, undef, undef, undef, undef, undef, undef, undef, undef, undef, undef, undef, undef, undef, undef, undef, undef, undef, undef], defers := [] } ∧ W'.heap[H]? = some (.cells #[.int .u32 m0, .int .u32 m1, .int .u32 m2, .int .u32 m3, .int .u32 m4, .int .u32 m5] 32 (0, 0)) ∧ W'.heap[H + 1]? = some (.cells #[.int .i64 1, .int .u16 0, .int .u16 0, .int .u32 size, .int .u64 0, .int .i64 dp, .int .u32 m0, .int .u32 m1, .int .u32 m2, .int .u32 m3, .int .u32 m4, .int .u32 m5] 54 (0, 0)) ∧ Below H w W') ?post ?_
  case post =>
    rintro e a' W7 ⟨rfl, rfl, hm7, hx7, hb7⟩
    clear hm hs hb W0 HD
    obtain ⟨g0, g1, g2, g3, g4, g5, g6, g7, g8, g9, g10, g11⟩ := ino_cells hx7
    go_wp2_with fail
    refine (inode_Right.calls _ _ _ _ _ _ _ _ _ _ _ _ true W7 HR.out).mono ?_
    rintro e w8 ⟨rfl, hb8⟩
    have hl7 := (Array.getElem?_eq_some_iff.1 hx7).1
    have hm8 := (hb8.block H (by omega)).trans hm7
    have hx8 := (hb8.block (H + 1) (by omega)).trans hx7
    have hB8 : Below H w w8 := hb7.trans (hb8.mono (by omega))
    clear g0 g1 g2 g3 g4 g5 g6 g7 g8 g9 g10 g11 hm7 hx7 hb7 hb8 hl7
    go_wp2_with fail
    refine (bmap_Count.calls size _ _ hct).mono ?_
    rintro e w9 ⟨rfl, hd9⟩
    have e9 := drawn_same hd9
    have hB9 : Below H w w9 := hB8.trans (hd9.below.mono (by have := hB8.size; omega))
    rw [← e9] at hm8 hx8
    clear hB8 hd9 e9
    go_wp2_with fail
    refine (inode_Blocks.calls size many _ hbl).mono ?_
    rintro e w10 ⟨rfl, hd10⟩
    have e10 := drawn_same hd10
    have hB10 : Below H w w10 := hB9.trans (hd10.below.mono (by have := hB9.size; omega))
    rw [← e10] at hm8 hx8
    clear hB9 hd10 e10
    have q5 : w10.cell? ⟨H + 1, 5, none⟩ = some (.int .i64 dp) := (ino_cells hx8).2.2.2.2.2.1
    go_wp2_with fail
    refine (cloneU.calls (some ⟨H, 0, none⟩) 6 [m0, m1, m2, m3, m4, m5] [m0, m1, m2, m3, m4, m5] w10 (arr_C hm8) (by simp) (by rfl)).mono ?_
    rintro e w11 ⟨vC, rfl, hoC, hbC⟩
    have hx11 := (hbC.block (H + 1) (Array.getElem?_eq_some_iff.1 hx8).1).trans hx8
    have q6 : w11.cell? ⟨H + 1, 5, none⟩ = some (.int .i64 dp) := (ino_cells hx11).2.2.2.2.2.1
    have hH10 : H ≤ w10.heap.size := by have := hB10.size; omega
    have hB11 : Below H w w11 := hB10.trans (hbC.mono hH10)
    have HOC := Aside0.mk (Kd.R_lower hoC hH10)
    have HB11 := Aside0.mk hB11
    clear hm8 hx8 hx11 q5 hB10 hoC hbC hB11 hH10
    go_wp2_with fail
    go_loopg [10, 57] bs.length (fun gg v10 v57 wr => ∃ (j : Nat) (out : List Int) (vo : Value), vo = v10 ∧ j ≤ bs.length ∧ bs.length - j ≤ gg ∧ v57 = .int .i64 j ∧ Aside0 (Kd.R (Kd.int .u32) 22 wr H (fun _ => True) v10 out) ∧ Aside0 (Below H w wr ∧ out.length ≤ 6 + 127 * j ∧ joinL (bs.drop j) out = some res))
    case atStart => exact ⟨0, [m0, m1, m2, m3, m4, m5], _, rfl, Nat.zero_le _, by omega, rfl, ⟨HOC.out⟩, ⟨HB11.out, by simp, by rw [List.drop_zero]; exact HRES.out⟩⟩
    case round =>
      obtain ⟨j, out, vo, rfl, hj, hg, rfl, HO, HX⟩ := hrel
      by_cases hlt : j < bs.length
      · obtain ⟨ad, e0, g0⟩ := Kd.at_string (Kd.C_below HCS.out (by rw [hH]; exact HX.out.1)) (j : Int) (by omega) (by omega)
        simp only [Int.toNat_natCast] at g0
        have hbv : rdOf ByteArray.empty bs (j : Int) = bs[j] := by simp [rdOf, hlt]
        have h1 := HX.out.2.2
        rw [List.drop_eq_getElem_cons hlt, joinL] at h1
        obtain ⟨⟨l, en⟩, hnum, h2⟩ := Option.bind_eq_some_iff.1 h1
        rw [hbv] at g0
        obtain ⟨b, hb⟩ : ∃ b, bs[j] = b := ⟨_, rfl⟩
        rw [hb] at g0 hnum
        have hjl : decide ((j : Int) < (bs.length : Int)) = true := decide_eq_true (by omega)
        have hjb : (j : Int) < (bs.length : Int) := by omega
        have hj0 : (0 : Int) ≤ (j : Int) := by omega
        have HNUM := Aside0.mk hnum
        have H2 := Aside0.mk h2
        have HG := Aside0.mk hg
        have HLT := Aside0.mk hlt
        clear h1 h2 hnum hbv hb hg hlt hj
        subst e0
        go_wp2_with fail
        refine (bmap_Numbers.calls b l en wr HNUM.out).mono ?_
        rintro e w4 ⟨vl, rfl, hol, hb4⟩
        have hwr : H ≤ wr.heap.size := by have := HX.out.1.size; omega
        have hB4 : Below H w w4 := HX.out.1.trans (hb4.mono hwr)
        have ho4 := Kd.R_below HO.out hb4
        obtain ⟨Al, cl, rfl⟩ := Kd.R_slice hol
        have hCl := (Kd.R_reads' hol).2.2
        by_cases he : en = 0
        · have hez : (en != 0) = false := by simp [he]
          have hll := num_len HNUM.out
          have h2 := H2.out
          rw [if_pos he] at h2
          have H3 := Aside0.mk h2
          have HO4 := Aside0.mk ho4
          have HCL := Aside0.mk hCl
          have HB4 := Aside0.mk hB4
          have HLL := Aside0.mk hll
          clear H2 h2 he ho4 hCl hB4 hll hol hb4 HO
          go_wp2_with ((with_reducible refine gate_dst (N := 71) rfl ?_); refine Kd.R_append_rows (Kd.int .u32) (w0 := w) H rfl _ _ 31 22 (.int .u32 0) 4 rfl Try.underlying31 info_u32 rfl (by decide) (by omega) vo out l _ _ _ (fun _ => True) (fun _ => False) rfl rfl ?aO ?aR (fun _ _ h => h) (fun _ h => h.elim) (fun _ _ => trivial) ?aB ?aS ?aL ?_; (case aR => exact HCL.out); (case aO => exact HO4.out); (case aB => exact HB4.out); (case aS => have := HB4.out.size; omega); (case aL => have := HX.out.2.1; have := HLL.out; have := HLT.out; omega); intro v2 w2 ho2 hb2 hg2 hn2; have HO2 := Aside0.mk ho2; have HB2 := Aside0.mk hb2; clear ho2 hb2 hg2 hn2)
          go_roundg (bs.length - (j + 1))
          case measure => have := HG.out; have := HLT.out; omega
          case rel => exact ⟨j + 1, out ++ l, _, rfl, HLT.out, by omega, by go_num, ⟨HO2.out⟩, ⟨HB2.out, by have := HX.out.2.1; have := HLL.out; rw [List.length_append]; omega, H3.out⟩⟩
        · have hez : (en != 0) = true := by simp [he]
          have h2 := H2.out
          rw [if_neg he] at h2
          obtain rfl := Option.some.inj h2
          have h3 := HE.out
          unfold joinEnd at h3
          rw [if_neg he] at h3
          have H3 := Aside0.mk h3
          have HB4 := Aside0.mk hB4
          clear H2 h2 he ho4 hCl hB4 hol hb4 h3
          go_wp2_with fail
          go_ret2
          have h3 := Option.some.inj H3.out
          simp only [Prod.mk.injEq] at h3
          obtain ⟨rfl, rfl⟩ := h3
          exact ⟨_, rfl, Kd.R_nil _ _ _ _ _, by rw [hH]; exact HB4.out⟩
      · have hjl : decide ((j : Int) < (bs.length : Int)) = false := decide_eq_false (by omega)
        have hjb : ¬ (j : Int) < (bs.length : Int) := by omega
        have h1 := HX.out.2.2
        rw [List.drop_of_length_le (by omega), joinL] at h1
        obtain rfl := Option.some.inj h1
        have h3 := HE.out
        unfold joinEnd at h3
        rw [if_pos rfl] at h3
        by_cases hm2 : 0 ≤ many ∧ many ≤ (out.length : Int)
        · rw [if_pos hm2] at h3
          obtain ⟨cc, hcc, h4⟩ := Option.bind_eq_some_iff.1 h3
          obtain ⟨Ao, co, rfl⟩ := Kd.R_slice HO.out
          have hrd := Kd.R_reads' HO.out
          obtain ⟨iu, hiu, _, hsu, _⟩ := info_parts info_u32
          have hcut1 := cut_from (P := Try.prog) 31 22 .i64 Try.underlying31 hiu _ hsu Ao out.length co many hm2.1 hm2.2
          have hcut2 := cut_to (P := Try.prog) 31 22 .i64 Try.underlying31 hiu Ao out.length co many hm2.1 hm2.2 hrd.2.1
          have hCd := Kd.C_drop (m := many.toNat) (c := co) hrd.2.2 (by omega) hrd.2.1
          obtain ⟨tB, htB⟩ : ∃ tB, (if co = many.toNat then Ao else Ao.map (·.add (many.toNat * 1))) = tB := ⟨_, rfl⟩
          obtain ⟨dl, hdl⟩ : ∃ dl, out.drop many.toNat = dl := ⟨_, rfl⟩
          have hdn : out.length - many.toNat = dl.length := by rw [← hdl, List.length_drop]
          rw [htB, hdn] at hcut1
          replace hCd : Kd.C (Kd.int .u32) wr tB dl.length dl := by rw [← htB, ← hdl]; exact hCd
          rw [hdl] at hcc
          have hdc : dl.length ≤ co - many.toNat := by have := hrd.2.1; omega
          have HCD := Aside0.mk hCd
          have HCC := Aside0.mk hcc
          have H4 := Aside0.mk h4
          have HM2 := Aside0.mk hm2
          clear h1 h3 h4 hcc hCd hdl hdn htB hm2 hrd hiu hsu hj hlt hg
          go_wp2_with fail
          refine (containsU.calls tB (co - many.toNat) dl 35 cc wr HCD.out hdc HCC.out).mono ?_
          rintro e w5 ⟨rfl, hb5⟩
          have hwr : H ≤ wr.heap.size := by have := HX.out.1.size; omega
          have HB5 := Aside0.mk (HX.out.1.trans (hb5.mono hwr))
          have HO5 := Aside0.mk (Kd.R_below HO.out hb5)
          clear hb5
          cases cc with
          | true =>
            go_wp2_with fail
            go_ret2
            have h4 : some (([] : List Int), (130 : Int)) = some (r1, r2) := by simpa using H4.out
            cases h4
            exact ⟨_, rfl, Kd.R_nil _ _ _ _ _, by rw [hH]; exact HB5.out⟩
          | false =>
            go_wp2_with fail
            go_ret2
            have h4 := H4.out
            rw [if_neg (by decide)] at h4
            cases h4
            refine ⟨_, rfl, ?_, by rw [hH]; exact HB5.out⟩
            rw [hH]
            exact Kd.R_take HO5.out (by have := HM2.out; omega)
        · rw [if_neg hm2] at h3; cases h3
  refine wp_region_held (S := fun W => W.heap[H]? = some (.cells #[.int .u32 m0, .int .u32 m1, .int .u32 m2, .int .u32 m3, .int .u32 m4, .int .u32 m5] 32 (0, 0))) (by kernel_rfl) ?_
  have hPN : (W0.drew.heap[H]? = some (.cells #[.int .u32 m0, .int .u32 m1, .int .u32 m2, .int .u32 m3, .int .u32 m4, .int .u32 m5] 32 (0, 0))) ∧ W0.drew.heap.size = H + 1 ∧ Below H w W0.drew := ⟨hm, hs, pw_below_drewN hb 1⟩
  change wpAnyH _ _ _ _ _ 7 #[false, false, false, false, false, false, false] _ W0.drew
  clear hm hs hb
  generalize W0.drew = W1 at hPN ⊢
  obtain ⟨hS, hs, hb⟩ := hPN
  refine takeH 0 (l' := #[true, false, false, false, false, false, false]) (v := .int .u32 size) rfl (by kernel_rfl) (by kernel_rfl) (by kernel_rfl) (fun _ _ _ h => by cases h.1) (by kernel_rfl) (fun _ _ => by go_simp) hS (by show Act.put _ (some 17) _ = _; simp only [Act.put, List.setIfInBounds_toArray, List.set_cons_zero, List.set_cons_succ]; try rfl) (by kernel_rfl) ?_
  refine takeH 1 (l' := #[true, true, false, false, false, false, false]) (v := .int .u32 size) rfl (by kernel_rfl) (by kernel_rfl) (by kernel_rfl) (fun _ _ _ h => by cases h.1) (by kernel_rfl) (fun _ _ => by go_simp) hS (by show Act.put _ (some 18) _ = _; simp only [Act.put, List.setIfInBounds_toArray, List.set_cons_zero, List.set_cons_succ]; try rfl) (by kernel_rfl) ?_
  refine takeH 3 (l' := #[true, true, false, true, false, false, false]) (v := .agg #[.int .u32 m0, .int .u32 m1, .int .u32 m2, .int .u32 m3, .int .u32 m4, .int .u32 m5]) rfl (by kernel_rfl) (by kernel_rfl) (by kernel_rfl) (fun _ _ _ h => by cases h.1) (by kernel_rfl) (fun W hS => by have c0 := six_cell hS 0 (by omega); have c1 := six_cell hS 1 (by omega); have c2 := six_cell hS 2 (by omega); have c3 := six_cell hS 3 (by omega); have c4 := six_cell hS 4 (by omega); have c5 := six_cell hS 5 (by omega); simp only [List.getD_cons_zero, List.getD_cons_succ] at c0 c1 c2 c3 c4 c5; go_simp) hS (by show Act.put _ (some 20) _ = _; simp only [Act.put, List.setIfInBounds_toArray, List.set_cons_zero, List.set_cons_succ]; try rfl) (by kernel_rfl) ?_
  refine allH (rs := [2, 5]) (by kernel_rfl) (by decide) (enterH 2 19 (l' := #[true, true, true, true, false, false, false]) (f := 23) (args := #[.int .u32 size]) rfl rfl (by kernel_rfl) (by go_simp) (inode_Depth.calls size dp W1 HD.out) (by kernel_rfl) ?_ (readyH 5 (l' := #[true, true, false, true, false, true, false]) (v := .pointer (some ⟨H + 1, 0, none⟩)) (w1 := W1.alloc (.cells #[.int .i64 0, .int .u16 0, .int .u16 0, .int .u32 0, .int .u64 0, .int .i64 0, .int .u32 0, .int .u32 0, .int .u32 0, .int .u32 0, .int .u32 0, .int .u32 0] 54)) rfl (by kernel_rfl) (by go_simp; try (rw [hs]; try rfl)) (by show Act.put _ (some 8) _ = _; simp only [Act.put, List.setIfInBounds_toArray, List.set_cons_zero, List.set_cons_succ]; try rfl) (by kernel_rfl) ((Below.heap_alloc _ _ _ (by omega)).trans hS) ?_ AllH.nil))
  · rintro e W2 ⟨rfl, hD⟩
    have e2 := drawn_same hD
    have hS2 : W2.heap[H]? = some (.cells #[.int .u32 m0, .int .u32 m1, .int .u32 m2, .int .u32 m3, .int .u32 m4, .int .u32 m5] 32 (0, 0)) := by rw [e2]; exact hS
    have hs2 : W2.heap.size = H + 1 := by rw [e2]; exact hs
    have hb2 : Below H w W2 := hb.trans (hD.below.mono (by omega))
    refine ⟨_, rfl, hS2, _, (by show Act.put _ (some 19) _ = _; simp only [Act.put, List.setIfInBounds_toArray, List.set_cons_zero, List.set_cons_succ]; try rfl), ?_⟩
    refine takeH 4 (l' := #[true, true, true, true, true, false, false]) (v := .agg #[.int .i64 1, .int .u16 0, .int .u16 0, .int .u32 size, .int .u64 0, .int .i64 dp, .int .u32 m0, .int .u32 m1, .int .u32 m2, .int .u32 m3, .int .u32 m4, .int .u32 m5]) rfl (by kernel_rfl) (by kernel_rfl) (by kernel_rfl) (fun _ _ _ h => by cases h.1) (by kernel_rfl) (fun _ _ => by go_simp; first | done | rfl) hS2 (by show Act.put _ (some 21) _ = _; simp only [Act.put, List.setIfInBounds_toArray, List.set_cons_zero, List.set_cons_succ]; try rfl) (by kernel_rfl) ?_
    refine allH (rs := [5]) (by kernel_rfl) (by decide) (readyH 5 (l' := #[true, true, true, true, true, true, false]) (v := .pointer (some ⟨H + 1, 0, none⟩)) (w1 := W2.alloc (.cells #[.int .i64 0, .int .u16 0, .int .u16 0, .int .u32 0, .int .u64 0, .int .i64 0, .int .u32 0, .int .u32 0, .int .u32 0, .int .u32 0, .int .u32 0, .int .u32 0] 54)) rfl (by kernel_rfl) (by go_simp; try (rw [hs2]; try rfl)) (by show Act.put _ (some 8) _ = _; simp only [Act.put, List.setIfInBounds_toArray, List.set_cons_zero, List.set_cons_succ]; try rfl) (by kernel_rfl) ((Below.heap_alloc _ _ _ (by omega)).trans hS2) ?_ AllH.nil)
    have hx : (W2.alloc (.cells #[.int .i64 0, .int .u16 0, .int .u16 0, .int .u32 0, .int .u64 0, .int .i64 0, .int .u32 0, .int .u32 0, .int .u32 0, .int .u32 0, .int .u32 0, .int .u32 0] 54)).heap[H + 1]? = some (.cells #[.int .i64 0, .int .u16 0, .int .u16 0, .int .u32 0, .int .u64 0, .int .i64 0, .int .u32 0, .int .u32 0, .int .u32 0, .int .u32 0, .int .u32 0, .int .u32 0] 54 (0, 0)) := by rw [← hs2]; exact World.alloc_heap_new W2 _
    have hS3 : (W2.alloc (.cells #[.int .i64 0, .int .u16 0, .int .u16 0, .int .u32 0, .int .u64 0, .int .i64 0, .int .u32 0, .int .u32 0, .int .u32 0, .int .u32 0, .int .u32 0, .int .u32 0] 54)).heap[H]? = some (.cells #[.int .u32 m0, .int .u32 m1, .int .u32 m2, .int .u32 m3, .int .u32 m4, .int .u32 m5] 32 (0, 0)) := (Below.heap_alloc _ _ _ (by omega)).trans hS2
    have hb3 : Below H w (W2.alloc (.cells #[.int .i64 0, .int .u16 0, .int .u16 0, .int .u32 0, .int .u64 0, .int .i64 0, .int .u32 0, .int .u32 0, .int .u32 0, .int .u32 0, .int .u32 0, .int .u32 0] 54)) := hb2.alloc (by omega) _
    generalize W2.alloc (.cells #[.int .i64 0, .int .u16 0, .int .u16 0, .int .u32 0, .int .u64 0, .int .i64 0, .int .u32 0, .int .u32 0, .int .u32 0, .int .u32 0, .int .u32 0, .int .u32 0] 54) = W3 at hx hS3 hb3 ⊢
    obtain ⟨z0, z1, z2, z3, z4, z5, z6, z7, z8, z9, z10, z11⟩ := ino_cells hx
    have f0 := ino_free hx 0
    have f1 := ino_free hx 1
    have f2 := ino_free hx 2
    have f3 := ino_free hx 3
    have f4 := ino_free hx 4
    have f5 := ino_free hx 5
    have f6 := ino_free hx 6
    have f7 := ino_free hx 7
    have f8 := ino_free hx 8
    have f9 := ino_free hx 9
    have f10 := ino_free hx 10
    have f11 := ino_free hx 11
    refine allH (rs := [6]) (by kernel_rfl) (by decide) (skipH 6 (l' := #[true, true, true, true, true, true, true]) (w1 := set12 W3 (H + 1) (.int .i64 1) (.int .u16 0) (.int .u16 0) (.int .u32 size) (.int .u64 0) (.int .i64 dp) (.int .u32 m0) (.int .u32 m1) (.int .u32 m2) (.int .u32 m3) (.int .u32 m4) (.int .u32 m5)) rfl (by kernel_rfl) (by go_simp; first | done | rfl) (by rfl) (by kernel_rfl) (by rw [set12_other _ _ _ (by omega)]; exact hS3) ?_ AllH.nil)
    exact wpAnyH_done (by kernel_rfl) ⟨rfl, rfl, by rw [set12_other _ _ _ (by omega)]; exact hS3, set12_cells hx _ _ _ _ _ _ _ _ _ _ _ _, set12_below hb3 (by omega) _ _ _ _ _ _ _ _ _ _ _ _⟩ _
  · have hx1 : (W1.alloc (.cells #[.int .i64 0, .int .u16 0, .int .u16 0, .int .u32 0, .int .u64 0, .int .i64 0, .int .u32 0, .int .u32 0, .int .u32 0, .int .u32 0, .int .u32 0, .int .u32 0] 54)).heap[H + 1]? = some (.cells #[.int .i64 0, .int .u16 0, .int .u16 0, .int .u32 0, .int .u64 0, .int .i64 0, .int .u32 0, .int .u32 0, .int .u32 0, .int .u32 0, .int .u32 0, .int .u32 0] 54 (0, 0)) := by rw [← hs]; exact World.alloc_heap_new W1 _
    have hS1 : (W1.alloc (.cells #[.int .i64 0, .int .u16 0, .int .u16 0, .int .u32 0, .int .u64 0, .int .i64 0, .int .u32 0, .int .u32 0, .int .u32 0, .int .u32 0, .int .u32 0, .int .u32 0] 54)).heap[H]? = some (.cells #[.int .u32 m0, .int .u32 m1, .int .u32 m2, .int .u32 m3, .int .u32 m4, .int .u32 m5] 32 (0, 0)) := (Below.heap_alloc _ _ _ (by omega)).trans hS
    have hb1 : Below H w (W1.alloc (.cells #[.int .i64 0, .int .u16 0, .int .u16 0, .int .u32 0, .int .u64 0, .int .i64 0, .int .u32 0, .int .u32 0, .int .u32 0, .int .u32 0, .int .u32 0, .int .u32 0] 54)) := hb.alloc (by omega) _
    generalize W1.alloc (.cells #[.int .i64 0, .int .u16 0, .int .u16 0, .int .u32 0, .int .u64 0, .int .i64 0, .int .u32 0, .int .u32 0, .int .u32 0, .int .u32 0, .int .u32 0, .int .u32 0] 54) = W5 at hx1 hS1 hb1 ⊢
    refine allH (rs := [2]) (by kernel_rfl) (by decide) (enterH 2 19 (l' := #[true, true, true, true, false, true, false]) (f := 23) (args := #[.int .u32 size]) rfl rfl (by kernel_rfl) (by go_simp) (inode_Depth.calls size dp W5 HD.out) (by kernel_rfl) ?_ AllH.nil)
    rintro e W3 ⟨rfl, hD⟩
    have e2 := drawn_same hD
    have hS3 : W3.heap[H]? = some (.cells #[.int .u32 m0, .int .u32 m1, .int .u32 m2, .int .u32 m3, .int .u32 m4, .int .u32 m5] 32 (0, 0)) := by rw [e2]; exact hS1
    have hS2 := hS3
    have hx : W3.heap[H + 1]? = some (.cells #[.int .i64 0, .int .u16 0, .int .u16 0, .int .u32 0, .int .u64 0, .int .i64 0, .int .u32 0, .int .u32 0, .int .u32 0, .int .u32 0, .int .u32 0, .int .u32 0] 54 (0, 0)) := by rw [e2]; exact hx1
    have hb3 : Below H w W3 := hb1.trans (hD.below.mono (by have := (Array.getElem?_eq_some_iff.1 hx1).1; omega))
    refine ⟨_, rfl, hS3, _, (by show Act.put _ (some 19) _ = _; simp only [Act.put, List.setIfInBounds_toArray, List.set_cons_zero, List.set_cons_succ]; try rfl), ?_⟩
    refine takeH 4 (l' := #[true, true, true, true, true, true, false]) (v := .agg #[.int .i64 1, .int .u16 0, .int .u16 0, .int .u32 size, .int .u64 0, .int .i64 dp, .int .u32 m0, .int .u32 m1, .int .u32 m2, .int .u32 m3, .int .u32 m4, .int .u32 m5]) rfl (by kernel_rfl) (by kernel_rfl) (by kernel_rfl) (fun _ _ _ h => by cases h.1) (by kernel_rfl) (fun _ _ => by go_simp; first | done | rfl) hS2 (by show Act.put _ (some 21) _ = _; simp only [Act.put, List.setIfInBounds_toArray, List.set_cons_zero, List.set_cons_succ]; try rfl) (by kernel_rfl) ?_
    obtain ⟨z0, z1, z2, z3, z4, z5, z6, z7, z8, z9, z10, z11⟩ := ino_cells hx
    have f0 := ino_free hx 0
    have f1 := ino_free hx 1
    have f2 := ino_free hx 2
    have f3 := ino_free hx 3
    have f4 := ino_free hx 4
    have f5 := ino_free hx 5
    have f6 := ino_free hx 6
    have f7 := ino_free hx 7
    have f8 := ino_free hx 8
    have f9 := ino_free hx 9
    have f10 := ino_free hx 10
    have f11 := ino_free hx 11
    refine allH (rs := [6]) (by kernel_rfl) (by decide) (skipH 6 (l' := #[true, true, true, true, true, true, true]) (w1 := set12 W3 (H + 1) (.int .i64 1) (.int .u16 0) (.int .u16 0) (.int .u32 size) (.int .u64 0) (.int .i64 dp) (.int .u32 m0) (.int .u32 m1) (.int .u32 m2) (.int .u32 m3) (.int .u32 m4) (.int .u32 m5)) rfl (by kernel_rfl) (by go_simp; first | done | rfl) (by rfl) (by kernel_rfl) (by rw [set12_other _ _ _ (by omega)]; exact hS3) ?_ AllH.nil)
    exact wpAnyH_done (by kernel_rfl) ⟨rfl, rfl, by rw [set12_other _ _ _ (by omega)]; exact hS3, set12_cells hx _ _ _ _ _ _ _ _ _ _ _ _, set12_below hb3 (by omega) _ _ _ _ _ _ _ _ _ _ _ _⟩ _
set_option maxHeartbeats 8000000 in
theorem join_1 (size : Int) (m0 m1 m2 m3 m4 m5 : Int) (A : Option Addr) (cb : Nat) (bs : List ByteArray) (dp : Int) (w : World) (hd : inode_Depth.f size = some dp) (hr : inode_Right.f 1 0 0 size 0 dp m0 m1 m2 m3 m4 m5 = some true) (many : Int) (hbl : inode_Blocks.f size = some many) (hct : bmap_Count.f size = some (bs.length : Int)) (hC : Kd.C Kd.string w A bs.length bs) (hcb : bs.length ≤ cb) (hn : bs.length ≤ 1000) (res : List Int × Int) (hp : decide (0 < dp) = true) (hq : (dp == 2) = false) (hres : joinL bs [] = some res) (r1 : List Int) (r2 : Int) (he : joinEnd many res = some (r1, r2)) :
    Calls Try.prog 18 #[.int .u32 size, .agg #[.int .u32 m0, .int .u32 m1, .int .u32 m2, .int .u32 m3, .int .u32 m4, .int .u32 m5], .slice A bs.length cb] w fun e w' => ∃ v, e = .returned (.tuple #[v, .int .i64 r2]) ∧ Kd.R (Kd.int .u32) 22 w' w.heap.size (fun _ => True) v r1 ∧ Below w.heap.size w w' := by
  have hu := Try.underlying54
  have HD := Aside0.mk hd
  have HR := Aside0.mk hr
  clear hd hr
  have HCS := Aside0.mk hC
  have HE := Aside0.mk he
  have HRES := Aside0.mk hres
  clear hC he hres
  go_enter Try.func18, Try.ntmps18
  go_wp2_with fail
  obtain ⟨H, hH⟩ : ∃ H, w.heap.size = H := ⟨_, rfl⟩
  simp only [hH]
  have hm : (w.alloc (.cells #[.int .u32 m0, .int .u32 m1, .int .u32 m2, .int .u32 m3, .int .u32 m4, .int .u32 m5] 32)).heap[H]? = some (.cells #[.int .u32 m0, .int .u32 m1, .int .u32 m2, .int .u32 m3, .int .u32 m4, .int .u32 m5] 32 (0, 0)) := by rw [← hH]; exact World.alloc_heap_new w _
  have hs : (w.alloc (.cells #[.int .u32 m0, .int .u32 m1, .int .u32 m2, .int .u32 m3, .int .u32 m4, .int .u32 m5] 32)).heap.size = H + 1 := by rw [World.size_alloc, hH]
  have hb : Below H w (w.alloc (.cells #[.int .u32 m0, .int .u32 m1, .int .u32 m2, .int .u32 m3, .int .u32 m4, .int .u32 m5] 32)) := (Below.refl H w).alloc (by omega) _
  generalize w.alloc (.cells #[.int .u32 m0, .int .u32 m1, .int .u32 m2, .int .u32 m3, .int .u32 m4, .int .u32 m5] 32) = W0 at hm hs hb ⊢
  refine Code.wp_mono (Q := fun e a' W' => e = .normal ∧ a' = { tmps := #[.int .u32 size, .agg #[.int .u32 m0, .int .u32 m1, .int .u32 m2, .int .u32 m3, .int .u32 m4, .int .u32 m5], .slice A bs.length cb, undef, .pointer (some ⟨H, 0, none⟩), undef, .slice none 0 0, .int .i64 0, .pointer (some ⟨H + 1, 0, none⟩), undef, undef, undef, undef, undef, undef, undef, undef, .int .u32 size, .int .u32 size, .int .i64 dp, .agg #[.int .u32 m0, .int .u32 m1, .int .u32 m2, .int .u32 m3, .int .u32 m4, .int .u32 m5], .agg #[.int .i64 1, .int .u16 0, .int .u16 0, .int .u32 size, .int .u64 0, .int .i64 dp, .int .u32 m0, .int .u32 m1, .int .u32 m2, .int .u32 m3, .int .u32 m4, .int .u32 m5], undef, undef, undef, undef, undef, undef, undef, undef, undef, undef, undef, undef, undef, undef, undef, undef, undef, undef, undef, undef, undef, undef, undef, undef, undef, undef, undef, undef, undef, undef, undef, undef, undef, undef, undef, undef, undef, undef, undef, undef, undef, undef, undef, undef, undef, undef, undef, undef, undef, undef, undef, undef, undef, undef, undef, undef, undef, undef], defers := [] } ∧ W'.heap[H]? = some (.cells #[.int .u32 m0, .int .u32 m1, .int .u32 m2, .int .u32 m3, .int .u32 m4, .int .u32 m5] 32 (0, 0)) ∧ W'.heap[H + 1]? = some (.cells #[.int .i64 1, .int .u16 0, .int .u16 0, .int .u32 size, .int .u64 0, .int .i64 dp, .int .u32 m0, .int .u32 m1, .int .u32 m2, .int .u32 m3, .int .u32 m4, .int .u32 m5] 54 (0, 0)) ∧ Below H w W') ?post ?_
  case post =>
    rintro e a' W7 ⟨rfl, rfl, hm7, hx7, hb7⟩
    clear hm hs hb W0 HD
    obtain ⟨g0, g1, g2, g3, g4, g5, g6, g7, g8, g9, g10, g11⟩ := ino_cells hx7
    go_wp2_with fail
    refine (inode_Right.calls _ _ _ _ _ _ _ _ _ _ _ _ true W7 HR.out).mono ?_
    rintro e w8 ⟨rfl, hb8⟩
    have hl7 := (Array.getElem?_eq_some_iff.1 hx7).1
    have hm8 := (hb8.block H (by omega)).trans hm7
    have hx8 := (hb8.block (H + 1) (by omega)).trans hx7
    have hB8 : Below H w w8 := hb7.trans (hb8.mono (by omega))
    clear g0 g1 g2 g3 g4 g5 g6 g7 g8 g9 g10 g11 hm7 hx7 hb7 hb8 hl7
    go_wp2_with fail
    refine (bmap_Count.calls size _ _ hct).mono ?_
    rintro e w9 ⟨rfl, hd9⟩
    have e9 := drawn_same hd9
    have hB9 : Below H w w9 := hB8.trans (hd9.below.mono (by have := hB8.size; omega))
    rw [← e9] at hm8 hx8
    clear hB8 hd9 e9
    go_wp2_with fail
    refine (inode_Blocks.calls size many _ hbl).mono ?_
    rintro e w10 ⟨rfl, hd10⟩
    have e10 := drawn_same hd10
    have hB10 : Below H w w10 := hB9.trans (hd10.below.mono (by have := hB9.size; omega))
    rw [← e10] at hm8 hx8
    clear hB9 hd10 e10
    have q5 : w10.cell? ⟨H + 1, 5, none⟩ = some (.int .i64 dp) := (ino_cells hx8).2.2.2.2.2.1
    go_wp2_with fail
    refine (cloneU.calls (some ⟨H, 0, none⟩) 6 [m0, m1, m2, m3, m4, m5] [m0, m1, m2, m3, m4, m5] w10 (arr_C hm8) (by simp) (by rfl)).mono ?_
    rintro e w11 ⟨vC, rfl, hoC, hbC⟩
    have hx11 := (hbC.block (H + 1) (Array.getElem?_eq_some_iff.1 hx8).1).trans hx8
    have q6 : w11.cell? ⟨H + 1, 5, none⟩ = some (.int .i64 dp) := (ino_cells hx11).2.2.2.2.2.1
    have hH10 : H ≤ w10.heap.size := by have := hB10.size; omega
    have hB11 : Below H w w11 := hB10.trans (hbC.mono hH10)
    have HOC := Aside0.mk (Kd.R_lower hoC hH10)
    have HB11 := Aside0.mk hB11
    clear hm8 hx8 hx11 q5 hB10 hoC hbC hB11 hH10
    go_wp2_with fail
    go_loopg [10, 57] bs.length (fun gg v10 v57 wr => ∃ (j : Nat) (out : List Int) (vo : Value), vo = v10 ∧ j ≤ bs.length ∧ bs.length - j ≤ gg ∧ v57 = .int .i64 j ∧ Aside0 (Kd.R (Kd.int .u32) 22 wr H (fun _ => True) v10 out) ∧ Aside0 (Below H w wr ∧ out.length ≤ 6 + 127 * j ∧ joinL (bs.drop j) out = some res))
    case atStart => exact ⟨0, [], _, rfl, Nat.zero_le _, by omega, rfl, ⟨Kd.R_nil _ _ _ _ _⟩, ⟨HB11.out, by simp, by rw [List.drop_zero]; exact HRES.out⟩⟩
    case round =>
      obtain ⟨j, out, vo, rfl, hj, hg, rfl, HO, HX⟩ := hrel
      by_cases hlt : j < bs.length
      · obtain ⟨ad, e0, g0⟩ := Kd.at_string (Kd.C_below HCS.out (by rw [hH]; exact HX.out.1)) (j : Int) (by omega) (by omega)
        simp only [Int.toNat_natCast] at g0
        have hbv : rdOf ByteArray.empty bs (j : Int) = bs[j] := by simp [rdOf, hlt]
        have h1 := HX.out.2.2
        rw [List.drop_eq_getElem_cons hlt, joinL] at h1
        obtain ⟨⟨l, en⟩, hnum, h2⟩ := Option.bind_eq_some_iff.1 h1
        rw [hbv] at g0
        obtain ⟨b, hb⟩ : ∃ b, bs[j] = b := ⟨_, rfl⟩
        rw [hb] at g0 hnum
        have hjl : decide ((j : Int) < (bs.length : Int)) = true := decide_eq_true (by omega)
        have hjb : (j : Int) < (bs.length : Int) := by omega
        have hj0 : (0 : Int) ≤ (j : Int) := by omega
        have HNUM := Aside0.mk hnum
        have H2 := Aside0.mk h2
        have HG := Aside0.mk hg
        have HLT := Aside0.mk hlt
        clear h1 h2 hnum hbv hb hg hlt hj
        subst e0
        go_wp2_with fail
        refine (bmap_Numbers.calls b l en wr HNUM.out).mono ?_
        rintro e w4 ⟨vl, rfl, hol, hb4⟩
        have hwr : H ≤ wr.heap.size := by have := HX.out.1.size; omega
        have hB4 : Below H w w4 := HX.out.1.trans (hb4.mono hwr)
        have ho4 := Kd.R_below HO.out hb4
        obtain ⟨Al, cl, rfl⟩ := Kd.R_slice hol
        have hCl := (Kd.R_reads' hol).2.2
        by_cases he : en = 0
        · have hez : (en != 0) = false := by simp [he]
          have hll := num_len HNUM.out
          have h2 := H2.out
          rw [if_pos he] at h2
          have H3 := Aside0.mk h2
          have HO4 := Aside0.mk ho4
          have HCL := Aside0.mk hCl
          have HB4 := Aside0.mk hB4
          have HLL := Aside0.mk hll
          clear H2 h2 he ho4 hCl hB4 hll hol hb4 HO
          go_wp2_with ((with_reducible refine gate_dst (N := 71) rfl ?_); refine Kd.R_append_rows (Kd.int .u32) (w0 := w) H rfl _ _ 31 22 (.int .u32 0) 4 rfl Try.underlying31 info_u32 rfl (by decide) (by omega) vo out l _ _ _ (fun _ => True) (fun _ => False) rfl rfl ?aO ?aR (fun _ _ h => h) (fun _ h => h.elim) (fun _ _ => trivial) ?aB ?aS ?aL ?_; (case aR => exact HCL.out); (case aO => exact HO4.out); (case aB => exact HB4.out); (case aS => have := HB4.out.size; omega); (case aL => have := HX.out.2.1; have := HLL.out; have := HLT.out; omega); intro v2 w2 ho2 hb2 hg2 hn2; have HO2 := Aside0.mk ho2; have HB2 := Aside0.mk hb2; clear ho2 hb2 hg2 hn2)
          go_roundg (bs.length - (j + 1))
          case measure => have := HG.out; have := HLT.out; omega
          case rel => exact ⟨j + 1, out ++ l, _, rfl, HLT.out, by omega, by go_num, ⟨HO2.out⟩, ⟨HB2.out, by have := HX.out.2.1; have := HLL.out; rw [List.length_append]; omega, H3.out⟩⟩
        · have hez : (en != 0) = true := by simp [he]
          have h2 := H2.out
          rw [if_neg he] at h2
          obtain rfl := Option.some.inj h2
          have h3 := HE.out
          unfold joinEnd at h3
          rw [if_neg he] at h3
          have H3 := Aside0.mk h3
          have HB4 := Aside0.mk hB4
          clear H2 h2 he ho4 hCl hB4 hol hb4 h3
          go_wp2_with fail
          go_ret2
          have h3 := Option.some.inj H3.out
          simp only [Prod.mk.injEq] at h3
          obtain ⟨rfl, rfl⟩ := h3
          exact ⟨_, rfl, Kd.R_nil _ _ _ _ _, by rw [hH]; exact HB4.out⟩
      · have hjl : decide ((j : Int) < (bs.length : Int)) = false := decide_eq_false (by omega)
        have hjb : ¬ (j : Int) < (bs.length : Int) := by omega
        have h1 := HX.out.2.2
        rw [List.drop_of_length_le (by omega), joinL] at h1
        obtain rfl := Option.some.inj h1
        have h3 := HE.out
        unfold joinEnd at h3
        rw [if_pos rfl] at h3
        by_cases hm2 : 0 ≤ many ∧ many ≤ (out.length : Int)
        · rw [if_pos hm2] at h3
          obtain ⟨cc, hcc, h4⟩ := Option.bind_eq_some_iff.1 h3
          obtain ⟨Ao, co, rfl⟩ := Kd.R_slice HO.out
          have hrd := Kd.R_reads' HO.out
          obtain ⟨iu, hiu, _, hsu, _⟩ := info_parts info_u32
          have hcut1 := cut_from (P := Try.prog) 31 22 .i64 Try.underlying31 hiu _ hsu Ao out.length co many hm2.1 hm2.2
          have hcut2 := cut_to (P := Try.prog) 31 22 .i64 Try.underlying31 hiu Ao out.length co many hm2.1 hm2.2 hrd.2.1
          have hCd := Kd.C_drop (m := many.toNat) (c := co) hrd.2.2 (by omega) hrd.2.1
          obtain ⟨tB, htB⟩ : ∃ tB, (if co = many.toNat then Ao else Ao.map (·.add (many.toNat * 1))) = tB := ⟨_, rfl⟩
          obtain ⟨dl, hdl⟩ : ∃ dl, out.drop many.toNat = dl := ⟨_, rfl⟩
          have hdn : out.length - many.toNat = dl.length := by rw [← hdl, List.length_drop]
          rw [htB, hdn] at hcut1
          replace hCd : Kd.C (Kd.int .u32) wr tB dl.length dl := by rw [← htB, ← hdl]; exact hCd
          rw [hdl] at hcc
          have hdc : dl.length ≤ co - many.toNat := by have := hrd.2.1; omega
          have HCD := Aside0.mk hCd
          have HCC := Aside0.mk hcc
          have H4 := Aside0.mk h4
          have HM2 := Aside0.mk hm2
          clear h1 h3 h4 hcc hCd hdl hdn htB hm2 hrd hiu hsu hj hlt hg
          go_wp2_with fail
          refine (containsU.calls tB (co - many.toNat) dl 35 cc wr HCD.out hdc HCC.out).mono ?_
          rintro e w5 ⟨rfl, hb5⟩
          have hwr : H ≤ wr.heap.size := by have := HX.out.1.size; omega
          have HB5 := Aside0.mk (HX.out.1.trans (hb5.mono hwr))
          have HO5 := Aside0.mk (Kd.R_below HO.out hb5)
          clear hb5
          cases cc with
          | true =>
            go_wp2_with fail
            go_ret2
            have h4 : some (([] : List Int), (130 : Int)) = some (r1, r2) := by simpa using H4.out
            cases h4
            exact ⟨_, rfl, Kd.R_nil _ _ _ _ _, by rw [hH]; exact HB5.out⟩
          | false =>
            go_wp2_with fail
            go_ret2
            have h4 := H4.out
            rw [if_neg (by decide)] at h4
            cases h4
            refine ⟨_, rfl, ?_, by rw [hH]; exact HB5.out⟩
            rw [hH]
            exact Kd.R_take HO5.out (by have := HM2.out; omega)
        · rw [if_neg hm2] at h3; cases h3
  refine wp_region_held (S := fun W => W.heap[H]? = some (.cells #[.int .u32 m0, .int .u32 m1, .int .u32 m2, .int .u32 m3, .int .u32 m4, .int .u32 m5] 32 (0, 0))) (by kernel_rfl) ?_
  have hPN : (W0.drew.heap[H]? = some (.cells #[.int .u32 m0, .int .u32 m1, .int .u32 m2, .int .u32 m3, .int .u32 m4, .int .u32 m5] 32 (0, 0))) ∧ W0.drew.heap.size = H + 1 ∧ Below H w W0.drew := ⟨hm, hs, pw_below_drewN hb 1⟩
  change wpAnyH _ _ _ _ _ 7 #[false, false, false, false, false, false, false] _ W0.drew
  clear hm hs hb
  generalize W0.drew = W1 at hPN ⊢
  obtain ⟨hS, hs, hb⟩ := hPN
  refine takeH 0 (l' := #[true, false, false, false, false, false, false]) (v := .int .u32 size) rfl (by kernel_rfl) (by kernel_rfl) (by kernel_rfl) (fun _ _ _ h => by cases h.1) (by kernel_rfl) (fun _ _ => by go_simp) hS (by show Act.put _ (some 17) _ = _; simp only [Act.put, List.setIfInBounds_toArray, List.set_cons_zero, List.set_cons_succ]; try rfl) (by kernel_rfl) ?_
  refine takeH 1 (l' := #[true, true, false, false, false, false, false]) (v := .int .u32 size) rfl (by kernel_rfl) (by kernel_rfl) (by kernel_rfl) (fun _ _ _ h => by cases h.1) (by kernel_rfl) (fun _ _ => by go_simp) hS (by show Act.put _ (some 18) _ = _; simp only [Act.put, List.setIfInBounds_toArray, List.set_cons_zero, List.set_cons_succ]; try rfl) (by kernel_rfl) ?_
  refine takeH 3 (l' := #[true, true, false, true, false, false, false]) (v := .agg #[.int .u32 m0, .int .u32 m1, .int .u32 m2, .int .u32 m3, .int .u32 m4, .int .u32 m5]) rfl (by kernel_rfl) (by kernel_rfl) (by kernel_rfl) (fun _ _ _ h => by cases h.1) (by kernel_rfl) (fun W hS => by have c0 := six_cell hS 0 (by omega); have c1 := six_cell hS 1 (by omega); have c2 := six_cell hS 2 (by omega); have c3 := six_cell hS 3 (by omega); have c4 := six_cell hS 4 (by omega); have c5 := six_cell hS 5 (by omega); simp only [List.getD_cons_zero, List.getD_cons_succ] at c0 c1 c2 c3 c4 c5; go_simp) hS (by show Act.put _ (some 20) _ = _; simp only [Act.put, List.setIfInBounds_toArray, List.set_cons_zero, List.set_cons_succ]; try rfl) (by kernel_rfl) ?_
  refine allH (rs := [2, 5]) (by kernel_rfl) (by decide) (enterH 2 19 (l' := #[true, true, true, true, false, false, false]) (f := 23) (args := #[.int .u32 size]) rfl rfl (by kernel_rfl) (by go_simp) (inode_Depth.calls size dp W1 HD.out) (by kernel_rfl) ?_ (readyH 5 (l' := #[true, true, false, true, false, true, false]) (v := .pointer (some ⟨H + 1, 0, none⟩)) (w1 := W1.alloc (.cells #[.int .i64 0, .int .u16 0, .int .u16 0, .int .u32 0, .int .u64 0, .int .i64 0, .int .u32 0, .int .u32 0, .int .u32 0, .int .u32 0, .int .u32 0, .int .u32 0] 54)) rfl (by kernel_rfl) (by go_simp; try (rw [hs]; try rfl)) (by show Act.put _ (some 8) _ = _; simp only [Act.put, List.setIfInBounds_toArray, List.set_cons_zero, List.set_cons_succ]; try rfl) (by kernel_rfl) ((Below.heap_alloc _ _ _ (by omega)).trans hS) ?_ AllH.nil))
  · rintro e W2 ⟨rfl, hD⟩
    have e2 := drawn_same hD
    have hS2 : W2.heap[H]? = some (.cells #[.int .u32 m0, .int .u32 m1, .int .u32 m2, .int .u32 m3, .int .u32 m4, .int .u32 m5] 32 (0, 0)) := by rw [e2]; exact hS
    have hs2 : W2.heap.size = H + 1 := by rw [e2]; exact hs
    have hb2 : Below H w W2 := hb.trans (hD.below.mono (by omega))
    refine ⟨_, rfl, hS2, _, (by show Act.put _ (some 19) _ = _; simp only [Act.put, List.setIfInBounds_toArray, List.set_cons_zero, List.set_cons_succ]; try rfl), ?_⟩
    refine takeH 4 (l' := #[true, true, true, true, true, false, false]) (v := .agg #[.int .i64 1, .int .u16 0, .int .u16 0, .int .u32 size, .int .u64 0, .int .i64 dp, .int .u32 m0, .int .u32 m1, .int .u32 m2, .int .u32 m3, .int .u32 m4, .int .u32 m5]) rfl (by kernel_rfl) (by kernel_rfl) (by kernel_rfl) (fun _ _ _ h => by cases h.1) (by kernel_rfl) (fun _ _ => by go_simp; first | done | rfl) hS2 (by show Act.put _ (some 21) _ = _; simp only [Act.put, List.setIfInBounds_toArray, List.set_cons_zero, List.set_cons_succ]; try rfl) (by kernel_rfl) ?_
    refine allH (rs := [5]) (by kernel_rfl) (by decide) (readyH 5 (l' := #[true, true, true, true, true, true, false]) (v := .pointer (some ⟨H + 1, 0, none⟩)) (w1 := W2.alloc (.cells #[.int .i64 0, .int .u16 0, .int .u16 0, .int .u32 0, .int .u64 0, .int .i64 0, .int .u32 0, .int .u32 0, .int .u32 0, .int .u32 0, .int .u32 0, .int .u32 0] 54)) rfl (by kernel_rfl) (by go_simp; try (rw [hs2]; try rfl)) (by show Act.put _ (some 8) _ = _; simp only [Act.put, List.setIfInBounds_toArray, List.set_cons_zero, List.set_cons_succ]; try rfl) (by kernel_rfl) ((Below.heap_alloc _ _ _ (by omega)).trans hS2) ?_ AllH.nil)
    have hx : (W2.alloc (.cells #[.int .i64 0, .int .u16 0, .int .u16 0, .int .u32 0, .int .u64 0, .int .i64 0, .int .u32 0, .int .u32 0, .int .u32 0, .int .u32 0, .int .u32 0, .int .u32 0] 54)).heap[H + 1]? = some (.cells #[.int .i64 0, .int .u16 0, .int .u16 0, .int .u32 0, .int .u64 0, .int .i64 0, .int .u32 0, .int .u32 0, .int .u32 0, .int .u32 0, .int .u32 0, .int .u32 0] 54 (0, 0)) := by rw [← hs2]; exact World.alloc_heap_new W2 _
    have hS3 : (W2.alloc (.cells #[.int .i64 0, .int .u16 0, .int .u16 0, .int .u32 0, .int .u64 0, .int .i64 0, .int .u32 0, .int .u32 0, .int .u32 0, .int .u32 0, .int .u32 0, .int .u32 0] 54)).heap[H]? = some (.cells #[.int .u32 m0, .int .u32 m1, .int .u32 m2, .int .u32 m3, .int .u32 m4, .int .u32 m5] 32 (0, 0)) := (Below.heap_alloc _ _ _ (by omega)).trans hS2
    have hb3 : Below H w (W2.alloc (.cells #[.int .i64 0, .int .u16 0, .int .u16 0, .int .u32 0, .int .u64 0, .int .i64 0, .int .u32 0, .int .u32 0, .int .u32 0, .int .u32 0, .int .u32 0, .int .u32 0] 54)) := hb2.alloc (by omega) _
    generalize W2.alloc (.cells #[.int .i64 0, .int .u16 0, .int .u16 0, .int .u32 0, .int .u64 0, .int .i64 0, .int .u32 0, .int .u32 0, .int .u32 0, .int .u32 0, .int .u32 0, .int .u32 0] 54) = W3 at hx hS3 hb3 ⊢
    obtain ⟨z0, z1, z2, z3, z4, z5, z6, z7, z8, z9, z10, z11⟩ := ino_cells hx
    have f0 := ino_free hx 0
    have f1 := ino_free hx 1
    have f2 := ino_free hx 2
    have f3 := ino_free hx 3
    have f4 := ino_free hx 4
    have f5 := ino_free hx 5
    have f6 := ino_free hx 6
    have f7 := ino_free hx 7
    have f8 := ino_free hx 8
    have f9 := ino_free hx 9
    have f10 := ino_free hx 10
    have f11 := ino_free hx 11
    refine allH (rs := [6]) (by kernel_rfl) (by decide) (skipH 6 (l' := #[true, true, true, true, true, true, true]) (w1 := set12 W3 (H + 1) (.int .i64 1) (.int .u16 0) (.int .u16 0) (.int .u32 size) (.int .u64 0) (.int .i64 dp) (.int .u32 m0) (.int .u32 m1) (.int .u32 m2) (.int .u32 m3) (.int .u32 m4) (.int .u32 m5)) rfl (by kernel_rfl) (by go_simp; first | done | rfl) (by rfl) (by kernel_rfl) (by rw [set12_other _ _ _ (by omega)]; exact hS3) ?_ AllH.nil)
    exact wpAnyH_done (by kernel_rfl) ⟨rfl, rfl, by rw [set12_other _ _ _ (by omega)]; exact hS3, set12_cells hx _ _ _ _ _ _ _ _ _ _ _ _, set12_below hb3 (by omega) _ _ _ _ _ _ _ _ _ _ _ _⟩ _
  · have hx1 : (W1.alloc (.cells #[.int .i64 0, .int .u16 0, .int .u16 0, .int .u32 0, .int .u64 0, .int .i64 0, .int .u32 0, .int .u32 0, .int .u32 0, .int .u32 0, .int .u32 0, .int .u32 0] 54)).heap[H + 1]? = some (.cells #[.int .i64 0, .int .u16 0, .int .u16 0, .int .u32 0, .int .u64 0, .int .i64 0, .int .u32 0, .int .u32 0, .int .u32 0, .int .u32 0, .int .u32 0, .int .u32 0] 54 (0, 0)) := by rw [← hs]; exact World.alloc_heap_new W1 _
    have hS1 : (W1.alloc (.cells #[.int .i64 0, .int .u16 0, .int .u16 0, .int .u32 0, .int .u64 0, .int .i64 0, .int .u32 0, .int .u32 0, .int .u32 0, .int .u32 0, .int .u32 0, .int .u32 0] 54)).heap[H]? = some (.cells #[.int .u32 m0, .int .u32 m1, .int .u32 m2, .int .u32 m3, .int .u32 m4, .int .u32 m5] 32 (0, 0)) := (Below.heap_alloc _ _ _ (by omega)).trans hS
    have hb1 : Below H w (W1.alloc (.cells #[.int .i64 0, .int .u16 0, .int .u16 0, .int .u32 0, .int .u64 0, .int .i64 0, .int .u32 0, .int .u32 0, .int .u32 0, .int .u32 0, .int .u32 0, .int .u32 0] 54)) := hb.alloc (by omega) _
    generalize W1.alloc (.cells #[.int .i64 0, .int .u16 0, .int .u16 0, .int .u32 0, .int .u64 0, .int .i64 0, .int .u32 0, .int .u32 0, .int .u32 0, .int .u32 0, .int .u32 0, .int .u32 0] 54) = W5 at hx1 hS1 hb1 ⊢
    refine allH (rs := [2]) (by kernel_rfl) (by decide) (enterH 2 19 (l' := #[true, true, true, true, false, true, false]) (f := 23) (args := #[.int .u32 size]) rfl rfl (by kernel_rfl) (by go_simp) (inode_Depth.calls size dp W5 HD.out) (by kernel_rfl) ?_ AllH.nil)
    rintro e W3 ⟨rfl, hD⟩
    have e2 := drawn_same hD
    have hS3 : W3.heap[H]? = some (.cells #[.int .u32 m0, .int .u32 m1, .int .u32 m2, .int .u32 m3, .int .u32 m4, .int .u32 m5] 32 (0, 0)) := by rw [e2]; exact hS1
    have hS2 := hS3
    have hx : W3.heap[H + 1]? = some (.cells #[.int .i64 0, .int .u16 0, .int .u16 0, .int .u32 0, .int .u64 0, .int .i64 0, .int .u32 0, .int .u32 0, .int .u32 0, .int .u32 0, .int .u32 0, .int .u32 0] 54 (0, 0)) := by rw [e2]; exact hx1
    have hb3 : Below H w W3 := hb1.trans (hD.below.mono (by have := (Array.getElem?_eq_some_iff.1 hx1).1; omega))
    refine ⟨_, rfl, hS3, _, (by show Act.put _ (some 19) _ = _; simp only [Act.put, List.setIfInBounds_toArray, List.set_cons_zero, List.set_cons_succ]; try rfl), ?_⟩
    refine takeH 4 (l' := #[true, true, true, true, true, true, false]) (v := .agg #[.int .i64 1, .int .u16 0, .int .u16 0, .int .u32 size, .int .u64 0, .int .i64 dp, .int .u32 m0, .int .u32 m1, .int .u32 m2, .int .u32 m3, .int .u32 m4, .int .u32 m5]) rfl (by kernel_rfl) (by kernel_rfl) (by kernel_rfl) (fun _ _ _ h => by cases h.1) (by kernel_rfl) (fun _ _ => by go_simp; first | done | rfl) hS2 (by show Act.put _ (some 21) _ = _; simp only [Act.put, List.setIfInBounds_toArray, List.set_cons_zero, List.set_cons_succ]; try rfl) (by kernel_rfl) ?_
    obtain ⟨z0, z1, z2, z3, z4, z5, z6, z7, z8, z9, z10, z11⟩ := ino_cells hx
    have f0 := ino_free hx 0
    have f1 := ino_free hx 1
    have f2 := ino_free hx 2
    have f3 := ino_free hx 3
    have f4 := ino_free hx 4
    have f5 := ino_free hx 5
    have f6 := ino_free hx 6
    have f7 := ino_free hx 7
    have f8 := ino_free hx 8
    have f9 := ino_free hx 9
    have f10 := ino_free hx 10
    have f11 := ino_free hx 11
    refine allH (rs := [6]) (by kernel_rfl) (by decide) (skipH 6 (l' := #[true, true, true, true, true, true, true]) (w1 := set12 W3 (H + 1) (.int .i64 1) (.int .u16 0) (.int .u16 0) (.int .u32 size) (.int .u64 0) (.int .i64 dp) (.int .u32 m0) (.int .u32 m1) (.int .u32 m2) (.int .u32 m3) (.int .u32 m4) (.int .u32 m5)) rfl (by kernel_rfl) (by go_simp; first | done | rfl) (by rfl) (by kernel_rfl) (by rw [set12_other _ _ _ (by omega)]; exact hS3) ?_ AllH.nil)
    exact wpAnyH_done (by kernel_rfl) ⟨rfl, rfl, by rw [set12_other _ _ _ (by omega)]; exact hS3, set12_cells hx _ _ _ _ _ _ _ _ _ _ _ _, set12_below hb3 (by omega) _ _ _ _ _ _ _ _ _ _ _ _⟩ _
set_option maxHeartbeats 8000000 in
theorem join_2 (size : Int) (m0 m1 m2 m3 m4 m5 : Int) (A : Option Addr) (cb : Nat) (bs : List ByteArray) (dp : Int) (w : World) (hd : inode_Depth.f size = some dp) (hr : inode_Right.f 1 0 0 size 0 dp m0 m1 m2 m3 m4 m5 = some true) (many : Int) (hbl : inode_Blocks.f size = some many) (hct : bmap_Count.f size = some (bs.length : Int)) (hC : Kd.C Kd.string w A bs.length bs) (hcb : bs.length ≤ cb) (hn : bs.length ≤ 1000) (res : List Int × Int) (hp : decide (0 < dp) = true) (hq : (dp == 2) = true) (h1n : 0 < bs.length) (xl : List Int) (hbe : bmap_Below.f size (bs.getD 0 ByteArray.empty) = some (xl, 0)) (hres : joinL (bs.drop 1) [] = some res) (r1 : List Int) (r2 : Int) (he : joinEnd many res = some (r1, r2)) :
    Calls Try.prog 18 #[.int .u32 size, .agg #[.int .u32 m0, .int .u32 m1, .int .u32 m2, .int .u32 m3, .int .u32 m4, .int .u32 m5], .slice A bs.length cb] w fun e w' => ∃ v, e = .returned (.tuple #[v, .int .i64 r2]) ∧ Kd.R (Kd.int .u32) 22 w' w.heap.size (fun _ => True) v r1 ∧ Below w.heap.size w w' := by
  have hu := Try.underlying54
  have HD := Aside0.mk hd
  have HR := Aside0.mk hr
  clear hd hr
  have HCS := Aside0.mk hC
  have HE := Aside0.mk he
  have HRES := Aside0.mk hres
  clear hC he hres
  have HBE := Aside0.mk hbe
  clear hbe
  go_enter Try.func18, Try.ntmps18
  go_wp2_with fail
  obtain ⟨H, hH⟩ : ∃ H, w.heap.size = H := ⟨_, rfl⟩
  simp only [hH]
  have hm : (w.alloc (.cells #[.int .u32 m0, .int .u32 m1, .int .u32 m2, .int .u32 m3, .int .u32 m4, .int .u32 m5] 32)).heap[H]? = some (.cells #[.int .u32 m0, .int .u32 m1, .int .u32 m2, .int .u32 m3, .int .u32 m4, .int .u32 m5] 32 (0, 0)) := by rw [← hH]; exact World.alloc_heap_new w _
  have hs : (w.alloc (.cells #[.int .u32 m0, .int .u32 m1, .int .u32 m2, .int .u32 m3, .int .u32 m4, .int .u32 m5] 32)).heap.size = H + 1 := by rw [World.size_alloc, hH]
  have hb : Below H w (w.alloc (.cells #[.int .u32 m0, .int .u32 m1, .int .u32 m2, .int .u32 m3, .int .u32 m4, .int .u32 m5] 32)) := (Below.refl H w).alloc (by omega) _
  generalize w.alloc (.cells #[.int .u32 m0, .int .u32 m1, .int .u32 m2, .int .u32 m3, .int .u32 m4, .int .u32 m5] 32) = W0 at hm hs hb ⊢
  refine Code.wp_mono (Q := fun e a' W' => e = .normal ∧ a' = { tmps := #[.int .u32 size, .agg #[.int .u32 m0, .int .u32 m1, .int .u32 m2, .int .u32 m3, .int .u32 m4, .int .u32 m5], .slice A bs.length cb, undef, .pointer (some ⟨H, 0, none⟩), undef, .slice none 0 0, .int .i64 0, .pointer (some ⟨H + 1, 0, none⟩), undef, undef, undef, undef, undef, undef, undef, undef, .int .u32 size, .int .u32 size, .int .i64 dp, .agg #[.int .u32 m0, .int .u32 m1, .int .u32 m2, .int .u32 m3, .int .u32 m4, .int .u32 m5], .agg #[.int .i64 1, .int .u16 0, .int .u16 0, .int .u32 size, .int .u64 0, .int .i64 dp, .int .u32 m0, .int .u32 m1, .int .u32 m2, .int .u32 m3, .int .u32 m4, .int .u32 m5], undef, undef, undef, undef, undef, undef, undef, undef, undef, undef, undef, undef, undef, undef, undef, undef, undef, undef, undef, undef, undef, undef, undef, undef, undef, undef, undef, undef, undef, undef, undef, undef, undef, undef, undef, undef, undef, undef, undef, undef, undef, undef, undef, undef, undef, undef, undef, undef, undef, undef, undef, undef, undef, undef, undef, undef, undef, undef], defers := [] } ∧ W'.heap[H]? = some (.cells #[.int .u32 m0, .int .u32 m1, .int .u32 m2, .int .u32 m3, .int .u32 m4, .int .u32 m5] 32 (0, 0)) ∧ W'.heap[H + 1]? = some (.cells #[.int .i64 1, .int .u16 0, .int .u16 0, .int .u32 size, .int .u64 0, .int .i64 dp, .int .u32 m0, .int .u32 m1, .int .u32 m2, .int .u32 m3, .int .u32 m4, .int .u32 m5] 54 (0, 0)) ∧ Below H w W') ?post ?_
  case post =>
    rintro e a' W7 ⟨rfl, rfl, hm7, hx7, hb7⟩
    clear hm hs hb W0 HD
    obtain ⟨g0, g1, g2, g3, g4, g5, g6, g7, g8, g9, g10, g11⟩ := ino_cells hx7
    go_wp2_with fail
    refine (inode_Right.calls _ _ _ _ _ _ _ _ _ _ _ _ true W7 HR.out).mono ?_
    rintro e w8 ⟨rfl, hb8⟩
    have hl7 := (Array.getElem?_eq_some_iff.1 hx7).1
    have hm8 := (hb8.block H (by omega)).trans hm7
    have hx8 := (hb8.block (H + 1) (by omega)).trans hx7
    have hB8 : Below H w w8 := hb7.trans (hb8.mono (by omega))
    clear g0 g1 g2 g3 g4 g5 g6 g7 g8 g9 g10 g11 hm7 hx7 hb7 hb8 hl7
    go_wp2_with fail
    refine (bmap_Count.calls size _ _ hct).mono ?_
    rintro e w9 ⟨rfl, hd9⟩
    have e9 := drawn_same hd9
    have hB9 : Below H w w9 := hB8.trans (hd9.below.mono (by have := hB8.size; omega))
    rw [← e9] at hm8 hx8
    clear hB8 hd9 e9
    go_wp2_with fail
    refine (inode_Blocks.calls size many _ hbl).mono ?_
    rintro e w10 ⟨rfl, hd10⟩
    have e10 := drawn_same hd10
    have hB10 : Below H w w10 := hB9.trans (hd10.below.mono (by have := hB9.size; omega))
    rw [← e10] at hm8 hx8
    clear hB9 hd10 e10
    have q5 : w10.cell? ⟨H + 1, 5, none⟩ = some (.int .i64 dp) := (ino_cells hx8).2.2.2.2.2.1
    go_wp2_with fail
    refine (cloneU.calls (some ⟨H, 0, none⟩) 6 [m0, m1, m2, m3, m4, m5] [m0, m1, m2, m3, m4, m5] w10 (arr_C hm8) (by simp) (by rfl)).mono ?_
    rintro e w11 ⟨vC, rfl, hoC, hbC⟩
    have hx11 := (hbC.block (H + 1) (Array.getElem?_eq_some_iff.1 hx8).1).trans hx8
    have q6 : w11.cell? ⟨H + 1, 5, none⟩ = some (.int .i64 dp) := (ino_cells hx11).2.2.2.2.2.1
    have hH10 : H ≤ w10.heap.size := by have := hB10.size; omega
    have hB11 : Below H w w11 := hB10.trans (hbC.mono hH10)
    have HOC := Aside0.mk (Kd.R_lower hoC hH10)
    have HB11 := Aside0.mk hB11
    clear hm8 hx8 hx11 q5 hB10 hoC hbC hB11 hH10
    obtain ⟨ad, e0, g0⟩ := Kd.at_string (Kd.C_below HCS.out (by rw [hH]; exact HB11.out)) 0 (by omega) (by omega)
    have hbv : rdOf ByteArray.empty bs 0 = bs.getD 0 ByteArray.empty := rfl
    rw [hbv] at g0
    obtain ⟨b0, hb0⟩ : ∃ b0, bs.getD 0 ByteArray.empty = b0 := ⟨_, rfl⟩
    rw [hb0] at g0
    have hbe := HBE.out
    rw [hb0] at hbe
    have HBE2 := Aside0.mk hbe
    have hb0l : (0 : Int) < (bs.length : Int) := by omega
    simp only [Int.toNat_zero] at g0
    replace g0 : w11.cell? ad = some (.string b0) := by rwa [show ad.add 0 = ad by obtain ⟨b, o, s⟩ := ad; cases s <;> simp [Addr.add]] at g0
    have HH1 := Aside0.mk h1n
    obtain ⟨t, ht⟩ : ∃ t, bs.drop 1 = t := ⟨_, rfl⟩
    have htl : bs.length - 1 = t.length := by rw [← ht, List.length_drop]
    obtain ⟨tA, htA⟩ : ∃ tA : Option Addr, (if cb = 1 then A else A.map (·.add (1 * 1))) = tA := ⟨_, rfl⟩
    obtain ⟨is, his, _, hss, _⟩ := info_parts info_str2
    have hcut := cut_from (P := Try.prog) 33 9 .i64 Try.underlying33 his _ hss A bs.length cb 1 (by omega) (by omega)
    have hCt := Kd.C_drop (m := 1) (c := cb) HCS.out (by omega) hcb
    replace hCt : Kd.C Kd.string w tA t.length t := by rw [← htA, ← ht]; exact hCt
    replace hcut : ∀ W : World, (Instr.slice 33 (.slice A bs.length cb) (some (.int .i64 1)) none none).run Try.prog W = .ok (.slice tA t.length (cb - 1)) W := by rw [← htl, ← htA]; exact hcut
    have HCT := Aside0.mk hCt
    have hr2 := HRES.out
    rw [ht] at hr2
    have HR2 := Aside0.mk hr2
    have htn : t.length ≤ 1000 := by omega
    clear hCt ht htA his hss hr2 htl
    clear hbv hb0 hbe h1n
    subst e0
    go_wp2_with fail
    refine (bmap_Below.calls size b0 xl 0 w11 HBE2.out).mono ?_
    rintro e w12 ⟨vb, rfl, hob, hb12⟩
    have hH11 : H ≤ w11.heap.size := by have := HB11.out.size; omega
    have HB12 := Aside0.mk (HB11.out.trans (hb12.mono hH11))
    clear hob hb12 g0 q6
    go_wp2_with fail
    go_loopg [10, 57] t.length (fun gg v10 v57 wr => ∃ (j : Nat) (out : List Int) (vo : Value), vo = v10 ∧ j ≤ t.length ∧ t.length - j ≤ gg ∧ v57 = .int .i64 j ∧ Aside0 (Kd.R (Kd.int .u32) 22 wr H (fun _ => True) v10 out) ∧ Aside0 (Below H w wr ∧ out.length ≤ 6 + 127 * j ∧ joinL (t.drop j) out = some res))
    case atStart => exact ⟨0, [], _, rfl, Nat.zero_le _, by omega, rfl, ⟨Kd.R_nil _ _ _ _ _⟩, ⟨HB12.out, by simp, by rw [List.drop_zero]; exact HR2.out⟩⟩
    case round =>
      obtain ⟨j, out, vo, rfl, hj, hg, rfl, HO, HX⟩ := hrel
      by_cases hlt : j < t.length
      · obtain ⟨ad, e0, g0⟩ := Kd.at_string (Kd.C_below HCT.out (by rw [hH]; exact HX.out.1)) (j : Int) (by omega) (by omega)
        simp only [Int.toNat_natCast] at g0
        have hbv : rdOf ByteArray.empty t (j : Int) = t[j] := by simp [rdOf, hlt]
        have h1 := HX.out.2.2
        rw [List.drop_eq_getElem_cons hlt, joinL] at h1
        obtain ⟨⟨l, en⟩, hnum, h2⟩ := Option.bind_eq_some_iff.1 h1
        rw [hbv] at g0
        obtain ⟨b, hb⟩ : ∃ b, t[j] = b := ⟨_, rfl⟩
        rw [hb] at g0 hnum
        have hjl : decide ((j : Int) < (t.length : Int)) = true := decide_eq_true (by omega)
        have hjb : (j : Int) < (t.length : Int) := by omega
        have hj0 : (0 : Int) ≤ (j : Int) := by omega
        have HNUM := Aside0.mk hnum
        have H2 := Aside0.mk h2
        have HG := Aside0.mk hg
        have HLT := Aside0.mk hlt
        clear h1 h2 hnum hbv hb hg hlt hj
        subst e0
        go_wp2_with fail
        refine (bmap_Numbers.calls b l en wr HNUM.out).mono ?_
        rintro e w4 ⟨vl, rfl, hol, hb4⟩
        have hwr : H ≤ wr.heap.size := by have := HX.out.1.size; omega
        have hB4 : Below H w w4 := HX.out.1.trans (hb4.mono hwr)
        have ho4 := Kd.R_below HO.out hb4
        obtain ⟨Al, cl, rfl⟩ := Kd.R_slice hol
        have hCl := (Kd.R_reads' hol).2.2
        by_cases he : en = 0
        · have hez : (en != 0) = false := by simp [he]
          have hll := num_len HNUM.out
          have h2 := H2.out
          rw [if_pos he] at h2
          have H3 := Aside0.mk h2
          have HO4 := Aside0.mk ho4
          have HCL := Aside0.mk hCl
          have HB4 := Aside0.mk hB4
          have HLL := Aside0.mk hll
          clear H2 h2 he ho4 hCl hB4 hll hol hb4 HO
          go_wp2_with ((with_reducible refine gate_dst (N := 71) rfl ?_); refine Kd.R_append_rows (Kd.int .u32) (w0 := w) H rfl _ _ 31 22 (.int .u32 0) 4 rfl Try.underlying31 info_u32 rfl (by decide) (by omega) vo out l _ _ _ (fun _ => True) (fun _ => False) rfl rfl ?aO ?aR (fun _ _ h => h) (fun _ h => h.elim) (fun _ _ => trivial) ?aB ?aS ?aL ?_; (case aR => exact HCL.out); (case aO => exact HO4.out); (case aB => exact HB4.out); (case aS => have := HB4.out.size; omega); (case aL => have := HX.out.2.1; have := HLL.out; have := HLT.out; omega); intro v2 w2 ho2 hb2 hg2 hn2; have HO2 := Aside0.mk ho2; have HB2 := Aside0.mk hb2; clear ho2 hb2 hg2 hn2)
          go_roundg (t.length - (j + 1))
          case measure => have := HG.out; have := HLT.out; omega
          case rel => exact ⟨j + 1, out ++ l, _, rfl, HLT.out, by omega, by go_num, ⟨HO2.out⟩, ⟨HB2.out, by have := HX.out.2.1; have := HLL.out; rw [List.length_append]; omega, H3.out⟩⟩
        · have hez : (en != 0) = true := by simp [he]
          have h2 := H2.out
          rw [if_neg he] at h2
          obtain rfl := Option.some.inj h2
          have h3 := HE.out
          unfold joinEnd at h3
          rw [if_neg he] at h3
          have H3 := Aside0.mk h3
          have HB4 := Aside0.mk hB4
          clear H2 h2 he ho4 hCl hB4 hol hb4 h3
          go_wp2_with fail
          go_ret2
          have h3 := Option.some.inj H3.out
          simp only [Prod.mk.injEq] at h3
          obtain ⟨rfl, rfl⟩ := h3
          exact ⟨_, rfl, Kd.R_nil _ _ _ _ _, by rw [hH]; exact HB4.out⟩
      · have hjl : decide ((j : Int) < (t.length : Int)) = false := decide_eq_false (by omega)
        have hjb : ¬ (j : Int) < (t.length : Int) := by omega
        have h1 := HX.out.2.2
        rw [List.drop_of_length_le (by omega), joinL] at h1
        obtain rfl := Option.some.inj h1
        have h3 := HE.out
        unfold joinEnd at h3
        rw [if_pos rfl] at h3
        by_cases hm2 : 0 ≤ many ∧ many ≤ (out.length : Int)
        · rw [if_pos hm2] at h3
          obtain ⟨cc, hcc, h4⟩ := Option.bind_eq_some_iff.1 h3
          obtain ⟨Ao, co, rfl⟩ := Kd.R_slice HO.out
          have hrd := Kd.R_reads' HO.out
          obtain ⟨iu, hiu, _, hsu, _⟩ := info_parts info_u32
          have hcut1 := cut_from (P := Try.prog) 31 22 .i64 Try.underlying31 hiu _ hsu Ao out.length co many hm2.1 hm2.2
          have hcut2 := cut_to (P := Try.prog) 31 22 .i64 Try.underlying31 hiu Ao out.length co many hm2.1 hm2.2 hrd.2.1
          have hCd := Kd.C_drop (m := many.toNat) (c := co) hrd.2.2 (by omega) hrd.2.1
          obtain ⟨tB, htB⟩ : ∃ tB, (if co = many.toNat then Ao else Ao.map (·.add (many.toNat * 1))) = tB := ⟨_, rfl⟩
          obtain ⟨dl, hdl⟩ : ∃ dl, out.drop many.toNat = dl := ⟨_, rfl⟩
          have hdn : out.length - many.toNat = dl.length := by rw [← hdl, List.length_drop]
          rw [htB, hdn] at hcut1
          replace hCd : Kd.C (Kd.int .u32) wr tB dl.length dl := by rw [← htB, ← hdl]; exact hCd
          rw [hdl] at hcc
          have hdc : dl.length ≤ co - many.toNat := by have := hrd.2.1; omega
          have HCD := Aside0.mk hCd
          have HCC := Aside0.mk hcc
          have H4 := Aside0.mk h4
          have HM2 := Aside0.mk hm2
          clear h1 h3 h4 hcc hCd hdl hdn htB hm2 hrd hiu hsu hj hlt hg
          go_wp2_with fail
          refine (containsU.calls tB (co - many.toNat) dl 35 cc wr HCD.out hdc HCC.out).mono ?_
          rintro e w5 ⟨rfl, hb5⟩
          have hwr : H ≤ wr.heap.size := by have := HX.out.1.size; omega
          have HB5 := Aside0.mk (HX.out.1.trans (hb5.mono hwr))
          have HO5 := Aside0.mk (Kd.R_below HO.out hb5)
          clear hb5
          cases cc with
          | true =>
            go_wp2_with fail
            go_ret2
            have h4 : some (([] : List Int), (130 : Int)) = some (r1, r2) := by simpa using H4.out
            cases h4
            exact ⟨_, rfl, Kd.R_nil _ _ _ _ _, by rw [hH]; exact HB5.out⟩
          | false =>
            go_wp2_with fail
            go_ret2
            have h4 := H4.out
            rw [if_neg (by decide)] at h4
            cases h4
            refine ⟨_, rfl, ?_, by rw [hH]; exact HB5.out⟩
            rw [hH]
            exact Kd.R_take HO5.out (by have := HM2.out; omega)
        · rw [if_neg hm2] at h3; cases h3
  refine wp_region_held (S := fun W => W.heap[H]? = some (.cells #[.int .u32 m0, .int .u32 m1, .int .u32 m2, .int .u32 m3, .int .u32 m4, .int .u32 m5] 32 (0, 0))) (by kernel_rfl) ?_
  have hPN : (W0.drew.heap[H]? = some (.cells #[.int .u32 m0, .int .u32 m1, .int .u32 m2, .int .u32 m3, .int .u32 m4, .int .u32 m5] 32 (0, 0))) ∧ W0.drew.heap.size = H + 1 ∧ Below H w W0.drew := ⟨hm, hs, pw_below_drewN hb 1⟩
  change wpAnyH _ _ _ _ _ 7 #[false, false, false, false, false, false, false] _ W0.drew
  clear hm hs hb
  generalize W0.drew = W1 at hPN ⊢
  obtain ⟨hS, hs, hb⟩ := hPN
  refine takeH 0 (l' := #[true, false, false, false, false, false, false]) (v := .int .u32 size) rfl (by kernel_rfl) (by kernel_rfl) (by kernel_rfl) (fun _ _ _ h => by cases h.1) (by kernel_rfl) (fun _ _ => by go_simp) hS (by show Act.put _ (some 17) _ = _; simp only [Act.put, List.setIfInBounds_toArray, List.set_cons_zero, List.set_cons_succ]; try rfl) (by kernel_rfl) ?_
  refine takeH 1 (l' := #[true, true, false, false, false, false, false]) (v := .int .u32 size) rfl (by kernel_rfl) (by kernel_rfl) (by kernel_rfl) (fun _ _ _ h => by cases h.1) (by kernel_rfl) (fun _ _ => by go_simp) hS (by show Act.put _ (some 18) _ = _; simp only [Act.put, List.setIfInBounds_toArray, List.set_cons_zero, List.set_cons_succ]; try rfl) (by kernel_rfl) ?_
  refine takeH 3 (l' := #[true, true, false, true, false, false, false]) (v := .agg #[.int .u32 m0, .int .u32 m1, .int .u32 m2, .int .u32 m3, .int .u32 m4, .int .u32 m5]) rfl (by kernel_rfl) (by kernel_rfl) (by kernel_rfl) (fun _ _ _ h => by cases h.1) (by kernel_rfl) (fun W hS => by have c0 := six_cell hS 0 (by omega); have c1 := six_cell hS 1 (by omega); have c2 := six_cell hS 2 (by omega); have c3 := six_cell hS 3 (by omega); have c4 := six_cell hS 4 (by omega); have c5 := six_cell hS 5 (by omega); simp only [List.getD_cons_zero, List.getD_cons_succ] at c0 c1 c2 c3 c4 c5; go_simp) hS (by show Act.put _ (some 20) _ = _; simp only [Act.put, List.setIfInBounds_toArray, List.set_cons_zero, List.set_cons_succ]; try rfl) (by kernel_rfl) ?_
  refine allH (rs := [2, 5]) (by kernel_rfl) (by decide) (enterH 2 19 (l' := #[true, true, true, true, false, false, false]) (f := 23) (args := #[.int .u32 size]) rfl rfl (by kernel_rfl) (by go_simp) (inode_Depth.calls size dp W1 HD.out) (by kernel_rfl) ?_ (readyH 5 (l' := #[true, true, false, true, false, true, false]) (v := .pointer (some ⟨H + 1, 0, none⟩)) (w1 := W1.alloc (.cells #[.int .i64 0, .int .u16 0, .int .u16 0, .int .u32 0, .int .u64 0, .int .i64 0, .int .u32 0, .int .u32 0, .int .u32 0, .int .u32 0, .int .u32 0, .int .u32 0] 54)) rfl (by kernel_rfl) (by go_simp; try (rw [hs]; try rfl)) (by show Act.put _ (some 8) _ = _; simp only [Act.put, List.setIfInBounds_toArray, List.set_cons_zero, List.set_cons_succ]; try rfl) (by kernel_rfl) ((Below.heap_alloc _ _ _ (by omega)).trans hS) ?_ AllH.nil))
  · rintro e W2 ⟨rfl, hD⟩
    have e2 := drawn_same hD
    have hS2 : W2.heap[H]? = some (.cells #[.int .u32 m0, .int .u32 m1, .int .u32 m2, .int .u32 m3, .int .u32 m4, .int .u32 m5] 32 (0, 0)) := by rw [e2]; exact hS
    have hs2 : W2.heap.size = H + 1 := by rw [e2]; exact hs
    have hb2 : Below H w W2 := hb.trans (hD.below.mono (by omega))
    refine ⟨_, rfl, hS2, _, (by show Act.put _ (some 19) _ = _; simp only [Act.put, List.setIfInBounds_toArray, List.set_cons_zero, List.set_cons_succ]; try rfl), ?_⟩
    refine takeH 4 (l' := #[true, true, true, true, true, false, false]) (v := .agg #[.int .i64 1, .int .u16 0, .int .u16 0, .int .u32 size, .int .u64 0, .int .i64 dp, .int .u32 m0, .int .u32 m1, .int .u32 m2, .int .u32 m3, .int .u32 m4, .int .u32 m5]) rfl (by kernel_rfl) (by kernel_rfl) (by kernel_rfl) (fun _ _ _ h => by cases h.1) (by kernel_rfl) (fun _ _ => by go_simp; first | done | rfl) hS2 (by show Act.put _ (some 21) _ = _; simp only [Act.put, List.setIfInBounds_toArray, List.set_cons_zero, List.set_cons_succ]; try rfl) (by kernel_rfl) ?_
    refine allH (rs := [5]) (by kernel_rfl) (by decide) (readyH 5 (l' := #[true, true, true, true, true, true, false]) (v := .pointer (some ⟨H + 1, 0, none⟩)) (w1 := W2.alloc (.cells #[.int .i64 0, .int .u16 0, .int .u16 0, .int .u32 0, .int .u64 0, .int .i64 0, .int .u32 0, .int .u32 0, .int .u32 0, .int .u32 0, .int .u32 0, .int .u32 0] 54)) rfl (by kernel_rfl) (by go_simp; try (rw [hs2]; try rfl)) (by show Act.put _ (some 8) _ = _; simp only [Act.put, List.setIfInBounds_toArray, List.set_cons_zero, List.set_cons_succ]; try rfl) (by kernel_rfl) ((Below.heap_alloc _ _ _ (by omega)).trans hS2) ?_ AllH.nil)
    have hx : (W2.alloc (.cells #[.int .i64 0, .int .u16 0, .int .u16 0, .int .u32 0, .int .u64 0, .int .i64 0, .int .u32 0, .int .u32 0, .int .u32 0, .int .u32 0, .int .u32 0, .int .u32 0] 54)).heap[H + 1]? = some (.cells #[.int .i64 0, .int .u16 0, .int .u16 0, .int .u32 0, .int .u64 0, .int .i64 0, .int .u32 0, .int .u32 0, .int .u32 0, .int .u32 0, .int .u32 0, .int .u32 0] 54 (0, 0)) := by rw [← hs2]; exact World.alloc_heap_new W2 _
    have hS3 : (W2.alloc (.cells #[.int .i64 0, .int .u16 0, .int .u16 0, .int .u32 0, .int .u64 0, .int .i64 0, .int .u32 0, .int .u32 0, .int .u32 0, .int .u32 0, .int .u32 0, .int .u32 0] 54)).heap[H]? = some (.cells #[.int .u32 m0, .int .u32 m1, .int .u32 m2, .int .u32 m3, .int .u32 m4, .int .u32 m5] 32 (0, 0)) := (Below.heap_alloc _ _ _ (by omega)).trans hS2
    have hb3 : Below H w (W2.alloc (.cells #[.int .i64 0, .int .u16 0, .int .u16 0, .int .u32 0, .int .u64 0, .int .i64 0, .int .u32 0, .int .u32 0, .int .u32 0, .int .u32 0, .int .u32 0, .int .u32 0] 54)) := hb2.alloc (by omega) _
    generalize W2.alloc (.cells #[.int .i64 0, .int .u16 0, .int .u16 0, .int .u32 0, .int .u64 0, .int .i64 0, .int .u32 0, .int .u32 0, .int .u32 0, .int .u32 0, .int .u32 0, .int .u32 0] 54) = W3 at hx hS3 hb3 ⊢
    obtain ⟨z0, z1, z2, z3, z4, z5, z6, z7, z8, z9, z10, z11⟩ := ino_cells hx
    have f0 := ino_free hx 0
    have f1 := ino_free hx 1
    have f2 := ino_free hx 2
    have f3 := ino_free hx 3
    have f4 := ino_free hx 4
    have f5 := ino_free hx 5
    have f6 := ino_free hx 6
    have f7 := ino_free hx 7
    have f8 := ino_free hx 8
    have f9 := ino_free hx 9
    have f10 := ino_free hx 10
    have f11 := ino_free hx 11
    refine allH (rs := [6]) (by kernel_rfl) (by decide) (skipH 6 (l' := #[true, true, true, true, true, true, true]) (w1 := set12 W3 (H + 1) (.int .i64 1) (.int .u16 0) (.int .u16 0) (.int .u32 size) (.int .u64 0) (.int .i64 dp) (.int .u32 m0) (.int .u32 m1) (.int .u32 m2) (.int .u32 m3) (.int .u32 m4) (.int .u32 m5)) rfl (by kernel_rfl) (by go_simp; first | done | rfl) (by rfl) (by kernel_rfl) (by rw [set12_other _ _ _ (by omega)]; exact hS3) ?_ AllH.nil)
    exact wpAnyH_done (by kernel_rfl) ⟨rfl, rfl, by rw [set12_other _ _ _ (by omega)]; exact hS3, set12_cells hx _ _ _ _ _ _ _ _ _ _ _ _, set12_below hb3 (by omega) _ _ _ _ _ _ _ _ _ _ _ _⟩ _
  · have hx1 : (W1.alloc (.cells #[.int .i64 0, .int .u16 0, .int .u16 0, .int .u32 0, .int .u64 0, .int .i64 0, .int .u32 0, .int .u32 0, .int .u32 0, .int .u32 0, .int .u32 0, .int .u32 0] 54)).heap[H + 1]? = some (.cells #[.int .i64 0, .int .u16 0, .int .u16 0, .int .u32 0, .int .u64 0, .int .i64 0, .int .u32 0, .int .u32 0, .int .u32 0, .int .u32 0, .int .u32 0, .int .u32 0] 54 (0, 0)) := by rw [← hs]; exact World.alloc_heap_new W1 _
    have hS1 : (W1.alloc (.cells #[.int .i64 0, .int .u16 0, .int .u16 0, .int .u32 0, .int .u64 0, .int .i64 0, .int .u32 0, .int .u32 0, .int .u32 0, .int .u32 0, .int .u32 0, .int .u32 0] 54)).heap[H]? = some (.cells #[.int .u32 m0, .int .u32 m1, .int .u32 m2, .int .u32 m3, .int .u32 m4, .int .u32 m5] 32 (0, 0)) := (Below.heap_alloc _ _ _ (by omega)).trans hS
    have hb1 : Below H w (W1.alloc (.cells #[.int .i64 0, .int .u16 0, .int .u16 0, .int .u32 0, .int .u64 0, .int .i64 0, .int .u32 0, .int .u32 0, .int .u32 0, .int .u32 0, .int .u32 0, .int .u32 0] 54)) := hb.alloc (by omega) _
    generalize W1.alloc (.cells #[.int .i64 0, .int .u16 0, .int .u16 0, .int .u32 0, .int .u64 0, .int .i64 0, .int .u32 0, .int .u32 0, .int .u32 0, .int .u32 0, .int .u32 0, .int .u32 0] 54) = W5 at hx1 hS1 hb1 ⊢
    refine allH (rs := [2]) (by kernel_rfl) (by decide) (enterH 2 19 (l' := #[true, true, true, true, false, true, false]) (f := 23) (args := #[.int .u32 size]) rfl rfl (by kernel_rfl) (by go_simp) (inode_Depth.calls size dp W5 HD.out) (by kernel_rfl) ?_ AllH.nil)
    rintro e W3 ⟨rfl, hD⟩
    have e2 := drawn_same hD
    have hS3 : W3.heap[H]? = some (.cells #[.int .u32 m0, .int .u32 m1, .int .u32 m2, .int .u32 m3, .int .u32 m4, .int .u32 m5] 32 (0, 0)) := by rw [e2]; exact hS1
    have hS2 := hS3
    have hx : W3.heap[H + 1]? = some (.cells #[.int .i64 0, .int .u16 0, .int .u16 0, .int .u32 0, .int .u64 0, .int .i64 0, .int .u32 0, .int .u32 0, .int .u32 0, .int .u32 0, .int .u32 0, .int .u32 0] 54 (0, 0)) := by rw [e2]; exact hx1
    have hb3 : Below H w W3 := hb1.trans (hD.below.mono (by have := (Array.getElem?_eq_some_iff.1 hx1).1; omega))
    refine ⟨_, rfl, hS3, _, (by show Act.put _ (some 19) _ = _; simp only [Act.put, List.setIfInBounds_toArray, List.set_cons_zero, List.set_cons_succ]; try rfl), ?_⟩
    refine takeH 4 (l' := #[true, true, true, true, true, true, false]) (v := .agg #[.int .i64 1, .int .u16 0, .int .u16 0, .int .u32 size, .int .u64 0, .int .i64 dp, .int .u32 m0, .int .u32 m1, .int .u32 m2, .int .u32 m3, .int .u32 m4, .int .u32 m5]) rfl (by kernel_rfl) (by kernel_rfl) (by kernel_rfl) (fun _ _ _ h => by cases h.1) (by kernel_rfl) (fun _ _ => by go_simp; first | done | rfl) hS2 (by show Act.put _ (some 21) _ = _; simp only [Act.put, List.setIfInBounds_toArray, List.set_cons_zero, List.set_cons_succ]; try rfl) (by kernel_rfl) ?_
    obtain ⟨z0, z1, z2, z3, z4, z5, z6, z7, z8, z9, z10, z11⟩ := ino_cells hx
    have f0 := ino_free hx 0
    have f1 := ino_free hx 1
    have f2 := ino_free hx 2
    have f3 := ino_free hx 3
    have f4 := ino_free hx 4
    have f5 := ino_free hx 5
    have f6 := ino_free hx 6
    have f7 := ino_free hx 7
    have f8 := ino_free hx 8
    have f9 := ino_free hx 9
    have f10 := ino_free hx 10
    have f11 := ino_free hx 11
    refine allH (rs := [6]) (by kernel_rfl) (by decide) (skipH 6 (l' := #[true, true, true, true, true, true, true]) (w1 := set12 W3 (H + 1) (.int .i64 1) (.int .u16 0) (.int .u16 0) (.int .u32 size) (.int .u64 0) (.int .i64 dp) (.int .u32 m0) (.int .u32 m1) (.int .u32 m2) (.int .u32 m3) (.int .u32 m4) (.int .u32 m5)) rfl (by kernel_rfl) (by go_simp; first | done | rfl) (by rfl) (by kernel_rfl) (by rw [set12_other _ _ _ (by omega)]; exact hS3) ?_ AllH.nil)
    exact wpAnyH_done (by kernel_rfl) ⟨rfl, rfl, by rw [set12_other _ _ _ (by omega)]; exact hS3, set12_cells hx _ _ _ _ _ _ _ _ _ _ _ _, set12_below hb3 (by omega) _ _ _ _ _ _ _ _ _ _ _ _⟩ _
set_option maxHeartbeats 8000000 in
theorem join_3 (size : Int) (m0 m1 m2 m3 m4 m5 : Int) (A : Option Addr) (cb : Nat) (bs : List ByteArray) (dp : Int) (w : World) (hd : inode_Depth.f size = some dp) (hr : inode_Right.f 1 0 0 size 0 dp m0 m1 m2 m3 m4 m5 = some true) (many : Int) (hbl : inode_Blocks.f size = some many) (hct : bmap_Count.f size = some (bs.length : Int)) (hC : Kd.C Kd.string w A bs.length bs) (hcb : bs.length ≤ cb) (hn : bs.length ≤ 1000) (hp : decide (0 < dp) = true) (hq : (dp == 2) = true) (h1n : 0 < bs.length) (xl : List Int) (xe : Int) (hxe : (xe != 0) = true) (hbe : bmap_Below.f size (bs.getD 0 ByteArray.empty) = some (xl, xe)) :
    Calls Try.prog 18 #[.int .u32 size, .agg #[.int .u32 m0, .int .u32 m1, .int .u32 m2, .int .u32 m3, .int .u32 m4, .int .u32 m5], .slice A bs.length cb] w fun e w' => e = .returned (.tuple #[.slice none 0 0, .int .i64 xe]) ∧ Below w.heap.size w w' := by
  have hu := Try.underlying54
  have HD := Aside0.mk hd
  have HR := Aside0.mk hr
  clear hd hr
  have HCS := Aside0.mk hC
  clear hC
  have HBE := Aside0.mk hbe
  clear hbe
  go_enter Try.func18, Try.ntmps18
  go_wp2_with fail
  obtain ⟨H, hH⟩ : ∃ H, w.heap.size = H := ⟨_, rfl⟩
  simp only [hH]
  have hm : (w.alloc (.cells #[.int .u32 m0, .int .u32 m1, .int .u32 m2, .int .u32 m3, .int .u32 m4, .int .u32 m5] 32)).heap[H]? = some (.cells #[.int .u32 m0, .int .u32 m1, .int .u32 m2, .int .u32 m3, .int .u32 m4, .int .u32 m5] 32 (0, 0)) := by rw [← hH]; exact World.alloc_heap_new w _
  have hs : (w.alloc (.cells #[.int .u32 m0, .int .u32 m1, .int .u32 m2, .int .u32 m3, .int .u32 m4, .int .u32 m5] 32)).heap.size = H + 1 := by rw [World.size_alloc, hH]
  have hb : Below H w (w.alloc (.cells #[.int .u32 m0, .int .u32 m1, .int .u32 m2, .int .u32 m3, .int .u32 m4, .int .u32 m5] 32)) := (Below.refl H w).alloc (by omega) _
  generalize w.alloc (.cells #[.int .u32 m0, .int .u32 m1, .int .u32 m2, .int .u32 m3, .int .u32 m4, .int .u32 m5] 32) = W0 at hm hs hb ⊢
  refine Code.wp_mono (Q := fun e a' W' => e = .normal ∧ a' = { tmps := #[.int .u32 size, .agg #[.int .u32 m0, .int .u32 m1, .int .u32 m2, .int .u32 m3, .int .u32 m4, .int .u32 m5], .slice A bs.length cb, undef, .pointer (some ⟨H, 0, none⟩), undef, .slice none 0 0, .int .i64 0, .pointer (some ⟨H + 1, 0, none⟩), undef, undef, undef, undef, undef, undef, undef, undef, .int .u32 size, .int .u32 size, .int .i64 dp, .agg #[.int .u32 m0, .int .u32 m1, .int .u32 m2, .int .u32 m3, .int .u32 m4, .int .u32 m5], .agg #[.int .i64 1, .int .u16 0, .int .u16 0, .int .u32 size, .int .u64 0, .int .i64 dp, .int .u32 m0, .int .u32 m1, .int .u32 m2, .int .u32 m3, .int .u32 m4, .int .u32 m5], undef, undef, undef, undef, undef, undef, undef, undef, undef, undef, undef, undef, undef, undef, undef, undef, undef, undef, undef, undef, undef, undef, undef, undef, undef, undef, undef, undef, undef, undef, undef, undef, undef, undef, undef, undef, undef, undef, undef, undef, undef, undef, undef, undef, undef, undef, undef, undef, undef, undef, undef, undef, undef, undef, undef, undef, undef, undef], defers := [] } ∧ W'.heap[H]? = some (.cells #[.int .u32 m0, .int .u32 m1, .int .u32 m2, .int .u32 m3, .int .u32 m4, .int .u32 m5] 32 (0, 0)) ∧ W'.heap[H + 1]? = some (.cells #[.int .i64 1, .int .u16 0, .int .u16 0, .int .u32 size, .int .u64 0, .int .i64 dp, .int .u32 m0, .int .u32 m1, .int .u32 m2, .int .u32 m3, .int .u32 m4, .int .u32 m5] 54 (0, 0)) ∧ Below H w W') ?post ?_
  case post =>
    rintro e a' W7 ⟨rfl, rfl, hm7, hx7, hb7⟩
    clear hm hs hb W0 HD
    obtain ⟨g0, g1, g2, g3, g4, g5, g6, g7, g8, g9, g10, g11⟩ := ino_cells hx7
    go_wp2_with fail
    refine (inode_Right.calls _ _ _ _ _ _ _ _ _ _ _ _ true W7 HR.out).mono ?_
    rintro e w8 ⟨rfl, hb8⟩
    have hl7 := (Array.getElem?_eq_some_iff.1 hx7).1
    have hm8 := (hb8.block H (by omega)).trans hm7
    have hx8 := (hb8.block (H + 1) (by omega)).trans hx7
    have hB8 : Below H w w8 := hb7.trans (hb8.mono (by omega))
    clear g0 g1 g2 g3 g4 g5 g6 g7 g8 g9 g10 g11 hm7 hx7 hb7 hb8 hl7
    go_wp2_with fail
    refine (bmap_Count.calls size _ _ hct).mono ?_
    rintro e w9 ⟨rfl, hd9⟩
    have e9 := drawn_same hd9
    have hB9 : Below H w w9 := hB8.trans (hd9.below.mono (by have := hB8.size; omega))
    rw [← e9] at hm8 hx8
    clear hB8 hd9 e9
    go_wp2_with fail
    refine (inode_Blocks.calls size many _ hbl).mono ?_
    rintro e w10 ⟨rfl, hd10⟩
    have e10 := drawn_same hd10
    have hB10 : Below H w w10 := hB9.trans (hd10.below.mono (by have := hB9.size; omega))
    rw [← e10] at hm8 hx8
    clear hB9 hd10 e10
    have q5 : w10.cell? ⟨H + 1, 5, none⟩ = some (.int .i64 dp) := (ino_cells hx8).2.2.2.2.2.1
    go_wp2_with fail
    refine (cloneU.calls (some ⟨H, 0, none⟩) 6 [m0, m1, m2, m3, m4, m5] [m0, m1, m2, m3, m4, m5] w10 (arr_C hm8) (by simp) (by rfl)).mono ?_
    rintro e w11 ⟨vC, rfl, hoC, hbC⟩
    have hx11 := (hbC.block (H + 1) (Array.getElem?_eq_some_iff.1 hx8).1).trans hx8
    have q6 : w11.cell? ⟨H + 1, 5, none⟩ = some (.int .i64 dp) := (ino_cells hx11).2.2.2.2.2.1
    have hH10 : H ≤ w10.heap.size := by have := hB10.size; omega
    have hB11 : Below H w w11 := hB10.trans (hbC.mono hH10)
    have HOC := Aside0.mk (Kd.R_lower hoC hH10)
    have HB11 := Aside0.mk hB11
    clear hm8 hx8 hx11 q5 hB10 hoC hbC hB11 hH10
    obtain ⟨ad, e0, g0⟩ := Kd.at_string (Kd.C_below HCS.out (by rw [hH]; exact HB11.out)) 0 (by omega) (by omega)
    have hbv : rdOf ByteArray.empty bs 0 = bs.getD 0 ByteArray.empty := rfl
    rw [hbv] at g0
    obtain ⟨b0, hb0⟩ : ∃ b0, bs.getD 0 ByteArray.empty = b0 := ⟨_, rfl⟩
    rw [hb0] at g0
    have hbe := HBE.out
    rw [hb0] at hbe
    have HBE2 := Aside0.mk hbe
    have hb0l : (0 : Int) < (bs.length : Int) := by omega
    simp only [Int.toNat_zero] at g0
    replace g0 : w11.cell? ad = some (.string b0) := by rwa [show ad.add 0 = ad by obtain ⟨b, o, s⟩ := ad; cases s <;> simp [Addr.add]] at g0
    have HH1 := Aside0.mk h1n
    clear hbv hb0 hbe h1n
    subst e0
    go_wp2_with fail
    refine (bmap_Below.calls size b0 xl xe w11 HBE2.out).mono ?_
    rintro e w12 ⟨vb, rfl, hob, hb12⟩
    have hH11 : H ≤ w11.heap.size := by have := HB11.out.size; omega
    have HB12 := Aside0.mk (HB11.out.trans (hb12.mono hH11))
    clear hob hb12 g0 q6
    go_wp2_with fail
    go_ret2
    exact ⟨rfl, by rw [hH]; exact HB12.out⟩
  refine wp_region_held (S := fun W => W.heap[H]? = some (.cells #[.int .u32 m0, .int .u32 m1, .int .u32 m2, .int .u32 m3, .int .u32 m4, .int .u32 m5] 32 (0, 0))) (by kernel_rfl) ?_
  have hPN : (W0.drew.heap[H]? = some (.cells #[.int .u32 m0, .int .u32 m1, .int .u32 m2, .int .u32 m3, .int .u32 m4, .int .u32 m5] 32 (0, 0))) ∧ W0.drew.heap.size = H + 1 ∧ Below H w W0.drew := ⟨hm, hs, pw_below_drewN hb 1⟩
  change wpAnyH _ _ _ _ _ 7 #[false, false, false, false, false, false, false] _ W0.drew
  clear hm hs hb
  generalize W0.drew = W1 at hPN ⊢
  obtain ⟨hS, hs, hb⟩ := hPN
  refine takeH 0 (l' := #[true, false, false, false, false, false, false]) (v := .int .u32 size) rfl (by kernel_rfl) (by kernel_rfl) (by kernel_rfl) (fun _ _ _ h => by cases h.1) (by kernel_rfl) (fun _ _ => by go_simp) hS (by show Act.put _ (some 17) _ = _; simp only [Act.put, List.setIfInBounds_toArray, List.set_cons_zero, List.set_cons_succ]; try rfl) (by kernel_rfl) ?_
  refine takeH 1 (l' := #[true, true, false, false, false, false, false]) (v := .int .u32 size) rfl (by kernel_rfl) (by kernel_rfl) (by kernel_rfl) (fun _ _ _ h => by cases h.1) (by kernel_rfl) (fun _ _ => by go_simp) hS (by show Act.put _ (some 18) _ = _; simp only [Act.put, List.setIfInBounds_toArray, List.set_cons_zero, List.set_cons_succ]; try rfl) (by kernel_rfl) ?_
  refine takeH 3 (l' := #[true, true, false, true, false, false, false]) (v := .agg #[.int .u32 m0, .int .u32 m1, .int .u32 m2, .int .u32 m3, .int .u32 m4, .int .u32 m5]) rfl (by kernel_rfl) (by kernel_rfl) (by kernel_rfl) (fun _ _ _ h => by cases h.1) (by kernel_rfl) (fun W hS => by have c0 := six_cell hS 0 (by omega); have c1 := six_cell hS 1 (by omega); have c2 := six_cell hS 2 (by omega); have c3 := six_cell hS 3 (by omega); have c4 := six_cell hS 4 (by omega); have c5 := six_cell hS 5 (by omega); simp only [List.getD_cons_zero, List.getD_cons_succ] at c0 c1 c2 c3 c4 c5; go_simp) hS (by show Act.put _ (some 20) _ = _; simp only [Act.put, List.setIfInBounds_toArray, List.set_cons_zero, List.set_cons_succ]; try rfl) (by kernel_rfl) ?_
  refine allH (rs := [2, 5]) (by kernel_rfl) (by decide) (enterH 2 19 (l' := #[true, true, true, true, false, false, false]) (f := 23) (args := #[.int .u32 size]) rfl rfl (by kernel_rfl) (by go_simp) (inode_Depth.calls size dp W1 HD.out) (by kernel_rfl) ?_ (readyH 5 (l' := #[true, true, false, true, false, true, false]) (v := .pointer (some ⟨H + 1, 0, none⟩)) (w1 := W1.alloc (.cells #[.int .i64 0, .int .u16 0, .int .u16 0, .int .u32 0, .int .u64 0, .int .i64 0, .int .u32 0, .int .u32 0, .int .u32 0, .int .u32 0, .int .u32 0, .int .u32 0] 54)) rfl (by kernel_rfl) (by go_simp; try (rw [hs]; try rfl)) (by show Act.put _ (some 8) _ = _; simp only [Act.put, List.setIfInBounds_toArray, List.set_cons_zero, List.set_cons_succ]; try rfl) (by kernel_rfl) ((Below.heap_alloc _ _ _ (by omega)).trans hS) ?_ AllH.nil))
  · rintro e W2 ⟨rfl, hD⟩
    have e2 := drawn_same hD
    have hS2 : W2.heap[H]? = some (.cells #[.int .u32 m0, .int .u32 m1, .int .u32 m2, .int .u32 m3, .int .u32 m4, .int .u32 m5] 32 (0, 0)) := by rw [e2]; exact hS
    have hs2 : W2.heap.size = H + 1 := by rw [e2]; exact hs
    have hb2 : Below H w W2 := hb.trans (hD.below.mono (by omega))
    refine ⟨_, rfl, hS2, _, (by show Act.put _ (some 19) _ = _; simp only [Act.put, List.setIfInBounds_toArray, List.set_cons_zero, List.set_cons_succ]; try rfl), ?_⟩
    refine takeH 4 (l' := #[true, true, true, true, true, false, false]) (v := .agg #[.int .i64 1, .int .u16 0, .int .u16 0, .int .u32 size, .int .u64 0, .int .i64 dp, .int .u32 m0, .int .u32 m1, .int .u32 m2, .int .u32 m3, .int .u32 m4, .int .u32 m5]) rfl (by kernel_rfl) (by kernel_rfl) (by kernel_rfl) (fun _ _ _ h => by cases h.1) (by kernel_rfl) (fun _ _ => by go_simp; first | done | rfl) hS2 (by show Act.put _ (some 21) _ = _; simp only [Act.put, List.setIfInBounds_toArray, List.set_cons_zero, List.set_cons_succ]; try rfl) (by kernel_rfl) ?_
    refine allH (rs := [5]) (by kernel_rfl) (by decide) (readyH 5 (l' := #[true, true, true, true, true, true, false]) (v := .pointer (some ⟨H + 1, 0, none⟩)) (w1 := W2.alloc (.cells #[.int .i64 0, .int .u16 0, .int .u16 0, .int .u32 0, .int .u64 0, .int .i64 0, .int .u32 0, .int .u32 0, .int .u32 0, .int .u32 0, .int .u32 0, .int .u32 0] 54)) rfl (by kernel_rfl) (by go_simp; try (rw [hs2]; try rfl)) (by show Act.put _ (some 8) _ = _; simp only [Act.put, List.setIfInBounds_toArray, List.set_cons_zero, List.set_cons_succ]; try rfl) (by kernel_rfl) ((Below.heap_alloc _ _ _ (by omega)).trans hS2) ?_ AllH.nil)
    have hx : (W2.alloc (.cells #[.int .i64 0, .int .u16 0, .int .u16 0, .int .u32 0, .int .u64 0, .int .i64 0, .int .u32 0, .int .u32 0, .int .u32 0, .int .u32 0, .int .u32 0, .int .u32 0] 54)).heap[H + 1]? = some (.cells #[.int .i64 0, .int .u16 0, .int .u16 0, .int .u32 0, .int .u64 0, .int .i64 0, .int .u32 0, .int .u32 0, .int .u32 0, .int .u32 0, .int .u32 0, .int .u32 0] 54 (0, 0)) := by rw [← hs2]; exact World.alloc_heap_new W2 _
    have hS3 : (W2.alloc (.cells #[.int .i64 0, .int .u16 0, .int .u16 0, .int .u32 0, .int .u64 0, .int .i64 0, .int .u32 0, .int .u32 0, .int .u32 0, .int .u32 0, .int .u32 0, .int .u32 0] 54)).heap[H]? = some (.cells #[.int .u32 m0, .int .u32 m1, .int .u32 m2, .int .u32 m3, .int .u32 m4, .int .u32 m5] 32 (0, 0)) := (Below.heap_alloc _ _ _ (by omega)).trans hS2
    have hb3 : Below H w (W2.alloc (.cells #[.int .i64 0, .int .u16 0, .int .u16 0, .int .u32 0, .int .u64 0, .int .i64 0, .int .u32 0, .int .u32 0, .int .u32 0, .int .u32 0, .int .u32 0, .int .u32 0] 54)) := hb2.alloc (by omega) _
    generalize W2.alloc (.cells #[.int .i64 0, .int .u16 0, .int .u16 0, .int .u32 0, .int .u64 0, .int .i64 0, .int .u32 0, .int .u32 0, .int .u32 0, .int .u32 0, .int .u32 0, .int .u32 0] 54) = W3 at hx hS3 hb3 ⊢
    obtain ⟨z0, z1, z2, z3, z4, z5, z6, z7, z8, z9, z10, z11⟩ := ino_cells hx
    have f0 := ino_free hx 0
    have f1 := ino_free hx 1
    have f2 := ino_free hx 2
    have f3 := ino_free hx 3
    have f4 := ino_free hx 4
    have f5 := ino_free hx 5
    have f6 := ino_free hx 6
    have f7 := ino_free hx 7
    have f8 := ino_free hx 8
    have f9 := ino_free hx 9
    have f10 := ino_free hx 10
    have f11 := ino_free hx 11
    refine allH (rs := [6]) (by kernel_rfl) (by decide) (skipH 6 (l' := #[true, true, true, true, true, true, true]) (w1 := set12 W3 (H + 1) (.int .i64 1) (.int .u16 0) (.int .u16 0) (.int .u32 size) (.int .u64 0) (.int .i64 dp) (.int .u32 m0) (.int .u32 m1) (.int .u32 m2) (.int .u32 m3) (.int .u32 m4) (.int .u32 m5)) rfl (by kernel_rfl) (by go_simp; first | done | rfl) (by rfl) (by kernel_rfl) (by rw [set12_other _ _ _ (by omega)]; exact hS3) ?_ AllH.nil)
    exact wpAnyH_done (by kernel_rfl) ⟨rfl, rfl, by rw [set12_other _ _ _ (by omega)]; exact hS3, set12_cells hx _ _ _ _ _ _ _ _ _ _ _ _, set12_below hb3 (by omega) _ _ _ _ _ _ _ _ _ _ _ _⟩ _
  · have hx1 : (W1.alloc (.cells #[.int .i64 0, .int .u16 0, .int .u16 0, .int .u32 0, .int .u64 0, .int .i64 0, .int .u32 0, .int .u32 0, .int .u32 0, .int .u32 0, .int .u32 0, .int .u32 0] 54)).heap[H + 1]? = some (.cells #[.int .i64 0, .int .u16 0, .int .u16 0, .int .u32 0, .int .u64 0, .int .i64 0, .int .u32 0, .int .u32 0, .int .u32 0, .int .u32 0, .int .u32 0, .int .u32 0] 54 (0, 0)) := by rw [← hs]; exact World.alloc_heap_new W1 _
    have hS1 : (W1.alloc (.cells #[.int .i64 0, .int .u16 0, .int .u16 0, .int .u32 0, .int .u64 0, .int .i64 0, .int .u32 0, .int .u32 0, .int .u32 0, .int .u32 0, .int .u32 0, .int .u32 0] 54)).heap[H]? = some (.cells #[.int .u32 m0, .int .u32 m1, .int .u32 m2, .int .u32 m3, .int .u32 m4, .int .u32 m5] 32 (0, 0)) := (Below.heap_alloc _ _ _ (by omega)).trans hS
    have hb1 : Below H w (W1.alloc (.cells #[.int .i64 0, .int .u16 0, .int .u16 0, .int .u32 0, .int .u64 0, .int .i64 0, .int .u32 0, .int .u32 0, .int .u32 0, .int .u32 0, .int .u32 0, .int .u32 0] 54)) := hb.alloc (by omega) _
    generalize W1.alloc (.cells #[.int .i64 0, .int .u16 0, .int .u16 0, .int .u32 0, .int .u64 0, .int .i64 0, .int .u32 0, .int .u32 0, .int .u32 0, .int .u32 0, .int .u32 0, .int .u32 0] 54) = W5 at hx1 hS1 hb1 ⊢
    refine allH (rs := [2]) (by kernel_rfl) (by decide) (enterH 2 19 (l' := #[true, true, true, true, false, true, false]) (f := 23) (args := #[.int .u32 size]) rfl rfl (by kernel_rfl) (by go_simp) (inode_Depth.calls size dp W5 HD.out) (by kernel_rfl) ?_ AllH.nil)
    rintro e W3 ⟨rfl, hD⟩
    have e2 := drawn_same hD
    have hS3 : W3.heap[H]? = some (.cells #[.int .u32 m0, .int .u32 m1, .int .u32 m2, .int .u32 m3, .int .u32 m4, .int .u32 m5] 32 (0, 0)) := by rw [e2]; exact hS1
    have hS2 := hS3
    have hx : W3.heap[H + 1]? = some (.cells #[.int .i64 0, .int .u16 0, .int .u16 0, .int .u32 0, .int .u64 0, .int .i64 0, .int .u32 0, .int .u32 0, .int .u32 0, .int .u32 0, .int .u32 0, .int .u32 0] 54 (0, 0)) := by rw [e2]; exact hx1
    have hb3 : Below H w W3 := hb1.trans (hD.below.mono (by have := (Array.getElem?_eq_some_iff.1 hx1).1; omega))
    refine ⟨_, rfl, hS3, _, (by show Act.put _ (some 19) _ = _; simp only [Act.put, List.setIfInBounds_toArray, List.set_cons_zero, List.set_cons_succ]; try rfl), ?_⟩
    refine takeH 4 (l' := #[true, true, true, true, true, true, false]) (v := .agg #[.int .i64 1, .int .u16 0, .int .u16 0, .int .u32 size, .int .u64 0, .int .i64 dp, .int .u32 m0, .int .u32 m1, .int .u32 m2, .int .u32 m3, .int .u32 m4, .int .u32 m5]) rfl (by kernel_rfl) (by kernel_rfl) (by kernel_rfl) (fun _ _ _ h => by cases h.1) (by kernel_rfl) (fun _ _ => by go_simp; first | done | rfl) hS2 (by show Act.put _ (some 21) _ = _; simp only [Act.put, List.setIfInBounds_toArray, List.set_cons_zero, List.set_cons_succ]; try rfl) (by kernel_rfl) ?_
    obtain ⟨z0, z1, z2, z3, z4, z5, z6, z7, z8, z9, z10, z11⟩ := ino_cells hx
    have f0 := ino_free hx 0
    have f1 := ino_free hx 1
    have f2 := ino_free hx 2
    have f3 := ino_free hx 3
    have f4 := ino_free hx 4
    have f5 := ino_free hx 5
    have f6 := ino_free hx 6
    have f7 := ino_free hx 7
    have f8 := ino_free hx 8
    have f9 := ino_free hx 9
    have f10 := ino_free hx 10
    have f11 := ino_free hx 11
    refine allH (rs := [6]) (by kernel_rfl) (by decide) (skipH 6 (l' := #[true, true, true, true, true, true, true]) (w1 := set12 W3 (H + 1) (.int .i64 1) (.int .u16 0) (.int .u16 0) (.int .u32 size) (.int .u64 0) (.int .i64 dp) (.int .u32 m0) (.int .u32 m1) (.int .u32 m2) (.int .u32 m3) (.int .u32 m4) (.int .u32 m5)) rfl (by kernel_rfl) (by go_simp; first | done | rfl) (by rfl) (by kernel_rfl) (by rw [set12_other _ _ _ (by omega)]; exact hS3) ?_ AllH.nil)
    exact wpAnyH_done (by kernel_rfl) ⟨rfl, rfl, by rw [set12_other _ _ _ (by omega)]; exact hS3, set12_cells hx _ _ _ _ _ _ _ _ _ _ _ _, set12_below hb3 (by omega) _ _ _ _ _ _ _ _ _ _ _ _⟩ _
end Go.Proofs.Ytpgdcpbbfphbiaa.Q

set_option linter.unusedVariables false
set_option linter.unusedSimpArgs false
namespace Go.Proofs.Ytpgdcpbbfphbiaa.Q
open Go.RowKit Go.Shelf Go.Proofs.Ytpgdcpbbfphbiaa.H Go.Proofs.YtpgdcpbbfphbiaaW.PrintWords Go.Proofs.YtpgdcpbbfphbiaaW.PrintLast Go.Proofs.YtpgdcpbbfphbiaaW.PrintMore
/-- The numbers of a map that is right. -/
def joinGood (size m0 m1 m2 m3 m4 m5 : Int) (bs : List ByteArray) : Option (List Int × Int) :=
  if 0 < depV size then (if depV size = 2 then (if bs.length = 0 then none else (bmap_Below.f size (bs.getD 0 ByteArray.empty)).bind fun t => if t.2 = 0 then (joinL (bs.drop 1) []).bind (joinEnd (blocksV size)) else some ([], t.2))
    else (joinL bs []).bind (joinEnd (blocksV size)))
  else (joinL bs [m0, m1, m2, m3, m4, m5]).bind (joinEnd (blocksV size))
def bmap_Join.f (size m0 m1 m2 m3 m4 m5 : Int) (bs : List ByteArray) : Option (List Int × Int) :=
  (inode_Right.f 1 0 0 size 0 (depV size) m0 m1 m2 m3 m4 m5).bind fun r => if r = true then (if (bs.length : Int) = cntV size then (if bs.length ≤ 1000 then joinGood size m0 m1 m2 m3 m4 m5 bs else none) else some ([], 130)) else some ([], 130)
theorem bmap_Join.calls (size m0 m1 m2 m3 m4 m5 : Int) (A : Option Addr) (cb : Nat) (bs : List ByteArray) (r1 : List Int) (r2 : Int) (w : World) (hC : Kd.C Kd.string w A bs.length bs) (hcb : bs.length ≤ cb) (h : bmap_Join.f size m0 m1 m2 m3 m4 m5 bs = some (r1, r2)) :
    Calls Try.prog 18 #[.int .u32 size, .agg #[.int .u32 m0, .int .u32 m1, .int .u32 m2, .int .u32 m3, .int .u32 m4, .int .u32 m5], .slice A bs.length cb] w fun e w' => ∃ v0_ : Value, e = .returned (.tuple #[v0_, .int .i64 r2]) ∧ Kd.R (Kd.int .u32) 22 w' w.heap.size (fun _ => True) v0_ r1 ∧ Below w.heap.size w w' := by
  unfold bmap_Join.f at h
  obtain ⟨r, hr, h1⟩ := Option.bind_eq_some_iff.mp h
  clear h
  have hd := dep_eq size
  cases r with
  | false =>
    rw [if_neg (by decide)] at h1
    cases h1
    refine (join_e1 size m0 m1 m2 m3 m4 m5 A cb bs _ w hd hr).mono ?_
    rintro e w' ⟨rfl, hb⟩
    exact ⟨_, rfl, Kd.R_nil _ _ _ _ _, hb⟩
  | true =>
    rw [if_pos rfl] at h1
    by_cases h2 : (bs.length : Int) = cntV size
    · rw [if_pos h2] at h1
      have hct : bmap_Count.f size = some (bs.length : Int) := by rw [h2]; exact cnt_eq size
      by_cases h3 : bs.length ≤ 1000
      · rw [if_pos h3] at h1
        unfold joinGood at h1
        by_cases h4 : 0 < depV size
        · rw [if_pos h4] at h1
          by_cases h5 : depV size = 2
          · rw [if_pos h5] at h1
            by_cases h6 : bs.length = 0
            · rw [if_pos h6] at h1; cases h1
            rw [if_neg h6] at h1
            obtain ⟨⟨xl, xe⟩, hbe, h7⟩ := Option.bind_eq_some_iff.mp h1
            by_cases h8 : xe = 0
            · subst h8
              rw [if_pos rfl] at h7
              obtain ⟨res, hres, h9⟩ := Option.bind_eq_some_iff.mp h7
              exact (join_2 size m0 m1 m2 m3 m4 m5 A cb bs _ w hd hr _ (blocks_eq size) hct hC hcb h3 res (decide_eq_true h4) (beq_iff_eq.2 h5) (by omega) xl hbe hres r1 r2 h9).mono fun e w' q => q
            · rw [if_neg h8] at h7
              cases h7
              refine (join_3 size m0 m1 m2 m3 m4 m5 A cb bs _ w hd hr _ (blocks_eq size) hct hC hcb h3 (decide_eq_true h4) (beq_iff_eq.2 h5) (by omega) xl _ (bne_iff_ne.2 h8) hbe).mono ?_
              rintro e w' ⟨rfl, hb⟩
              exact ⟨_, rfl, Kd.R_nil _ _ _ _ _, hb⟩
          · rw [if_neg h5] at h1
            obtain ⟨res, hres, h9⟩ := Option.bind_eq_some_iff.mp h1
            exact (join_1 size m0 m1 m2 m3 m4 m5 A cb bs _ w hd hr _ (blocks_eq size) hct hC hcb h3 res (decide_eq_true h4) (beq_eq_false_iff_ne.2 h5) hres r1 r2 h9).mono fun e w' q => q
        · rw [if_neg h4] at h1
          obtain ⟨res, hres, h9⟩ := Option.bind_eq_some_iff.mp h1
          have h5 : ¬ depV size = 2 := by omega
          exact (join_0 size m0 m1 m2 m3 m4 m5 A cb bs _ w hd hr _ (blocks_eq size) hct hC hcb h3 res (decide_eq_false h4) (beq_eq_false_iff_ne.2 h5) hres r1 r2 h9).mono fun e w' q => q
      · rw [if_neg h3] at h1; cases h1
    · rw [if_neg h2] at h1
      cases h1
      refine (join_e2 size m0 m1 m2 m3 m4 m5 A cb bs _ w hd hr _ (cnt_eq size) (bne_iff_ne.2 h2)).mono ?_
      rintro e w' ⟨rfl, hb⟩
      exact ⟨_, rfl, Kd.R_nil _ _ _ _ _, hb⟩
end Go.Proofs.Ytpgdcpbbfphbiaa.Q
