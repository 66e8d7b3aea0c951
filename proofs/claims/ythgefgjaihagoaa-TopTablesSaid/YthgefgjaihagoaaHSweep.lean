/- dat.Lives, and what it hands its closure to: slices.ContainsFunc at whole numbers. -/
import Derived.Test.YthgefgjaihagoaaQ0
import Derived.Test.YthgefgjaihagoaaQ3
import Derived.Shelf.Abstract
import Derived.Laws.EntriesVeiled
import Derived.Lib.LazyBuf
import Derived.Test.YthgefgjaihagoaaQ4
import Derived.Test.YthgefgjaihagoaaQ5
set_option linter.unusedVariables false
set_option linter.unusedSimpArgs false
namespace Go.Proofs.Ythgefgjaihagoaa.Q
open Go.RowKit Go.Proofs.Ythgefgjaihagoaa.H Go.Proofs.YthgefgjaihagoaaW.PrintWords Go.Proofs.YthgefgjaihagoaaW.PrintLast Go.Proofs.YthgefgjaihagoaaW.PrintMore
set_option maxRecDepth 100000

def idxP (p : Int → Bool) : List Int → Int → Int
  | [], _ => -1
  | x :: xs, i => if p x = true then i else idxP p xs (i + 1)
theorem idxP_any (p : Int → Bool) : ∀ (l : List Int) (i : Int), 0 ≤ i → decide (idxP p l i ≥ 0) = l.any p
  | [], _, _ => rfl
  | x :: xs, i, h => by
    rw [idxP, List.any_cons]
    cases hp : p x with
    | true => rw [if_pos rfl, decide_eq_true h]; rfl
    | false => rw [if_neg (by decide), idxP_any p xs (i + 1) (by omega)]; rfl
set_option maxHeartbeats 1000000 in
theorem idxU_calls (g : Nat) (caps : Array Value) (p : Int → Bool) (A : Option Addr) (c : Nat) (l : List Int) (w : World) (hC : Kd.C (Kd.int .u64) w A l.length l)
    (hen : ∀ args w, (callFunc g args).run Try.prog w = .ok (.enter g args) w)
    (hcall : ∀ (x : Int) (W : World), Below w.heap.size w W → Calls Try.prog g (#[.int .u64 x] ++ caps) W fun e w' => e = .returned (.bool (p x)) ∧ Below W.heap.size W w') :
    Calls Try.prog 102 #[.slice A l.length c, .func (.func g) #[] caps] w fun e w' => e = .returned (.int .i64 (idxP p l 0)) ∧ Below w.heap.size w w' := by
  have hmax := Kd.C_max hC
  have HR := Aside0.mk hC
  have HCALL := Aside0.mk hcall
  clear hC hcall
  go_enter Try.func102, Try.ntmps102
  go_wp2
  go_loopg [5, 8] l.length (fun gg _ s8 wr => ∃ kk : Nat, kk ≤ l.length ∧ l.length - kk ≤ gg ∧ s8 = .int .i64 kk ∧ Aside0 (Below w.heap.size w wr) ∧ Aside0 (idxP p (l.drop kk) kk = idxP p l 0))
  case atStart => exact ⟨0, Nat.zero_le _, by omega, rfl, ⟨Below.refl _ w⟩, ⟨rfl⟩⟩
  case round =>
    obtain ⟨kk, hkk, hg, rfl, HB, HL⟩ := hrel
    by_cases hlt : kk < l.length
    · have hltz : (kk : Int) < (l.length : Int) := by omega
      obtain ⟨ad, rfl, h0⟩ := Kd.at_int HR.out kk (by omega) hltz
      simp only [Int.toNat_natCast] at h0
      replace h0 := (HB.out.cell (World.block_lt_of_cell? w _ h0)).trans h0
      have e0 : rd l kk = l[kk] := by simp [rd, hlt]
      rw [e0] at h0
      have HL1 := HL.out
      rw [List.drop_eq_getElem_cons hlt, idxP] at HL1
      have hca := fun W hW => HCALL.out l[kk] W hW
      generalize l[kk] = x at HL1 h0 hca
      clear e0 HL
      cases hp : p x with
      | true =>
        rw [hp] at hca
        rw [if_pos hp] at HL1
        have HL := Aside0.mk HL1
        have HCA := Aside0.mk hca
        clear HL1 hca hp
        go_wp2_with (go_at_fn g; refine (HCA.out _ ?hB).mono ?_; (case hB => exact HB.out); rintro e w1 ⟨rfl, hb⟩)
        go_ret
        exact ⟨by rw [← HL.out]; rfl, below_step HB.out hb⟩
      | false =>
        rw [hp] at hca
        rw [if_neg (by rw [hp]; decide)] at HL1
        have HL := Aside0.mk HL1
        have HCA := Aside0.mk hca
        clear HL1 hca hp
        go_wp2_with (go_at_fn g; refine (HCA.out _ ?hB).mono ?_; (case hB => exact HB.out); rintro e w1 ⟨rfl, hb⟩)
        go_roundg (l.length - (kk + 1))
        case measure => omega
        case rel => exact ⟨kk + 1, by omega, by omega, by go_num, ⟨below_step HB.out hb⟩, ⟨HL.out⟩⟩
    · have hltz : ¬ (kk : Int) < (l.length : Int) := by omega
      go_wp2
      go_ret
      have HL1 := HL.out
      rw [List.drop_of_length_le (by omega), idxP] at HL1
      exact ⟨by rw [← HL1]; rfl, HB.out⟩
theorem containsU_calls (g : Nat) (caps : Array Value) (p : Int → Bool) (A : Option Addr) (c : Nat) (l : List Int) (w : World) (hC : Kd.C (Kd.int .u64) w A l.length l)
    (hen : ∀ args w, (callFunc g args).run Try.prog w = .ok (.enter g args) w)
    (hcall : ∀ (x : Int) (W : World), Below w.heap.size w W → Calls Try.prog g (#[.int .u64 x] ++ caps) W fun e w' => e = .returned (.bool (p x)) ∧ Below W.heap.size W w') :
    Calls Try.prog 83 #[.slice A l.length c, .func (.func g) #[] caps] w fun e w' => e = .returned (.bool (l.any p)) ∧ Below w.heap.size w w' := by
  have hca := idxU_calls g caps p A c l w hC hen hcall
  have e := idxP_any p l 0 (by omega)
  generalize idxP p l 0 = r at e hca
  have HE := Aside0.mk e
  have HC := Aside0.mk hca
  clear e hcall hC hca
  go_enter Try.func83, Try.ntmps83
  go_wp2_with (refine HC.out.mono ?_; rintro e w' ⟨rfl, hb'⟩)
  go_ret
  exact ⟨by rw [← HE.out]; rfl, hb'⟩

def withinB (s e x : Int) : Bool := decide (s ≤ x) && decide (x < e)
theorem within_calls (t0 t1 t2 x : Int) (B : Nat) (w : World) (h1 : w.cell? ⟨B, 1, none⟩ = some (.int .u64 t1)) (h2 : w.cell? ⟨B, 2, none⟩ = some (.int .u64 t2)) :
    Calls Try.prog 82 #[.int .u64 x, .pointer (some ⟨B, 0, none⟩)] w fun e w' => e = .returned (.bool (withinB t1 t2 x)) ∧ Below w.heap.size w w' := by
  unfold withinB
  cases hb : decide (t1 ≤ x) with
  | false =>
    go_enter Try.func82, Try.ntmps82
    go_wp2
    go_ret
    exact ⟨rfl, Below.refl _ _⟩
  | true =>
    go_enter Try.func82, Try.ntmps82
    go_wp2
    go_ret
    exact ⟨rfl, Below.refl _ _⟩

def freeB (t0 t1 t2 : Int) : Bool := t0 == 0 && (t1 == 0 && t2 == 0)
theorem free_f (t0 t1 t2 : Int) : dat_isFree.f t0 t1 t2 = some (freeB t0 t1 t2) := rfl
/-- dat.Lives -/
def livesB (t0 t1 t2 : Int) (l : List Int) : Bool := !freeB t0 t1 t2 && ((t2 == 0) || l.any (withinB t1 t2))
def dat_Lives.f (t0 t1 t2 : Int) (l : List Int) : Option Bool := some (livesB t0 t1 t2 l)
set_option maxHeartbeats 1000000 in
theorem dat_Lives.calls (a0_0 a0_1 a0_2 : Int) (A1 : Option Addr) (c1 : Nat) (l1 : List Int) (r : Bool) (w : World) (hr1 : Kd.C (Kd.int .u64) w A1 l1.length l1) (hc1 : l1.length ≤ c1) (h : dat_Lives.f a0_0 a0_1 a0_2 l1 = some r) :
    Calls Try.prog 48 #[.agg #[.int .u32 a0_0, .int .u64 a0_1, .int .u64 a0_2], .slice A1 l1.length c1] w fun e w' => e = .returned (.bool r) ∧ Below w.heap.size w w' := by
  obtain rfl := Option.some.inj h
  clear h
  have HR := Aside0.mk hr1
  clear hr1
  have hfr := free_f a0_0 a0_1 a0_2
  unfold livesB
  cases hf : freeB a0_0 a0_1 a0_2 with
  | true =>
    rw [hf] at hfr
    have HF := Aside0.mk hfr
    clear hf hfr
    go_enter Try.func48, Try.ntmps48
    go_wp2_with (go_at_call 47; refine (dat_isFree.calls _ _ _ true _ HF.out).mono ?_; rintro e w1 ⟨rfl, hb⟩; have HB := Aside0.mk (below_step (below_alloc (Below.refl _ w) _) hb))
    go_ret
    exact ⟨rfl, HB.out⟩
  | false =>
    rw [hf] at hfr
    have HF := Aside0.mk hfr
    clear hf hfr
    cases he : a0_2 == 0 with
    | true =>
      go_enter Try.func48, Try.ntmps48
      go_wp2_with (go_at_call 47; refine (dat_isFree.calls _ _ _ false _ HF.out).mono ?_; rintro e w1 ⟨rfl, hb⟩; have HB := Aside0.mk (below_step (below_alloc (Below.refl _ w) _) hb); have hsz := hb.size; simp only [World.size_alloc] at hsz; have g2 : w1.cell? ⟨w.heap.size, 2, none⟩ = some (.int .u64 a0_2) := (by rw [hb.cell (p := ⟨w.heap.size, 2, none⟩) (by simp)]; go_simp))
      go_ret
      exact ⟨rfl, HB.out⟩
    | false =>
      have HEN := Aside0.mk (enters_of Try.func82 rfl rfl)
      go_enter Try.func48, Try.ntmps48
      go_wp2_with (first | (go_at_call 47; refine (dat_isFree.calls _ _ _ false _ HF.out).mono ?_; rintro e w1 ⟨rfl, hb⟩; have HB := Aside0.mk (below_step (below_alloc (Below.refl _ w) _) hb); have hsz := hb.size; simp only [World.size_alloc] at hsz; have g1 : w1.cell? ⟨w.heap.size, 1, none⟩ = some (.int .u64 a0_1) := (by rw [hb.cell (p := ⟨w.heap.size, 1, none⟩) (by simp)]; go_simp); have g2 : w1.cell? ⟨w.heap.size, 2, none⟩ = some (.int .u64 a0_2) := (by rw [hb.cell (p := ⟨w.heap.size, 2, none⟩) (by simp)]; go_simp)) | (go_at_call 83; refine (containsU_calls 82 #[.pointer (some ⟨w.heap.size, 0, none⟩)] (withinB a0_1 a0_2) _ _ l1 _ ?s1 HEN.out ?s2).mono ?_; (case s1 => exact Kd.C_below HR.out HB.out); (case s2 => intro x W hW; exact within_calls a0_0 _ _ _ _ _ ((hW.cell (World.block_lt_of_cell? w1 _ g1)).trans g1) ((hW.cell (World.block_lt_of_cell? w1 _ g2)).trans g2)); rintro e w2 ⟨rfl, hb2⟩; have HB2 := Aside0.mk (below_step HB.out hb2)))
      go_ret
      exact ⟨rfl, HB2.out⟩
end Go.Proofs.Ythgefgjaihagoaa.Q

set_option linter.unusedVariables false
set_option linter.unusedSimpArgs false
namespace Go.Proofs.Ythgefgjaihagoaa.Q
open Go.RowKit Go.Proofs.YthgefgjaihagoaaW.PrintWords Go.Proofs.YthgefgjaihagoaaW.PrintLast Go.Proofs.YthgefgjaihagoaaW.PrintMore
set_option maxRecDepth 100000

def api_Trans_46.f (l : List S106) : Option (List S106) := if l.length ≤ 1000000000 then some l else none
theorem api_Trans_46.calls (A0 : Option Addr) (c0 : Nat) (l0 : List S106) (r : List S106) (w : World) (hr0 : Kd.C k106 w A0 l0.length l0) (hc0 : l0.length ≤ c0)
    (h : api_Trans_46.f l0 = some r) :
    Calls Try.prog 46 #[.slice A0 l0.length c0] w fun e w' => ∃ v0_ : Value, e = .returned v0_ ∧ Kd.R k106 106 w' w.heap.size (fun _ => True) v0_ r ∧ Below w.heap.size w w' := by
  unfold api_Trans_46.f at h
  split at h
  case isFalse => cases h
  case isTrue hlim =>
  obtain rfl := Option.some.inj h
  clear h
  cases A0 with
  | none =>
    have hl : l0 = [] := by
      apply List.eq_nil_of_length_eq_zero
      apply Classical.byContradiction
      intro hne
      obtain ⟨ad, c, e, _⟩ := Kd.C_get hr0 z106 0 (by omega) (by omega)
      cases e
    subst hl
    have he := Go.run_eql_slice_nil (P := Try.prog) w 51 106 none 0 c0 Try.underlying51
    go_enter Try.func46, Try.ntmps46
    go_wp2
    go_ret
    exact ⟨_, rfl, Kd.R_nil _ _ _ _ _, Below.refl _ _⟩
  | some ad =>
    have HR := Aside0.mk hr0
    clear hr0
    have he := Go.run_eql_slice_nil (P := Try.prog) w 51 106 (some ad) l0.length c0 Try.underlying51
    go_enter Try.func46, Try.ntmps46
    go_wp2_with (first
      | ((with_reducible refine gate_dst (N := 5) rfl ?_); refine Kd.R_lit k106 w.heap.size 106 ?hg (N := 5) ?hd (xs := []) (inner := []) (ok := fun _ => True) (okp := fun _ => True) ?hr ?hp (fun _ hk => hk) trivial (Below.refl _ _) (Nat.le_refl _) (by simp) ?_; (case hd => rfl); (case hg => rfl); (case hr => first | (go_simp; done) | (go_simp; rfl)); (case hp => exact Reps.none _ _); intro v1 w1 ho1 hb1 hg1 hn1; have HO1 := Aside0.mk ho1; have HB1 := Aside0.mk hb1; clear ho1 hb1 hg1 hn1)
      | ((with_reducible refine gate_dst (N := 7) rfl ?_); refine Kd.R_append_rows k106 (w0 := w) w.heap.size rfl _ _ 51 106 (.agg #[.int .u32 0, .int .u64 0, .int .u64 0]) 24 rfl Try.underlying51 info106 rfl (by decide) (by omega) v1 [] l0 _ _ _ (fun _ => True) (fun _ => False) rfl rfl ?aO ?aR (fun _ _ h => h) (fun _ h => h.elim) (fun _ _ => trivial) HB1.out (below_size HB1.out) ?aL ?_; (case aR => exact Kd.C_below HR.out HB1.out); (case aO => exact HO1.out); (case aL => simp only [List.length_nil]; omega); intro v2 w2 ho2 hb2 hg2 hn2; have HO2 := Aside0.mk ho2; have HB2 := Aside0.mk hb2; clear ho2 hb2 hg2 hn2))
    go_ret
    exact ⟨_, rfl, HO2.out, HB2.out⟩
end Go.Proofs.Ythgefgjaihagoaa.Q

set_option linter.unusedVariables false
set_option linter.unusedSimpArgs false
namespace Go.Proofs.Ythgefgjaihagoaa.Q
open Go.RowKit Go.Proofs.Ythgefgjaihagoaa.H Go.Proofs.YthgefgjaihagoaaW.PrintWords Go.Proofs.YthgefgjaihagoaaW.PrintLast Go.Proofs.YthgefgjaihagoaaW.PrintMore
set_option maxRecDepth 100000

abbrev TrE := S106
def deadB (cps : List Int) (x : TrE) : Bool := !freeB x.f0 x.f1 x.f2 && !livesB x.f0 x.f1 x.f2 cps
def swE (cps : List Int) (x : TrE) : TrE := if deadB cps x = true then ⟨0, 0, 0⟩ else x
def deadN (cps : List Int) (l : List TrE) : Nat := (l.filter (deadB cps)).length
theorem deadN_le (cps : List Int) (l : List TrE) : deadN cps l ≤ l.length := List.length_filter_le _ _
theorem bcell {W w1 : World} (hb : Below W.heap.size W w1) : (∀ b o, b < W.heap.size → w1.cell? ⟨b, o, none⟩ = W.cell? ⟨b, o, none⟩) ∧ (∀ b o, b < W.heap.size → w1.frozen? ⟨b, o, none⟩ = W.frozen? ⟨b, o, none⟩) :=
  ⟨fun b o h => hb.cell (p := ⟨b, o, none⟩) h, fun b o h => hb.frozen (p := ⟨b, o, none⟩) h⟩

theorem dead_no1 {cps : List Int} {x : TrE} (h : freeB x.f0 x.f1 x.f2 = true) : deadB cps x = false := by unfold deadB; rw [h]; rfl
theorem dead_no2 {cps : List Int} {x : TrE} (h : livesB x.f0 x.f1 x.f2 cps = true) : deadB cps x = false := by unfold deadB; rw [h]; simp
theorem dead_yes {cps : List Int} {x : TrE} (h : freeB x.f0 x.f1 x.f2 = false) (h2 : livesB x.f0 x.f1 x.f2 cps = false) : deadB cps x = true := by unfold deadB; rw [h, h2]; rfl
def swTo (cps : List Int) (l : List TrE) (k : Nat) : List TrE := (l.take k).map (swE cps) ++ l.drop k
theorem swTo_len (cps : List Int) (l : List TrE) (k : Nat) : (swTo cps l k).length = l.length := by unfold swTo; simp; omega
theorem swTo_zero (cps : List Int) (l : List TrE) : swTo cps l 0 = l := by simp [swTo]
theorem swTo_all (cps : List Int) (l : List TrE) : swTo cps l l.length = l.map (swE cps) := by simp [swTo]
theorem swTo_get (cps : List Int) (l : List TrE) (k : Nat) (h : k < l.length) : (swTo cps l k)[k]? = some l[k] := by
  unfold swTo
  rw [List.getElem?_append_right (by simp; omega)]
  simp [Nat.min_eq_left (Nat.le_of_lt h), h]
theorem swTo_succ (cps : List Int) (l : List TrE) (k : Nat) (h : k < l.length) : swTo cps l (k + 1) = (swTo cps l k).set k (swE cps l[k]) := by
  unfold swTo
  rw [List.set_append, if_neg (by simp; omega), List.take_succ_eq_append_getElem h, List.map_append, List.append_assoc]
  congr 1
  simp only [List.length_map, List.length_take, Nat.min_eq_left (Nat.le_of_lt h), Nat.sub_self]
  rw [List.drop_eq_getElem_cons h]; rfl
theorem swTo_same (cps : List Int) (l : List TrE) (k : Nat) (h : k < l.length) (hd : deadB cps l[k] = false) : swTo cps l (k + 1) = swTo cps l k := by
  rw [swTo_succ cps l k h]
  have e : swE cps l[k] = l[k] := by unfold swE; rw [hd, if_neg (by decide)]
  obtain ⟨h', e'⟩ := List.getElem?_eq_some_iff.1 (swTo_get cps l k h)
  rw [e, ← e', List.set_getElem_self]
theorem deadN_succ (cps : List Int) (l : List TrE) (k : Nat) (h : k < l.length) : deadN cps (l.take (k + 1)) = deadN cps (l.take k) + if deadB cps l[k] = true then 1 else 0 := by
  unfold deadN
  rw [List.take_succ_eq_append_getElem h, List.filter_append, List.length_append, List.filter_cons]
  split <;> simp

/-- dat.Sweep -/
def dat_Sweep.f (l : List TrE) (cps : List Int) : Option (List TrE × Int × Int) := (dat_Right.f l).bind fun b =>
  if b = true then (if l.length ≤ 1000000000 then (dat_bare.f (l.length + 1) (l.map (swE cps))).bind fun r => some (r, (deadN cps l : Int), 0) else none) else some ([], 0, 80)
set_option maxHeartbeats 4000000 in
theorem dat_Sweep.calls (A0 : Option Addr) (c0 : Nat) (l0 : List TrE) (A1 : Option Addr) (c1 : Nat) (l1 : List Int) (r1 : List TrE) (r2 r3 : Int) (w : World) (hr0 : Kd.C k106 w A0 l0.length l0) (hc0 : l0.length ≤ c0) (hr1 : Kd.C (Kd.int .u64) w A1 l1.length l1) (hc1 : l1.length ≤ c1) (h : dat_Sweep.f l0 l1 = some (r1, r2, r3)) :
    Calls Try.prog 15 #[.slice A0 l0.length c0, .slice A1 l1.length c1] w fun e w' => ∃ v0_ : Value, e = .returned (.tuple #[v0_, .int .i64 r2, .int .i64 r3]) ∧ Kd.R k106 106 w' w.heap.size (fun _ => True) v0_ r1 ∧ Below w.heap.size w w' := by
  obtain ⟨b, hp, h⟩ := Option.bind_eq_some_iff.1 h
  have hmax := Kd.C_max hr0
  have HR := Aside0.mk hr0
  have HC := Aside0.mk hc0
  have HR1 := Aside0.mk hr1
  have HC1 := Aside0.mk hc1
  have HP := Aside0.mk hp
  clear hr0 hc0 hp hr1 hc1
  cases b with
  | false =>
    rw [if_neg (by decide)] at h
    simp only [Option.some.injEq, Prod.mk.injEq] at h
    obtain ⟨rfl, rfl, rfl⟩ := h
    go_enter Try.func15, Try.ntmps15
    go_wp2_with (go_at_call 45; refine (dat_Right.calls _ _ l0 false _ ?s1 ?s2 HP.out).mono ?_; (case s1 => exact HR.out); (case s2 => exact HC.out); rintro e w1 ⟨rfl, hb⟩)
    go_ret3
    exact ⟨_, rfl, Kd.R_nil _ _ _ _ _, hb⟩
  | true =>
    rw [if_pos rfl] at h
    by_cases hr3 : l0.length ≤ 1000000000
    · rw [if_pos hr3] at h
      obtain ⟨r, hba, h⟩ := Option.bind_eq_some_iff.1 h
      simp only [Option.some.injEq, Prod.mk.injEq] at h
      obtain ⟨rfl, rfl, rfl⟩ := h
      have HBA := Aside0.mk hba
      have HCL := Aside0.mk (show api_Trans_46.f l0 = some l0 by unfold api_Trans_46.f; rw [if_pos hr3])
      clear hba
      go_enter Try.func15, Try.ntmps15
      go_wp2_with (first | (go_at_call 45; refine (dat_Right.calls _ _ l0 true _ ?s1 ?s2 HP.out).mono ?_; (case s1 => exact HR.out); (case s2 => exact HC.out); rintro e w1 ⟨rfl, hb⟩; have HB := Aside0.mk hb; clear hb) | (go_at_call 46; refine (api_Trans_46.calls _ _ l0 l0 _ ?s1 ?s2 HCL.out).mono ?_; (case s1 => exact Kd.C_below HR.out HB.out); (case s2 => exact HC.out); rintro e w2 ⟨v, rfl, ho2, hb2⟩; obtain ⟨Av, cv, hv⟩ := Kd.R_slice ho2; rw [hv] at ho2 ⊢; have HO2 := Aside0.mk (Kd.R_lower ho2 (below_size HB.out)); have HB2 := Aside0.mk (below_step HB.out hb2); clear ho2 hb2 HB))
      go_loopg [8, 18] l0.length (fun gg v8 v18 w' => ∃ (kk : Nat), kk ≤ l0.length ∧ l0.length - kk ≤ gg ∧ v18 = .int .i64 kk ∧ v8 = .int .i64 (deadN l1 (l0.take kk) : Nat) ∧ Aside0 (Kd.R k106 106 w' w.heap.size (fun _ => True) (.slice Av l0.length cv) (swTo l1 l0 kk)) ∧ Aside0 (Below w.heap.size w w'))
      case atStart => exact ⟨0, Nat.zero_le _, by omega, rfl, by simp [deadN], by rw [swTo_zero]; exact HO2, HB2⟩
      case round =>
        clear HO2 HB2
        obtain ⟨kk, hkk, hg, rfl, rfl, HO, HB⟩ := hrel
        by_cases hlt : kk < l0.length
        · have hltz : (kk : Int) < (l0.length : Int) := by omega
          have hlen := swTo_len l1 l0 kk
          obtain ⟨g, cap, eo, gb, gl, cl, HG⟩ := Kd.R_form HO.out (by omega)
          obtain ⟨rfl, -, rfl⟩ : Av = some ⟨g, 0, none⟩ ∧ l0.length = (swTo l1 l0 kk).length ∧ cv = cap := by simpa using eo
          have hHO := hlen
          obtain ⟨ce, hcl, hM, hcc, hfr⟩ := Kd.R_elem HO.out z106 (kk : Int) (by omega) hltz
          obtain rfl := k106_openM hM
          have eg : (swTo l1 l0 kk).getD (kk : Int).toNat z106 = l0[kk] := by
            rw [Int.toNat_natCast, List.getD_eq_getElem?_getD, swTo_get l1 l0 kk hlt, Option.getD_some]
          rw [eg] at hcc hM hcl
          have hN := deadN_succ l1 l0 kk hlt
          have hS := swTo_succ l1 l0 kk hlt
          have hSame := swTo_same l1 l0 kk hlt
          have hNle := deadN_le l1 (l0.take kk)
          rw [List.length_take] at hNle
          have hx0 := hcc 0 _ rfl
          have hx1 := hcc 1 _ rfl
          have hx2 := hcc 2 _ rfl
          simp only [Int.toNat_natCast, show (k106).sz = 3 from rfl, Nat.add_zero] at hx0 hx1 hx2
          have HSEG := Kd.R_seg HO.out (kk : Int) (by omega) hltz (seg := [.int .u32 0, .int .u64 0, .int .u64 0]) (j := 0) hcl hcc (show 3 ≤ 3 from by decide) (x' := (⟨0, 0, 0⟩ : TrE)) (k106_mkM _ _ _ (⟨0, 0, 0⟩ : TrE)) (fun _ hk => hk)
          obtain ⟨n, hn⟩ : ∃ n : Nat, deadN l1 (l0.take kk) = n := ⟨_, rfl⟩
          rw [hn] at hN hNle ⊢
          clear hcc hfr hM hcl eg eo cl HG hn
          generalize l0[kk] = x at *
          clear hHO
          cases hf : freeB x.f0 x.f1 x.f2 with
          | true =>
            rw [dead_no1 hf, if_neg (by decide), Nat.add_zero] at hN
            have HS := Aside0.mk (hSame (dead_no1 hf))
            have HF := Aside0.mk (show dat_isFree.f x.f0 x.f1 x.f2 = some true by rw [free_f, hf])
            have HN := Aside0.mk hN
            clear hf hN hS hSame HSEG
            go_wp2_with (go_at_call 47; refine (dat_isFree.calls _ _ _ true _ HF.out).mono ?_; rintro e w1 ⟨rfl, hb⟩; obtain ⟨hcb, hfb⟩ := bcell hb; have HB1 := Aside0.mk (below_step (below_alloc HB.out _) hb); have HO1 := Aside0.mk (Kd.R_below (Kd.R_alloc HO.out _) hb); clear hb)
            go_roundg (l0.length - (kk + 1))
            case measure => omega
            case rel => exact ⟨kk + 1, by omega, by omega, by go_num, (by rw [HN.out]; rfl), by rw [HS.out]; exact HO1, HB1⟩
          | false =>
            have HF := Aside0.mk (show dat_isFree.f x.f0 x.f1 x.f2 = some false by rw [free_f, hf])
            cases hl : livesB x.f0 x.f1 x.f2 l1 with
            | true =>
              rw [dead_no2 hl, if_neg (by decide), Nat.add_zero] at hN
              have HS := Aside0.mk (hSame (dead_no2 hl))
              have HL := Aside0.mk (show dat_Lives.f x.f0 x.f1 x.f2 l1 = some true by unfold dat_Lives.f; rw [hl])
              have HN := Aside0.mk hN
              clear hf hl hN hS hSame HSEG
              go_wp2_with (first | (go_at_call 47; refine (dat_isFree.calls _ _ _ false _ HF.out).mono ?_; rintro e w1 ⟨rfl, hb⟩; obtain ⟨hcb, hfb⟩ := bcell hb; have HB1 := Aside0.mk (below_step (below_alloc HB.out _) hb); have HO1 := Aside0.mk (Kd.R_below (Kd.R_alloc HO.out _) hb); clear hb) | (go_at_call 48; refine (dat_Lives.calls _ _ _ _ _ l1 true _ ?s1 ?s2 HL.out).mono ?_; (case s1 => exact Kd.C_below HR1.out HB1.out); (case s2 => exact HC1.out); rintro e w2 ⟨rfl, hb2⟩; have HB2 := Aside0.mk (below_step HB1.out hb2); have HO2 := Aside0.mk (Kd.R_below HO1.out hb2); clear hb2 hcb hfb))
              go_roundg (l0.length - (kk + 1))
              case measure => omega
              case rel => exact ⟨kk + 1, by omega, by omega, by go_num, (by rw [HN.out]; rfl), by rw [HS.out]; exact HO2, HB2⟩
            | false =>
              have hd := dead_yes hf hl
              rw [hd, if_pos rfl] at hN
              have hS' : swTo l1 l0 (kk + 1) = (swTo l1 l0 kk).set kk ⟨0, 0, 0⟩ := by rw [hS]; unfold swE; rw [if_pos hd]
              have HS := Aside0.mk hS'
              have HL := Aside0.mk (show dat_Lives.f x.f0 x.f1 x.f2 l1 = some false by unfold dat_Lives.f; rw [hl])
              have HN := Aside0.mk hN
              have GB := Aside0.mk gb
              clear hf hl hd hN hS hS' hSame HSEG gb gl
              go_wp2_with (first | (go_at_call 47; refine (dat_isFree.calls _ _ _ false _ HF.out).mono ?_; rintro e w1 ⟨rfl, hb⟩; obtain ⟨hcb, hfb⟩ := bcell hb; have HB1 := Aside0.mk (below_step (below_alloc HB.out _) hb); have HO1 := Aside0.mk (Kd.R_below (Kd.R_alloc HO.out _) hb); clear hb) | (go_at_call 48; refine (dat_Lives.calls _ _ _ _ _ l1 false _ ?s1 ?s2 HL.out).mono ?_; (case s1 => exact Kd.C_below HR1.out HB1.out); (case s2 => exact HC1.out); rintro e w2 ⟨rfl, hb2⟩; have HB2 := Aside0.mk (below_step HB1.out hb2); have HO2 := Aside0.mk (Kd.R_below HO1.out hb2); clear hb2 hcb hfb; obtain ⟨ce2, hcl2, hM2, hcc2, hfr2⟩ := Kd.R_elem HO2.out z106 (kk : Int) (by omega) hltz; obtain rfl := k106_openM hM2; have HP := Kd.R_seg HO2.out (kk : Int) (by omega) hltz (seg := [.int .u32 0, .int .u64 0, .int .u64 0]) (j := 0) hcl2 hcc2 (show 3 ≤ 3 from by decide) (x' := (⟨0, 0, 0⟩ : TrE)) (k106_mkM _ _ _ (⟨0, 0, 0⟩ : TrE)) (fun _ hk => hk); have hy0 := hcc2 0 _ rfl; have hy1 := hcc2 1 _ rfl; have hy2 := hcc2 2 _ rfl; have hz0 := hfr2 0; have hz1 := hfr2 1; have hz2 := hfr2 2; simp only [Int.toNat_natCast, show (k106).sz = 3 from rfl, Nat.add_zero] at hy0 hy1 hy2 hz0 hz1 hz2; have HPP := Aside0.mk HP; clear HP hcc2 hfr2 hcl2 hM2 hx0 hx1 hx2))
              go_roundg (l0.length - (kk + 1))
              case measure => omega
              case rel => exact ⟨kk + 1, by omega, by omega, by go_num, by rw [HN.out]; go_num, by rw [HS.out]; exact ⟨by have h_ := HPP.out.1; simp only [Int.toNat_natCast] at h_; exact h_⟩, ⟨below_set (below_set (below_set HB2.out GB.out) GB.out) GB.out⟩⟩
        · have hltz : ¬ (kk : Int) < (l0.length : Int) := by omega
          obtain rfl : kk = l0.length := by omega
          rw [swTo_all] at HO
          rw [List.take_length]
          go_wp2_with (go_at_call 49; refine (dat_bare.calls _ (fun _ => True) _ _ _ w _ ?s1 ?s2 HBA.out).mono ?_; (case s1 => exact HB.out); (case s2 => exact HO.out); rintro e w3 ⟨v3, rfl, ho3, hb3, hk3⟩; have HO3 := Aside0.mk (Kd.R_mono ho3 (fun _ _ => trivial)); have HB3 := Aside0.mk hb3; clear ho3 hb3 hk3)
          go_ret3
          exact ⟨_, rfl, HO3.out, HB3.out⟩
    · rw [if_neg hr3] at h; cases h
end Go.Proofs.Ythgefgjaihagoaa.Q
