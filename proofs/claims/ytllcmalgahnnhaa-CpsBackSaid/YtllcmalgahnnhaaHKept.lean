/- cps.kept, and the functions that hand a closure to it: cps.Delete, cps.Expire. -/
import Derived.Test.YtllcmalgahnnhaaQ0
import Derived.Test.YtllcmalgahnnhaaQ2
import Derived.Test.YtllcmalgahnnhaaQ3
import Derived.Shelf.Abstract
import Derived.Deep.QuietTactic
import Derived.BigQuiet
import Derived.Laws.EntriesVeiled
set_option linter.unusedVariables false
set_option linter.unusedSimpArgs false
namespace Go.Proofs.Ytllcmalgahnnhaa.Q
open Go.RowKit Go.Proofs.Ytllcmalgahnnhaa.H Go.Proofs.YtllcmalgahnnhaaW.PrintWords Go.Proofs.YtllcmalgahnnhaaW.PrintLast Go.Proofs.YtllcmalgahnnhaaW.PrintMore
set_option maxRecDepth 100000

abbrev CkE := S33
def ckV (x : CkE) : Value := .agg #[.int .u64 x.f0, .int .u64 x.f1, .bool x.f2, .string x.f3]
/-- Those of a list that nobody drops. -/
def keptL (p : Nat → CkE → Bool) : List CkE → Nat → List CkE
  | [], _ => []
  | x :: xs, k => if p k x = true then keptL p xs (k + 1) else x :: keptL p xs (k + 1)

theorem bcell {W w1 : World} (hb : Below W.heap.size W w1) : (∀ b o, b < W.heap.size → w1.cell? ⟨b, o, none⟩ = W.cell? ⟨b, o, none⟩) ∧ (∀ b o, b < W.heap.size → w1.frozen? ⟨b, o, none⟩ = W.frozen? ⟨b, o, none⟩) :=
  ⟨fun b o h => hb.cell (p := ⟨b, o, none⟩) h, fun b o h => hb.frozen (p := ⟨b, o, none⟩) h⟩

set_option maxHeartbeats 1000000 in
theorem kept_calls (g : Nat) (caps : Array Value) (p : Nat → CkE → Bool) (A : Option Addr) (c : Nat) (l : List CkE) (w : World) (hC : Kd.C k33 w A l.length l) (hc : l.length ≤ c) (hlim : l.length ≤ 1000000000)
    (hen : ∀ args w, (callFunc g args).run Try.prog w = .ok (.enter g args) w)
    (hcall : ∀ (k : Nat) (x : CkE) (W : World), k < l.length → Below w.heap.size w W → Calls Try.prog g (#[.int .i64 k, ckV x] ++ caps) W fun e w' => e = .returned (.bool (p k x)) ∧ Below W.heap.size W w') :
    Calls Try.prog 35 #[.slice A l.length c, .func (.func g) #[] caps] w fun e w' => ∃ v, e = .returned v ∧ Kd.R k33 33 w' w.heap.size (fun _ => True) v (keptL p l 0) ∧ Below w.heap.size w w' := by
  have HR := Aside0.mk hC
  have HCALL := Aside0.mk hcall
  clear hC hcall hc
  go_enter Try.func35, Try.ntmps35
  go_wp2
  go_loopg [5, 10] l.length (fun gg v5 v10 w' => ∃ (kk : Nat) (x5 : List CkE), kk ≤ l.length ∧ l.length - kk ≤ gg ∧ v10 = .int .i64 kk ∧ Aside0 (x5 ++ keptL p (l.drop kk) kk = keptL p l 0) ∧ Aside0 (x5.length ≤ kk) ∧ Aside0 (Kd.R k33 33 w' w.heap.size (fun _ => True) v5 x5) ∧ Aside0 (Below w.heap.size w w'))
  case atStart => exact ⟨0, [], Nat.zero_le _, by omega, rfl, ⟨rfl⟩, ⟨Nat.zero_le _⟩, ⟨Kd.R_nil _ _ _ _ _⟩, ⟨Below.refl _ _⟩⟩
  case round =>
    obtain ⟨kk, x5, hkk, hg, rfl, HL, HN, HO, HB⟩ := hrel
    by_cases hlt : kk < l.length
    · have hltz : (kk : Int) < (l.length : Int) := by omega
      obtain ⟨ad, rfl, h0, h1, h2, h3⟩ := at_T33 HR.out kk (by omega) hltz
      simp only [Int.toNat_natCast] at h0 h1 h2 h3
      replace h0 := (HB.out.cell (World.block_lt_of_cell? w _ h0)).trans h0
      replace h1 := (HB.out.cell (World.block_lt_of_cell? w _ h1)).trans h1
      replace h2 := (HB.out.cell (World.block_lt_of_cell? w _ h2)).trans h2
      replace h3 := (HB.out.cell (World.block_lt_of_cell? w _ h3)).trans h3
      have e0 : rd_T33 l kk = l[kk] := by simp [rd_T33, hlt]
      rw [e0] at h0 h1 h2 h3
      have HL1 := HL.out
      rw [List.drop_eq_getElem_cons hlt, keptL] at HL1
      have hca := fun W hW => HCALL.out kk l[kk] W hlt hW
      generalize l[kk] = x at HL1 h0 h1 h2 h3 hca
      unfold ckV at hca
      clear e0 HL
      cases hp : p kk x with
      | true =>
        rw [hp] at hca
        rw [if_pos hp] at HL1
        have HL := Aside0.mk HL1
        have HCA := Aside0.mk hca
        clear HL1 hca hp
        go_wp2_with (go_at_fn g; refine (HCA.out _ ?hB).mono ?_; (case hB => exact below_alloc HB.out _); rintro e w1 ⟨rfl, hb⟩)
        go_roundg (l.length - (kk + 1))
        case measure => omega
        case rel => exact ⟨kk + 1, x5, by omega, by omega, by go_num, HL, ⟨by have := HN.out; omega⟩, ⟨Kd.R_below (Kd.R_alloc HO.out _) hb⟩, ⟨below_step (below_alloc HB.out _) hb⟩⟩
      | false =>
        rw [hp] at hca
        rw [if_neg (by rw [hp]; decide)] at HL1
        have HL := Aside0.mk HL1
        have HCA := Aside0.mk hca
        clear HL1 hca hp
        go_wp2_with (first | (go_at_fn g; refine (HCA.out _ ?hB).mono ?_; (case hB => exact below_alloc HB.out _); rintro e w1 ⟨rfl, hb⟩; obtain ⟨hcb, hfb⟩ := bcell hb; have HB1 := Aside0.mk (below_step (below_alloc HB.out _) hb); have HO1 := Aside0.mk (Kd.R_below (Kd.R_alloc HO.out _) hb); clear HCA) | (at_builtin; refine Kd.R_append k33 (w0 := w) w.heap.size rfl (.tmp 20) (.tmp 22) 22 33 (.agg #[(.int .u64 0), (.int .u64 0), (.bool false), (.string ⟨#[]⟩)]) 40 rfl Try.underlying22 info33 rfl (by decide) (by omega) u5 x5 x [.int .u64 x.f0, .int .u64 x.f1, .bool x.f2, .string x.f3] (fun _ => True) (fun _ => False) rfl rfl ?aP (fun _ hk => hk.elim) ?aF ?aO ?aB ?aS ?aL ?_; (case aP => exact k33_mkM _ _ _ x); (case aB => exact HB1.out); (case aF => exact (fun _ _ => trivial)); (case aO => exact HO1.out); (case aS => exact (below_size HB1.out)); (case aL => have := HN.out; omega); intro v2 w2 ho2 hb2 hg2 hn2; have HO2 := Aside0.mk ho2; have HB2 := Aside0.mk hb2; clear ho2 hb2 hg2 hn2))
        go_roundg (l.length - (kk + 1))
        case measure => omega
        case rel => exact ⟨kk + 1, x5 ++ [x], by omega, by omega, by go_num, ⟨by rw [List.append_assoc]; exact HL.out⟩, ⟨by have := HN.out; simp; omega⟩, HO2, HB2⟩
    · have hltz : ¬ (kk : Int) < (l.length : Int) := by omega
      go_wp2
      go_ret
      have HL1 := HL.out
      rw [List.drop_of_length_le (by omega), keptL, List.append_nil] at HL1
      exact ⟨_, rfl, HL1 ▸ HO.out, HB.out⟩

theorem cell_alloc' {w : World} {p : Addr} {v : Value} (h : w.cell? p = some v) (o : Obj) : (w.alloc o).cell? p = some v := (Below.cell (below_alloc (Below.refl _ w) o) (World.block_lt_of_cell? w _ h)).trans h
theorem del_calls (k i : Int) (x : CkE) (B : Nat) (w : World) (hB : w.cell? ⟨B, 0, none⟩ = some (.int .i64 i)) :
    Calls Try.prog 38 #[.int .i64 k, ckV x, .pointer (some ⟨B, 0, none⟩)] w fun e w' => e = .returned (.bool (k == i)) ∧ Below w.heap.size w w' := by
  unfold ckV
  have hB' := fun o => cell_alloc' hB o
  go_enter Try.func38, Try.ntmps38
  go_wp2
  go_ret
  exact ⟨rfl, below_alloc (Below.refl _ _) _⟩

/-- Is it too old? -/
def oldB (n : Nat) (now keep : Int) (k : Int) (x : CkE) : Bool := decide (k < (n : Int) - 1) && (!x.f2 && (decide (x.f1 < now) && decide (keep < IntKind.u64.wrap (now - x.f1))))

set_option maxHeartbeats 1000000 in
theorem exp_calls (n : Nat) (A : Option Addr) (c : Nat) (now keep k : Int) (x : CkE) (B B1 B2 : Nat) (w : World) (hn : n ≤ 9223372036854775807) (hB : w.cell? ⟨B, 0, none⟩ = some (.slice A n c)) (hB1 : w.cell? ⟨B1, 0, none⟩ = some (.int .u64 now)) (hB2 : w.cell? ⟨B2, 0, none⟩ = some (.int .u64 keep)) :
    Calls Try.prog 36 #[.int .i64 k, ckV x, .pointer (some ⟨B, 0, none⟩), .pointer (some ⟨B1, 0, none⟩), .pointer (some ⟨B2, 0, none⟩)] w fun e w' => e = .returned (.bool (oldB n now keep k x)) ∧ Below w.heap.size w w' := by
  unfold ckV oldB
  have hB' := fun o => cell_alloc' hB o
  have hB1' := fun o => cell_alloc' hB1 o
  have hB2' := fun o => cell_alloc' hB2 o
  cases h1 : decide (k < (n : Int) - 1) with
  | false =>
    go_enter Try.func36, Try.ntmps36
    go_wp2
    go_ret
    exact ⟨rfl, below_alloc (Below.refl _ _) _⟩
  | true =>
    cases h2 : x.f2 with
    | true =>
      go_enter Try.func36, Try.ntmps36
      go_wp2
      go_ret
      exact ⟨rfl, below_alloc (Below.refl _ _) _⟩
    | false =>
      cases h3 : decide (x.f1 < now) with
      | false =>
        go_enter Try.func36, Try.ntmps36
        go_wp2
        go_ret
        exact ⟨rfl, below_alloc (Below.refl _ _) _⟩
      | true =>
        go_enter Try.func36, Try.ntmps36
        go_wp2
        go_ret
        exact ⟨rfl, below_alloc (Below.refl _ _) _⟩

/-- cps.Delete -/
def cps_Delete.f (l : List CkE) (cp : Int) : Option (List CkE × Int) := (cps_place.f (l.length + 1) l cp).bind fun t =>
  if t.2 = 0 then (if t.1 = (l.length : Int) - 1 then some ([], 94) else if 0 ≤ t.1 ∧ t.1 < l.length ∧ l.length ≤ 1000000000 then (if (rd_T33 l t.1).f2 = true then some ([], 93) else some (keptL (fun j _ => (j : Int) == t.1) l 0, 0)) else none) else some ([], t.2)
set_option maxHeartbeats 2000000 in
theorem cps_Delete.calls (A0 : Option Addr) (c0 : Nat) (l0 : List CkE) (a1 : Int) (r1 : List CkE) (r2 : Int) (w : World) (hr0 : Kd.C k33 w A0 l0.length l0) (hc0 : l0.length ≤ c0) (h : cps_Delete.f l0 a1 = some (r1, r2)) :
    Calls Try.prog 15 #[.slice A0 l0.length c0, .int .u64 a1] w fun e w' => ∃ v0_ : Value, e = .returned (.tuple #[v0_, .int .i64 r2]) ∧ Kd.R k33 33 w' w.heap.size (fun _ => True) v0_ r1 ∧ Below w.heap.size w w' := by
  obtain ⟨⟨t1, t2⟩, hp, h⟩ := Option.bind_eq_some_iff.1 h
  have hmax := Kd.C_max hr0
  have HR := Aside0.mk hr0
  have HC := Aside0.mk hc0
  have HP := Aside0.mk hp
  clear hr0 hc0 hp
  simp only at h
  by_cases h2 : t2 = 0
  · rw [if_pos h2] at h
    subst h2
    by_cases hl : t1 = (l0.length : Int) - 1
    · rw [if_pos hl] at h
      simp only [Option.some.injEq, Prod.mk.injEq] at h
      obtain ⟨rfl, rfl⟩ := h
      have e1 : (t1 == (l0.length : Int) - 1) = true := beq_iff_eq.2 hl
      clear hl
      go_enter Try.func15, Try.ntmps15
      go_wp2_with (go_at_call 37; refine (cps_place.calls _ _ _ l0 a1 t1 0 _ ?s1 ?s2 HP.out).mono ?_; (case s1 => exact HR.out); (case s2 => exact HC.out); rintro e w1 ⟨rfl, hb⟩)
      go_ret2
      exact ⟨_, rfl, Kd.R_nil _ _ _ _ _, below_alloc hb _⟩
    · rw [if_neg hl] at h
      have e1 : (t1 == (l0.length : Int) - 1) = false := beq_eq_false_iff_ne.2 hl
      clear hl
      by_cases hr : 0 ≤ t1 ∧ t1 < l0.length ∧ l0.length ≤ 1000000000
      · rw [if_pos hr] at h
        obtain ⟨hr1, hr2, hr3⟩ := hr
        obtain ⟨ad, rfl, g0, g1, g2, g3⟩ := at_T33 HR.out t1 hr1 hr2
        generalize rd_T33 l0 t1 = x at h g0 g1 g2 g3
        have G2 := Aside0.mk g2
        clear g0 g1 g2 g3
        cases hs : x.f2 with
        | true =>
          rw [if_pos hs] at h
          simp only [Option.some.injEq, Prod.mk.injEq] at h
          obtain ⟨rfl, rfl⟩ := h
          rw [hs] at G2
          go_enter Try.func15, Try.ntmps15
          go_wp2_with (go_at_call 37; refine (cps_place.calls _ _ _ l0 a1 t1 0 _ ?s1 ?s2 HP.out).mono ?_; (case s1 => exact HR.out); (case s2 => exact HC.out); rintro e w1 ⟨rfl, hb⟩; have g2 := fun o => cell_alloc' ((hb.cell (World.block_lt_of_cell? w _ G2.out)).trans G2.out) o)
          go_ret2
          exact ⟨_, rfl, Kd.R_nil _ _ _ _ _, below_alloc hb _⟩
        | false =>
          rw [if_neg (by rw [hs]; decide)] at h
          simp only [Option.some.injEq, Prod.mk.injEq] at h
          obtain ⟨rfl, rfl⟩ := h
          rw [hs] at G2
          have hen := enters_of Try.func38 rfl rfl
          have HEN := Aside0.mk hen
          clear hen
          go_enter Try.func15, Try.ntmps15
          go_wp2_with (first | (go_at_call 37; refine (cps_place.calls _ _ _ l0 a1 t1 0 _ ?s1 ?s2 HP.out).mono ?_; (case s1 => exact HR.out); (case s2 => exact HC.out); rintro e w1 ⟨rfl, hb⟩; have g2 := fun o => cell_alloc' ((hb.cell (World.block_lt_of_cell? w _ G2.out)).trans G2.out) o) | (go_at_call 35; refine (kept_calls 38 #[.pointer (some ⟨w1.heap.size, 0, none⟩)] (fun j _ => (j : Int) == t1) _ _ l0 _ ?s1 ?s2 hr3 HEN.out ?s3).mono ?_; (case s1 => exact Kd.C_alloc (Kd.C_below HR.out hb) _); (case s2 => exact HC.out); (case s3 => intro k x W _ hW; refine del_calls _ _ _ _ _ ?_; rw [hW.cell (p := ⟨w1.heap.size, 0, none⟩) (by simp)]; go_simp); rintro e w2 ⟨v, rfl, ho2, hb2⟩))
          go_ret2
          exact ⟨_, rfl, Kd.R_lower ho2 (by have := hb.size; simp; omega), below_step (below_alloc hb _) hb2⟩
      · rw [if_neg hr] at h; cases h
  · rw [if_neg h2] at h
    simp only [Option.some.injEq, Prod.mk.injEq] at h
    obtain ⟨rfl, rfl⟩ := h
    have e2 : (t2 != 0) = true := bne_iff_ne.2 h2
    clear h2
    go_enter Try.func15, Try.ntmps15
    go_wp2_with (go_at_call 37; refine (cps_place.calls _ _ _ l0 a1 t1 t2 _ ?s1 ?s2 HP.out).mono ?_; (case s1 => exact HR.out); (case s2 => exact HC.out); rintro e w1 ⟨rfl, hb⟩)
    go_ret2
    exact ⟨_, rfl, Kd.R_nil _ _ _ _ _, below_alloc hb _⟩

theorem keptL_le (p : Nat → CkE → Bool) : ∀ (l : List CkE) (k : Nat), (keptL p l k).length ≤ l.length
  | [], _ => Nat.le_refl _
  | x :: xs, k => by
    have := keptL_le p xs (k + 1)
    unfold keptL
    split <;> simp only [List.length_cons] <;> omega

/-- cps.Expire -/
def cps_Expire.f (l : List CkE) (now keep : Int) : Option (List CkE × Int × Int) := (cps_Right.f (l.length + 1) l).bind fun b =>
  if b = true then (if l.length ≤ 1000000000 then some (keptL (fun k x => oldB l.length now keep k x) l 0, (l.length : Int) - (keptL (fun k x => oldB l.length now keep k x) l 0).length, 0) else none) else some ([], 0, 90)
set_option maxHeartbeats 2000000 in
theorem cps_Expire.calls (A0 : Option Addr) (c0 : Nat) (l0 : List CkE) (a1 a2 : Int) (r1 : List CkE) (r2 r3 : Int) (w : World) (hr0 : Kd.C k33 w A0 l0.length l0) (hc0 : l0.length ≤ c0) (h : cps_Expire.f l0 a1 a2 = some (r1, r2, r3)) :
    Calls Try.prog 13 #[.slice A0 l0.length c0, .int .u64 a1, .int .u64 a2] w fun e w' => ∃ v0_ : Value, e = .returned (.tuple #[v0_, .int .i64 r2, .int .i64 r3]) ∧ Kd.R k33 33 w' w.heap.size (fun _ => True) v0_ r1 ∧ Below w.heap.size w w' := by
  obtain ⟨b, hp, h⟩ := Option.bind_eq_some_iff.1 h
  have hmax := Kd.C_max hr0
  have HR := Aside0.mk hr0
  have HC := Aside0.mk hc0
  have HP := Aside0.mk hp
  clear hr0 hc0 hp
  cases b with
  | false =>
    rw [if_neg (by decide)] at h
    simp only [Option.some.injEq, Prod.mk.injEq] at h
    obtain ⟨rfl, rfl, rfl⟩ := h
    go_enter Try.func13, Try.ntmps13
    go_wp2_with (go_at_call 14; refine (cps_Right.calls _ _ _ l0 false _ ?s1 ?s2 HP.out).mono ?_; (case s1 => exact Kd.C_alloc (Kd.C_alloc (Kd.C_alloc HR.out _) _) _); (case s2 => exact HC.out); rintro e w1 ⟨rfl, hb⟩)
    go_ret3
    exact ⟨_, rfl, Kd.R_nil _ _ _ _ _, below_step (below_alloc (below_alloc (below_alloc (Below.refl _ _) _) _) _) hb⟩
  | true =>
    rw [if_pos rfl] at h
    by_cases hr3 : l0.length ≤ 1000000000
    · rw [if_pos hr3] at h
      simp only [Option.some.injEq, Prod.mk.injEq] at h
      have hle := keptL_le (fun k x => oldB l0.length a1 a2 k x) l0 0
      obtain ⟨m, hm⟩ : ∃ m, keptL (fun k x => oldB l0.length a1 a2 k x) l0 0 = m := ⟨_, rfl⟩
      rw [hm] at h hle
      have HM := Aside0.mk hm
      obtain ⟨rfl, rfl, rfl⟩ := h
      clear hm
      have HEN := Aside0.mk (enters_of Try.func36 rfl rfl)
      go_enter Try.func13, Try.ntmps13
      go_wp2_with (go_at_call 14; refine (cps_Right.calls _ _ _ l0 true _ ?s1 ?s2 HP.out).mono ?_; (case s1 => exact Kd.C_alloc (Kd.C_alloc (Kd.C_alloc HR.out _) _) _); (case s2 => exact HC.out); rintro e w1 ⟨rfl, hb⟩; have HB := Aside0.mk (below_step (below_alloc (below_alloc (below_alloc (Below.refl _ w) _) _) _) hb); obtain ⟨hcb, hfb⟩ := bcell hb; have hsz := hb.size; simp only [World.size_alloc] at hsz; have g1 : w1.cell? ⟨w.heap.size, 0, none⟩ = some (.slice A0 l0.length c0) := (by rw [hcb _ _ (by simp only [World.size_alloc]; omega)]; go_simp); have g2 : w1.cell? ⟨w.heap.size + 1, 0, none⟩ = some (.int .u64 a1) := (by rw [hcb _ _ (by simp only [World.size_alloc]; omega)]; go_simp); have g3 : w1.cell? ⟨w.heap.size + 1 + 1, 0, none⟩ = some (.int .u64 a2) := (by rw [hcb _ _ (by simp only [World.size_alloc]; omega)]; go_simp); clear hcb hfb hb)
      go_at_call 35
      refine (kept_calls 36 #[.pointer (some ⟨w.heap.size, 0, none⟩), .pointer (some ⟨w.heap.size + 1, 0, none⟩), .pointer (some ⟨w.heap.size + 1 + 1, 0, none⟩)] (fun k x => oldB l0.length a1 a2 k x) _ _ l0 _ ?s1 ?s2 hr3 HEN.out ?s3).mono ?_
      (case s1 => exact Kd.C_below HR.out HB.out)
      (case s2 => exact HC.out)
      (case s3 => intro k x W _ hW; refine exp_calls _ A0 c0 _ _ _ _ _ _ _ _ hmax ?_ ?_ ?_; exact (hW.cell (World.block_lt_of_cell? w1 _ g1)).trans g1; exact (hW.cell (World.block_lt_of_cell? w1 _ g2)).trans g2; exact (hW.cell (World.block_lt_of_cell? w1 _ g3)).trans g3)
      rintro e w2 ⟨v, rfl, ho2, hb2⟩
      rw [HM.out] at ho2
      have gg1 := (hb2.cell (World.block_lt_of_cell? w1 _ g1)).trans g1
      obtain ⟨Av, cv, hv⟩ := Kd.R_slice ho2
      rw [hv] at ho2 ⊢
      clear g1 g2 g3
      have HO := Aside0.mk ho2
      have HB2 := Aside0.mk (below_step HB.out hb2)
      clear ho2
      go_wp2
      go_quiet (fail)
      go_wp2
      go_ret3
      exact ⟨_, rfl, Kd.R_drewN (Kd.R_lower HO.out (by omega)) _, pw_below_drewN HB2.out _⟩
    · rw [if_neg hr3] at h; cases h
end Go.Proofs.Ytllcmalgahnnhaa.Q
