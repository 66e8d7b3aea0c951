/- tell of a bag's node over string: the numbers from one on, one after the other, till nobody asks. -/
import Derived.Test.YtkfcflflgecljaaHBagKS
import Derived.Test.YtkfcflflgecljaaHBagBef
import Derived.Test.YtkfcflflgecljaaHRF
import Derived.WalkKit
import Derived.OwnWalkIn
import Derived.TacticsInMore
import Derived.LoopNIn
import Derived.LoopIn
import Derived.Sort.QuietIn
set_option linter.unusedVariables false
set_option linter.unusedSimpArgs false
namespace Go.Proofs.Ytkfcflflgecljaa.H
open Go.RowKit Go.Proofs.YtkfcflflgecljaaW.PrintWords Go.Proofs.YtkfcflflgecljaaW.PrintLast
attribute [local go_sem] Oper.semAt_some
set_option maxRecDepth 100000
/-- What a round of the caller's does with the k-th number. -/
def YldS (own : Own) (lp : Nat) (es0 : List (Int × ByteArray)) (J Jx : Nat → World → Prop) : Prop :=
  ∀ k e W1, es0[k]? = some e → J k W1 → ∀ m, YieldAt Fence.wide m Try.prog lp #[.int .i64 e.1] W1 fun r W' =>
    (r = .returned (.bool true) ∧ J (k + 1) W' ∧ KeepAt (fun j => own j ≠ none) W1 W') ∨ (r = .returned (.bool false) ∧ Jx (k + 1) W')
def ToldPostS (own : Own) (H : HP ByteArray) (es0 : List (Int × ByteArray)) (J Jx : Nat → World → Prop) (q : Nat) (e : Ending) (W' : World) : Prop :=
  (e = .returned (.bool true) ∧ J q W' ∧ Heap LS W' own H) ∨ (e = .returned (.bool false) ∧ ∃ k, k ≤ es0.length ∧ Jx k W')
def ToldS (own : Own) (H : HP ByteArray) (lp : Nat) (es0 : List (Int × ByteArray)) (J Jx : Nat → World → Prop) (a : Int) (d : Nat) : Prop :=
  ∀ (nn lo : Nat) (t : Tr ByteArray) (pre post : List (Int × ByteArray)) (W : World), Ok H d lo t → Rise (ents d t) → es0 = pre ++ fr a (ents d t) ++ post → Heap LS W own H → J pre.length W →
    CallsIn Fence.wide nn Try.prog 63 #[.pointer (some ⟨t.a, 0, none⟩), .int .i64 a, .func (.yield lp) #[] #[]] W (ToldPostS own H es0 J Jx (pre.length + (fr a (ents d t)).length))
def toldNS (a : Int) (es : List (Int × ByteArray)) (cs : List (List (Int × ByteArray))) (k : Nat) : Nat := if k ≤ es.length then (fr a (bef es cs k)).length else (fr a (weave es cs)).length
theorem tell_wS (k : Nat) (h : k ≤ 7) : wrap64 ((k : Int) + 1) = ((k + 1 : Nat) : Int) := by rw [IntWalk.wrap64_in _ (by omega)]; omega
theorem tell_mS (k n : Nat) (h : k ≤ n) (e : wrap64 ((k : Int) + 1) = ((k + 1 : Nat) : Int)) : n + 1 - (intOf (.int .i64 (wrap64 ((k : Int) + 1)))).toNat < n + 1 - (intOf (.int .i64 (k : Int))).toNat := by
  rw [e]
  show n + 1 - ((k + 1 : Nat) : Int).toNat < n + 1 - (k : Int).toNat; omega
theorem tkidS {own : Own} {H : HP ByteArray} {w : World} (hH : Heap LS w own H) {x : Nat} {nd : Nd ByteArray} (hx : H x = some nd) {j c : Nat} (hj : nd.cs[j]? = some c) : ∃ g cx, w.cell? ⟨x, 2, none⟩ = some (.slice (some ⟨g, 0, none⟩) nd.cs.length cx) ∧ w.cell? ⟨g, j, none⟩ = some (.pointer (some ⟨c, 0, none⟩)) := by
  obtain ⟨A0, c0, A1, c1, A2, c2, hv⟩ := hH.view hx
  obtain ⟨g, rfl, y, _, _, _⟩ := hv.r2.get (j := j) (u := ptrV c) (by simp [Nd.row, hj]) (by simp [Nd.row])
  exact ⟨g, c2, hv.k2, y⟩
theorem tkeyS {own : Own} {H : HP ByteArray} {w : World} (hH : Heap LS w own H) {x : Nat} {nd : Nd ByteArray} (hx : H x = some nd) {j : Nat} {u : Int} (hj : nd.ks[j]? = some u) : ∃ g cx, w.cell? ⟨x, 0, none⟩ = some (.slice (some ⟨g, 0, none⟩) nd.ks.length cx) ∧ w.cell? ⟨g, j, none⟩ = some (.int .i64 u) := by
  obtain ⟨A0, c0, A1, c1, A2, c2, hv⟩ := hH.view hx
  obtain ⟨g, rfl, y, _, _, _⟩ := hv.r0.get (j := j) (u := .int .i64 u) (by simp [Nd.row, hj]) (by simp [Nd.row])
  exact ⟨g, c0, hv.k0, y⟩
theorem tlenS {own : Own} {H : HP ByteArray} {w : World} (hH : Heap LS w own H) {x : Nat} {nd : Nd ByteArray} (hx : H x = some nd) : ∃ A c, w.cell? ⟨x, 0, none⟩ = some (.slice A nd.ks.length c) := by
  obtain ⟨A0, c0, A1, c1, A2, c2, hv⟩ := hH.view hx
  exact ⟨A0, c0, hv.k0⟩
theorem fkeepS {own : Own} {H : HP ByteArray} {w w' : World} (hH : Heap LS w own H) (h : KeepAt (fun j => own j ≠ none) w w') : Heap LS w' own H :=
  hH.frame h.size fun k hk => h.same k hk (by
    cases e : own k with
    | none => exact absurd e hk
    | some o => exact hH.lt k o e)
theorem wide_okS (nn : Nat) : Fence.wide.depth.isSome = true → 1 ≤ nn := fun h => absurd h (by decide)
set_option maxHeartbeats 8000000 in
theorem tellS_step {own : Own} {H : HP ByteArray} (lp : Nat) (es0 : List (Int × ByteArray)) (J Jx : Nat → World → Prop) (a : Int) (hY : YldS own lp es0 J Jx) (d : Nat) (ih : ∀ d', d = d' + 1 → ToldS own H lp es0 J Jx a d') : ToldS own H lp es0 J Jx a d := by
  intro nn lo t pre post W ho hr h0 hH hJ0
  have hes := own_rise ho.kids hr
  have h7 := ho.hi
  obtain ⟨L, R, he, hl, hL, hR, _⟩ := cut_at t.es hes a
  have hcs := csOf_len ho.kids
  have hf := findS.calls t.a t.nd a W hH ho.root (by simp [Tr.nd]; omega) hes
  rw [show t.nd.ks.countP (· < a) = L.length from hl.symm] at hf
  generalize t.nd.ks.contains a = bb at hf
  have hw := ents_cs d t
  rw [hw] at h0 hr ⊢
  have hlow : fr a (bef t.es (csOf d t) L.length) = [] := bef_low hcs hr (by rw [he]; simp) (by rw [he, List.take_left]; exact hL)
  have hup : ∀ i e, L.length ≤ i → t.es[i]? = some e → a ≤ e.1 := fun i e hi hie => by
    rw [he, List.getElem?_append_right hi] at hie
    exact hR e (List.mem_of_getElem? hie)
  have hleaf := ho.leaf
  have hroot := ho.root
  have hlen : t.nd.ks.length = t.es.length := by simp [Tr.nd]
  have hL7 : L.length ≤ t.es.length := by rw [he]; simp
  obtain ⟨x, hx⟩ : ∃ x, t.a = x := ⟨_, rfl⟩
  rw [hx] at hf hroot ⊢
  obtain ⟨n, hn⟩ : ∃ n, t.es.length = n := ⟨_, rfl⟩
  obtain ⟨i0, hi0⟩ : ∃ i0, L.length = i0 := ⟨_, rfl⟩
  rw [hi0] at hf hlow hL7
  have HF := Aside0.mk hf
  have HO := Aside0.mk ho
  have HR := Aside0.mk hr
  have H0 := Aside0.mk h0
  have HH := Aside0.mk hH
  have HJ0 := Aside0.mk hJ0
  have HCS := Aside0.mk hcs
  have HLOW := Aside0.mk hlow
  have HUP := Aside0.mk (hi0 ▸ hup)
  have HLF := Aside0.mk hleaf
  have HRT := Aside0.mk hroot
  have HLEN := Aside0.mk hlen
  have HY := Aside0.mk hY
  have IH := Aside0.mk ih
  have HX := Aside0.mk hx
  have HN := Aside0.mk hn
  have H7 := Aside0.mk (And.intro h7 hL7)
  obtain ⟨Q, hQ⟩ : ∃ Q : Ending → World → Prop, ToldPostS own H es0 J Jx (pre.length + (fr a (weave t.es (csOf d t))).length) = Q := ⟨_, rfl⟩
  rw [hQ]
  have HQ := Aside0.mk hQ
  clear hes h7 he hl hL hR hcs hf hw h0 hr hlow hup hleaf hroot hlen hL7 hx hn hi0 ho hH hJ0 hY ih hQ
  refine callsIn_of_wp Try.func63 rfl trivial ?_ rfl
  simp only [Try.ntmps63, List.size_toArray, List.length_cons, List.length_nil, Nat.reduceAdd, Nat.reduceSub, Array.replicate_succ, Array.replicate_zero, List.push_toArray, List.append_toArray, List.nil_append, List.cons_append]
  gi_wp2_with fail
  refine ⟨trivial, wide_okS nn, (callsIn_wide.2 HF.out).mono ?_⟩
  rintro e w' ⟨rfl, hw⟩
  obtain rfl := hw.symm
  clear hw HF
  gi_wp2_with fail
  gi_loopw [7] (fun i wr => ∃ k : Nat, i = .int .i64 k ∧ Aside0 (i0 ≤ k ∧ k ≤ n + 1 ∧ J (pre.length + toldNS a t.es (csOf d t) k) wr ∧ Heap LS wr own H)) (fun i _ => n + 1 - (intOf i).toNat)
  case atStart =>
    refine ⟨i0, rfl, ⟨Nat.le_refl _, by have := H7.out; have := HN.out; omega, ?_, HH.out⟩⟩
    unfold toldNS
    rw [if_pos H7.out.2, HLOW.out]
    exact HJ0.out
  case round =>
    clear HH HJ0 HLOW
    obtain ⟨k, rfl, T⟩ := hrel
    obtain ⟨hk0, hk1, hJk, hHk⟩ := T.out
    clear T
    by_cases hle : k ≤ n
    case neg =>
      have hkn : k = n + 1 := by omega
      obtain ⟨A0, c0, y0⟩ := tlenS hHk HRT.out
      rw [HLEN.out, HN.out] at y0
      have hd : decide (k ≤ n) = false := decide_eq_false (by omega)
      have hq : Q (.returned (.bool true)) wr := by
        rw [← HQ.out]
        refine .inl ⟨rfl, ?_, hHk⟩
        unfold toldNS at hJk
        rw [if_neg (by have := HN.out; omega)] at hJk
        exact hJk
      have HQ2 := Aside0.mk hq
      clear hk0 hk1 hJk hHk hle hkn hq
      gi_wp2_with fail
      exact HQ2.out
    obtain ⟨c, hc⟩ : ∃ c, (csOf d t)[k]? = some c := ⟨_, List.getElem?_eq_getElem (by rw [HCS.out]; have := HN.out; omega)⟩
    obtain ⟨post', e0, e1, e2⟩ := round_at HCS.out H0.out hc
    have hq : pre.length + toldNS a t.es (csOf d t) k = (pre ++ fr a (bef t.es (csOf d t) k)).length := by unfold toldNS; rw [if_pos (by rw [HN.out]; exact hle), List.length_append]
    rw [hq] at hJk
    obtain ⟨A0, c0, y0⟩ := tlenS hHk HRT.out
    rw [HLEN.out, HN.out] at y0
    have hd : decide (k ≤ n) = true := decide_eq_true (by omega)
    have hlf := leafS.calls x t.nd wr hHk HRT.out
    rw [HLF.out] at hlf
    have HK := Aside0.mk (And.intro hk0 hle)
    have E0 := Aside0.mk e0
    have E1 := Aside0.mk e1
    have E2 := Aside0.mk e2
    have HC := Aside0.mk hc
    clear e0 e1 e2 hc hq hk0 hk1 hle
    cases d with
    | zero =>
      have hc0 : c = [] := by
        have h := HC.out
        simp only [csOf] at h
        exact List.eq_of_mem_replicate (List.mem_of_getElem? h)
      rw [show decide (0 = 0) = true from rfl] at hlf
      have HLFC := Aside0.mk hlf
      have HJK := Aside0.mk (show J (pre ++ fr a (bef t.es (csOf 0 t) k) ++ fr a c).length wr by rw [hc0]; simpa [fr] using hJk)
      have HHK := Aside0.mk hHk
      clear hlf hJk hHk hc0
      gi_wp2_with fail
      refine ⟨trivial, wide_okS nn, (callsIn_wide.2 HLFC.out).mono ?_⟩
      rintro e w' ⟨rfl, hw⟩
      obtain rfl := hw.symm
      clear hw HLFC
      gi_wp2_with fail
      refine ⟨trivial, ?_⟩
      have hHr := HHK.out
      have hJr := HJK.out
      clear y0 HHK HJK
      by_cases hlt : k < n
      · obtain ⟨e, hke⟩ : ∃ e, t.es[k]? = some e := ⟨_, List.getElem?_eq_getElem (by rw [HN.out]; exact hlt)⟩
        obtain ⟨e3, e4⟩ := E1.out e hke (HUP.out k e HK.out.1 hke)
        obtain ⟨g, cx, y0, y1⟩ := tkeyS hHr HRT.out (j := k) (u := e.1) (by simp [Tr.nd, hke])
        rw [HLEN.out, HN.out] at y0
        have hd1 : decide (k < n) = true := decide_eq_true (by omega)
        have hk0 : (0 : Int) ≤ (k : Int) := by omega
        have hk1 : (k : Int) < (n : Int) := by omega
        obtain ⟨fn, tmps, assign, body, hy, hR⟩ := HY.out _ e _ e3 hJr (nn - 1)
        have ew := tell_wS k (by have := H7.out.1; have := HN.out; omega)
        have HE := Aside0.mk (And.intro e3 e4)
        have HHr := Aside0.mk hHr
        have HLT := Aside0.mk hlt
        clear e3 e4 hke hHr hJr hlt
        gi_wp2_with fail
        refine ⟨wide_okS nn, hR.mono ?_⟩
        rintro r W3 (⟨rfl, hJ3, hk3⟩ | ⟨rfl, hJx3⟩)
        · gi_wp2_with fail
          go_roundw
          case rel =>
            refine ⟨k + 1, by rw [ew], ⟨by have := HK.out.1; omega, by have := HLT.out; omega, ?_, fkeepS HHr.out hk3⟩⟩
            unfold toldNS
            rw [if_pos (by have := HLT.out; have := HN.out; omega), HE.out.2]
            rw [show pre.length + (fr a (bef t.es (csOf 0 t) k) ++ fr a c ++ [e]).length = (pre ++ fr a (bef t.es (csOf 0 t) k) ++ fr a c).length + 1 by simp only [List.length_append, List.length_cons, List.length_nil]; omega]
            exact hJ3
          case measure => exact tell_mS k n (Nat.le_of_lt HLT.out) ew
        · gi_wp2_with fail
          show Q (.returned (.bool false)) _
          rw [← HQ.out]
          exact .inr ⟨rfl, _, by have := (List.getElem?_eq_some_iff.1 HE.out.1).1; omega, hJx3⟩
      · have hkn : k = n := by have := HK.out.2; omega
        have hd1 : decide (k < n) = false := decide_eq_false (by omega)
        obtain ⟨A0, c0, y0⟩ := tlenS hHr HRT.out
        rw [HLEN.out, HN.out] at y0
        have ew := tell_wS k (by have := H7.out.1; have := HN.out; omega)
        have HKN := Aside0.mk hkn
        have HHr := Aside0.mk hHr
        have HJr := Aside0.mk hJr
        clear hkn hlt hHr hJr
        gi_wp2_with fail
        refine ⟨fun _ h => (by cases h), ?_⟩
        gi_wp2_with fail
        go_roundw
        case rel =>
          refine ⟨k + 1, by rw [ew], ⟨by have := HK.out.1; omega, by have := HKN.out; omega, ?_, HHr.out⟩⟩
          unfold toldNS
          rw [if_neg (by have := HKN.out; have := HN.out; omega), E2.out (by rw [HKN.out, HN.out])]
          rw [show pre.length + (fr a (bef t.es (csOf 0 t) k) ++ fr a c).length = (pre ++ fr a (bef t.es (csOf 0 t) k) ++ fr a c).length by simp only [List.length_append]; omega]
          exact HJr.out
        case measure => exact tell_mS k n (by rw [HKN.out]; exact Nat.le_refl _) ew
    | succ d =>
      rw [show decide (d + 1 = 0) = false from rfl] at hlf
      have hkl : t.ks.length = n + 1 := by rw [← HN.out]; exact HO.out.2.1
      obtain ⟨kd, hkd⟩ : ∃ kd, t.ks[k]? = some kd := ⟨_, List.getElem?_eq_getElem (by rw [hkl]; have := HK.out.2; omega)⟩
      have hce : c = ents d kd := by
        have h := HC.out
        simp only [csOf, List.getElem?_map, hkd, Option.map_some] at h
        exact (Option.some.inj h).symm
      obtain ⟨g2, cx2, z0, z1⟩ := tkidS hHk HRT.out (j := k) (c := kd.a) (by simp [Tr.nd, hkd])
      rw [show t.nd.cs.length = n + 1 by simp [Tr.nd, hkl]] at z0
      have hrk : Rise (ents d kd) := by
        have h := HR.out
        rw [bef_split HCS.out HC.out, hce] at h
        exact (rise_append.1 (rise_append.1 h).1).2.1
      have hrec := IH.out d rfl (nn - 1) 3 kd (pre ++ fr a (bef t.es (csOf (d + 1) t) k)) post' wr (HO.out.2.2.2.2 kd (List.mem_of_getElem? hkd)) hrk (by rw [← hce]; exact E0.out) hHk hJk
      have hk0 : (0 : Int) ≤ (k : Int) := by omega
      have hk1 : (k : Int) < ((n + 1 : Nat) : Int) := by have := HK.out.2; omega
      generalize kd.a = ka at z1 hrec
      have HLFC := Aside0.mk hlf
      have HREC := Aside0.mk hrec
      have HCE := Aside0.mk hce
      clear hlf hrec hce hkd hrk hJk hHk hkl
      obtain ⟨n1, hn1⟩ : ∃ n1, n + 1 = n1 := ⟨_, rfl⟩
      rw [hn1] at z0 hk1
      clear hn1
      gi_wp2_with fail
      refine ⟨trivial, wide_okS nn, (callsIn_wide.2 HLFC.out).mono ?_⟩
      rintro e w' ⟨rfl, hw⟩
      obtain rfl := hw.symm
      clear hw HLFC
      gi_wp2_with fail
      refine ⟨trivial, wide_okS nn, HREC.out.mono ?_⟩
      rintro e w3 (⟨rfl, hJ3, hH3⟩ | ⟨rfl, kx, hkx, hJx⟩)
      case inr =>
        gi_wp2_with fail
        show Q (.returned (.bool false)) _
        rw [← HQ.out]
        exact .inr ⟨rfl, kx, hkx, hJx⟩
      rw [← HCE.out] at hJ3
      rw [show (pre ++ fr a (bef t.es (csOf (d + 1) t) k)).length + (fr a c).length = (pre ++ fr a (bef t.es (csOf (d + 1) t) k) ++ fr a c).length by simp only [List.length_append]] at hJ3
      clear y0 z0 z1 hk0 hk1
      have hHr := hH3
      have hJr := hJ3
      clear hH3 hJ3
      by_cases hlt : k < n
      · obtain ⟨e, hke⟩ : ∃ e, t.es[k]? = some e := ⟨_, List.getElem?_eq_getElem (by rw [HN.out]; exact hlt)⟩
        obtain ⟨e3, e4⟩ := E1.out e hke (HUP.out k e HK.out.1 hke)
        obtain ⟨g, cx, y0, y1⟩ := tkeyS hHr HRT.out (j := k) (u := e.1) (by simp [Tr.nd, hke])
        rw [HLEN.out, HN.out] at y0
        have hd1 : decide (k < n) = true := decide_eq_true (by omega)
        have hk0 : (0 : Int) ≤ (k : Int) := by omega
        have hk1 : (k : Int) < (n : Int) := by omega
        obtain ⟨fn, tmps, assign, body, hy, hR⟩ := HY.out _ e _ e3 hJr (nn - 1)
        have ew := tell_wS k (by have := H7.out.1; have := HN.out; omega)
        have HE := Aside0.mk (And.intro e3 e4)
        have HHr := Aside0.mk hHr
        have HLT := Aside0.mk hlt
        clear e3 e4 hke hHr hJr hlt
        gi_wp2_with fail
        refine ⟨wide_okS nn, hR.mono ?_⟩
        rintro r W3 (⟨rfl, hJ3, hk3⟩ | ⟨rfl, hJx3⟩)
        · gi_wp2_with fail
          go_roundw
          case rel =>
            refine ⟨k + 1, by rw [ew], ⟨by have := HK.out.1; omega, by have := HLT.out; omega, ?_, fkeepS HHr.out hk3⟩⟩
            unfold toldNS
            rw [if_pos (by have := HLT.out; have := HN.out; omega), HE.out.2]
            rw [show pre.length + (fr a (bef t.es (csOf (d + 1) t) k) ++ fr a c ++ [e]).length = (pre ++ fr a (bef t.es (csOf (d + 1) t) k) ++ fr a c).length + 1 by simp only [List.length_append, List.length_cons, List.length_nil]; omega]
            exact hJ3
          case measure => exact tell_mS k n (Nat.le_of_lt HLT.out) ew
        · gi_wp2_with fail
          show Q (.returned (.bool false)) _
          rw [← HQ.out]
          exact .inr ⟨rfl, _, by have := (List.getElem?_eq_some_iff.1 HE.out.1).1; omega, hJx3⟩
      · have hkn : k = n := by have := HK.out.2; omega
        have hd1 : decide (k < n) = false := decide_eq_false (by omega)
        obtain ⟨A0, c0, y0⟩ := tlenS hHr HRT.out
        rw [HLEN.out, HN.out] at y0
        have ew := tell_wS k (by have := H7.out.1; have := HN.out; omega)
        have HKN := Aside0.mk hkn
        have HHr := Aside0.mk hHr
        have HJr := Aside0.mk hJr
        clear hkn hlt hHr hJr
        gi_wp2_with fail
        refine ⟨fun _ h => (by cases h), ?_⟩
        gi_wp2_with fail
        go_roundw
        case rel =>
          refine ⟨k + 1, by rw [ew], ⟨by have := HK.out.1; omega, by have := HKN.out; omega, ?_, HHr.out⟩⟩
          unfold toldNS
          rw [if_neg (by have := HKN.out; have := HN.out; omega), E2.out (by rw [HKN.out, HN.out])]
          rw [show pre.length + (fr a (bef t.es (csOf (d + 1) t) k) ++ fr a c).length = (pre ++ fr a (bef t.es (csOf (d + 1) t) k) ++ fr a c).length by simp only [List.length_append]; omega]
          exact HJr.out
        case measure => exact tell_mS k n (by rw [HKN.out]; exact Nat.le_refl _) ew
end Go.Proofs.Ytkfcflflgecljaa.H
