/- Get, least, greatest of a bag of string. -/
import Derived.Test.YtkfcflflgecljaaHBagKS
import Derived.Test.YtkfcflflgecljaaHBagQ
import Derived.Deep.QuietTactic
import Derived.BigQuiet
set_option linter.unusedVariables false
set_option linter.unusedSimpArgs false
namespace Go.Proofs.Ytkfcflflgecljaa.H
open Go.RowKit Go.Proofs.YtkfcflflgecljaaW.PrintWords Go.Proofs.YtkfcflflgecljaaW.PrintLast
set_option maxRecDepth 100000
def gotS (o : Option ByteArray) (w : World) (e : Ending) (w' : World) : Prop := e = .returned (.tuple #[match o with | some v => Value.string v | none => (.string ⟨#[]⟩ : Value), .bool o.isSome]) ∧ w' = w
set_option maxHeartbeats 4000000 in
theorem getS.calls {own : Own} {H : HP ByteArray} (bb d : Nat) (t : Tr ByteArray) (n : Int) (at_ : Int) (w : World) (hH : Heap LS w own H) (ho : Ok H d 0 t) (hr : Rise (ents d t))
    (hb : w.heap[bb]? = some (.cells #[.pointer (some ⟨t.a, 0, none⟩), .int .i64 n] 72 (0, 0))) :
    Calls Try.prog 25 #[.pointer (some ⟨bb, 0, none⟩), .int .i64 at_] w (gotS (getL at_ (ents d t)) w) := by
  have kb : w.cell? ⟨bb, 0, none⟩ = some (.pointer (some ⟨t.a, 0, none⟩)) := by rw [cell_of_row w bb 0 _ _ (0, 0) hb]; rfl
  obtain ⟨r, hrr⟩ : ∃ r, getL at_ (ents d t) = r := ⟨_, rfl⟩
  rw [hrr]
  have S := Aside0.mk (And.intro ho (And.intro hr hrr))
  have HH := Aside0.mk hH
  clear ho hr hrr hb hH
  obtain ⟨x0, hx0⟩ : ∃ x0, t.a = x0 := ⟨_, rfl⟩
  rw [hx0] at kb
  have X0 := Aside0.mk hx0
  clear hx0
  go_enter Try.func25, Try.ntmps25
  go_wp2_with fail
  go_loopg [7] d (fun gg s7 wr => ∃ (lo x : Nat) (t : Tr ByteArray), s7 = .pointer (some ⟨x, 0, none⟩) ∧ wr = w ∧ Aside0 (t.a = x ∧ Ok H gg lo t ∧ Rise (ents gg t) ∧ getL at_ (ents gg t) = r))
  case atStart => exact ⟨0, x0, t, rfl, rfl, .mk ⟨X0.out, S.out.1, S.out.2.1, S.out.2.2⟩⟩
  case round =>
    clear S X0 kb
    obtain ⟨lo, x, t, rfl, rfl, T⟩ := hrel
    obtain ⟨hx, hok, hri, hg⟩ := T.out
    have hes := own_rise hok.kids hri
    obtain ⟨L, R, he, hl, hL, hR, hc⟩ := cut_at t.es hes at_
    have hroot : H x = some t.nd := by rw [← hx]; exact hok.root
    have hleaf := hok.leaf
    have h7 := hok.hi
    have hf := findS.calls x t.nd at_ wr HH.out hroot (by simp [Tr.nd]; omega) hes
    have hcd : (t.nd.ks.contains at_ = true ↔ ∃ v R', R = (at_, v) :: R') := hc
    have hlf := leafS.calls x t.nd wr HH.out hroot
    rw [show t.nd.ks.countP (· < at_) = L.length from hl.symm] at hf
    have hlr : L.length + R.length = t.es.length := by rw [he]; simp
    obtain ⟨A0, c0, A1, c1, A2, c2, hv⟩ := HH.out.view hroot
    rw [hleaf] at hlf
    have HF := Aside0.mk hf
    have HLF := Aside0.mk hlf
    obtain ⟨i, hi⟩ : ∃ i, L.length = i := ⟨_, rfl⟩
    have i7 : i ≤ 7 := by omega
    by_cases hct : t.nd.ks.contains at_ = true
    · obtain ⟨v, R', rfl⟩ := hc.1 hct
      have hrv : r = some v := by
        rw [← hg]
        cases gk with
        | zero => rw [ents, he]; exact getL_here _ _ _ _ hL
        | succ d =>
          obtain ⟨A, k, B, hs, hA, hB⟩ := kid_at (hok.kids d rfl) he
          cases B with
          | nil => simp at hB
          | cons k2 B =>
            rw [ents_kid d t L _ A (k2 :: B) k he hs hA hB, List.map_cons, wpost_cons]
            have hri' := hri
            rw [ents_kid d t L _ A (k2 :: B) k he hs hA hB, List.map_cons, wpost_cons] at hri'
            have := rise_append.1 (by simpa using hri')
            rw [show wpre L (A.map (ents d)) ++ ents d k ++ ((at_, v) :: ents d k2 ++ wpost R' (B.map (ents d))) = (wpre L (A.map (ents d)) ++ ents d k) ++ (at_, v) :: (ents d k2 ++ wpost R' (B.map (ents d))) by simp]
            refine getL_here _ _ _ _ fun y hy => ?_
            rw [show wpre L (A.map (ents d)) ++ ents d k ++ ((at_, v) :: ents d k2 ++ wpost R' (B.map (ents d))) = (wpre L (A.map (ents d)) ++ ents d k) ++ (at_, v) :: (ents d k2 ++ wpost R' (B.map (ents d))) by simp] at hri'
            exact (rise_append.1 hri').2.2 y hy (at_, v) (by simp)
      subst hrv
      obtain ⟨g, rfl, y, _, _, _⟩ := hv.r1.get (j := i) (u := Value.string v) (by rw [← hi]; simp [Nd.row, Tr.nd, he, LS]) (by simp [Nd.row])
      have k1 := hv.k1
      have hlv : t.nd.vs.length = t.es.length := by simp [Tr.nd]
      rw [hlv] at k1
      have i1 : (i : Int) < (t.es.length : Int) := by simp at hlr; omega
      generalize t.es.length = n1 at k1 i1
      rw [hct, hi] at HF
      clear hx hok hri hg hes he hl hL hR hc hroot hleaf h7 hf hcd hlf hlr hv hct T hlv HLF hi
      go_wp2_with (go_at_call 40; refine HF.out.mono ?_; rintro e w' ⟨rfl, hw⟩; obtain rfl := hw.symm; clear hw)
      go_ret2
      exact ⟨rfl, rfl⟩
    · have hgt : ∀ y ∈ R, at_ < y.1 := gt_of_not (hes.sub (by rw [he]; exact List.sublist_append_right _ _)) hR (fun h => hct (hc.2 h))
      have hcf : t.nd.ks.contains at_ = false := by simpa using hct
      rw [hcf, hi] at HF
      cases gk with
      | zero =>
        have hrn : r = none := by
          rw [← hg, ents, he]
          refine getL_none _ _ fun y hy => ?_
          rcases List.mem_append.1 hy with hy | hy
          · have := hL y hy; omega
          · have := hgt y hy; omega
        subst hrn
        rw [show decide ((0 : Nat) = 0) = true from rfl] at HLF
        clear hx hok hri hg hes he hl hL hR hc hroot hleaf h7 hf hcd hlf hlr hv hct T hi hgt hcf
        go_wp2_with (first | (go_at_call 40; refine HF.out.mono ?_; rintro e w' ⟨rfl, hw⟩; obtain rfl := hw.symm; clear hw) | (go_at_call 41; refine HLF.out.mono ?_; rintro e w' ⟨rfl, hw⟩; obtain rfl := hw.symm; clear hw))
        go_ret2
        exact ⟨rfl, rfl⟩
      | succ d =>
        obtain ⟨A, k, B, hs, hA, hB⟩ := kid_at (hok.kids d rfl) he
        have hek := ents_kid d t L R A B k he hs hA hB
        rw [hek] at hri hg
        obtain ⟨hr1, hr2, _⟩ := rise_append.1 hri
        obtain ⟨hr3, hr4, _⟩ := rise_append.1 hr1
        rw [getL_mid at_ _ _ _ (pre_lt L _ at_ hr3 hL) (post_gt R _ at_ hr2 hgt)] at hg
        have hkok := hok.2.2.2.2 k (by rw [hs]; simp)
        obtain ⟨g, rfl, y, _, _, _⟩ := hv.r2.get (j := i) (u := ptrV k.a) (by rw [← hi]; simp [Nd.row, Tr.nd, hs, ← hA]) (by simp [Nd.row])
        have k2 := hv.k2
        have hlc : t.nd.cs.length = t.ks.length := by simp [Tr.nd]
        rw [hlc] at k2
        have i1 : (i : Int) < (t.ks.length : Int) := by rw [hs]; simp; omega
        have y1 : wr.cell? ⟨g, i, none⟩ = some (.pointer (some ⟨k.a, 0, none⟩)) := y
        generalize t.ks.length = n1 at k2 i1
        have K := Aside0.mk (And.intro hkok (And.intro hr4 hg))
        rw [show decide (d + 1 = 0) = false from rfl] at HLF
        generalize hka : k.a = ka at y1
        have KA := Aside0.mk hka
        clear hx hok hri hg hes he hl hL hR hc hroot hleaf h7 hf hcd hlf hlr hv hct T hi hgt hcf hek hr1 hr2 hr3 hr4 hkok hlc y hs hA hB hka
        go_wp2_with (first | (go_at_call 40; refine HF.out.mono ?_; rintro e w' ⟨rfl, hw⟩; obtain rfl := hw.symm; clear hw) | (go_at_call 41; refine HLF.out.mono ?_; rintro e w' ⟨rfl, hw⟩; obtain rfl := hw.symm; clear hw))
        go_roundg d
        case rel => exact ⟨3, ka, k, rfl, rfl, .mk ⟨KA.out, K.out.1, K.out.2.1, K.out.2.2⟩⟩
        case measure => omega
/-- A node of the lowest level that has the last number. -/
def LastAtS (H : HP ByteArray) (l : List (Int × ByteArray)) (w : World) (e : Ending) (w' : World) : Prop := ∃ (y q : Nat) (es : List (Int × ByteArray)), e = .returned (.pointer (some ⟨y, 0, none⟩)) ∧ w' = w.drewN q ∧ H y = some ⟨es.map Prod.fst, es.map Prod.snd, []⟩ ∧ es.getLast? = l.getLast? ∧ es.length ≤ 7
def FirstAtS (H : HP ByteArray) (l : List (Int × ByteArray)) (w : World) (e : Ending) (w' : World) : Prop := ∃ (y : Nat) (es : List (Int × ByteArray)), e = .returned (.pointer (some ⟨y, 0, none⟩)) ∧ w' = w ∧ H y = some ⟨es.map Prod.fst, es.map Prod.snd, []⟩ ∧ es.head? = l.head? ∧ es.length ≤ 7
set_option maxHeartbeats 4000000 in
theorem leastS.calls {own : Own} {H : HP ByteArray} (d : Nat) (t : Tr ByteArray) (w : World) (hH : Heap LS w own H) (ho : Ok H d 3 t) :
    Calls Try.prog 72 #[.pointer (some ⟨t.a, 0, none⟩)] w (FirstAtS H (ents d t) w) := by
  obtain ⟨l, hl⟩ : ∃ l, ents d t = l := ⟨_, rfl⟩
  rw [hl]
  obtain ⟨x0, hx0⟩ : ∃ x0, t.a = x0 := ⟨_, rfl⟩
  rw [hx0]
  have S := Aside0.mk (And.intro ho (And.intro hl hx0))
  have HH := Aside0.mk hH
  clear ho hl hx0 hH
  go_enter Try.func72, Try.ntmps72
  go_wp2_with fail
  go_loopg [0] d (fun gg s0 wr => ∃ (x : Nat) (t : Tr ByteArray), s0 = .pointer (some ⟨x, 0, none⟩) ∧ wr = w ∧ Aside0 (t.a = x ∧ Ok H gg 3 t ∧ (ents gg t).head? = l.head?))
  case atStart => exact ⟨x0, t, rfl, rfl, .mk ⟨S.out.2.2, S.out.1, by rw [S.out.2.1]⟩⟩
  case round =>
    clear S
    obtain ⟨x, t, rfl, rfl, T⟩ := hrel
    obtain ⟨hx, hok, hh⟩ := T.out
    have hroot : H x = some t.nd := by rw [← hx]; exact hok.root
    have hlf := leafS.calls x t.nd wr HH.out hroot
    rw [hok.leaf] at hlf
    have HLF := Aside0.mk hlf
    cases gk with
    | zero =>
      have HR := Aside0.mk (And.intro hroot (And.intro hok.2.1 (And.intro hh hok.hi)))
      rw [show decide ((0 : Nat) = 0) = true from rfl] at HLF
      clear hx hok hh hroot hlf T
      go_wp2_with (go_at_call 41; refine HLF.out.mono ?_; rintro e w' ⟨rfl, hw⟩; obtain rfl := hw.symm; clear hw)
      go_ret
      obtain ⟨h1, h2, h3, h4⟩ := HR.out
      exact ⟨x, t.es, rfl, rfl, by rw [h1]; simp [Tr.nd, h2], h3, h4⟩
    | succ d =>
      obtain ⟨k, B, hs, hB, hk, hhd⟩ := first_kid hok
      obtain ⟨A0, c0, A1, c1, A2, c2, hv⟩ := HH.out.view hroot
      obtain ⟨g, rfl, y, _, _, _⟩ := hv.r2.get (j := 0) (u := ptrV k.a) (by simp [Nd.row, Tr.nd, hs]) (by simp [Nd.row])
      have k2 := hv.k2
      have hlc : t.nd.cs.length = t.ks.length := by simp [Tr.nd]
      rw [hlc] at k2
      have i1 : (0 : Int) < (t.ks.length : Int) := by rw [hs, List.length_cons]; omega
      have i2 : 0 < t.ks.length := by omega
      have y1 : wr.cell? ⟨g, 0, none⟩ = some (.pointer (some ⟨k.a, 0, none⟩)) := y
      generalize t.ks.length = n1 at k2 i1 i2
      generalize hka : k.a = ka at y1
      have K := Aside0.mk (And.intro hka (And.intro hk (hhd.symm.trans hh)))
      rw [show decide (d + 1 = 0) = false from rfl] at HLF
      clear hx hok hh hroot hlf T hv y hlc hka hk hhd hs hB
      go_wp2_with (go_at_call 41; refine HLF.out.mono ?_; rintro e w' ⟨rfl, hw⟩; obtain rfl := hw.symm; clear hw)
      go_roundg d
      case rel => exact ⟨ka, k, rfl, rfl, .mk ⟨K.out.1, K.out.2.1, K.out.2.2⟩⟩
      case measure => omega
set_option maxHeartbeats 4000000 in
theorem greatestS.calls {own : Own} {H : HP ByteArray} (d : Nat) (t : Tr ByteArray) (w : World) (hH : Heap LS w own H) (ho : Ok H d 3 t) :
    Calls Try.prog 71 #[.pointer (some ⟨t.a, 0, none⟩)] w (LastAtS H (ents d t) w) := by
  obtain ⟨l, hl⟩ : ∃ l, ents d t = l := ⟨_, rfl⟩
  rw [hl]
  obtain ⟨x0, hx0⟩ : ∃ x0, t.a = x0 := ⟨_, rfl⟩
  rw [hx0]
  have S := Aside0.mk (And.intro ho (And.intro hl hx0))
  have HH := Aside0.mk hH
  clear ho hl hx0 hH
  go_enter Try.func71, Try.ntmps71
  go_wp2_with fail
  go_loopg [0] d (fun gg s0 wr => ∃ (x q : Nat) (t : Tr ByteArray), s0 = .pointer (some ⟨x, 0, none⟩) ∧ wr = w.drewN q ∧ Aside0 (t.a = x ∧ Ok H gg 3 t ∧ (ents gg t).getLast? = l.getLast?))
  case atStart => exact ⟨x0, 0, t, rfl, rfl, .mk ⟨S.out.2.2, S.out.1, by rw [S.out.2.1]⟩⟩
  case round =>
    clear S
    obtain ⟨x, q, t, rfl, rfl, T⟩ := hrel
    obtain ⟨hx, hok, hh⟩ := T.out
    have hHq := HH.out.drewN q
    have hroot : H x = some t.nd := by rw [← hx]; exact hok.root
    have hlf := leafS.calls x t.nd (w.drewN q) hHq hroot
    rw [hok.leaf] at hlf
    have HLF := Aside0.mk hlf
    cases gk with
    | zero =>
      have HR := Aside0.mk (And.intro hroot (And.intro hok.2.1 (And.intro hh hok.hi)))
      rw [show decide ((0 : Nat) = 0) = true from rfl] at HLF
      clear hx hok hh hroot hlf T hHq
      go_wp2_with (go_at_call 41; refine HLF.out.mono ?_; rintro e w' ⟨rfl, rfl⟩)
      go_ret
      obtain ⟨h1, h2, h3, h4⟩ := HR.out
      exact ⟨x, q, t.es, rfl, rfl, by rw [h1]; simp [Tr.nd, h2], h3, h4⟩
    | succ d =>
      obtain ⟨A, k, hs, hA, hk, hhd⟩ := last_kid hok
      obtain ⟨A0, c0, A1, c1, A2, c2, hv⟩ := HH.out.view hroot
      obtain ⟨g, rfl, y, _, _, _⟩ := hv.r2.get (j := A.length) (u := ptrV k.a) (by simp [Nd.row, Tr.nd, hs]) (by simp [Nd.row])
      have k2 := hv.k2
      have hlc : t.nd.cs.length = A.length + 1 := by simp [Tr.nd, hs]
      rw [hlc] at k2
      have h7 := hok.hi
      rw [← hA] at h7
      have y1 : w.cell? ⟨g, A.length, none⟩ = some (.pointer (some ⟨k.a, 0, none⟩)) := y
      generalize A.length = m at k2 y1 h7
      have i1 : (0 : Int) ≤ (m : Int) := by omega
      have i2 : (m : Int) < (m : Int) + 1 := by omega
      have i3 : IntKind.i64.wrap (m : Int) = (m : Int) := by rw [IntKind.wrap_i64]; omega
      have i4 : IntKind.i64.wrap ((m : Int) + 1 - 1) = (m : Int) := by rw [IntKind.wrap_i64]; omega
      generalize hka : k.a = ka at y1
      have K := Aside0.mk (And.intro hka (And.intro hk (hhd.symm.trans hh)))
      rw [show decide (d + 1 = 0) = false from rfl] at HLF
      clear hx hok hh hroot hlf T hv y hlc hka hk hhd hs hA hHq
      go_wp2_with (go_at_call 41; refine HLF.out.mono ?_; rintro e w' ⟨rfl, rfl⟩)
      go_quiet (fail)
      go_wp2_with fail
      go_roundg d
      case rel => exact ⟨ka, q + nq, k, rfl, by simp [World.drewN, Nat.add_assoc], .mk ⟨K.out.1, K.out.2.1, K.out.2.2⟩⟩
      case measure => omega
end Go.Proofs.Ytkfcflflgecljaa.H
