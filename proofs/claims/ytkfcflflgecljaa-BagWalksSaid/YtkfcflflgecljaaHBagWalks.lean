/- nautiluslaw02.BagWalks: its walk. -/
import Derived.Test.YtkfcflflgecljaaHBagFilled
import Derived.Test.YtkfcflflgecljaaHBagShown
import Derived.Test.YtkfcflflgecljaaHBagKeysI
set_option linter.unusedVariables false
set_option linter.unusedSimpArgs false
namespace Go.Proofs.Ytkfcflflgecljaa.H
open Go.RowKit Go.Proofs.YtkfcflflgecljaaW.PrintWords Go.Proofs.YtkfcflflgecljaaW.PrintLast
attribute [local go_sem] min2_i min_2
set_option maxRecDepth 100000
/-- From a number's next one on there is what stands behind it. -/
theorem fr_next {l : List (Int × Int)} (hr : Rise l) {a : Int} {e : Int × Int} {r : List (Int × Int)} (h : fr a l = e :: r) : fr (e.1 + 1) l = r := by
  have hri := rise_fr hr a
  rw [h] at hri
  have hme : e ∈ fr a l := by rw [h]; exact List.mem_cons_self
  have hae : a ≤ e.1 := by simpa [fr] using (List.mem_filter.1 hme).2
  have h1 : fr (e.1 + 1) l = (fr a l).filter (fun x => decide (e.1 + 1 ≤ x.1)) := by
    unfold fr
    rw [List.filter_filter]
    congr 1
    funext x
    by_cases hx : e.1 + 1 ≤ x.1
    · simp [hx]; omega
    · simp [hx]
  rw [h1, h, List.filter_cons]
  rw [if_neg (by simp; omega)]
  exact filter_all fun x hx => by have := (rise_cons.1 hri).1 x hx; simp; omega
/-- The keys are the first ones of those from a number on; what follows is not ahead of lim. -/
theorem keys_split {l : List (Int × Int)} (hr : Rise l) (a lim : Int) : keysL a lim l = ((fr a l).take (keysL a lim l).length).map Prod.fst ∧ ∀ e ∈ (fr a l).drop (keysL a lim l).length, lim ≤ e.1 := by
  have hri := rise_fr hr a
  unfold keysL
  generalize fr a l = m at hri
  induction m with
  | nil => simp
  | cons e m ih =>
    have hrm := (rise_cons.1 hri).2
    obtain ⟨h1, h2⟩ := ih hrm
    by_cases he : e.1 < lim
    · rw [List.map_cons, List.filter_cons, if_pos (by simpa using he), List.length_cons, List.take_succ_cons, List.map_cons, ← h1, List.drop_succ_cons]
      exact ⟨rfl, h2⟩
    · have hall : ∀ x ∈ e :: m, lim ≤ x.1 := fun x hx => by
        rcases List.mem_cons.1 hx with rfl | hx
        · omega
        · have := (rise_cons.1 hri).1 x hx; omega
      have hz : ((e :: m).map Prod.fst).filter (fun k => decide (k < lim)) = [] := by
        rw [List.filter_eq_nil_iff]
        intro x hx
        obtain ⟨y, hy, rfl⟩ := List.mem_map.1 hx
        have := hall y hy
        simp; omega
      rw [hz]
      exact ⟨rfl, hall⟩
theorem keysL_le (a lim : Int) (es : List (Int × Int)) : (keysL a lim es).length ≤ es.length := by
  unfold keysL fr
  refine Nat.le_trans (List.length_filter_le _ _) ?_
  rw [List.length_map]; exact List.length_filter_le _ _
theorem keysL_lt {a lim : Int} {es : List (Int × Int)} {x : Int} (h : x ∈ keysL a lim es) : a ≤ x ∧ x < lim := by
  obtain ⟨h1, h2⟩ := List.mem_filter.1 h
  obtain ⟨e, he, rfl⟩ := List.mem_map.1 h1
  exact ⟨by simpa [fr] using (List.mem_filter.1 he).2, by simpa using h2⟩
theorem walks_wf {n : Int} (h : (Lit.int .i64 n).wf = true) : -9223372036854775808 ≤ n ∧ n < 9223372036854775808 := by
  simp [Lit.wf, IntKind.min, IntKind.max, IntKind.bits, IntKind.signed] at h; omega
theorem walks_w {u lim : Int} (h1 : -9223372036854775808 ≤ u) (h2 : u < lim) (h3 : lim ≤ 9223372036854775807) : IntKind.i64.wrap (u + 1) = u + 1 := by rw [IntKind.wrap_i64]; omega
set_option maxHeartbeats 8000000 in
theorem walks.calls (A : Option Addr) (c : Nat) (l : List Int) (fr_ lim : Int) (w : World) (hC : Kd.C (Kd.int .i64) w A l.length l) (hc : l.length ≤ c) (hwf : (Lit.int .i64 fr_).wf = true) (hwl : (Lit.int .i64 lim).wf = true) :
    Calls Try.prog 4 #[.slice A l.length c, .int .i64 fr_, .int .i64 lim] w (fun e w' => e = .returned (.bool true) ∧ Below w.heap.size w w') := by
  obtain ⟨base, hbase⟩ : ∃ base, w.heap.size = base := ⟨_, rfl⟩
  rw [hbase]
  have H1 := Aside0.mk (shown.calls base w w (Below.refl _ _) (by omega))
  obtain ⟨Q, hQ⟩ : ∃ Q : Ending → World → Prop, (fun (e : Ending) (w' : World) => e = .returned (.bool true) ∧ Below base w w') = Q := ⟨_, rfl⟩
  rw [hQ]
  have HQ := Aside0.mk hQ
  have HW := Aside0.mk (show -9223372036854775808 ≤ fr_ ∧ lim ≤ 9223372036854775807 from ⟨(walks_wf hwf).1, by have := (walks_wf hwl).2; omega⟩)
  obtain ⟨m, hm⟩ : ∃ m : Int, (if (200 : Int) < (l.length : Int) then (200 : Int) else (l.length : Int)) = m := ⟨_, rfl⟩
  have hcut := cut200_run A l c hc m hm
  have HCL := Aside0.mk (show Kd.C (Kd.int .i64) w A (cut200 l).length (cut200 l) from Kd.C_take hC (by omega))
  have HB := Aside0.mk hbase
  have hlen := cut200_len l
  have HLL := Aside0.mk hlen
  generalize cut200 l = l2 at hcut HCL HLL
  clear hQ hbase hC hc hlen hwf hwl
  go_enter Try.func4, Try.ntmps4
  go_wp2_with fail
  refine H1.out.mono ?_
  rintro e w1 ⟨rfl, hb1, hs1⟩
  have hf := filled.calls A c l2 w1 (Kd.C_below HCL.out (by rw [HB.out]; exact hb1)) HLL.out
  have HF := Aside0.mk hf
  have B1 := Aside0.mk (And.intro hb1 hs1)
  clear H1 hb1 hs1 hf HCL
  go_wp2_with fail
  refine HF.out.mono ?_
  rintro e w2 ⟨own, bb, rfl, F⟩
  have hlen := fill_len l2 [] List.Pairwise.nil
  obtain ⟨es, hes⟩ : ∃ es, fill l2 [] = es := ⟨_, rfl⟩
  rw [hes] at F hlen
  have hel : es.length ≤ 200 := by have := HLL.out; simp at hlen; omega
  have hri := F.rise
  have HK := Aside0.mk (zkeysI F (by omega) fr_ lim)
  have hkl := keysL_le fr_ lim es
  obtain ⟨hk1, hk2⟩ := keys_split hri fr_ lim
  have hk3 : ∀ x ∈ keysL fr_ lim es, fr_ ≤ x ∧ x < lim := fun x hx => keysL_lt hx
  obtain ⟨ks, hks⟩ : ∃ ks, keysL fr_ lim es = ks := ⟨_, rfl⟩
  rw [hks] at hkl hk1 hk2 hk3
  have HF2 := Aside0.mk F
  have HKS := Aside0.mk hks
  have HKL := Aside0.mk (Nat.le_trans hkl hel)
  have HK1 := Aside0.mk hk1
  have HK2 := Aside0.mk hk2
  have HK3 := Aside0.mk hk3
  have HRI := Aside0.mk hri
  clear hlen hel HF F hkl hk1 hk2 hk3 hks hes hri
  go_wp2_with fail
  refine HK.out.mono ?_
  rw [HKS.out]
  rintro e w3 ⟨A5, c5, rfl, hc5, hC5, hb3⟩
  have HF3 := Aside0.mk (HF2.out.still hb3)
  have HC5 := Aside0.mk hC5
  obtain ⟨b3, hb3'⟩ : ∃ b3, w3.heap.size = b3 := ⟨_, rfl⟩
  have HB3 := Aside0.mk hb3'
  clear hb3 HK HF2 HKS hC5 hc5 hb3'
  obtain ⟨n, hn⟩ : ∃ n, ks.length = n := ⟨_, rfl⟩
  have HN := Aside0.mk hn
  rw [hn]
  clear hn
  go_wp2_with fail
  go_loopg [10, 11] n (fun gg s10 s11 wr => ∃ (j : Nat) (a : Int), s10 = .int .i64 a ∧ s11 = .int .i64 (j : Int) ∧ j + gg = n ∧ Aside0 (fr a es = (fr fr_ es).drop j ∧ FreshI w1.heap.size w1 wr own bb es ∧ Below w3.heap.size w3 wr))
  case atStart => exact ⟨0, fr_, rfl, rfl, by omega, ⟨rfl, HF3.out, Below.refl _ _⟩⟩
  case round =>
    clear HF3
    obtain ⟨j, a, rfl, rfl, hj, U⟩ := hrel
    by_cases hlt : j < n
    · have hd : decide (j < n) = true := decide_eq_true hlt
      have hd' : decide ((j : Int) < (n : Int)) = true := decide_eq_true (by omega)
      have hjl : j < ks.length := by rw [HN.out]; exact hlt
      obtain ⟨ad, e0, g0⟩ := Kd.at_int (Kd.C_below HC5.out U.out.2.2) (j : Int) (by omega) (by omega)
      subst e0
      obtain ⟨u, hu⟩ : ∃ u, ks[j] = u := ⟨_, rfl⟩
      have hu2 : ks[j]? = some u := by rw [List.getElem?_eq_getElem hjl, hu]
      rw [show rd ks (j : Int) = u by simp [rd, hu2], Int.toNat_natCast] at g0
      -- what stands there
      obtain ⟨e, he, heu⟩ : ∃ e, (fr fr_ es)[j]? = some e ∧ e.1 = u := by
        have h : (((fr fr_ es).take ks.length).map Prod.fst)[j]? = some u := by rw [← HK1.out]; exact hu2
        rw [List.getElem?_map, List.getElem?_take, if_pos hjl] at h
        obtain ⟨e, he, h2⟩ := Option.map_eq_some_iff.1 h
        exact ⟨e, he, h2⟩
      have hdr : fr a es = e :: (fr fr_ es).drop (j + 1) := by
        obtain ⟨hk, he'⟩ := List.getElem?_eq_some_iff.1 he
        rw [U.out.1, List.drop_eq_getElem_cons hk, he']
      have hnx : nextLI a es = some u := by unfold nextLI; rw [hdr]; simp [heu]
      have hfn := fr_next HRI.out hdr
      rw [heu] at hfn
      have hau : a ≤ u := by
        have hme : e ∈ fr a es := by rw [hdr]; exact List.mem_cons_self
        rw [← heu]; simpa [fr] using (List.mem_filter.1 hme).2
      obtain ⟨hu3, hu4⟩ := HK3.out u (by rw [← hu]; exact List.getElem_mem hjl)
      have hw1 := walks_w (u := u) (lim := lim) (by have := HW.out.1; omega) hu4 HW.out.2
      have HNX := Aside0.mk (znextI U.out.2.1 a (some u) hnx)
      have HFN := Aside0.mk hfn
      have hd2 : decide (u < a) = false := decide_eq_false (by omega)
      have hd3 : (u == 9223372036854775807) = false := by have := HW.out.2; simp; omega
      have hj0 : (0 : Int) ≤ (j : Int) := by omega
      have hj1 : (j : Int) < (n : Int) := by omega
      have ew := one_w j (by have := HKL.out; have := HN.out; omega)
      clear hjl hu hu2 he heu hdr hnx hfn hau hu3 hu4
      go_wp2_with fail
      refine HNX.out.mono ?_
      rintro e w4 ⟨rfl, hb4⟩
      have g4 := (hb4.cell (World.block_lt_of_cell? wr _ g0)).trans g0
      have HU4 := Aside0.mk (And.intro (U.out.2.1.still hb4) (U.out.2.2.trans (hb4.mono U.out.2.2.size)))
      clear g0 hb4 HNX
      go_wp2_with fail
      go_roundg (n - (j + 1))
      case rel => exact ⟨j + 1, u + 1, by first | rfl | (rw [hw1]; rfl), by first | rfl | (rw [ew]; rfl), by omega, ⟨HFN.out, HU4.out.1, HU4.out.2⟩⟩
      case measure => omega
    · have hd : decide (j < n) = false := decide_eq_false hlt
      have hd' : decide ((j : Int) < (n : Int)) = false := decide_eq_false (by omega)
      have hjn : j = ks.length := by have := HN.out; omega
      obtain ⟨o, ho⟩ : ∃ o, nextLI a es = o := ⟨_, rfl⟩
      have hol : ∀ k, o = some k → lim ≤ k := fun k hk => by
        rw [hk] at ho
        unfold nextLI at ho
        rw [U.out.1, hjn] at ho
        obtain ⟨e, he, hek⟩ := Option.map_eq_some_iff.1 ho
        rw [← hek]
        exact HK2.out e (List.mem_of_head? he)
      have HNX := Aside0.mk (znextI U.out.2.1 a o ho)
      have HOL := Aside0.mk hol
      clear hjn hlt hj ho hol
      cases o with
      | none =>
        go_wp2_with fail
        refine HNX.out.mono ?_
        rintro e w4 ⟨rfl, hb4⟩
        have FIN := Aside0.mk (show Below base w w4 from B1.out.1.trans ((U.out.2.1.still hb4).below.mono B1.out.2))
        clear hb4 HNX
        go_wp2_with fail
        first | exact HQ.out ▸ ⟨rfl, FIN.out⟩ | (go_ret; rw [← HQ.out]; exact ⟨rfl, FIN.out⟩)
      | some k =>
        have hd2 : decide (lim ≤ k) = true := decide_eq_true (HOL.out k rfl)
        go_wp2_with fail
        refine HNX.out.mono ?_
        rintro e w4 ⟨rfl, hb4⟩
        have FIN := Aside0.mk (show Below base w w4 from B1.out.1.trans ((U.out.2.1.still hb4).below.mono B1.out.2))
        clear hb4 HNX
        go_wp2_with fail
        first | exact HQ.out ▸ ⟨rfl, FIN.out⟩ | (go_ret; rw [← HQ.out]; exact ⟨rfl, FIN.out⟩)
end Go.Proofs.Ytkfcflflgecljaa.H
