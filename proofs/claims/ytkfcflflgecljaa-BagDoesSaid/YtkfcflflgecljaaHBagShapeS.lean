/- Shape of a bag over string: how many numbers its nodes have, level by level. -/
import Derived.Test.YtkfcflflgecljaaHBagZS
import Derived.Test.YtkfcflflgecljaaHBagRows
import Derived.Deep.QuietTactic
import Derived.BigQuiet
set_option linter.unusedVariables false
set_option linter.unusedSimpArgs false
namespace Go.Proofs.Ytkfcflflgecljaa.H
open Go.RowKit Go.Proofs.YtkfcflflgecljaaW.PrintWords Go.Proofs.YtkfcflflgecljaaW.PrintLast
set_option maxRecDepth 100000
theorem gateSS {P : Program} {ops : Array Oper} {rest : List Oper} {o : Oper} {a : Act} {Q : Exit → Act → World → Prop} {W : World} {b : Builtin} {xs : Array Operand} {ts : Array TypeId} (_ho : o.op = .call { callee := .builtin b, args := xs, argTypes := ts }) (h : wpList P ops Q (o :: rest) a W) : wpList P ops Q (o :: rest) a W := h
theorem sIntS : (Try.prog.info? 3).map (fun i => (i.zero, i.size, i.bytes)) = some (some (.int .i64 0), 1, 8) := by kernel_rfl
theorem sPtrS : (Try.prog.info? 66).map (fun i => (i.zero, i.size, i.bytes)) = some (some (.pointer none), 1, 8) := by kernel_rfl
theorem sRowS : (Try.prog.info? 65).map (fun i => (i.zero, i.size, i.bytes)) = some (some (.slice none 0 0), 1, 24) := by kernel_rfl
abbrev kPS : Kd Nat := Kd.scalar ptrV (fun _ => rfl)
abbrev kSS : Kd (List Int) := Kd.slice 3 (Kd.int .i64)
abbrev anyKS : Nat → Prop := fun _ => True
/-- A row of another type was written. -/
theorem R_otherS {β : Type} {d : Kd β} {e base b' e' s' n : Nat} {ok : Nat → Prop} {W w1 : World} {v u : Value} {xs : List β} {ys : List Value} (h : d.R e W base ok v xs) (ho : W.ownsRow b' e' s' u n ys) (hne : ∀ q ∈ e :: d.E, q ≠ e') (hg : W.grownBy w1 u.ownBlock) : d.R e w1 base ok v xs := by
  cases hb : u.ownBlock with
  | none => exact Kd.R_grown h (hb ▸ hg) (fun k _ => by simp)
  | some g =>
    obtain ⟨cells, hc⟩ := own_typed ho g hb
    exact Kd.R_mono (Kd.R_grown (Kd.R_types h hc hne) (hb ▸ hg) (fun k hk e => hk.2 (Option.some.inj e))) (fun _ hk => hk.1)
theorem hnePS : ∀ q ∈ 66 :: kPS.E, q ≠ 3 := by decide
theorem hneIS : ∀ q ∈ 3 :: (Kd.int .i64).E, q ≠ 66 := by decide
theorem hneQS : ∀ q ∈ 66 :: kPS.E, q ≠ 65 := by decide
/-- What stands below the trees that are done. -/
theorem take_kidsS (ts : List (Tr ByteArray)) (j : Nat) (hj : j < ts.length) : (ts.take (j + 1)).flatMap Tr.ks = (ts.take j).flatMap Tr.ks ++ ts[j].ks := by
  rw [List.take_succ_eq_append_getElem hj, List.flatMap_append]; simp
theorem take_rowS (ts : List (Tr ByteArray)) (j : Nat) (hj : j < ts.length) : rowOf (ts.take (j + 1)) = rowOf (ts.take j) ++ [(ts[j].es.length : Int)] := by
  unfold rowOf
  rw [List.take_succ_eq_append_getElem hj, List.map_append]; rfl
theorem s_wS (j : Nat) (h : j < 1000000) : IntKind.i64.wrap ((j : Int) + 1) = (j : Int) + 1 := by
  rw [IntKind.wrap_i64]; omega
theorem kid_rowsS {own : Own} {H : HP ByteArray} {W : World} (hH : Heap LS W own H) {x : Nat} {nd : Nd ByteArray} (hx : H x = some nd) :
    ∃ A c, W.cell? ⟨x, 2, none⟩ = some (.slice A nd.cs.length c) ∧ ReadsRow (kPS.K W) 1 W A nd.cs.length nd.cs := by
  obtain ⟨A0, c0, A1, c1, A2, c2, hv⟩ := hH.view hx
  have hr := hv.r2.row
  have hl : (nd.row LS 2).length = nd.cs.length := by simp [Nd.row]
  rw [hl] at hr
  have hR : kPS.R 66 W 0 anyKS (.slice A2 nd.cs.length c2) nd.cs := Kd.R_of_own hr (fun _ _ => trivial)
  obtain ⟨_, _, hC⟩ := Kd.R_reads' hR
  exact ⟨A2, c2, hv.k2, hC⟩
theorem lvl_getS {W : World} {A : Option Addr} {n : Nat} {ys : List Nat} (h : Kd.C kPS W A n ys) {j y : Nat} (hj : ys[j]? = some y) (hn : j < n) : ∃ ad, A = some ad ∧ W.cell? (ad.add j) = some (.pointer (some ⟨y, 0, none⟩)) := by
  obtain ⟨ad, c, rfl, hl, hk, hc⟩ := Kd.C_get h 0 (j : Int) (by omega) (by omega)
  rw [Int.toNat_natCast, List.getD_eq_getElem?_getD, hj, Option.getD_some] at hk
  have hk' : c = [ptrV y] := hk
  subst hk'
  have := hc 0 (ptrV y) rfl
  rw [Int.toNat_natCast] at this
  have e : j * kPS.sz + 0 = j := Nat.mul_one j
  rw [e] at this
  exact ⟨ad, rfl, this⟩
theorem own_CS {W : World} {g : Nat} {ys : List Nat} {cur : Array Value} (hg : W.heap[g]? = some (.cells cur 66 (0, 0))) (hc : cur.toList = ys.map ptrV) (hl : ys.length ≤ maxLen) : Kd.C kPS W (some ⟨g, 0, none⟩) ys.length ys := by
  have ho := own_mk (n := ys.length) (cap := ys.length) (xs := ys.map ptrV) hg (Nat.le_refl _) hl (by rw [← Array.length_toList, hc, List.length_map]) (by rw [hc]; exact List.take_of_length_le (by simp))
  have hR : kPS.R 66 W 0 anyKS (.slice (some ⟨g, 0, none⟩) ys.length ys.length) ys := Kd.R_of_own ho (fun _ _ => trivial)
  exact (Kd.R_reads' hR).2.2
/-- What a level's round keeps. -/
structure ShapeInS (own : Own) (H : HP ByteArray) (d base total : Nat) (w : World) (all : List (List Int)) (gg : Nat) (ts : List (Tr ByteArray)) (rs : List (List Int)) (v3 : Value) (A : Option Addr) (wr : World) : Prop where
  out : Kd.R kSS 65 wr base anyKS v3 rs
  lvl : Kd.C kPS wr A ts.length (ts.map Tr.a)
  heap : Heap LS wr own H
  below : Below base w wr
  size : base ≤ wr.heap.size
  cnt : rs.length + gg = d + 1
  zero : gg = 0 → ts = [] ∧ rs = all
  succ : ∀ dd, gg = dd + 1 → ts ≠ [] ∧ (∀ t ∈ ts, Ok H dd 0 t) ∧ rs ++ rowsOf dd ts = all ∧ mass dd ts ≤ total
theorem tlen2S {own : Own} {H : HP ByteArray} {w : World} (hH : Heap LS w own H) {x : Nat} {nd : Nd ByteArray} (hx : H x = some nd) : ∃ A c, w.cell? ⟨x, 0, none⟩ = some (.slice A nd.ks.length c) := by
  obtain ⟨A0, c0, A1, c1, A2, c2, hv⟩ := hH.view hx
  exact ⟨A0, c0, hv.k0⟩
set_option maxHeartbeats 8000000 in
theorem shapeS_walk {own : Own} {H : HP ByteArray} (bb d : Nat) (t : Tr ByteArray) (w : World) (hH : Heap LS w own H) (ho : Ok H d 1 t) (hlen : (ents d t).length ≤ 100000) (n : Int) (hn : n ≠ 0)
    (hb : w.heap[bb]? = some (.cells #[.pointer (some ⟨t.a, 0, none⟩), .int .i64 n] 72 (0, 0))) :
    Calls Try.prog 24 #[.pointer (some ⟨bb, 0, none⟩)] w (fun e w' => ∃ A c, e = .returned (.slice A (rowsOf d [t]).length c) ∧ (rowsOf d [t]).length ≤ c ∧ Kd.C kSS w' A (rowsOf d [t]).length (rowsOf d [t]) ∧ Below w.heap.size w w') := by
  have k0 : w.cell? ⟨bb, 0, none⟩ = some (.pointer (some ⟨t.a, 0, none⟩)) := by rw [cell_of_row w bb 0 _ _ (0, 0) hb]; rfl
  have k1 : w.cell? ⟨bb, 1, none⟩ = some (.int .i64 n) := by rw [cell_of_row w bb 1 _ _ (0, 0) hb]; rfl
  obtain ⟨Q, hQ⟩ : ∃ Q : Ending → World → Prop, (fun (e : Ending) (w' : World) => ∃ A c, e = .returned (.slice A (rowsOf d [t]).length c) ∧ (rowsOf d [t]).length ≤ c ∧ Kd.C kSS w' A (rowsOf d [t]).length (rowsOf d [t]) ∧ Below w.heap.size w w') = Q := ⟨_, rfl⟩
  rw [hQ]
  have HQ := Aside0.mk hQ
  have HH := Aside0.mk hH
  have HO := Aside0.mk ho
  have HL := Aside0.mk hlen
  have HD := Aside0.mk (deep_le ho)
  have HH7 := Aside0.mk (show ∀ W, Below w.heap.size w W → Heap LS W own H from fun W hb => hH.below hb)
  have hn1 : (n == 0) = false := by simpa using hn
  obtain ⟨x0, hx0⟩ : ∃ x0, t.a = x0 := ⟨_, rfl⟩
  rw [hx0] at k0
  have HX := Aside0.mk hx0
  obtain ⟨base, hbase⟩ : ∃ base, w.heap.size = base := ⟨_, rfl⟩
  have HB := Aside0.mk hbase
  clear hQ hH ho hlen hn hb hx0
  go_enter Try.func24, Try.ntmps24
  go_wp2_with fail
  go_loopg [3, 4] (d + 1) (fun gg s3 s4 wr => ∃ (ts : List (Tr ByteArray)) (rs : List (List Int)) (A : Option Addr) (c : Nat), s4 = .slice A ts.length c ∧ Aside0 (ShapeInS own H d base ((ents d t).length + 1) w (rowsOf d [t]) gg ts rs s3 A wr))
  case atStart =>
    refine ⟨[t], [], some ⟨base, 0, none⟩, 1, rfl, ⟨Kd.R_nil _ _ _ _ _, ?_, ?_, ?_, ?_, by simp, fun h => by omega, fun dd h => ?_⟩⟩
    · refine own_CS (g := base) (ys := [t].map Tr.a) (by rw [← hbase]; show (w.heap.push _)[w.heap.size]? = _; exact Array.getElem?_push_size) ?_ (by simp [maxLen])
      simp [ptrV, HX.out]
    · exact HH.out.below ((Below.refl _ w).alloc (Nat.le_refl _) _)
    · exact (Below.refl _ w).alloc (by omega) _
    · simp; omega
    · obtain rfl : dd = d := by omega
      exact ⟨by simp, fun q hq => by obtain rfl := List.mem_singleton.1 hq; exact HO.out.low (Nat.zero_le _), by simp, by simp [mass]⟩
  case round =>
    obtain ⟨ts, rs, A, c, rfl, T⟩ := hrel
    clear HH HX k0 k1
    cases gk with
    | zero =>
      obtain ⟨rfl, hrs⟩ := T.out.zero rfl
      have hd : decide ((0 : Int) < (([] : List (Tr ByteArray)).length : Int)) = false := rfl
      obtain ⟨A3, c3, rfl, hl3, hC3⟩ := Kd.R_reads T.out.out
      have hq : Q (.returned (.slice A3 rs.length c3)) wr := by
        rw [← HQ.out]
        exact ⟨A3, c3, by rw [hrs], by rw [← hrs]; exact hl3, by rw [← hrs]; exact hC3, by rw [HB.out]; exact T.out.below⟩
      have HQ2 := Aside0.mk hq
      clear hq hrs hl3 hC3 T
      go_wp2_with fail
      first | exact HQ2.out | (go_ret; exact HQ2.out)
    | succ dd =>
      obtain ⟨hne, hok, hrs, hma⟩ := T.out.succ dd rfl
      obtain ⟨n, hn⟩ : ∃ n, ts.length = n := ⟨_, rfl⟩
      have hn0 : 0 < n := by rw [← hn]; exact List.length_pos_iff.2 hne
      have hn1 : n ≤ 100001 := by have := mass_len dd ts; have := HL.out; omega
      have hd : decide (0 < n) = true := decide_eq_true hn0
      have hd' : decide ((0 : Int) < (n : Int)) = true := decide_eq_true (by omega)
      have HOK := Aside0.mk hok
      have HRS := Aside0.mk hrs
      have HMA := Aside0.mk hma
      have HNE := Aside0.mk hne
      have HN := Aside0.mk hn
      have HN1 := Aside0.mk hn1
      obtain ⟨w1, hw1⟩ : ∃ W, W = wr := ⟨_, rfl⟩
      subst hw1
      obtain ⟨B1, hB1⟩ : ∃ B1, w1.heap.size = B1 := ⟨_, rfl⟩
      rw [hn]
      clear hok hrs hma hne hn hn1
      go_wp2_with fail
      go_loopg [5, 6, 28] n (fun gj s5 s6 s28 wq => ∃ j : Nat, s28 = .int .i64 (j : Int) ∧ j + gj = n ∧ Aside0 (Kd.R (Kd.int .i64) 3 wq B1 anyKS s5 (rowOf (ts.take j)) ∧ Kd.R kPS 66 wq B1 anyKS s6 (((ts.take j).flatMap Tr.ks).map Tr.a) ∧ Below B1 w1 wq))
      case atStart => exact ⟨0, rfl, by omega, ⟨Kd.R_nil _ _ _ _ _, Kd.R_nil _ _ _ _ _, Below.refl _ _⟩⟩
      case round =>
        obtain ⟨j, rfl, hj, U⟩ := hrel
        by_cases hlt : j < n
        · have hdj : decide ((j : Int) < (n : Int)) = true := decide_eq_true (by omega)
          have hdj' : decide (j < n) = true := decide_eq_true hlt
          have hjl : j < ts.length := by rw [HN.out]; exact hlt
          obtain ⟨q, hq⟩ : ∃ q, ts[j] = q := ⟨_, rfl⟩
          have hqm : q ∈ ts := by rw [← hq]; exact List.getElem_mem hjl
          have hbw : Below w1.heap.size w1 wr := by rw [hB1]; exact U.out.2.2
          have hok := HOK.out q hqm
          have hHw := T.out.heap.below hbw
          have hlv := Kd.C_below T.out.lvl hbw
          rw [HN.out] at hlv
          obtain ⟨ad, rfl, y0⟩ := lvl_getS hlv (j := j) (y := q.a) (by rw [List.getElem?_map, List.getElem?_eq_getElem hjl, hq]; rfl) hlt
          obtain ⟨A0, c0, y1⟩ := tlen2S hHw hok.root
          rw [show q.nd.ks.length = q.es.length by simp [Tr.nd]] at y1
          obtain ⟨x, hx⟩ : ∃ x, q.a = x := ⟨_, rfl⟩
          have hroot := hok.root
          rw [hx] at y0 y1 hroot
          have hrow := take_rowS ts j hjl
          have hkid := take_kidsS ts j hjl
          rw [hq] at hrow hkid
          have h7 := hok.hi
          have hrl : (rowOf (ts.take j)).length ≤ 100001 := by unfold rowOf; rw [List.length_map, List.length_take]; have := HN1.out; omega
          have hkl : (((ts.take j).flatMap Tr.ks).map Tr.a).length + q.ks.length ≤ 100001 := by
            have h1 := take_kids_le ts (j + 1)
            have h2 := kids_le HOK.out
            have h3 := HMA.out
            have h4 := HL.out
            rw [hkid, List.length_append] at h1
            rw [List.length_map]; omega
          obtain ⟨m, hm⟩ : ∃ m, q.es.length = m := ⟨_, rfl⟩
          rw [hm] at y1 hrow
          have HROW := Aside0.mk hrow
          have HKID := Aside0.mk hkid
          have HRL := Aside0.mk hrl
          have HKL := Aside0.mk hkl
          have HRT := Aside0.mk hroot
          have HHW := Aside0.mk hHw
          have hj0 : (0 : Int) ≤ (j : Int) := by omega
          have hj1 : (j : Int) < (n : Int) := by omega
          have ew := s_wS j (by have := HN1.out; omega)
          clear hjl hq hqm hbw hok hHw hlv hrow hkid h7 hrl hkl hroot hm
          obtain ⟨i5, ho5⟩ := Kd.R_own U.out.1
          have hsw : B1 ≤ wr.heap.size := by rw [← hB1]; exact U.out.2.2.size
          have HSW := Aside0.mk hsw
          clear hsw
          go_wp2_with (first
            | ((with_reducible refine gateSS (b := .append) (xs := #[.tmp 32, .tmp 38]) rfl ?_); at_builtin; refine Kd.R_append (Kd.int .i64) (w0 := w1) B1 rfl (.tmp 32) (.tmp 38) 65 3 (.int .i64 0) 8 rfl Try.underlying65 sIntS rfl (by decide) (by omega) _ (rowOf (ts.take j)) (m : Int) [.int .i64 (m : Int)] anyKS (fun _ => False) rfl rfl ?aP (fun _ hk => hk.elim) ?aF ?aO ?aB ?aS ?aL ?_; (case aP => exact rfl); (case aF => exact fun _ _ => trivial); (case aO => exact U.out.1); (case aB => exact U.out.2.2); (case aS => exact HSW.out); (case aL => have := HRL.out; omega); intro v5 w5 ho hb hg hat; have hs6 := R_otherS U.out.2.1 ho5 hnePS hg; have hH5 : Heap LS w5 own H := T.out.heap.below (by rw [hB1]; exact hb); obtain ⟨A2, c2, y2, hr2⟩ := kid_rowsS hH5 HRT.out; obtain ⟨i6, ho6⟩ := Kd.R_own hs6; have V5 := Aside0.mk (And.intro ho (And.intro hb hs6)); have HR2 := Aside0.mk hr2; have HO6 := Aside0.mk ho6; clear ho hb hg hat hs6 hH5 hr2 ho6)
            | ((with_reducible refine gateSS (b := .append) (xs := #[.tmp 40, .tmp 44]) rfl ?_); at_builtin; refine Aside0.out ?_))
          refine ⟨?_⟩
          refine Kd.R_append_rows kPS (Rr := kPS.K w5) (w0 := w1) B1 rfl (.tmp 40) (.tmp 44) 68 66 (.pointer none) 8 rfl Try.underlying68 sPtrS rfl (by decide) (by omega) _ (((ts.take j).flatMap Tr.ks).map Tr.a) q.nd.cs A2 q.nd.cs.length c2 anyKS (fun _ => False) rfl rfl ?aO ?aR ?aK (fun _ hk => hk.elim) ?aF ?aB ?aS ?aL ?_
          (case aO => exact V5.out.2.2)
          (case aR => exact HR2.out)
          (case aK => exact fun _ _ h => h)
          (case aF => exact fun _ _ => trivial)
          (case aB => exact V5.out.2.1)
          (case aS => have := V5.out.2.1.size; omega)
          (case aL => have := HKL.out; rw [show q.nd.cs.length = q.ks.length by simp [Tr.nd]]; omega)
          intro v6 w6 ho hb hg hat
          have hs5 := R_otherS V5.out.1 HO6.out hneIS hg
          have V6 := Aside0.mk (And.intro hs5 (And.intro ho hb))
          clear hs5 ho hb hg hat
          go_wp2_with fail
          go_roundg (n - (j + 1))
          case rel =>
            refine ⟨j + 1, by first | rfl | (rw [ew]; rfl), by omega, ⟨?_, ?_, V6.out.2.2⟩⟩
            · rw [HROW.out]; exact V6.out.1
            · rw [HKID.out, List.map_append]; exact V6.out.2.1
          case measure => omega
        · have hdj : decide ((j : Int) < (n : Int)) = false := decide_eq_false (by omega)
          have hdj' : decide (j < n) = false := decide_eq_false hlt
          have hjn : j = ts.length := by rw [HN.out]; omega
          obtain ⟨hrowR, hkidR, hbw⟩ := U.out
          rw [hjn, List.take_length] at hrowR hkidR
          obtain ⟨A5, c5, rfl⟩ := Kd.R_slice hrowR
          have hbw' : Below w1.heap.size w1 wr := by rw [hB1]; exact hbw
          have hout := Kd.R_below T.out.out hbw'
          obtain ⟨i3, ho3⟩ := Kd.R_own T.out.out
          have hrn := Kd.R_new (W := w1) (by rw [hB1]; exact hrowR) ho3
          have hbase1 : base ≤ w1.heap.size := T.out.size
          have hsz1 : w1.heap.size ≤ wr.heap.size := hbw'.size
          have hrl := Kd.R_lower hrn hbase1
          have hbel : Below base w wr := T.out.below.trans (hbw'.mono hbase1)
          obtain ⟨i4, ho4⟩ := Kd.R_own hout
          have VO := Aside0.mk (And.intro hout (And.intro hrl (And.intro hkidR (And.intro hbel (And.intro ho4 (Nat.le_trans hbase1 hsz1))))))
          have hrs : rs.length ≤ 100000 := by have := T.out.cnt; have := HD.out; have := HL.out; omega
          have HRSL := Aside0.mk hrs
          clear hdj hjn hrowR hkidR hbw hbw' hout ho3 hrn hbase1 hsz1 hrl hbel ho4 hrs hlt hj U
          go_wp2_with (first
            | ((with_reducible refine gateSS (b := .append) (xs := #[.tmp 47, .tmp 49]) rfl ?_); at_builtin; refine Aside0.out ?_))
          refine ⟨?_⟩
          refine Kd.R_append kSS (w0 := w) base rfl (.tmp 47) (.tmp 49) 36 65 (.slice none 0 0) 24 rfl Try.underlying36 sRowS rfl (by decide) (by omega) _ rs (rowOf ts) [.slice A5 (rowOf ts).length c5] anyKS (fun k => anyKS k ∧ some k ≠ u3.ownBlock) rfl rfl ?aP ?aK ?aF ?aO ?aB ?aS ?aL ?_
          (case aP => exact ⟨_, rfl, VO.out.2.1⟩)
          (case aK => exact fun _ h => h)
          (case aF => exact fun _ _ => trivial)
          (case aO => exact VO.out.1)
          (case aB => exact VO.out.2.2.2.1)
          (case aS => exact VO.out.2.2.2.2.2)
          (case aL => have := HRSL.out; omega)
          intro v7 w7 ho hb hg hat
          have hs6 := R_otherS VO.out.2.2.1 VO.out.2.2.2.2.1 hneQS hg
          obtain ⟨A6, c6, he6, hl6, hC6⟩ := Kd.R_reads hs6
          obtain ⟨nl, hnl⟩ : ∃ nl, (List.map Tr.a (List.flatMap Tr.ks ts)).length = nl := ⟨_, rfl⟩
          rw [hnl] at he6 hC6
          subst he6
          have NL := Aside0.mk (hnl.symm.trans (List.length_map ..))
          have hH7 : Heap LS w7 own H := HH7.out w7 (by rw [HB.out]; exact hb)
          have hsz7 := hg.size
          have V7 := Aside0.mk (And.intro ho (And.intro hC6 (And.intro hH7 (And.intro hb hsz7))))
          clear ho hb hg hat hs6 hl6 hC6 hH7 hsz7 hnl
          go_wp2_with fail
          go_roundg dd
          case rel =>
            refine ⟨ts.flatMap Tr.ks, rs ++ [rowOf ts], A6, c6, by rw [NL.out], ⟨V7.out.1, by have h := V7.out.2.1; rw [NL.out] at h; exact h, V7.out.2.2.1, V7.out.2.2.2.1, Nat.le_trans VO.out.2.2.2.2.2 V7.out.2.2.2.2, ?_, ?_, ?_⟩⟩
            · have := T.out.cnt
              rw [List.length_append, List.length_singleton]; omega
            · rintro rfl
              exact ⟨leaf_kids HOK.out, HRS.out⟩
            · rintro d2 rfl
              refine ⟨kids_ne HOK.out HNE.out, fun q hq => (kids_ok HOK.out q hq).low (Nat.zero_le _), ?_, by rw [mass_kids HOK.out]; exact HMA.out⟩
              rw [← HRS.out, List.append_assoc]; rfl
          case measure => omega
/-- Shape of a bag: no rows, or those of its tree. -/
def rowsS (d : Nat) (t : Tr ByteArray) : List (List Int) := if ents d t = [] then [] else rowsOf d [t]
theorem shapeS_none (bb x : Nat) (w : World) (hb : w.heap[bb]? = some (.cells #[.pointer (some ⟨x, 0, none⟩), .int .i64 0] 72 (0, 0))) :
    Calls Try.prog 24 #[.pointer (some ⟨bb, 0, none⟩)] w (fun e w' => e = .returned (.slice none 0 0) ∧ w' = w) := by
  have k1 : w.cell? ⟨bb, 1, none⟩ = some (.int .i64 0) := by rw [cell_of_row w bb 1 _ _ (0, 0) hb]; rfl
  clear hb
  go_enter Try.func24, Try.ntmps24
  go_wp2_with fail
  first | exact ⟨rfl, rfl⟩ | (go_ret; exact ⟨rfl, rfl⟩)
theorem shapeS.calls {own : Own} {H : HP ByteArray} (bb d : Nat) (t : Tr ByteArray) (w : World) (hB : BagAt LS 72 w own H bb d t) (hlen : (ents d t).length ≤ 100000) :
    Calls Try.prog 24 #[.pointer (some ⟨bb, 0, none⟩)] w (fun e w' => ∃ A c, e = .returned (.slice A (rowsS d t).length c) ∧ (rowsS d t).length ≤ c ∧ Kd.C kSS w' A (rowsS d t).length (rowsS d t) ∧ Below w.heap.size w w') := by
  by_cases he : ents d t = []
  · have hc := hB.cell
    rw [he] at hc
    refine (shapeS_none bb t.a w hc).mono ?_
    rintro e w' ⟨rfl, rfl⟩
    unfold rowsS
    rw [if_pos he]
    exact ⟨none, 0, rfl, Nat.le_refl _, (Kd.R_reads' (Kd.R_nil kSS 65 w' 0 anyKS)).2.2, Below.refl _ _⟩
  · have h1 : Ok H d 1 t := by
      refine hB.ok.low ?_
      rcases Nat.eq_zero_or_pos d with rfl | hd
      · exact List.length_pos_iff.2 he
      · exact hB.one (by omega)
    refine (shapeS_walk bb d t w hB.heap h1 hlen _ ?_ hB.cell).mono ?_
    · have := List.length_pos_iff.2 he; omega
    · rintro e w' h
      unfold rowsS
      rw [if_neg he]
      exact h
theorem rowsS_good {own : Own} {H : HP ByteArray} {bb d : Nat} {t : Tr ByteArray} {w : World} (hB : BagAt LS 72 w own H bb d t) : GoodRows (ents d t).length (rowsS d t) := by
  unfold rowsS
  by_cases he : ents d t = []
  · rw [if_pos he, he]
    exact ⟨fun _ => rfl, fun h => absurd rfl h, Nat.le_refl _⟩
  · rw [if_neg he]
    have h1 : Ok H d 1 t := by
      refine hB.ok.low ?_
      rcases Nat.eq_zero_or_pos d with rfl | hd
      · exact List.length_pos_iff.2 he
      · exact hB.one (by omega)
    have hp := List.length_pos_iff.2 he
    have h2 : ∀ q ∈ [t], Ok H d 1 q := fun q hq => by obtain rfl := List.mem_singleton.1 hq; exact h1
    refine ⟨fun h => by omega, fun _ => ⟨?_, rows_lev d 1 [t] h2, ?_⟩, ?_⟩
    · intro h
      have := rowsOf_len d [t]
      rw [h] at this; simp at this
    · rw [rows_total d 1 [t] h2]; simp [cnt]
    · rw [rowsOf_len]; exact deep_le h1
theorem FreshS.down {base bb : Nat} {w0 w w' : World} {own : Own} {es : List (Int × ByteArray)} (h : FreshS base w0 w own bb es) (hb : Below w.heap.size w w') : FreshS base w0 w' own bb es := by
  obtain ⟨H, d, t, hB, he⟩ := h.is
  refine ⟨⟨H, d, t, ⟨hB.heap.below hb, hB.ok, hB.nodup, hB.rise, hB.one, hB.len, (hb.block bb hB.lt).trans hB.cell, hB.out⟩, he⟩, h.below.trans (hb.mono h.size), Nat.le_trans h.size hb.size, h.free, h.bb⟩
theorem zshapeS {base bb : Nat} {w0 w : World} {own : Own} {es : List (Int × ByteArray)} (h : FreshS base w0 w own bb es) (hl : es.length ≤ 100000) :
    Calls Try.prog 24 #[.pointer (some ⟨bb, 0, none⟩)] w (fun e w' => ∃ rows A c, GoodRows es.length rows ∧ e = .returned (.slice A rows.length c) ∧ rows.length ≤ c ∧ Kd.C kSS w' A rows.length rows ∧ Below w.heap.size w w') := by
  obtain ⟨H, d, t, hB, rfl⟩ := h.is
  refine (shapeS.calls bb d t w hB hl).mono ?_
  rintro e w' ⟨A, c, he, hc, hC, hb⟩
  exact ⟨rowsS d t, A, c, rowsS_good hB, he, hc, hC, hb⟩
end Go.Proofs.Ytkfcflflgecljaa.H
