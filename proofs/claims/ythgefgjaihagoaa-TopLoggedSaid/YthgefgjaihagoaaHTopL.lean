/- TopLogged's walk. -/
import Derived.Test.YthgefgjaihagoaaHTopW
import Derived.Deep.CutBlock
set_option linter.unusedVariables false
set_option linter.unusedSimpArgs false
namespace Go.Proofs.Ythgefgjaihagoaa.Q
open Go.RowKit Go.Proofs.Ythgefgjaihagoaa.H Go.Proofs.YthgefgjaihagoaaW.PrintWords Go.Proofs.YthgefgjaihagoaaW.PrintLast
set_option maxRecDepth 100000
theorem min2_i (k k' : IntKind) (x y : Int) : Builtin.min2 (.int k x) (.int k' y) = pure (.int k (if y < x then y else x)) := by simp only [Builtin.min2]
theorem min_2 (ats : Array TypeId) (ty : TypeId) (a b : Value) : Builtin.min_ ats ty #[a, b] = (Builtin.min2 a b >>= fun s => pure s) := by simp only [Builtin.min_, List.foldlM_cons, List.foldlM_nil]
attribute [local go_sem] min2_i min_2
theorem sItem : (Try.prog.info? 45).map (fun i => (i.zero, i.size, i.bytes)) = some (some (.agg #[.int .i64 0, .int .u32 0, .int .u32 0, .int .u32 0, .string ⟨#[]⟩]), 5, 40) := by kernel_rfl
theorem itCut (A : Option Addr) (n c m : Nat) (h1 : m ≤ n) (h2 : n ≤ c) (W : World) : (Instr.slice 38 (.slice A n c) none (some (.int .i64 (m : Int))) none).run Try.prog W = .ok (.slice A m c) W := by
  obtain ⟨i0, hi, hz0, hz1, hz2⟩ := info_parts sItem
  have := cut_to (P := Try.prog) 38 45 .i64 Try.underlying38 hi A n c (m : Int) (by omega) (by omega) h2 W
  rwa [Int.toNat_natCast] at this
abbrev kRow : Kd (List It) := Kd.slice 45 kIt
set_option maxHeartbeats 16000000 in
theorem logged.calls (A : Option Addr) (c : Nat) (l : List (List It)) (kp tn : Int) (w : World) (hC : Kd.C kRow w A l.length l) (hc : l.length ≤ c) :
    Calls Try.prog 3 #[.slice A l.length c, .agg #[.int .u64 kp, .int .i64 tn]] w (fun e w' => e = .returned (.bool true) ∧ Below w.heap.size w w') := by
  obtain ⟨Q, hQ⟩ : ∃ Q : Ending → World → Prop, (fun (e : Ending) (w' : World) => e = .returned (.bool true) ∧ Below w.heap.size w w') = Q := ⟨_, rfl⟩
  rw [hQ]
  have HQ := Aside0.mk hQ
  clear hQ
  obtain ⟨base, hbase⟩ : ∃ base, w.heap.size = base := ⟨_, rfl⟩
  obtain ⟨n, hn⟩ : ∃ n, l.length = n := ⟨_, rfl⟩
  obtain ⟨w1, hw1⟩ : ∃ w1, w.alloc (.cells #[.int .u64 kp, .int .i64 tn] 25) = w1 := ⟨_, rfl⟩
  have hb1 : Below base w w1 := by rw [← hw1]; exact (Below.refl _ w).alloc (by omega) _
  have hf1 : w1.heap[base]? = some (.cells #[.int .u64 kp, .int .i64 tn] 25 (0, 0)) := by rw [← hw1, ← hbase]; exact World.alloc_heap_new w _
  have hz1 : w1.heap.size = base + 1 := by rw [← hw1]; simp [hbase]
  have HB1 := Aside0.mk hb1
  have HF1 := Aside0.mk hf1
  have HC := Aside0.mk hC
  have HS := Aside0.mk (nautilustop_shownTables.calls true w1 shown_true)
  have HN := Aside0.mk hn
  rw [hn]
  clear hb1 hf1 hC hc
  go_enter Try.func3, Try.ntmps3
  go_wp2_with fail
  refine HS.out.mono ?_
  rintro e w2 ⟨rfl, hb2⟩
  have HB2 := Aside0.mk hb2
  have HNEW := Aside0.mk (dnew.calls w2)
  clear hb2 HS
  go_wp2_with fail
  refine HNEW.out.mono ?_
  rintro e w3 ⟨D, g1, g2, rfl, hD, hb3, l1, l2, l3⟩
  have HBEG := Aside0.mk (lbegin.calls w3 hD)
  have HB3 := Aside0.mk (And.intro hb3 (And.intro l1 (And.intro l2 l3)))
  have HD3 := Aside0.mk hD
  clear hD hb3 l1 l2 l3 HNEW
  go_wp2_with fail
  refine HBEG.out.mono ?_
  rintro e w4 ⟨L, rfl, hL, hb4, l4⟩
  have T0 := Aside0.mk (show TSt base base L D g1 g2 w kp tn 16 1 2 (List.replicate 256 zero512) [] [] (.slice none 0 0) (.slice none 0 0) w4 ∧ PInv 2 16 2 (List.replicate 256 zero512) [] from by
    have s1 : base ≤ w1.heap.size := by omega
    have s2 := HB2.out.size
    have s3 := HB3.out.1.size
    obtain ⟨l1, l2, l3⟩ := HB3.out.2
    have b3 := (HB1.out.trans (HB2.out.mono s1)).trans (HB3.out.1.mono (by omega))
    exact ⟨⟨b3.trans (hb4.mono (by omega)), by have := hb4.size; omega, ⟨by omega, by omega, by omega, by omega⟩,
      (hb4.block _ (by omega)).trans ((HB3.out.1.block _ (by omega)).trans ((HB2.out.block _ (by omega)).trans HF1.out)), hL, HD3.out.still hb4, Kd.R_nil _ _ _ _ _, Kd.R_nil _ _ _ _ _⟩, PInv.start _ List.length_replicate⟩)
  clear hL hb4 l4 HBEG HB3 HD3 HB2 HB1 HF1
  go_upto_block 0 with (fail)
  go_cut [10, 11] from 23 (fun s10 s11 wc => ∃ (b p next : Nat) (seq : Int) (nw : List ByteArray) (pl : List (Nat × ByteArray)) (vA vW : Value), vA = s10 ∧ vW = s11 ∧ Aside0 (TSt base base L D g1 g2 w kp tn p seq next nw (pl.map fun x => ((x.1 : Nat) : Int)) (pl.map Prod.snd) vA vW wc ∧ PInv b p next nw pl ∧ pl.length ≤ 160))
  case first =>
    go_wp2_with fail
    go_loopg [10, 11, 12] 8 (fun gg s10 s11 s12 wr => ∃ (i p next : Nat) (seq : Int) (nw : List ByteArray) (pl : List (Nat × ByteArray)) (vA vW : Value), s12 = .int .i64 (i : Int) ∧ vA = s10 ∧ vW = s11 ∧ i + gg = 8 ∧ Aside0 (TSt base base L D g1 g2 w kp tn p seq next nw (pl.map fun x => ((x.1 : Nat) : Int)) (pl.map Prod.snd) vA vW wr ∧ PInv (2 + i) p next nw pl ∧ (1 ≤ seq ∧ seq ≤ 1 + i ∧ pl.length ≤ 20 * i)))
    case atStart => exact ⟨0, 16, 2, 1, _, [], _, _, rfl, rfl, rfl, by omega, ⟨T0.out.1, T0.out.2, by omega, by omega, by simp⟩⟩
    case round =>
      obtain ⟨i, p, next, seq, nw, pl, vA, vW, rfl, rfl, rfl, hi, T⟩ := hrel
      clear T0
      by_cases hin : i < n
      · have hd1 : decide ((i : Int) < (n : Int)) = true := decide_eq_true (by omega)
        have hd1' : decide (i < n) = true := decide_eq_true hin
        by_cases hi8 : i < 8
        · have hd2 : decide ((i : Int) < 8) = true := decide_eq_true (by omega)
          have hd2' : decide (i < 8) = true := decide_eq_true hi8
          have HNX := Aside0.mk (lnext.calls wr T.out.1.lg)
          go_wp2_with fail
          refine HNX.out.mono ?_
          rintro e w5 ⟨rfl, hw5⟩
          obtain rfl := hw5.symm
          clear hw5 HNX
          go_upto_if 47 with (fail)
          go_cut [] from 45 to 51 (fun wc => ∃ next' : Nat, next' ≠ 0 ∧ Aside0 (TSt base base L D g1 g2 w kp tn p seq next' nw (pl.map fun x => ((x.1 : Nat) : Int)) (pl.map Prod.snd) vA vW wc ∧ PInv (2 + i + 1) p next' nw pl))
          case first =>
            by_cases h0 : next = 0
            · subst h0
              have HSN := Aside0.mk (lsetnext.calls wr T.out.1.lg T.out.1.d (3 + (i : Int)) (by omega) (by omega))
              have T5 := Aside0.mk (show TSt base base L D g1 g2 w kp tn p seq (3 + i) nw (pl.map fun x => ((x.1 : Nat) : Int)) (pl.map Prod.snd) vA vW (wr.setCell ⟨L, 3, none⟩ (.int .i64 (3 + (i : Int)))) ∧ PInv (2 + i + 1) p (3 + i) nw pl from by
                have hlf := LFr.set L 3 (.int .i64 (3 + (i : Int))) wr
                have hlg := T.out.1.lg.set3 (3 + (i : Int))
                rw [show (3 + (i : Int)) = ((3 + i : Nat) : Int) by omega] at hlg hlf ⊢
                have hp := T.out.2.1.next
                rw [show 2 + i + 1 = 3 + i by omega] at hp ⊢
                exact ⟨T.out.1.xfr (XFr.setn L D g1 g2 wr _) hlg (disk_far T.out.1.d hlf ⟨L_ne T.out.1.lg T.out.1.d, by simp [Value.ownBlock]⟩), hp⟩)
              go_wp2_with fail
              refine HSN.out.mono ?_
              rintro e w6 ⟨rfl, rfl⟩
              clear HSN
              go_wp2_with fail
              go_meet
              case rel => exact ⟨3 + i, by omega, T5⟩
            · have hnz : ((next : Int) == 0) = false := by simp; omega
              have hnz' : (next == 0) = false := by simpa using h0
              have T5 := Aside0.mk (And.intro T.out.1 T.out.2.1.up)
              go_wp2_with fail
              go_meet
              case rel => exact ⟨next, h0, T5⟩
          case rest =>
            obtain ⟨next', hnn, T5⟩ := hcut
            have TS := Aside0.mk T.out.2.2
            clear T
            obtain ⟨ad, cs, rfl, hcl, hK, hcell⟩ := Kd.C_get HC.out [] (i : Int) (by omega) (by rw [HN.out]; omega)
            rw [Int.toNat_natCast] at hK hcell
            obtain ⟨rec, hrec⟩ : ∃ rec, l.getD i [] = rec := ⟨_, rfl⟩
            rw [hrec] at hK
            obtain ⟨A', c', rfl, hlc, hCr⟩ := hK
            have hce : wc.cell? (ad.add i) = some (.slice A' rec.length c') := by
              have := hcell 0 _ rfl
              rw [show i * (Kd.slice 45 kIt).sz + 0 = i by show i * 1 + 0 = i; omega] at this
              exact (T5.out.1.below.cell (by rw [← hbase]; exact World.block_lt_of_cell? w _ this)).trans this
            obtain ⟨m, hm⟩ : ∃ m, rec.length = m := ⟨_, rfl⟩
            obtain ⟨m1, hm1⟩ : ∃ m1, min m 20 = m1 := ⟨_, rfl⟩
            have hmin : (if (20 : Int) < (m : Int) then (20 : Int) else (m : Int)) = (m1 : Int) := by split <;> omega
            have hCR := Aside0.mk hCr
            have hMM := Aside0.mk (show m1 ≤ m ∧ m1 ≤ 20 ∧ m ≤ c' from by omega)
            have hc1 := itCut A' m c' m1 hMM.out.1 hMM.out.2.2
            have HRM := Aside0.mk hm
            have hi0 : (0 : Int) ≤ (i : Int) := by omega
            have hin1 : (i : Int) < (n : Int) := by omega
            rw [hm] at hce
            have HCI := Aside0.mk (show ∀ W, Below base w W → Kd.C kIt W A' rec.length rec from fun W hb => Kd.C_below hCR.out (by rw [hbase]; exact hb))
            clear hcl hcell hCr hlc hm hm1 hrec
            go_wp2_with fail
            go_quiet (fail)
            obtain ⟨w6, hw6⟩ : ∃ w6, wc.drewN nq = w6 := ⟨_, rfl⟩
            have hb6 : Below wc.heap.size wc w6 := by rw [← hw6]; exact pw_below_drewN (Below.refl _ _) nq
            rw [hw6]
            have T6 := Aside0.mk (And.intro (T5.out.1.still hb6) T5.out.2)
            have C6 := Aside0.mk (HCI.out w6 T6.out.1.below)
            have HROOM := Aside0.mk (lroom.calls p w6 T6.out.1.lg)
            clear hb6 hw6 T5 hCR hmin hc1 hce
            go_wp2_with fail
            refine HROOM.out.mono ?_
            rintro e w7 ⟨rfl, hd7⟩
            obtain ⟨q7, rfl⟩ := hd7.out
            obtain ⟨w7, hw7⟩ : ∃ w7, w6.drewN q7 = w7 := ⟨_, rfl⟩
            have hb7 : Below w6.heap.size w6 w7 := by rw [← hw7]; exact pw_below_drewN (Below.refl _ _) q7
            rw [hw7]
            obtain ⟨rm, hrm⟩ : ∃ rm, 15 - p % 16 = rm := ⟨_, rfl⟩
            rw [hrm]
            obtain ⟨m2, hm2⟩ : ∃ m2, min m1 rm = m2 := ⟨_, rfl⟩
            have hmin2 : (if (rm : Int) < (m1 : Int) then (rm : Int) else (m1 : Int)) = (m2 : Int) := by split <;> omega
            have hmin3 : (if rm < m1 then (rm : Int) else (m1 : Int)) = (m2 : Int) := by split <;> omega
            have hc2 := itCut A' m1 c' m2 (by omega) (by have := hMM.out; omega)
            have HM2 := Aside0.mk (show m2 ≤ m1 ∧ m2 ≤ rm from by omega)
            have HRR := Aside0.mk hrm
            have T7 := Aside0.mk (And.intro (T6.out.1.still hb7) T6.out.2)
            have hil : (rec.take m2).length = m2 := by rw [List.length_take, HRM.out]; have := hMM.out; omega
            have C7 := Aside0.mk (show Kd.C kIt w7 A' (rec.take m2).length (rec.take m2) from Kd.C_take (Kd.C_below C6.out hb7) (by rw [HRM.out]; have := hMM.out; omega))
            have HWR := Aside0.mk (lwrite.calls w7 (WIn.mk (seq := seq) (p := p) (next := next') (nw := nw) (A := A') (c := c') (l := rec.take m2) (L := L) (D := D) (g1 := g1) (g2 := g2) T7.out.1.lg T7.out.1.d C7.out
              (by rw [hil]; have := hMM.out; omega) (by rw [hil, hrm]; omega) T7.out.2.low (by have := T7.out.2.high; omega) (by omega) (by have := T7.out.2.nb; omega) TS.out.1 (by have := TS.out.2.1; omega)))
            rw [hil] at HWR
            have HIL := Aside0.mk hil
            clear hb7 hw7 hd7 hm2 hrm hil T6 C6 HROOM
            go_wp2_with fail
            refine HWR.out.mono ?_
            rintro e w8 hpost
            clear HWR
            rcases hpost with ⟨er, her, rfl, hb8⟩ | ⟨vK, t, rfl, hsz, hK, hlg, hdk, hfr⟩
            · have her1 : (er == 0) = false := by simpa using her
              have her2 : (er != 0) = true := by simpa using her
              have T8 := Aside0.mk (And.intro (T7.out.1.still hb8) T7.out.2)
              have ew : IntKind.i64.wrap ((i : Int) + 1) = ((i : Int) + 1) := by rw [IntKind.wrap_i64]; omega
              clear hb8 T7
              go_wp2_with fail
              go_roundg (8 - (i + 1))
              case rel => exact ⟨i + 1, _, _, _, _, _, _, _, by first | rfl | (rw [ew]; rfl), rfl, rfl, by omega, ⟨T8.out.1, by rw [show 2 + (i + 1) = 2 + i + 1 by omega]; exact T8.out.2, by have := TS.out; omega, by have := TS.out; omega, by have := TS.out; omega⟩⟩
              case measure => omega
            · rw [HIL.out] at hK hlg
              obtain ⟨cs, hcs⟩ : ∃ cs, (rec.take m2).map Prod.snd = cs := ⟨_, rfl⟩
              have hcl : cs.length = m2 := by rw [← hcs, List.length_map]; exact HIL.out
              have hsz' : ∀ c ∈ cs, c.size ≤ 508 := fun c hc => by
                rw [← hcs] at hc
                obtain ⟨x, hx, rfl⟩ := List.mem_map.1 hc
                exact hsz x hx
              rw [show ((rec.take m2).map fun x => wrapB x.2) = cs.map wrapB by rw [← hcs, List.map_map]; rfl] at hdk
              have P8 := T7.out.2.wrote hnn (by omega) cs (by rw [hcl, HRR.out]; exact HM2.out.2) hsz' t
              rw [hcl] at P8
              obtain ⟨nw8, hnw8⟩ : ∃ nw8, (putAll nw (p + 1) (cs.map wrapB)).set p t = nw8 := ⟨_, rfl⟩
              rw [hnw8] at hdk P8
              obtain ⟨p8, hp8⟩ : ∃ p8, goesAt p m2 next' = p8 := ⟨_, rfl⟩
              obtain ⟨n8, hn8⟩ : ∃ n8, goesNext p m2 next' = n8 := ⟨_, rfl⟩
              rw [hp8, hn8] at hlg P8
              obtain ⟨ats, hats⟩ : ∃ ats, pl.map (fun x => ((x.1 : Nat) : Int)) = ats := ⟨_, rfl⟩
              obtain ⟨ws, hws⟩ : ∃ ws, pl.map Prod.snd = ws := ⟨_, rfl⟩
              have T8' := T7.out.1.xfr hfr hlg hdk
              have K8' := K_start hK T7.out.1.a
              rw [hats, hws] at T8'
              obtain ⟨AK, cK, rfl⟩ := Kd.R_slice K8'
              rw [atsL_len] at K8'
              rw [atsL_len]
              obtain ⟨kb, hkb⟩ : ∃ kb, w7.heap.size = kb := ⟨_, rfl⟩
              rw [hkb] at K8'
              have hm215 : m2 ≤ 15 := by have := HM2.out; have := HRR.out; omega
              have hal : ats.length ≤ 160 := by rw [← hats, List.length_map]; have := TS.out; omega
              have hwl : ws.length ≤ 160 := by rw [← hws, List.length_map]; have := TS.out; omega
              have hpp : p ≤ 255 := by have := T7.out.2.high; omega
              have T8 := Aside0.mk (show TSt base base L D g1 g2 w kp tn p8 (seq + 1) n8 nw8 (ats ++ (atsL p m2).take 0) (ws ++ cs.take 0) vA vW w8 ∧ Kd.R (Kd.int .i64) 3 w8 kb (fun k => some k ≠ vA.ownBlock) (.slice AK m2 cK) (atsL p m2) from ⟨by simpa using T8', K8'⟩)
              have PA := Aside0.mk (show pl.map (fun x => ((x.1 : Nat) : Int)) = ats ∧ pl.map Prod.snd = ws ∧ PInv (2 + i + 1) p8 n8 nw8 (pl ++ newP (p + 1) cs) from ⟨hats, hws, P8⟩)
              have HCS := Aside0.mk (And.intro hcs hcl)
              have HAL := Aside0.mk (And.intro hal (And.intro hwl (And.intro hm215 hpp)))
              clear hK hlg hcs hcl hsz hsz' hdk P8 hnw8 hp8 hn8 hats hws T8' K8' hkb hfr hal hwl T7 C7 hmin2 hmin3 hc2
              go_wp2_with fail
              go_loopg [10, 11, 16] m2 (fun gg s10 s11 s16 wq => ∃ (j : Nat) (vA2 vW2 : Value), s16 = .int .i64 (j : Int) ∧ vA2 = s10 ∧ vW2 = s11 ∧ j + gg = m2 ∧ Aside0 (TSt base base L D g1 g2 w kp tn p8 (seq + 1) n8 nw8 (ats ++ (atsL p m2).take j) (ws ++ cs.take j) vA2 vW2 wq ∧ Kd.R (Kd.int .i64) 3 wq kb (fun k => some k ≠ vA2.ownBlock) (.slice AK m2 cK) (atsL p m2)))
              case atStart => exact ⟨0, _, _, rfl, rfl, rfl, by omega, T8⟩
              case round =>
                obtain ⟨j, vA2, vW2, rfl, rfl, rfl, hj, U⟩ := hrel
                clear T8
                by_cases hjm : j < m2
                · have hd3 : decide ((j : Int) < (m2 : Int)) = true := decide_eq_true (by omega)
                  have hd3' : decide (j < m2) = true := decide_eq_true hjm
                  have hj0 : (0 : Int) ≤ (j : Int) := by omega
                  have hj1 : (j : Int) < (m2 : Int) := by omega
                  obtain ⟨adK, rfl, gK⟩ := Kd.at_int (Kd.R_reads' U.out.2).2.2 (j : Int) hj0 (by rw [atsL_len]; exact hj1)
                  have eK : rd (atsL p m2) (j : Int) = (p : Int) + 1 + (j : Int) := by
                    unfold rd atsL
                    rw [Int.toNat_natCast, List.getD_eq_getElem?_getD, List.getElem?_map, List.getElem?_range hjm]; rfl
                  rw [eK, Int.toNat_natCast] at gK
                  have hjr : j < rec.length := by rw [HRM.out]; have := HM2.out; have := hMM.out; omega
                  obtain ⟨x, hx⟩ : ∃ x, rec[j]? = some x := ⟨_, List.getElem?_eq_getElem hjr⟩
                  obtain ⟨ad', rfl, -⟩ := at_It (HCI.out _ U.out.1.below) j x hx
                  obtain ⟨ct, hct⟩ : ∃ ct, x.2 = ct := ⟨_, rfl⟩
                  have CT := Aside0.mk (show ∀ W, Below base w W → W.cell? ⟨(ad'.add (j * 5)).block, (ad'.add (j * 5)).off + 4, none⟩ = some (.string ct) from fun W hb => by
                    obtain ⟨ad2, e2, _, _, _, _, i4⟩ := at_It (HCI.out W hb) j x hx
                    injection e2 with e2
                    rw [e2, i4, hct])
                  have hcj : cs[j]? = some ct := by rw [← HCS.out.1, List.getElem?_map, List.getElem?_take_of_lt hjm, hx, ← hct]; rfl
                  have HCJ := Aside0.mk hcj
                  clear eK hjr hx hct hcj
                  go_wp2_with (first
                    | ((with_reducible refine gateD (b := .append) (xs := #[.tmp 89, .tmp 94]) rfl ?_); at_builtin; refine Aside0.out ?_))
                  refine ⟨?_⟩
                  refine Kd.R_append (Kd.int .i64) (w0 := w) base rfl (.tmp 89) (.tmp 94) 34 3 (.int .i64 0) 8 rfl Try.underlying34 sInt rfl (by decide) (by omega) vA2 (ats ++ (atsL p m2).take j) ((p : Int) + 1 + (j : Int)) [.int .i64 ((p : Int) + 1 + (j : Int))] anyK (fun _ => False) rfl rfl rfl (fun _ hk => hk.elim) (fun _ _ => trivial) U.out.1.a U.out.1.below U.out.1.size (by rw [List.length_append, List.length_take, atsL_len]; have := HAL.out; omega) ?_
                  intro vA3 w9 ho hb hg hat
                  have eA : (ats ++ (atsL p m2).take j) ++ [(p : Int) + 1 + (j : Int)] = ats ++ (atsL p m2).take (j + 1) := by
                    rw [List.append_assoc, List.take_add_one, show (atsL p m2)[j]? = some ((p : Int) + 1 + (j : Int)) by unfold atsL; rw [List.getElem?_map, List.getElem?_range hjm]; rfl]; rfl
                  rw [eA] at ho
                  have U9 := Aside0.mk (And.intro (U.out.1.appA ho hb hg) (K_app U.out.2 hg hat))
                  have i4 := CT.out w9 U9.out.1.below
                  have HG9 := Aside0.mk (show ∀ k, w9.heap.size ≤ k → okW g1 g2 k from fun k hk => by have := U9.out.1.d.lt; exact ⟨by omega, by omega⟩)
                  clear ho hb hg hat eA U gK
                  go_wp2_with (first
                    | ((with_reducible refine gateD (b := .append) (xs := #[.tmp 96, .tmp 102]) rfl ?_); at_builtin; refine Aside0.out ?_))
                  refine ⟨?_⟩
                  refine Kd.R_append Kd.string (w0 := w) base rfl (.tmp 96) (.tmp 102) 35 9 (.string ⟨#[]⟩) 16 rfl Try.underlying35 infoS3 rfl (by decide) (by omega) vW2 (ws ++ cs.take j) ct [.string ct] (okW g1 g2) (fun _ => False) rfl rfl rfl (fun _ hk => hk.elim) HG9.out U9.out.1.b U9.out.1.below U9.out.1.size (by rw [List.length_append, List.length_take]; have := HAL.out; omega) ?_
                  intro vW3 w10 ho hb hg hat
                  have eW : (ws ++ cs.take j) ++ [ct] = ws ++ cs.take (j + 1) := by
                    rw [List.append_assoc, List.take_add_one, HCJ.out]; rfl
                  rw [eW] at ho
                  obtain ⟨io, hio⟩ := Kd.R_own U9.out.1.b
                  have U10 := Aside0.mk (And.intro (U9.out.1.appW ho hb hg) (R_other U9.out.2 hio (by decide) hg))
                  have ew : IntKind.i64.wrap ((j : Int) + 1) = ((j : Int) + 1) := by rw [IntKind.wrap_i64]; have := HAL.out; omega
                  clear ho hb hg hat eW hio U9 HG9 i4 CT
                  go_wp2_with fail
                  go_roundg (m2 - (j + 1))
                  case rel => exact ⟨j + 1, _, _, by first | rfl | (rw [ew]; rfl), rfl, rfl, by omega, U10⟩
                  case measure => omega
                · have hd3 : decide ((j : Int) < (m2 : Int)) = false := decide_eq_false (by omega)
                  have hd3' : decide (j < m2) = false := decide_eq_false hjm
                  have ew : IntKind.i64.wrap ((i : Int) + 1) = ((i : Int) + 1) := by rw [IntKind.wrap_i64]; omega
                  have T11 := Aside0.mk (show TSt base base L D g1 g2 w kp tn p8 (seq + 1) n8 nw8 ((pl ++ newP (p + 1) cs).map fun x => ((x.1 : Nat) : Int)) ((pl ++ newP (p + 1) cs).map Prod.snd) vA2 vW2 wr from by
                    have h := U.out.1
                    rw [List.take_of_length_le (by rw [atsL_len]; omega), List.take_of_length_le (by rw [HCS.out.2]; omega)] at h
                    rw [List.map_append, List.map_append, newP_fst, newP_snd, PA.out.1, PA.out.2.1, HCS.out.2]
                    exact h)
                  have hpl : (pl ++ newP (p + 1) cs).length ≤ 20 * (i + 1) := by rw [List.length_append, newP_len, HCS.out.2]; have := TS.out; have := HAL.out; omega
                  have HPL := Aside0.mk hpl
                  clear hpl U
                  go_wp2_with fail
                  go_roundg (8 - (i + 1))
                  case rel => exact ⟨i + 1, _, _, _, _, _, _, _, by first | rfl | (rw [ew]; rfl), rfl, rfl, by omega, ⟨T11.out, by rw [show 2 + (i + 1) = 2 + i + 1 by omega]; exact PA.out.2.2, by have := TS.out; omega, by have := TS.out; omega, HPL.out⟩⟩
                  case measure => omega
        · have hd2 : decide ((i : Int) < 8) = false := decide_eq_false (by omega)
          have hd2' : decide (i < 8) = false := decide_eq_false hi8
          go_wp2_with fail
          go_meet
          case rel => exact ⟨_, _, _, _, _, _, _, _, rfl, rfl, ⟨T.out.1, T.out.2.1, by have := T.out.2.2.2.2; omega⟩⟩
      · have hd1 : decide ((i : Int) < (n : Int)) = false := decide_eq_false (by omega)
        have hd1' : decide (i < n) = false := decide_eq_false hin
        go_wp2_with fail
        go_meet
        case rel => exact ⟨_, _, _, _, _, _, _, _, rfl, rfl, ⟨T.out.1, T.out.2.1, by have := T.out.2.2.2.2; omega⟩⟩
  case rest =>
    obtain ⟨b, p, next, seq, nw, pl, vA, vW, rfl, rfl, T⟩ := hcut
    clear T0
    have HCR := Aside0.mk (crash.calls kp tn wc T.out.1.d)
    have hfb := T.out.1.fb
    have f0 : wc.cell? ⟨base, 0, none⟩ = some (.int .u64 kp) := by rw [Lib.cell_of_heap hfb]; rfl
    have f1 : wc.cell? ⟨base, 1, none⟩ = some (.int .i64 tn) := by rw [Lib.cell_of_heap hfb]; rfl
    clear hfb
    go_wp2_with fail
    refine HCR.out.mono ?_
    rintro e w5 ⟨D', rfl, hR, hb5⟩
    have T5 := T.out.1.still hb5
    obtain ⟨AA, cA, rfl, hcA, hCA⟩ := Kd.R_reads T5.a
    obtain ⟨AW, cW, rfl, hcW, hCW⟩ := Kd.R_reads T5.b
    obtain ⟨N, hN⟩ : ∃ N, pl.length = N := ⟨_, rfl⟩
    have lA : (pl.map fun x => ((x.1 : Nat) : Int)).length = N := by rw [List.length_map]; exact hN
    have lW : (pl.map Prod.snd).length = N := by rw [List.length_map]; exact hN
    rw [lA, lW]
    have HB5 := Aside0.mk T5.below
    have HR5 := Aside0.mk hR
    have HSZ := Aside0.mk T5.size
    have HAA := Aside0.mk (And.intro hCA hCW)
    have HLL := Aside0.mk (And.intro lA lW)
    have HP := Aside0.mk T.out.2.1
    have HNN := Aside0.mk (show pl.length = N ∧ N ≤ 160 from ⟨hN, by rw [← hN]; exact T.out.2.2⟩)
    clear hb5 hR T5 hcA hcW hCA hCW lA lW hN f0 f1 T HCR
    go_wp2_with fail
    go_loopg [18] N (fun gg s18 wr => ∃ i : Nat, s18 = .int .i64 (i : Int) ∧ i + gg = N ∧ Aside0 (Below w5.heap.size w5 wr))
    case atStart => exact ⟨0, rfl, by omega, ⟨Below.refl _ _⟩⟩
    case round =>
      obtain ⟨i, rfl, hi, U⟩ := hrel
      by_cases hin : i < N
      · have hd1 : decide ((i : Int) < (N : Int)) = true := decide_eq_true (by omega)
        have hd1' : decide (i < N) = true := decide_eq_true hin
        have hi0 : (0 : Int) ≤ (i : Int) := by omega
        have hi1 : (i : Int) < (N : Int) := by omega
        have hil : i < pl.length := by rw [HNN.out.1]; exact hin
        obtain ⟨x, hx⟩ : ∃ x, pl[i]? = some x := ⟨_, List.getElem?_eq_getElem hil⟩
        obtain ⟨h1, h2, h3, _, _, _⟩ := HP.out.all x (List.mem_of_getElem? hx)
        obtain ⟨⟨q, ct⟩, rfl⟩ : ∃ y, x = y := ⟨_, rfl⟩
        simp only at h1 h2 h3
        obtain ⟨adA, rfl, gA⟩ := Kd.at_int (Kd.C_below HAA.out.1 U.out) (i : Int) hi0 (by rw [HLL.out.1]; exact hi1)
        obtain ⟨adW, rfl, gW⟩ := Kd.at_string (Kd.C_below HAA.out.2 U.out) (i : Int) hi0 (by rw [HLL.out.2]; exact hi1)
        have eA : rd (pl.map fun x => ((x.1 : Nat) : Int)) (i : Int) = (q : Int) := by
          unfold rd
          rw [Int.toNat_natCast, List.getD_eq_getElem?_getD, List.getElem?_map, hx]; rfl
        have eW : rdOf ByteArray.empty (pl.map Prod.snd) (i : Int) = ct := by
          unfold rdOf
          rw [Int.toNat_natCast, List.getD_eq_getElem?_getD, List.getElem?_map, hx]; rfl
        rw [eA, Int.toNat_natCast] at gA
        rw [eW, Int.toNat_natCast] at gW
        have HRD := Aside0.mk ((HR5.out.still U.out).read wr q h3 (wrapB ct) h2)
        have hs := padB_size ct h1
        have he := padB_cut ct
        have HUW := Aside0.mk (fun W => record_Unwrap.calls (wrapB ct) (padB ct) 0 W (unwrap_yes ct h1))
        obtain ⟨bl, hbl⟩ : ∃ bl, wrapB ct = bl := ⟨_, rfl⟩
        obtain ⟨s, hss⟩ : ∃ s, padB ct = s := ⟨_, rfl⟩
        rw [hbl] at HRD
        rw [hbl, hss] at HUW
        rw [hss] at hs he
        clear eA eW hil hx h2 hbl hss
        go_wp2_with fail
        refine HRD.out.mono ?_
        rintro e w6 ⟨rfl, hw6⟩
        obtain rfl := hw6.symm
        clear hw6 HRD
        go_wp2_with fail
        refine (HUW.out _).mono ?_
        rintro e w7 ⟨rfl, hd7⟩
        obtain ⟨q7, rfl⟩ := hd7.out
        obtain ⟨w7, hw7⟩ : ∃ w7, wr.drewN q7 = w7 := ⟨_, rfl⟩
        have hb7 : Below wr.heap.size wr w7 := by rw [← hw7]; exact pw_below_drewN (Below.refl _ _) q7
        rw [hw7]
        have gW7 : w7.cell? (adW.add i) = some (.string ct) := (hb7.cell (World.block_lt_of_cell? wr _ gW)).trans gW
        have U7 := Aside0.mk (U.out.trans (hb7.mono U.out.size))
        clear hb7 hw7 hd7 gW gA U HUW
        have hsn : ((s.size : Int) != 508) = false := by rw [hs]; rfl
        have hcs : ct.size ≤ s.size := by rw [hs]; exact h1
        go_wp2_with fail
        go_quiet (fail)
        have U8 := Aside0.mk (U7.out.trans ((pw_below_drewN (Below.refl _ w7) nq).mono U7.out.size))
        have ew : IntKind.i64.wrap ((i : Int) + 1) = ((i : Int) + 1) := by rw [IntKind.wrap_i64]; have := HNN.out.2; omega
        clear U7
        go_wp2_with fail
        go_roundg (N - (i + 1))
        case rel => exact ⟨i + 1, by first | rfl | (rw [ew]; rfl), by omega, U8⟩
        case measure => omega
      · have hd1 : decide ((i : Int) < (N : Int)) = false := decide_eq_false (by omega)
        have hd1' : decide (i < N) = false := decide_eq_false hin
        have hq : Q (.returned (.bool true)) wr := by
          rw [← HQ.out]
          exact ⟨rfl, by rw [hbase]; exact HB5.out.trans (U.out.mono HSZ.out)⟩
        have HQ2 := Aside0.mk hq
        clear hq U
        go_wp2_with fail
        first | exact HQ2.out | (go_ret; exact HQ2.out)
end Go.Proofs.Ythgefgjaihagoaa.Q
