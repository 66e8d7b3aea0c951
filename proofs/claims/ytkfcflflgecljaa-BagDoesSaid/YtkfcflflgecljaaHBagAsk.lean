/- nautiluslaw02.asks: a call that only asks; both answer alike. -/
import Derived.Test.YtkfcflflgecljaaHBagKeysS
import Derived.Test.YtkfcflflgecljaaHBagRefP
import Derived.Deep.QuietTactic
import Derived.BigQuiet
set_option linter.unusedVariables false
set_option linter.unusedSimpArgs false
namespace Go.Proofs.Ytkfcflflgecljaa.H
open Go.RowKit Go.Proofs.YtkfcflflgecljaaW.PrintWords Go.Proofs.YtkfcflflgecljaaW.PrintLast
set_option maxRecDepth 100000
/-- The reference's list lies apart from the bag. -/
def LisAt (w : World) (own : Own) (bb : Nat) (v : Value) (es : List EB) : Prop := Kd.R k88 88 w 0 (fun k => own k = none ∧ k ≠ bb) v (toE es)
theorem LisAt.frB {w w' : World} {own own' : Own} {bb : Nat} {v : Value} {es : List EB} (h : LisAt w own bb v es) (hF : FrB bb own own' w w') : LisAt w' own' bb v es :=
  Kd.R_mono (Kd.R_move (Kd.R_bound h) (fun k hk => hF.same k hk.2.2.1 hk.1.2 hk.1.1)) (fun k hk => ⟨(hF.keep k hk.2.2.1).trans hk.1.1, hk.1.2⟩)
theorem LisAt.still {w w' : World} {own : Own} {bb : Nat} {v : Value} {es : List EB} (h : LisAt w own bb v es) (hb : Below w.heap.size w w') : LisAt w' own bb v es := Kd.R_below h hb
theorem LisAt.fresh {base bb : Nat} {w0 w w' : World} {own : Own} {es es' : List EB} {v : Value} (h : FreshS base w0 w own bb es) (hR : Kd.R k88 88 w' w.heap.size (fun _ => True) v (toE es')) : LisAt w' own bb v es' := by
  obtain ⟨H, d, t, hB, he⟩ := h.is
  refine Kd.R_mono (Kd.R_lower (Kd.R_bound hR) (Nat.zero_le _)) fun k hk => ⟨?_, ?_⟩
  · cases ho : own k with
    | none => rfl
    | some o => have := hB.heap.lt k o ho; have := hk.2.1; omega
  · have := hB.lt; have := hk.2.1; omega
theorem LisAt.nil (w : World) (own : Own) (bb : Nat) : LisAt w own bb (.slice none 0 0) [] := Kd.R_nil _ _ _ _ _
theorem LisAt.reads {w : World} {own : Own} {bb : Nat} {v : Value} {es : List EB} (h : LisAt w own bb v es) : ∃ A c, v = .slice A (toE es).length c ∧ (toE es).length ≤ c ∧ Kd.C k88 w A (toE es).length (toE es) := Kd.R_reads h
theorem zgetSv {base bb : Nat} {w0 w : World} {own : Own} {es : List EB} (h : FreshS base w0 w own bb es) (at_ : Int) :
    Calls Try.prog 25 #[.pointer (some ⟨bb, 0, none⟩), .int .i64 at_] w (fun e w' => e = .returned (.tuple #[.string ((getL at_ es).getD ⟨#[]⟩), .bool (getL at_ es).isSome]) ∧ w' = w) := by
  refine (zgetS h at_).mono ?_
  rintro e w' ⟨rfl, rfl⟩
  refine ⟨?_, rfl⟩
  cases getL at_ es <;> rfl
theorem same_selfS (l : List Int) (hl : l.length ≤ 100000) : ∃ K, nautilusref02_Same.f K l l = some true := by
  have h : ∀ d j : Nat, j + d = l.length → ∃ K, nautilusref02_Same.l0 K l l (j : Int) = some true := fun d => by
    induction d with
    | zero =>
      intro j hj
      exact ⟨1, by rw [nautilusref02_Same.l0, if_neg (by omega)]⟩
    | succ d ih =>
      intro j hj
      obtain ⟨K, hK⟩ := ih (j + 1) (by omega)
      refine ⟨K + 1, ?_⟩
      rw [nautilusref02_Same.l0, if_pos (by omega), if_pos (by omega), if_pos (by omega), if_pos rfl, IntWalk.wrap64_in _ (by omega)]
      exact hK
  obtain ⟨K, hK⟩ := h l.length 0 (by omega)
  exact ⟨K, by unfold nautilusref02_Same.f; rw [if_pos rfl]; exact hK⟩
theorem keysL_leS (a lim : Int) (es : List EB) : (keysL a lim es).length ≤ es.length := by
  unfold keysL fr
  refine Nat.le_trans (List.length_filter_le _ _) ?_
  rw [List.length_map]; exact List.length_filter_le _ _
theorem cell_below {w w' : World} {a : Addr} {v : Value} (h : w.cell? a = some v) (hb : Below w.heap.size w w') : w'.cell? a = some v := (hb.cell (World.block_lt_of_cell? w _ h)).trans h
abbrev opC (k a b : Int) (s : ByteArray) : Array Value := #[.int .i64 k, .int .i64 a, .int .i64 b, .string s]
set_option maxHeartbeats 8000000 in
theorem asks.calls {base bb : Nat} {w0 : World} (w : World) {own : Own} {es : List EB} (h : FreshS base w0 w own bb es) (hl : es.length ≤ 1000) (v : Value) (hL : LisAt w own bb v es) (k a b : Int) (s : ByteArray) :
    Calls Try.prog 39 #[.pointer (some ⟨bb, 0, none⟩), v, .agg #[.int .i64 k, .int .i64 a, .int .i64 b, .string s]] w (fun e w' => e = .returned (.bool true) ∧ Below w.heap.size w w') := by
  obtain ⟨A, c, rfl, hc, hC⟩ := hL.reads
  obtain ⟨H, hH⟩ : ∃ H, w.heap.size = H := ⟨_, rfl⟩
  rw [hH]
  obtain ⟨Q, hQ⟩ : ∃ Q : Ending → World → Prop, (fun (e : Ending) (w' : World) => e = .returned (.bool true) ∧ Below H w w') = Q := ⟨_, rfl⟩
  rw [hQ]
  have HQ := Aside0.mk hQ
  obtain ⟨w1, hw1⟩ : ∃ w1, w.alloc (.cells #[.int .i64 k, .int .i64 a, .int .i64 b, .string s] 45) = w1 := ⟨_, rfl⟩
  have hb1 : Below H w w1 := by rw [← hw1]; exact (Below.refl H w).alloc (by omega) _
  have hbk : w1.heap[H]? = some (.cells #[.int .i64 k, .int .i64 a, .int .i64 b, .string s] 45 (0, 0)) := by
    rw [← hw1, ← hH]; show (w.heap.push _)[w.heap.size]? = _; exact Array.getElem?_push_size
  have c0 : w1.cell? ⟨H, 0, none⟩ = some (.int .i64 k) := by rw [Lib.cell_of_heap hbk]; rfl
  have c1 : w1.cell? ⟨H, 1, none⟩ = some (.int .i64 a) := by rw [Lib.cell_of_heap hbk]; rfl
  have c2 : w1.cell? ⟨H, 2, none⟩ = some (.int .i64 b) := by rw [Lib.cell_of_heap hbk]; rfl
  have HF := Aside0.mk (h.still (by rw [hH]; exact hb1))
  have HC := Aside0.mk (Kd.C_below hC (by rw [hH]; exact hb1))
  have HB1 := Aside0.mk hb1
  have HL := Aside0.mk hl
  have HCC := Aside0.mk hc
  have hsz1 : H ≤ w1.heap.size := by rw [← hH]; exact hb1.size
  have HSZ := Aside0.mk hsz1
  clear hQ h hL hC hb1 hbk hl hc hsz1
  go_enter Try.func39, Try.ntmps39
  by_cases h5 : k = 5
  · have k5 : (k == 5) = true := by simp [h5]
    clear h5
    go_wp2_with fail
    refine startL (fun W => W.cell? ⟨H, 1, none⟩ = some (.int .i64 a) ∧ W.cell? ⟨H, 2, none⟩ = some (.int .i64 b)) [] (by kernel_rfl) ?_
    change WalkL _ _ _ _ _ _ 14 #[false, false, false, false, false, false, false, false, false, false, false, false, false, false] _ _
    have hS : w1.drew.cell? ⟨H, 1, none⟩ = some (.int .i64 a) ∧ w1.drew.cell? ⟨H, 2, none⟩ = some (.int .i64 b) := ⟨c1, c2⟩
    have bd : Below w1.heap.size w1 w1.drew := pw_below_drewN (Below.refl _ w1) 1
    have F1 := HF.out.still bd
    refine pu 0 (.pointer (some ⟨bb, 0, none⟩)) hS rfl ?_
    refine pu 1 (.pointer (some ⟨H, 1, none⟩)) hS rfl ?_
    refine ld 2 (.int .i64 a) hS rfl ?_
    refine pu 3 (.pointer (some ⟨H, 2, none⟩)) hS rfl ?_
    refine ld 4 (.int .i64 b) hS rfl ?_
    refine pu 6 (.slice A (toE es).length c) hS rfl ?_
    refine pu 7 (.pointer (some ⟨H, 1, none⟩)) hS rfl ?_
    refine ld 8 (.int .i64 a) hS rfl ?_
    refine pu 9 (.pointer (some ⟨H, 2, none⟩)) hS rfl ?_
    refine ld 10 (.int .i64 b) hS rfl ?_
    refine co 5 24 29 #[.pointer (some ⟨bb, 0, none⟩), .int .i64 a, .int .i64 b] (zkeysS F1 (by have := HL.out; omega) a b) (by kernel_rfl) rfl ?_
    rintro e w2 ⟨A5, c5, rfl, hc5, hC5, hb2⟩
    have hS2 : w2.cell? ⟨H, 1, none⟩ = some (.int .i64 a) ∧ w2.cell? ⟨H, 2, none⟩ = some (.int .i64 b) := ⟨cell_below hS.1 hb2, cell_below hS.2 hb2⟩
    refine ⟨_, rfl, hS2, ?_⟩
    obtain ⟨K, hK⟩ := ref_keys es (by have := HL.out; omega) a b
    have hC2 := Kd.C_below (Kd.C_below HC.out bd) hb2
    refine co 11 30 59 #[.slice A (toE es).length c, .int .i64 a, .int .i64 b] (nautilusref02_Keys.calls K A c (toE es) a b _ w2 hC2 HCC.out hK) (by kernel_rfl) rfl ?_
    rintro e w3 ⟨v6, rfl, hR6, hb3⟩
    have hS3 : w3.cell? ⟨H, 1, none⟩ = some (.int .i64 a) ∧ w3.cell? ⟨H, 2, none⟩ = some (.int .i64 b) := ⟨cell_below hS2.1 hb3, cell_below hS2.2 hb3⟩
    refine ⟨_, rfl, hS3, ?_⟩
    obtain ⟨A6, c6, rfl, hc6, hC6⟩ := Kd.R_reads hR6
    obtain ⟨K2, hK2⟩ := same_selfS (keysL a b es) (by have := keysL_leS a b es; have := HL.out; omega)
    refine co 12 31 18 #[.slice A5 (keysL a b es).length c5, .slice A6 (keysL a b es).length c6] (nautilusref02_Same.calls K2 A5 c5 _ A6 c6 _ true w3 (Kd.C_below hC5 hb3) hc5 hC6 hc6 hK2) (by kernel_rfl) rfl ?_
    rintro e w4 ⟨rfl, hdr⟩
    obtain ⟨qn, rfl⟩ := hdr.out
    refine ⟨_, rfl, hS3, ?_⟩
    refine pu 13 (.bool true) hS3 rfl ?_
    have hfin : Below H w (w3.drewN qn) := by
      have h1 : Below H w w1.drew := HB1.out.trans (bd.mono HSZ.out)
      have h2 := h1.trans (hb2.mono HSZ.out)
      have h3 := h2.trans (hb3.mono (Nat.le_trans HSZ.out hb2.size))
      exact pw_below_drewN h3 qn
    have FIN := Aside0.mk hfin
    clear hS hS2 hS3 bd F1 hc5 hC5 hb2 hK hC2 hR6 hb3 hc6 hC6 hK2 hdr hfin
    refine doneL (by kernel_rfl) ?_ _
    go_wp2_with fail
    first | exact HQ.out ▸ ⟨rfl, FIN.out⟩ | (go_ret; rw [← HQ.out]; exact ⟨rfl, FIN.out⟩)
  · have k5 : (k == 5) = false := by simp [h5]
    clear h5
    by_cases h6 : k = 6
    · have k6 : (k == 6) = true := by simp [h6]
      clear h6
      obtain ⟨K, hK⟩ := ref_next es (by have := HL.out; omega) a
      have HNX := Aside0.mk (znextS HF.out a _ rfl)
      rw [show ((fr a es).head?.map Prod.fst) = nextLS a es from rfl] at hK
      obtain ⟨u, hu⟩ : ∃ u, (nextLS a es).getD 0 = u := ⟨_, rfl⟩
      obtain ⟨q, hq⟩ : ∃ q, (nextLS a es).isSome = q := ⟨_, rfl⟩
      rw [hu, hq] at hK
      have HNX2 := HNX.out
      rw [hu, hq] at HNX2
      have HNX := Aside0.mk HNX2
      have HK := Aside0.mk hK
      clear hu hq hK HNX2
      go_wp2_with fail
      refine HNX.out.mono ?_
      rintro e w2 ⟨rfl, hb2⟩
      have c1' := cell_below c1 hb2
      have HN2 := Aside0.mk (nautilusref02_Next.calls K A c (toE es) a u q w2 (Kd.C_below HC.out hb2) HCC.out HK.out)
      have HB2 := Aside0.mk (HB1.out.trans (hb2.mono HSZ.out))
      clear hb2 HNX HK
      go_wp2_with fail
      refine HN2.out.mono ?_
      rintro e w3 ⟨rfl, hdr⟩
      obtain ⟨qn, hqn⟩ := hdr.out
      have hfin := pw_below_drewN HB2.out qn
      rw [← hqn] at hfin
      have FIN := Aside0.mk hfin
      clear hdr hqn hfin HN2 HB2
      go_wp2_with fail
      first | exact HQ.out ▸ ⟨rfl, FIN.out⟩ | (go_ret; rw [← HQ.out]; exact ⟨rfl, FIN.out⟩)
    · have k6 : (k == 6) = false := by simp [h6]
      clear h6
      obtain ⟨K, hK⟩ := ref_get es (by have := HL.out; omega) a
      have hg := zgetSv HF.out a
      obtain ⟨u, hu⟩ : ∃ u, (getL a es).getD ⟨#[]⟩ = u := ⟨_, rfl⟩
      obtain ⟨q, hq⟩ : ∃ q, (getL a es).isSome = q := ⟨_, rfl⟩
      rw [hu, hq] at hK hg
      have HG := Aside0.mk hg
      have HN2 := Aside0.mk (nautilusref02_Get.calls K A c (toE es) a u q w1 HC.out HCC.out hK)
      clear hu hq hK hg
      go_wp2_with fail
      refine HG.out.mono ?_
      rintro e w' ⟨rfl, hw⟩; obtain rfl := hw.symm; clear hw HG
      go_wp2_with fail
      refine HN2.out.mono ?_
      rintro e w3 ⟨rfl, hdr⟩
      obtain ⟨qn, hqn⟩ := hdr.out
      have hfin := pw_below_drewN HB1.out qn
      rw [← hqn] at hfin
      have FIN := Aside0.mk hfin
      clear hdr hqn hfin HN2
      go_wp2_with fail
      first | exact HQ.out ▸ ⟨rfl, FIN.out⟩ | (go_ret; rw [← HQ.out]; exact ⟨rfl, FIN.out⟩)
end Go.Proofs.Ytkfcflflgecljaa.H
