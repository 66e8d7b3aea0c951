/- Keys and Next of a bag over string: the numbers from one on, in order. -/
import Derived.Test.YtkfcflflgecljaaHBagTellS
import Derived.Test.YtkfcflflgecljaaHBagZS
set_option linter.unusedVariables false
set_option linter.unusedSimpArgs false
namespace Go.Proofs.Ytkfcflflgecljaa.H
open Go.RowKit Go.Proofs.YtkfcflflgecljaaW.PrintWords Go.Proofs.YtkfcflflgecljaaW.PrintLast
attribute [local go_sem] Oper.semAt_some
set_option maxRecDepth 100000
theorem yieldAt_wideS {P : Program} {l : Nat} {args : Array Value} {W : World} {R : Ending → World → Prop} {n m : Nat} (h : YieldAt Fence.wide n P l args W R) : YieldAt Fence.wide m P l args W R := by
  obtain ⟨fn, tmps, a, b, hy, hR⟩ := h
  exact ⟨fn, tmps, a, b, hy, hR.1, fun c cs _ => hR.2 c cs (room_wide _)⟩
theorem tellS.all {own : Own} {H : HP ByteArray} (lp : Nat) (es0 : List (Int × ByteArray)) (J Jx : Nat → World → Prop) (a : Int) (hY : YldS own lp es0 J Jx) : ∀ d, ToldS own H lp es0 J Jx a d := fun d => by
  induction d with
  | zero => exact tellS_step lp es0 J Jx a hY 0 (fun d' h => absurd h (by omega))
  | succ d ih => exact tellS_step lp es0 J Jx a hY (d + 1) (fun d' h => (show d = d' by omega) ▸ ih)
def keyAtS (es : List (Int × ByteArray)) (k : Nat) : Int := (es[k]?.map Prod.fst).getD 0
set_option maxHeartbeats 4000000 in
theorem walkS_seq (nn : Nat) {own : Own} {H : HP ByteArray} (d lo : Nat) (t : Tr ByteArray) (a : Int) (w : World) (hH : Heap LS w own H) (ho : Ok H d lo t) (hr : Rise (ents d t)) (Bx Bf : Nat)
    (hx : w.heap[Bx]? = some (.cells #[.pointer (some ⟨t.a, 0, none⟩)] 66 (0, 0))) (hf : w.heap[Bf]? = some (.cells #[.int .i64 a] 2 (0, 0))) :
    SeqN Fence.wide nn Try.prog 62 #[.pointer (some ⟨Bx, 0, none⟩), .pointer (some ⟨Bf, 0, none⟩)] (fun k => #[.int .i64 (keyAtS (fr a (ents d t)) k)]) (fun _ => False) (fun _ => False) (fun j => own j ≠ none) (fr a (ents d t)).length w := fun lp J Jx W hW hJ hJx hY h0 => by
  have hHW : Heap LS W own H := hH.below hW
  have kx : W.cell? ⟨Bx, 0, none⟩ = some (.pointer (some ⟨t.a, 0, none⟩)) := by
    rw [Lib.cell_of_heap ((hW.block Bx (Array.getElem?_eq_some_iff.1 hx).1).trans hx)]; rfl
  have kf : W.cell? ⟨Bf, 0, none⟩ = some (.int .i64 a) := by
    rw [Lib.cell_of_heap ((hW.block Bf (Array.getElem?_eq_some_iff.1 hf).1).trans hf)]; rfl
  obtain ⟨es0, hes0⟩ : ∃ es0, fr a (ents d t) = es0 := ⟨_, rfl⟩
  rw [hes0] at hY ⊢
  have hYl : YldS own lp es0 J Jx := fun k e W1 hk hJk m => by
    have h := hY k W1 (List.getElem?_eq_some_iff.1 hk).1 hJk
    simp only [keyAtS, hk, Option.map_some, Option.getD_some] at h
    exact yieldAt_wideS h
  have ht := tellS.all (H := H) lp es0 J Jx a hYl d (nn - 1) lo t [] [] W ho hr (by rw [← hes0]; simp) hHW h0
  rw [hes0] at ht
  simp only [List.length_nil, Nat.zero_add] at ht
  have HT := Aside0.mk ht
  generalize t.a = x at kx HT
  clear hW hJ hJx hY h0 hHW hYl ht hx hf hH
  refine callsIn_of_wp Try.func62 rfl trivial ?_ rfl
  simp only [Try.ntmps62, List.size_toArray, List.length_cons, List.length_nil, Nat.reduceAdd, Nat.reduceSub, Array.replicate_succ, Array.replicate_zero, List.push_toArray, List.append_toArray, List.nil_append, List.cons_append]
  gi_wp2_with fail
  refine ⟨trivial, wide_okS nn, HT.out.mono ?_⟩
  rintro e w' (⟨rfl, hJ', _⟩ | ⟨rfl, k, hk, hJx'⟩)
  · gi_wp2_with fail
    go_end0
    exact ⟨⟨_, rfl⟩, .inl hJ'⟩
  · gi_wp2_with fail
    go_end0
    exact ⟨⟨_, rfl⟩, .inr ⟨k, hk, hJx'⟩⟩
theorem walkS.calls (x : Nat) (a : Int) (w : World) : Calls Try.prog 42 #[.pointer (some ⟨x, 0, none⟩), .int .i64 a] w fun e w' =>
    e = .returned (.func (.func 62) #[] #[.pointer (some ⟨w.heap.size, 0, none⟩), .pointer (some ⟨w.heap.size + 1, 0, none⟩)]) ∧
      w' = (w.alloc (.cells #[.pointer (some ⟨x, 0, none⟩)] 66)).alloc (.cells #[.int .i64 a] 2) := by
  go_enter Try.func42, Try.ntmps42
  go_wp2
  first | go_ret | skip
  exact ⟨rfl, rfl⟩
theorem infoKS : (Try.prog.info? 2).map (fun i => (i.zero, i.size, i.bytes)) = some (some (.int .i64 0), 1, 8) := by kernel_rfl
theorem keyAtS_get {es : List (Int × ByteArray)} {k : Nat} (h : k < es.length) : ∃ e, es[k]? = some e ∧ e.1 = keyAtS es k ∧ es.take (k + 1) = es.take k ++ [e] := by
  refine ⟨es[k], List.getElem?_eq_getElem h, ?_, List.take_succ_eq_append_getElem h⟩
  unfold keyAtS; rw [List.getElem?_eq_getElem h]; rfl
theorem row_lowerS {W : World} {base base' : Nat} {e : TypeId} {size n : Nat} {v : Value} {xs : List Value} (h : W.ownsRow base e size v n xs) (hb : base' ≤ base) : W.ownsRow base' e size v n xs := row_lower h hb
theorem kAS {w : World} {k : Nat} {o : Obj} (h : w.heap[k]? = some o) (o' : Obj) : (w.alloc o').heap[k]? = some o := (Below.heap_alloc _ _ _ (Array.getElem?_eq_some_iff.1 h).1).trans h
/-- What a round of Keys keeps. -/
structure KeysInS (es : List (Int × ByteArray)) (lim : Int) (A : Nat) (w : World) (k : Nat) (W : World) : Prop where
  all : ∀ e ∈ es.take k, e.1 < lim
  out : ∃ v, Boxed W (A + 1) 22 v ∧ W.ownsRow (A + 6) 2 1 v (es.take k).length ((es.take k).map fun e => Value.int .i64 e.1)
  lim : Boxed W A 2 (.int .i64 lim)
  below : Below A w W
/-- Where a round leaves. -/
structure KeysXS (es : List (Int × ByteArray)) (lim : Int) (A : Nat) (w : World) (c : Code) (k' : Nat) (W : World) : Prop where
  code : c = .exit 0
  at_ : ∃ k e, k' = k + 1 ∧ KeysInS es lim A w k W ∧ es[k]? = some e ∧ lim ≤ e.1
theorem KeysInS.stands {own T} (es : List (Int × ByteArray)) (lim : Int) (A : Nat) (w : World) (k : Nat) (hA : A ≤ w.heap.size) (h0 : ∀ j, own j → A + 4 ≤ j ∧ j < A + 6) : Stands own T (KeysInS es lim A w k) := fun B C h ht =>
  ⟨h.all, (stands_ex fun v => (stands_box _ _ _ (fun e => by have := h0 _ e; omega)).and (stands_row fun j hj => (h0 j hj).2)) B C h.out ht, stands_box _ _ _ (fun e => by have := h0 _ e; omega) B C h.lim ht, stands_below hA (fun j hj => by have := h0 _ hj; omega) B C h.below ht⟩
set_option maxHeartbeats 8000000 in
theorem keysS_walk {own : Own} {H : HP ByteArray} (bb d : Nat) (t : Tr ByteArray) (n a lim : Int) (w : World) (hH : Heap LS w own H) (ho : Ok H d 0 t) (hr : Rise (ents d t)) (hlen : (ents d t).length ≤ 100000)
    (hb : w.heap[bb]? = some (.cells #[.pointer (some ⟨t.a, 0, none⟩), .int .i64 n] 72 (0, 0))) :
    Calls Try.prog 29 #[.pointer (some ⟨bb, 0, none⟩), .int .i64 a, .int .i64 lim] w fun e w' => ∃ v, e = .returned v ∧ w'.ownsRow w.heap.size 2 1 v (keysL a lim (ents d t)).length ((keysL a lim (ents d t)).map (Value.int .i64)) ∧ Below w.heap.size w w' := by
  obtain ⟨i0, hi, hz0, hz1, hz2⟩ := info_parts infoKS
  have k0 : w.cell? ⟨bb, 0, none⟩ = some (.pointer (some ⟨t.a, 0, none⟩)) := by rw [cell_of_row w bb 0 _ _ (0, 0) hb]; rfl
  have hbl := (Array.getElem?_eq_some_iff.1 hb).1
  obtain ⟨H0, hH0⟩ : ∃ H0, w.heap.size = H0 := ⟨_, rfl⟩
  have hown : ∀ k, own k ≠ none → k < H0 := fun k hk => by
    rw [← hH0]
    cases e : own k with
    | none => exact absurd e hk
    | some o => exact hH.lt k o e
  have hes : (fr a (ents d t)).length ≤ 100000 := Nat.le_trans (List.length_filter_le _ _) hlen
  obtain ⟨x, hx⟩ : ∃ x, t.a = x := ⟨_, rfl⟩
  rw [hx] at k0
  have k0' : ((w.alloc (.cells #[.int .i64 lim] 2)).alloc (.cells #[.slice none 0 0] 22)).cell? ⟨bb, 0, none⟩ = some (.pointer (some ⟨x, 0, none⟩)) := (World.cell?_of_block (heap_alloc2 w _ _ bb hbl)).trans k0
  obtain ⟨Q, hQ⟩ : ∃ Q : Ending → World → Prop, (fun (e : Ending) (w' : World) => ∃ v, e = .returned v ∧ w'.ownsRow w.heap.size 2 1 v (keysL a lim (ents d t)).length ((keysL a lim (ents d t)).map (Value.int .i64)) ∧ Below w.heap.size w w') = Q := ⟨_, rfl⟩
  rw [hQ]
  have HQ := Aside0.mk hQ
  have HH := Aside0.mk hH
  have HO := Aside0.mk ho
  have HR := Aside0.mk hr
  have HE := Aside0.mk hes
  have HX := Aside0.mk hx
  have HOWN := Aside0.mk hown
  clear hQ hH ho hr hlen hb hx hown hes
  refine (callsIn_wide (n := 10)).1 ?_
  refine callsIn_of_wp_marks Try.func29 rfl trivial ?_ rfl
  simp only [Try.ntmps29, List.size_toArray, List.length_cons, List.length_nil, Nat.reduceAdd, Nat.reduceSub, Array.replicate_succ, Array.replicate_zero, List.push_toArray, List.append_toArray, List.nil_append, List.cons_append]
  gi_wp2_with fail
  refine ⟨trivial, (callsIn_wide.2 (walkS.calls x a _)).mono ?_⟩
  rintro e W0 ⟨rfl, hW0⟩
  have hsz1 : ((w.alloc (.cells #[.int .i64 lim] 2)).alloc (.cells #[.slice none 0 0] 22)).heap.size = H0 + 2 := by simp [hH0]
  rw [hsz1]
  obtain ⟨w2, hw2⟩ : ∃ w2, (w.alloc (.cells #[.int .i64 lim] 2)).alloc (.cells #[.slice none 0 0] 22) = w2 := ⟨_, rfl⟩
  have b2 : w2.heap[H0]? = some (.cells #[.int .i64 lim] 2 (0, 0)) := by rw [← hw2, ← hH0]; exact kAS (World.alloc_heap_new w _) _
  have b3 : w2.heap[H0 + 1]? = some (.cells #[.slice none 0 0] 22 (0, 0)) := by
    rw [← hw2]; have h := World.alloc_heap_new (w.alloc (.cells #[.int .i64 lim] 2)) (.cells #[.slice none 0 0] 22); rwa [World.size_alloc, hH0] at h
  have bB : Below H0 w w2 := by rw [← hw2]; exact ((Below.refl H0 w).alloc (by omega) _).alloc (by simp; omega) _
  rw [hw2] at hW0 hsz1
  have f2 : W0.heap[H0 + 2]? = some (.cells #[.pointer (some ⟨x, 0, none⟩)] 66 (0, 0)) := by rw [hW0, ← hsz1]; exact kAS (World.alloc_heap_new w2 _) _
  have f3 : W0.heap[H0 + 3]? = some (.cells #[.int .i64 a] 2 (0, 0)) := by
    rw [hW0]; have h := World.alloc_heap_new (w2.alloc (.cells #[.pointer (some ⟨x, 0, none⟩)] 66)) (.cells #[.int .i64 a] 2); rwa [World.size_alloc, hsz1] at h
  have f0 : Boxed W0 H0 2 (.int .i64 lim) := by rw [hW0]; exact kAS (kAS b2 _) _
  have f1 : Boxed W0 (H0 + 1) 22 (.slice none 0 0) := by rw [hW0]; exact kAS (kAS b3 _) _
  have hsz : W0.heap.size = H0 + 4 := by rw [hW0]; simp [hsz1]
  have hbel : Below H0 w W0 := by rw [hW0]; exact (bB.alloc (by omega) _).alloc (by simp; omega) _
  have hHW : Heap LS W0 own H := HH.out.below (by rw [hH0]; exact hbel)
  have hseq := walkS_seq 9 d 0 t a W0 hHW HO.out HR.out (H0 + 2) (H0 + 3) (by rw [HX.out]; exact f2) f3
  obtain ⟨es, hes⟩ : ∃ es, fr a (ents d t) = es := ⟨_, rfl⟩
  have hri : Rise es := by rw [← hes]; exact rise_fr HR.out a
  have hel := HE.out
  rw [hes] at hseq hel
  have HRI := Aside0.mk hri
  have HKL := Aside0.mk (show keysL a lim (ents d t) = (es.map Prod.fst).filter (fun k => decide (k < lim)) by unfold keysL; rw [hes])
  clear hW0 hw2 b2 b3 bB hsz1 f2 f3 k0 k0' hHW hri hes
  gi_wp2
  refine wpIn_rangeN rfl (by omega) (gf := 62) (lb := #[.pointer (some ⟨H0 + 2, 0, none⟩), .pointer (some ⟨H0 + 3, 0, none⟩)]) rfl trivial (enters_of Try.func62 (by kernel_rfl) rfl)
    hseq (Below.refl _ _) (fun _ => rfl) (fun h => h.elim) (fun h => h.elim) (fun h => by have := HOWN.out _ h; omega)
    (fun k W => KeysInS es lim H0 w k W)
    (fun c k' W => KeysXS es lim H0 w c k' W)
    (fun k => KeysInS.stands es lim H0 w k (by omega) (by rintro j (h | h | h) <;> first | exact h.elim | omega))
    (fun c k A B h ht => by
      obtain ⟨hc, k0, e, hk, hI, he, hle⟩ := h
      exact ⟨hc, k0, e, hk, KeysInS.stands es lim H0 w k0 (by omega) (by rintro j (h | h | h) <;> first | exact h.elim | omega) A B hI ht, he, hle⟩)
    ⟨by simp, ⟨_, f1, World.ownsRow_nil _ _ _ _⟩, f0, hbel⟩
    (fun k => { tmps := #[.pointer (some ⟨bb, 0, none⟩), .int .i64 a, .int .i64 lim, undef, undef, .pointer (some ⟨H0, 0, none⟩), .slice none 0 0, .pointer (some ⟨H0 + 1, 0, none⟩), .int .i64 (keyAtS es k), .pointer (some ⟨bb, 0, none⟩), .bool false, .pointer (some ⟨bb, 0, none⟩), .pointer (some ⟨bb, 0, none⟩), .pointer (some ⟨bb, 0, none⟩), .pointer (some ⟨x, 0, none⟩), .int .i64 a, .func (.func 62) #[] #[.pointer (some ⟨H0 + 2, 0, none⟩), .pointer (some ⟨H0 + 3, 0, none⟩)], .int .i64 (keyAtS es k), undef, undef, undef, undef, undef, undef, undef, undef], defers := [] }) ?assign ?body ?done ?stop
  case assign =>
    intro lp k W K hK
    gi_wp2
    exact hK
  case body =>
    rintro lp k W hk hWs hI
    obtain ⟨e, he, hek, htk⟩ := keyAtS_get hk
    obtain ⟨u, hu⟩ : ∃ u, keyAtS es k = u := ⟨_, rfl⟩
    rw [hu] at hek ⊢
    have hcl := hI.lim.cell
    obtain ⟨v, hv, hrow⟩ := hI.out
    have htl : (es.take k).length ≤ 100000 := by rw [List.length_take]; omega
    have HI := Aside0.mk hI
    have HTK := Aside0.mk htk
    have HEK := Aside0.mk hek
    have HEE := Aside0.mk he
    clear hI htk hek he hu
    by_cases hlt : u < lim
    · have hdd : decide (lim ≤ u) = false := decide_eq_false (by omega)
      have hc0 := hv.cell
      generalize hn : (es.take k).length = nn at hrow htl
      have HN := Aside0.mk hn
      clear hn
      gi_wp2_with (first | (gi_at_builtin; refine wpListIn_append_own _ rfl _ _ 22 rfl (H0 + 6) 2 i0 (.int .i64 0) 1 8 Try.underlying22 hi hz0 hz1 hz2 rfl (by decide) _ _ _ rfl (hrow.alloc _) ⟨W.heap.size, 0, none⟩ 1 1 [.int .i64 u] rfl rfl (cell_one_new _ _ _) (by simp [Value.oneCell']) (by unfold maxLen; omega) (by omega) (by simp; omega) ?_; intro v' w1 hown' hgrow _; obtain ⟨g', cap', rfl⟩ := ownsRow_succ hown'; obtain ⟨hv1, hv2, hr2, hk2, hb2, hj2⟩ := box_appended (n₀ := H0) hv hrow (by omega) (by omega) (by omega) hown' hgrow; have hc1 := hv1.cell; have hf1 := hv1.frozen))
      refine ⟨hk2, ⟨by have := hb2.size; omega, fun j hj hl => hj2 j (by have := HOWN.out j hj; omega) (by have := HOWN.out j hj; omega)⟩, ?_, ⟨_, hv2, ?_⟩, (hj2 H0 (by omega) (by omega)).trans HI.out.lim, HI.out.below.trans hb2⟩
      · rw [HTK.out]
        intro y hy
        rcases List.mem_append.1 hy with hy | hy
        · exact HI.out.all y hy
        · obtain rfl := List.mem_singleton.1 hy
          rw [HEK.out]; exact hlt
      · rw [HTK.out, List.length_append, List.map_append, HN.out]
        simp only [List.map_cons, List.map_nil, HEK.out, List.length_singleton]
        exact hr2
    · have hdd : decide (lim ≤ u) = true := decide_eq_true (by omega)
      clear hv hrow
      gi_wp2
      exact ⟨KeepsOthers.refl W, rfl, k, e, rfl, HI.out, HEE.out, by rw [HEK.out]; omega⟩
  case done =>
    rintro W hI hWs hD
    rw [hsz] at hD
    obtain ⟨v, hv, hrow⟩ := hI.out
    have hq : keysL a lim (ents d t) = (es.take es.length).map Prod.fst := by
      rw [HKL.out]; exact below_take hI.all (by simp)
    have hrow2 : W.ownsRow (H0 + 6) 2 1 v (keysL a lim (ents d t)).length ((keysL a lim (ents d t)).map (Value.int .i64)) := by rw [hq, List.length_map, List.map_map]; exact hrow
    have HBE := Aside0.mk hI.below
    have hc0 := hv.cell
    clear hI hrow hq
    gi_wp2
    simp only [hsz]
    refine ⟨by simp, .inl ⟨_, _, rfl, run_takeDeferred hD, ?_⟩⟩
    refine ⟨_, results_tmp rfl _ _ _, ?_⟩
    rw [← HQ.out]
    exact ⟨_, rfl, ownsRow_putObj (row_lower hrow2 (by omega)) _ hD rfl, by rw [hH0]; exact HBE.out.trans (belowK_b (w := W0) (by omega) W _ _ _ (by omega) hD rfl rfl)⟩
  case stop =>
    rintro c k W hkN ⟨rfl, k0, e, rfl, hI, he, hle⟩ hWs hD
    rw [hsz] at hD
    obtain ⟨v, hv, hrow⟩ := hI.out
    have hq : keysL a lim (ents d t) = (es.take k0).map Prod.fst := by
      rw [HKL.out]; exact below_take hI.all (rise_drop HRI.out he hle)
    have hrow2 : W.ownsRow (H0 + 6) 2 1 v (keysL a lim (ents d t)).length ((keysL a lim (ents d t)).map (Value.int .i64)) := by rw [hq, List.length_map, List.map_map]; exact hrow
    have HBE := Aside0.mk hI.below
    have hc0 := hv.cell
    clear hI hrow hq he
    gi_wp2
    simp only [hsz]
    refine ⟨by simp, .inl ⟨_, _, rfl, run_takeDeferred hD, ?_⟩⟩
    refine ⟨_, results_tmp rfl _ _ _, ?_⟩
    rw [← HQ.out]
    exact ⟨_, rfl, ownsRow_putObj (row_lower hrow2 (by omega)) _ hD rfl, by rw [hH0]; exact HBE.out.trans (belowK_b (w := W0) (by omega) W _ _ _ (by omega) hD rfl rfl)⟩
/-- The least number from one on. -/
def nextLS (a : Int) (l : List (Int × ByteArray)) : Option Int := (fr a l).head?.map Prod.fst
structure NextInS (A : Nat) (w : World) (u : Int) (b : Bool) (W : World) : Prop where
  num : Boxed W A 2 (.int .i64 u)
  is : Boxed W (A + 1) 4 (.bool b)
  below : Below A w W
theorem NextInS.stands {own T} (A : Nat) (w : World) (u : Int) (b : Bool) (hA : A ≤ w.heap.size) (h0 : ∀ j, own j → A + 4 ≤ j) : Stands own T (NextInS A w u b) := fun B C h ht =>
  ⟨stands_box _ _ _ (fun e => by have := h0 _ e; omega) B C h.num ht, stands_box _ _ _ (fun e => by have := h0 _ e; omega) B C h.is ht, stands_below hA (fun j hj => by have := h0 _ hj; omega) B C h.below ht⟩
theorem NextInS.set {A : Nat} {w W : World} {u u' : Int} {b b' : Bool} (h : NextInS A w u b W) : NextInS A w u' b' ((W.setCell ⟨A, 0, none⟩ (.int .i64 u')).setCell ⟨A + 1, 0, none⟩ (.bool b')) :=
  have h1 : Boxed (W.setCell ⟨A, 0, none⟩ (.int .i64 u')) A 2 (.int .i64 u') := h.num.set (.int .i64 u')
  have h2 : Boxed (W.setCell ⟨A, 0, none⟩ (.int .i64 u')) (A + 1) 4 (.bool b) := h.is.other (by omega) (.int .i64 u')
  ⟨h1.other (by omega) (.bool b'), h2.set (.bool b'), (h.below.setCell (p := ⟨A, 0, none⟩) (Nat.le_refl _) _).setCell (p := ⟨A + 1, 0, none⟩) (by show A ≤ A + 1; omega) _⟩
structure NextXS (es : List (Int × ByteArray)) (A : Nat) (w : World) (c : Code) (k' : Nat) (W : World) : Prop where
  code : c = .ret
  ne : 0 < es.length
  at_ : NextInS A w (keyAtS es 0) true W
set_option maxHeartbeats 8000000 in
theorem nextS_walk {own : Own} {H : HP ByteArray} (bb d : Nat) (t : Tr ByteArray) (n a : Int) (w : World) (hH : Heap LS w own H) (ho : Ok H d 0 t) (hr : Rise (ents d t))
    (hb : w.heap[bb]? = some (.cells #[.pointer (some ⟨t.a, 0, none⟩), .int .i64 n] 72 (0, 0))) :
    Calls Try.prog 26 #[.pointer (some ⟨bb, 0, none⟩), .int .i64 a] w fun e w' => e = .returned (.tuple #[.int .i64 ((nextLS a (ents d t)).getD 0), .bool (nextLS a (ents d t)).isSome]) ∧ Below w.heap.size w w' := by
  have k0 : w.cell? ⟨bb, 0, none⟩ = some (.pointer (some ⟨t.a, 0, none⟩)) := by rw [cell_of_row w bb 0 _ _ (0, 0) hb]; rfl
  have hbl := (Array.getElem?_eq_some_iff.1 hb).1
  obtain ⟨H0, hH0⟩ : ∃ H0, w.heap.size = H0 := ⟨_, rfl⟩
  have hown : ∀ k, own k ≠ none → k < H0 := fun k hk => by
    rw [← hH0]
    cases e : own k with
    | none => exact absurd e hk
    | some o => exact hH.lt k o e
  obtain ⟨x, hx⟩ : ∃ x, t.a = x := ⟨_, rfl⟩
  rw [hx] at k0
  have k0' : ((w.alloc (.cells #[.int .i64 0] 2)).alloc (.cells #[.bool false] 4)).cell? ⟨bb, 0, none⟩ = some (.pointer (some ⟨x, 0, none⟩)) := (World.cell?_of_block (heap_alloc2 w _ _ bb hbl)).trans k0
  obtain ⟨Q, hQ⟩ : ∃ Q : Ending → World → Prop, (fun (e : Ending) (w' : World) => e = .returned (.tuple #[.int .i64 ((nextLS a (ents d t)).getD 0), .bool (nextLS a (ents d t)).isSome]) ∧ Below w.heap.size w w') = Q := ⟨_, rfl⟩
  rw [hQ]
  have HQ := Aside0.mk hQ
  have HH := Aside0.mk hH
  have HO := Aside0.mk ho
  have HR := Aside0.mk hr
  have HX := Aside0.mk hx
  have HOWN := Aside0.mk hown
  clear hQ hH ho hr hb hx hown
  refine (callsIn_wide (n := 10)).1 ?_
  refine callsIn_of_wp_marks Try.func26 rfl trivial ?_ rfl
  simp only [Try.ntmps26, List.size_toArray, List.length_cons, List.length_nil, Nat.reduceAdd, Nat.reduceSub, Array.replicate_succ, Array.replicate_zero, List.push_toArray, List.append_toArray, List.nil_append, List.cons_append]
  gi_wp2_with fail
  refine ⟨trivial, (callsIn_wide.2 (walkS.calls x a _)).mono ?_⟩
  rintro e W0 ⟨rfl, hW0⟩
  have hsz1 : ((w.alloc (.cells #[.int .i64 0] 2)).alloc (.cells #[.bool false] 4)).heap.size = H0 + 2 := by simp [hH0]
  rw [hsz1]
  obtain ⟨w2, hw2⟩ : ∃ w2, (w.alloc (.cells #[.int .i64 0] 2)).alloc (.cells #[.bool false] 4) = w2 := ⟨_, rfl⟩
  have b2 : w2.heap[H0]? = some (.cells #[.int .i64 0] 2 (0, 0)) := by rw [← hw2, ← hH0]; exact kAS (World.alloc_heap_new w _) _
  have b3 : w2.heap[H0 + 1]? = some (.cells #[.bool false] 4 (0, 0)) := by
    rw [← hw2]; have h := World.alloc_heap_new (w.alloc (.cells #[.int .i64 0] 2)) (.cells #[.bool false] 4); rwa [World.size_alloc, hH0] at h
  have bB : Below H0 w w2 := by rw [← hw2]; exact ((Below.refl H0 w).alloc (by omega) _).alloc (by simp; omega) _
  rw [hw2] at hW0 hsz1
  have f2 : W0.heap[H0 + 2]? = some (.cells #[.pointer (some ⟨x, 0, none⟩)] 66 (0, 0)) := by rw [hW0, ← hsz1]; exact kAS (World.alloc_heap_new w2 _) _
  have f3 : W0.heap[H0 + 3]? = some (.cells #[.int .i64 a] 2 (0, 0)) := by
    rw [hW0]; have h := World.alloc_heap_new (w2.alloc (.cells #[.pointer (some ⟨x, 0, none⟩)] 66)) (.cells #[.int .i64 a] 2); rwa [World.size_alloc, hsz1] at h
  have f0 : Boxed W0 H0 2 (.int .i64 0) := by rw [hW0]; exact kAS (kAS b2 _) _
  have f1 : Boxed W0 (H0 + 1) 4 (.bool false) := by rw [hW0]; exact kAS (kAS b3 _) _
  have hsz : W0.heap.size = H0 + 4 := by rw [hW0]; simp [hsz1]
  have hbel : Below H0 w W0 := by rw [hW0]; exact (bB.alloc (by omega) _).alloc (by simp; omega) _
  have hHW : Heap LS W0 own H := HH.out.below (by rw [hH0]; exact hbel)
  have hseq := walkS_seq 9 d 0 t a W0 hHW HO.out HR.out (H0 + 2) (H0 + 3) (by rw [HX.out]; exact f2) f3
  obtain ⟨es, hes⟩ : ∃ es, fr a (ents d t) = es := ⟨_, rfl⟩
  rw [hes] at hseq
  have HKL := Aside0.mk (show nextLS a (ents d t) = es.head?.map Prod.fst by unfold nextLS; rw [hes])
  clear hW0 hw2 b2 b3 bB hsz1 f2 f3 k0 k0' hHW hes
  gi_wp2
  refine wpIn_rangeN rfl (by omega) (gf := 62) (lb := #[.pointer (some ⟨H0 + 2, 0, none⟩), .pointer (some ⟨H0 + 3, 0, none⟩)]) rfl trivial (enters_of Try.func62 (by kernel_rfl) rfl)
    hseq (Below.refl _ _) (fun _ => rfl) (fun h => h.elim) (fun h => h.elim) (fun h => by have := HOWN.out _ h; omega)
    (fun k W => k = 0 ∧ NextInS H0 w 0 false W)
    (fun c k' W => NextXS es H0 w c k' W)
    (fun k => (stands_pure _).and (NextInS.stands H0 w 0 false (by omega) (by rintro j (h | h | h) <;> first | exact h.elim | omega)))
    (fun c k A B h ht => ⟨h.code, h.ne, NextInS.stands H0 w _ true (by omega) (by rintro j (h | h | h) <;> first | exact h.elim | omega) A B h.at_ ht⟩)
    ⟨rfl, f0, f1, hbel⟩
    (fun k => { tmps := #[.pointer (some ⟨bb, 0, none⟩), .int .i64 a, undef, undef, .pointer (some ⟨H0, 0, none⟩), .pointer (some ⟨H0 + 1, 0, none⟩), .int .i64 (keyAtS es k), .pointer (some ⟨bb, 0, none⟩), .bool false, .pointer (some ⟨bb, 0, none⟩), .pointer (some ⟨bb, 0, none⟩), .pointer (some ⟨bb, 0, none⟩), .pointer (some ⟨x, 0, none⟩), .int .i64 a, .func (.func 62) #[] #[.pointer (some ⟨H0 + 2, 0, none⟩), .pointer (some ⟨H0 + 3, 0, none⟩)], .int .i64 (keyAtS es k), undef], defers := [] }) ?assign ?body ?done ?stop
  case assign =>
    intro lp k W K hK
    gi_wp2
    exact hK
  case body =>
    rintro lp k W hk hWs ⟨rfl, hI⟩
    obtain ⟨u, hu⟩ : ∃ u, keyAtS es 0 = u := ⟨_, rfl⟩
    rw [hu]
    have r0 := hI.num.frozen
    have r1 := hI.is.frozen
    have c0 := hI.num.cell
    have c1 := hI.is.cell
    have r1' : (W.setCell ⟨H0, 0, none⟩ (.int .i64 u)).frozen? ⟨H0 + 1, 0, none⟩ = false := (Boxed.other hI.is (by omega) _).frozen
    have c1' : (W.setCell ⟨H0, 0, none⟩ (.int .i64 u)).cell? ⟨H0 + 1, 0, none⟩ = some (.bool false) := (Boxed.other hI.is (by omega) _).cell
    have HI := Aside0.mk hI
    have HU := Aside0.mk hu
    clear hI hu
    gi_wp2
    exact ⟨(KeepsOthers.setCell _ _ _).trans (KeepsOthers.setCell _ _ _), rfl, hk, by rw [HU.out]; exact HI.out.set⟩
  case done =>
    rintro W ⟨hN, hI⟩ hWs hD
    rw [hsz] at hD
    have he0 : es = [] := List.eq_nil_of_length_eq_zero hN
    have hI2 := hI.set (u' := 0) (b' := false)
    have r0 := hI.num.frozen
    have r1' : (W.setCell ⟨H0, 0, none⟩ (.int .i64 0)).frozen? ⟨H0 + 1, 0, none⟩ = false := (Boxed.other hI.is (by omega) _).frozen
    have c0 := hI.num.cell
    have c1' : (W.setCell ⟨H0, 0, none⟩ (.int .i64 0)).cell? ⟨H0 + 1, 0, none⟩ = some (.bool false) := (Boxed.other hI.is (by omega) _).cell
    have hD2 : ((W.setCell ⟨H0, 0, none⟩ (.int .i64 0)).setCell ⟨H0 + 1, 0, none⟩ (.bool false)).heap[H0 + 4]? = some (.deferred (some [])) := by
      rw [Below.heap_setCell _ _ _ _ (by simp), Below.heap_setCell _ _ _ _ (by simp)]; exact hD
    have HI2 := Aside0.mk hI2
    have HE0 := Aside0.mk he0
    clear hI hI2 he0
    gi_wp2
    simp only [hsz]
    generalize (W.setCell ⟨H0, 0, none⟩ (.int .i64 0)).setCell ⟨H0 + 1, 0, none⟩ (.bool false) = WX at hD2 HI2 ⊢
    have hX := HI2.out
    have z0 : (WX.putObj (H0 + 4) (.deferred none)).cell? ⟨H0, 0, none⟩ = some (.int .i64 0) := (World.cell?_of_block (World.putObj_heap_other (by show H0 ≠ H0 + 4; omega))).trans hX.num.cell
    have z1 : (WX.putObj (H0 + 4) (.deferred none)).cell? ⟨H0 + 1, 0, none⟩ = some (.bool false) := (World.cell?_of_block (World.putObj_heap_other (by show H0 + 1 ≠ H0 + 4; omega))).trans hX.is.cell
    refine ⟨by simp, .inl ⟨_, _, rfl, run_takeDeferred hD2, ?_⟩⟩
    refine ⟨.tuple #[.int .i64 0, .bool false], by simp [results, Try.results26, go_sem, z0, z1], ?_⟩
    rw [← HQ.out]
    refine ⟨by rw [HKL.out, HE0.out]; rfl, ?_⟩
    rw [hH0]; exact hX.below.trans (belowK_b (w := W0) (by omega) WX _ _ _ (by omega) hD2 rfl rfl)
  case stop =>
    rintro c k W hkN ⟨rfl, hne, hX⟩ hWs hD
    rw [hsz] at hD
    have hkl : nextLS a (ents d t) = some (keyAtS es 0) := by
      rw [HKL.out]; unfold keyAtS
      cases es with
      | nil => simp at hne
      | cons e es => rfl
    have HKL2 := Aside0.mk hkl
    have HX2 := Aside0.mk hX
    generalize keyAtS es 0 = u at HKL2 HX2
    clear hX hkl
    gi_wp2
    simp only [hsz]
    have hX := HX2.out
    have z0 : (W.putObj (H0 + 4) (.deferred none)).cell? ⟨H0, 0, none⟩ = some (.int .i64 u) := (World.cell?_of_block (World.putObj_heap_other (by show H0 ≠ H0 + 4; omega))).trans hX.num.cell
    have z1 : (W.putObj (H0 + 4) (.deferred none)).cell? ⟨H0 + 1, 0, none⟩ = some (.bool true) := (World.cell?_of_block (World.putObj_heap_other (by show H0 + 1 ≠ H0 + 4; omega))).trans hX.is.cell
    refine ⟨by simp, .inl ⟨_, _, rfl, run_takeDeferred hD, ?_⟩⟩
    refine ⟨.tuple #[.int .i64 u, .bool true], by simp [results, Try.results26, go_sem, z0, z1], ?_⟩
    rw [← HQ.out]
    refine ⟨by rw [HKL2.out]; rfl, ?_⟩
    rw [hH0]; exact hX.below.trans (belowK_b (w := W0) (by omega) W _ _ _ (by omega) hD rfl rfl)
theorem FreshS.still {base bb : Nat} {w0 w w' : World} {own : Own} {es : List (Int × ByteArray)} (h : FreshS base w0 w own bb es) (hb : Below w.heap.size w w') : FreshS base w0 w' own bb es := by
  obtain ⟨H, d, t, hB, he⟩ := h.is
  refine ⟨⟨H, d, t, ⟨hB.heap.below hb, hB.ok, hB.nodup, hB.rise, hB.one, hB.len, (hb.block bb hB.lt).trans hB.cell, hB.out⟩, he⟩, h.below.trans (hb.mono h.size), Nat.le_trans h.size hb.size, h.free, h.bb⟩
theorem zkeysS {base bb : Nat} {w0 w : World} {own : Own} {es : List (Int × ByteArray)} (h : FreshS base w0 w own bb es) (hl : es.length ≤ 100000) (a lim : Int) :
    Calls Try.prog 29 #[.pointer (some ⟨bb, 0, none⟩), .int .i64 a, .int .i64 lim] w (fun e w' => ∃ A c, e = .returned (.slice A (keysL a lim es).length c) ∧ (keysL a lim es).length ≤ c ∧ Kd.C (Kd.int .i64) w' A (keysL a lim es).length (keysL a lim es) ∧ Below w.heap.size w w') := by
  obtain ⟨H, d, t, hB, rfl⟩ := h.is
  refine (keysS_walk bb d t _ a lim w hB.heap hB.ok hB.rise hl hB.cell).mono ?_
  rintro e w' ⟨v, rfl, hrow, hb⟩
  have hR : (Kd.int .i64).R 2 w' w.heap.size (fun _ => True) v (keysL a lim (ents d t)) := Kd.R_of_own hrow (fun _ _ => trivial)
  obtain ⟨A, c, rfl, hc, hC⟩ := Kd.R_reads hR
  exact ⟨A, c, rfl, hc, hC, hb⟩
theorem znextS {base bb : Nat} {w0 w : World} {own : Own} {es : List (Int × ByteArray)} (h : FreshS base w0 w own bb es) (a : Int) (o : Option Int) (ho : nextLS a es = o) :
    Calls Try.prog 26 #[.pointer (some ⟨bb, 0, none⟩), .int .i64 a] w (fun e w' => e = .returned (.tuple #[.int .i64 (o.getD 0), .bool o.isSome]) ∧ Below w.heap.size w w') := by
  obtain ⟨H, d, t, hB, rfl⟩ := h.is
  subst ho
  exact nextS_walk bb d t _ a w hB.heap hB.ok hB.rise hB.cell
end Go.Proofs.Ytkfcflflgecljaa.H
