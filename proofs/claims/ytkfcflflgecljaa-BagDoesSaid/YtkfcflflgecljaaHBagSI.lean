/- slices.Insert, slices.Delete, slices.Clone at []int64: what they leave of a row. -/
import Derived.Test.YtkfcflflgecljaaHBagR
import Derived.Deep.CutBlock
set_option linter.unusedVariables false
set_option linter.unusedSimpArgs false
namespace Go.Proofs.Ytkfcflflgecljaa.H
open Go.RowKit Go.Proofs.YtkfcflflgecljaaW.PrintWords Go.Proofs.YtkfcflflgecljaaW.PrintLast
theorem info2 : (Try.prog.info? 2).map (fun i => (i.zero, i.size, i.bytes)) = some (some (.int .i64 0), 1, 8) := by kernel_rfl
set_option maxRecDepth 100000
set_option maxHeartbeats 4000000 in
theorem InsI.calls (v : Value) (xs : List Value) (i : Nat) (x : Value) (tb : Nat) (w : World) (hv : w.ownsRow 0 2 1 v xs.length xs) (hi : i ≤ xs.length) (ht : w.heap[tb]? = some (.cells #[x] 2 (0, 0))) (hne : v.ownBlock ≠ some tb)
    (hx : x.oneCell' = true) (hxs : ∀ u ∈ xs, u.oneCell' = true) (hlen : xs.length ≤ 100) :
    Calls Try.prog 33 #[v, .int .i64 (i : Int), .slice (some ⟨tb, 0, none⟩) 1 1] w (RetRow w 2 v (xs.take i ++ x :: xs.drop i)) := by
  obtain ⟨i0, hi0, hz0, hz1, hz2⟩ := info_parts info2
  have hnews : ∀ j u, [x][j]? = some u → w.cell? ((⟨tb, 0, none⟩ : Addr).add j) = some u := World.news_of_block (cs := #[x]) ht
  have hx1 : ∀ u ∈ [x], u.oneCell' = true := fun u hu => by rw [List.mem_singleton.1 hu]; exact hx
  by_cases he : i = xs.length
  · subst he
    obtain ⟨v', w', hr, hown', hgrow, _, hblk⟩ := run_append_own_at w 0 22 22 2 i0 _ 1 8 Try.underlying22 hi0 hz0 hz1 hz2 rfl (by omega) v xs.length xs hv ⟨tb, 0, none⟩ 1 1 [x] rfl hnews hx1 (by simp only [maxLen]; omega) (by omega) (by omega)
    have hend : RetRow w 2 v (xs.take xs.length ++ x :: xs.drop xs.length) (.returned v') w' := by
      rw [List.take_length, List.drop_length]
      exact retRow (by simp) hown' hgrow hblk
    obtain ⟨A, c, rfl, hc⟩ := own_slice hv
    generalize List.take xs.length xs ++ x :: List.drop xs.length xs = ys at hend ⊢
    obtain ⟨D, hD, _⟩ := sl_from (P := Try.prog) 22 2 Try.underlying22 hi0 hz1 A xs.length c xs.length (Nat.le_refl _)
    generalize xs.length = n at *
    have HE := Aside0.mk hend
    have HR := Aside0.mk hr
    have hn1 : ((n : Int) == (n : Int)) = true := by simp
    clear hend hr hown' hgrow hblk hv hnews hx1 hxs ht hne hx
    go_enter Try.func33, Try.ntmps33
    go_wp2_with (at_builtin; refine Go.Lib.wpList_append_run _ rfl (.tmp 23) (.tmp 24) 22 22 rfl _ _ rfl rfl v' w' HR.out ?_)
    go_ret
    exact HE.out
  · have hlt : i < xs.length := by omega
    rcases own_form hv with ⟨rfl, h0, _⟩ | ⟨g, cap, cur, rfl, hg, h1, h2, h3, h4⟩
    · omega
    have hgt : g ≠ tb := fun e => hne (by rw [e]; rfl)
    have hgl : g < w.heap.size := (Array.getElem?_eq_some_iff.1 hg).1
    have htl : tb < w.heap.size := (Array.getElem?_eq_some_iff.1 ht).1
    obtain ⟨n, hn⟩ : ∃ n, xs.length = n := ⟨_, rfl⟩
    rw [hn] at hlt hi he hlen h1 h4 ⊢
    have hold : ∀ j, j < n → w.cell? ⟨g, j, none⟩ = xs[j]? := fun j hj => by rw [cell_of_row w g j _ _ (0, 0) hg, ← h4, List.getElem?_take_of_lt hj, Array.getElem?_toList]
    have hsz : (Try.prog.info? 2).map (·.size) = some 1 := by rw [hi0]; simp [hz1]
    have hdl : (xs.drop i).length = n - i := by rw [List.length_drop, hn]
    have hd1 : ∀ u ∈ xs.drop i, u.oneCell' = true := fun u hu => hxs u (List.mem_of_mem_drop hu)
    have hz1' : ¬ ((i : Int) = (n : Int)) := by omega
    have hz2' : ((i : Int) == (n : Int)) = false := by simp; omega
    obtain ⟨D, hD, hDe⟩ := sl_from (P := Try.prog) 22 2 Try.underlying22 hi0 hz1 (some ⟨g, 0, none⟩) n cap i hi
    have hDe' : D = some ⟨g, i, none⟩ := by rw [hDe (by omega)]; simp [Addr.add_lit]
    subst hDe'
    obtain ⟨ys, hys⟩ : ∃ ys, xs.take i ++ x :: xs.drop i = ys := ⟨_, rfl⟩
    rw [hys]
    have hyl : ys.length = n + 1 := by rw [← hys]; simp; omega
    by_cases hroom : n + 1 ≤ cap
    · -- in place
      have hsrow : ∀ q : List Value, q.length = n + 1 → ∀ (j : Nat) (cs : List Value), j + cs.length = n + 1 → (q.take j ++ cs).length = n + 1 := fun q hq j cs h => by simp; omega
      obtain ⟨r1, hr1⟩ : ∃ r1, r1 = (cur.toList.take (i + 1) ++ xs.drop i ++ cur.toList.drop (i + 1 + (xs.drop i).length)).toArray := ⟨_, rfl⟩
      obtain ⟨r2, hr2⟩ : ∃ r2, r2 = (r1.toList.take i ++ [x] ++ r1.toList.drop (i + [x].length)).toArray := ⟨_, rfl⟩
      have hov : ∀ lb cb, (callFunc 50 #[.slice (some ⟨tb, 0, none⟩) 1 1, .slice (some ⟨g, i + 1, none⟩) lb cb]).run Try.prog w = .ok (.value (.bool false)) w := fun lb cb => by
        rw [run_callFunc_extern Try.func50 (by kernel_rfl) (by kernel_rfl) (by kernel_rfl) (e := Extern.SlicesOverlaps.overlaps #[22, 22] #[4]) (by kernel_rfl),
          Lib.run_overlaps_apart w 22 4 2 Try.underlying22 1 (fun w => by simp [Go.sizeOf, typeInfo, hi0, hz1]) ⟨tb, 0, none⟩ ⟨g, i + 1, none⟩ 1 1 lb cb (Ne.symm hgt) 2 2 1 cap (by simp [World.shape?, ht]) (by simp [World.shape?, hg, h3]) (by omega) (by simp [World.frozen?, ht]) (by simp [World.frozen?, ht])]
        rfl
      have hcp1 : ∀ ty dc sc, (Builtin.copy_ #[22, 22] ty #[.slice (some ⟨g, i + 1, none⟩) (n - i) dc, .slice (some ⟨g, i, none⟩) (n + 1 - i) sc]).run Try.prog w.drew = .ok (goInt (xs.drop i).length) (w.drew.setRow g r1) := fun ty dc sc => by
        rw [hr1]
        exact run_copy_row Try.prog w.drew _ _ ty 2 g (i + 1) _ dc ⟨g, i, none⟩ _ sc cur 2 (xs.drop i) Try.underlying22 hsz hg (by rw [hdl]; simp only [Nat.min_def]; split <;> omega)
          (fun j v hj => by
            rw [Addr.add_lit]
            rw [List.getElem?_drop] at hj
            have hjl : i + j < n := by rw [← hn]; exact (List.getElem?_eq_some_iff.1 hj).1
            exact (hold (i + j) hjl).trans hj) (by rw [hdl, h3]; omega) hd1
      have hg1 : (w.drew.setRow g r1).heap[g]? = some (.cells r1 2 (0, 0)) := setRow_heap w.drew g cur _ _ _ hg
      have hcp2 : ∀ ty dc, (Builtin.copy_ #[22, 22] ty #[.slice (some ⟨g, i, none⟩) (n + 1 - i) dc, .slice (some ⟨tb, 0, none⟩) 1 1]).run Try.prog (w.drew.setRow g r1) = .ok (goInt [x].length) ((w.drew.setRow g r1).setRow g r2) := fun ty dc => by
        rw [hr2]
        exact run_copy_row Try.prog (w.drew.setRow g r1) _ _ ty 2 g i _ dc ⟨tb, 0, none⟩ 1 1 r1 2 [x] Try.underlying22 hsz hg1 (by simp only [Nat.min_def]; simp; omega)
          (fun j v hj => by
            rw [World.cell?_of_block (setRow_other w.drew g _ r1 (by simp [Addr.add]; split <;> exact fun e => hgt (by simpa using e.symm)))]
            exact hnews j v hj) (by rw [hr1]; simp; omega) hx1
      have hend : RetRow w 2 (.slice (some ⟨g, 0, none⟩) n cap) ys (.returned (.slice (some ⟨g, 0, none⟩) (n + 1) cap)) ((w.drew.setRow g r1).setRow g r2) := by
        refine retRow hyl (own_mk (setRow_heap _ g r1 _ _ _ hg1) hroom h2 ?_ ?_) ?_ (.inl rfl)
        · rw [hr2, hr1]; simp; omega
        · rw [hr2, hr1, ← hys]; exact ins_place cur.toList xs _ i n x h4 hi hn (by rw [Array.length_toList, h3]; omega) rfl
        · exact grown_trans (grown_trans (grown_drewN w 1 _) (grown_setRow w.drew g r1)) (grown_setRow _ g r2)
      have HE := Aside0.mk hend
      have HC1 := Aside0.mk hcp1
      have HC2 := Aside0.mk hcp2
      have HO := Aside0.mk hov
      have b1 : ¬ cap < n + 1 := by omega
      have b2 : decide ((cap : Int) < (n : Int) + 1) = false := by simp; omega
      have b3 : IntKind.i64.wrap ((i : Int) + 1) = (i : Int) + 1 := by rw [IntKind.wrap_i64]; omega
      have b4 : (n : Int) + 1 ≤ (cap : Int) := by omega
      have b5 : (cap : Int) ≤ 9223372036854775807 := by simp only [maxLen] at h2; omega
      have b6 : (0 : Int) ≤ (i : Int) + 1 := by omega
      have b7 : ((i : Int) + 1).toNat = i + 1 := by omega
      have b8 : ¬ (cap = i + 1) := by omega
      have b9 : (i : Int) ≤ (n : Int) + 1 := by omega
      have b10 : ¬ (cap = i) := by omega
      have mixed : Try.prog.follows .mixedOrders = true := by kernel_rfl
      clear hend hcp1 hcp2 hov hr1 hr2 hsrow hold hdl hd1 hys hyl hDe hg1 hg ht h4 hxs hx hx1 hnews hv hne hi0 hz0 hz1 hz2 hsz
      go_enter Try.func33, Try.ntmps33
      go_wp2_with (simp only [HO.out])
      refine startL (fun _ => True) [] (by kernel_rfl) ?_
      change WalkL _ _ _ _ _ _ 9 #[false, false, false, false, false, false, false, false, false] _ _
      refine pu 0 (.slice (some ⟨g, 0, none⟩) (n + 1) cap) trivial rfl ?_
      refine pu 1 (.int .i64 i) trivial rfl ?_
      refine pu 2 (.int .i64 1) trivial rfl ?_
      refine pu 3 (.int .i64 ((i : Int) + 1)) trivial rfl ?_
      refine pu 4 (.slice (some ⟨g, i + 1, none⟩) (n - i) (cap - (i + 1))) trivial rfl ?_
      refine pu 5 (.slice (some ⟨g, 0, none⟩) (n + 1) cap) trivial rfl ?_
      refine pu 6 (.int .i64 i) trivial rfl ?_
      refine pu 7 (.slice (some ⟨g, i, none⟩) (n + 1 - i) (cap - i)) trivial rfl ?_
      refine vl 8 _ (HC1.out 3 _ _) (by kernel_rfl) rfl trivial ?_
      refine doneL (by kernel_rfl) ?_ _
      go_wp2_with fail
      simp only [HC2.out]
      go_wp2_with fail
      go_ret
      exact HE.out
    · -- a new row
      obtain rfl : cap = n := by omega
      obtain ⟨k, hk⟩ : ∃ k, cap + 1 - i = k := ⟨_, rfl⟩
      have hik : i + k = cap + 1 := by omega
      have htk : (xs.take i).length = i := by rw [List.length_take]; omega
      have hf := run_firstCells_some (P := Try.prog) w.drew 1 i ⟨g, 0, none⟩ i cap (xs.take i) (by omega) (fun j v hj => by
        rw [Addr.add_lit, Nat.zero_add]
        have hji : j < i := by have := (List.getElem?_eq_some_iff.1 hj).1; omega
        rw [List.getElem?_take_of_lt hji] at hj
        exact (hold j (by omega)).trans hj)
      have hap : ∀ ty, (Builtin.append_ #[22, 3] ty #[.slice (some ⟨g, 0, none⟩) i cap, .int .i64 (k : Int)]).run Try.prog w = _ := fun ty =>
        Go.Lib.run_append_grow_zeros w 22 3 ty 2 i0 _ .i64 .i64 Try.underlying22 Try.underlying3 hi0 hz0 (some ⟨g, 0, none⟩) i cap (xs.take i) (by rw [hz1]; exact hf) k (by omega) (by rw [hz1]; omega) (by omega) (by omega) (by rw [hz2]; omega)
          (by rw [hz2, hik]; have := nscap hlen; omega)
      rw [hik] at hap
      have hgc := grownCap_ge w (cap + 1) cap 2
      have hgm := grownCap_le_maxLen w (cap + 1) cap 2 (by simp only [maxLen]; omega)
      generalize grownCap w (cap + 1) cap 2 = gc at hap hgc hgm
      obtain ⟨R, hR⟩ : ∃ R, (xs.take i).toArray ++ Builtin.zeroCells (Value.int .i64 0).cells k ++ Builtin.zeroCells (Value.int .i64 0).cells (gc - (cap + 1)) = R := ⟨_, rfl⟩
      rw [hR] at hap
      have hRs : R.size = gc := by rw [← hR]; simp [Builtin.zeroCells, Value.cells]; omega
      have hRt : R.toList.take i = xs.take i := by rw [← hR]; simp [htk, List.take_append_of_le_length]
      obtain ⟨h, hh⟩ : ∃ h, w.heap.size = h := ⟨_, rfl⟩
      rw [hh] at hap
      have hW1 : (w.drew.alloc (.cells R 2)).heap[h]? = some (.cells R 2 (0, 0)) := by have := heap_alloc_new w.drew (.cells R 2); rw [show w.drew.heap.size = h from hh] at this; exact this
      have hWo : ∀ j, j < h → (w.drew.alloc (.cells R 2)).heap[j]? = w.heap[j]? := fun j hj => Below.heap_alloc w.drew _ j (by rw [show w.drew.heap.size = h from hh]; exact hj)
      obtain ⟨W1, hWe⟩ : ∃ W1, w.drew.alloc (.cells R 2) = W1 := ⟨_, rfl⟩
      have hWg : w.grownBy W1 (some g) := by rw [← hWe]; exact grown_trans (grown_drewN w 1 _) (World.grownBy_alloc w.drew _ _)
      rw [hWe] at hap hW1 hWo
      obtain ⟨r1, hr1⟩ : ∃ r1, r1 = (R.toList.take i ++ [x] ++ R.toList.drop (i + [x].length)).toArray := ⟨_, rfl⟩
      obtain ⟨r2, hr2⟩ : ∃ r2, r2 = (r1.toList.take (i + 1) ++ xs.drop i ++ r1.toList.drop (i + 1 + (xs.drop i).length)).toArray := ⟨_, rfl⟩
      have hcp1 : ∀ ty dc, (Builtin.copy_ #[22, 22] ty #[.slice (some ⟨h, i, none⟩) (cap + 1 - i) dc, .slice (some ⟨tb, 0, none⟩) 1 1]).run Try.prog W1 = .ok (goInt [x].length) (W1.setRow h r1) := fun ty dc => by
        rw [hr1]
        exact run_copy_row Try.prog W1 _ _ ty 2 h i _ dc ⟨tb, 0, none⟩ 1 1 R 2 [x] Try.underlying22 hsz hW1 (by simp only [Nat.min_def]; simp; omega)
          (fun j v hj => by
            rw [World.cell?_of_block (hWo _ (by simp [Addr.add]; split <;> (first | exact hh ▸ htl | (simp; omega))))]
            exact hnews j v hj) (by rw [hRs]; simp; omega) hx1
      have hg1 : (W1.setRow h r1).heap[h]? = some (.cells r1 2 (0, 0)) := setRow_heap W1 h R _ _ _ hW1
      have hcp2 : ∀ ty dc sc, (Builtin.copy_ #[22, 22] ty #[.slice (some ⟨h, i + 1, none⟩) (cap - i) dc, .slice (some ⟨g, i, none⟩) (cap - i) sc]).run Try.prog (W1.setRow h r1).drew = .ok (goInt (xs.drop i).length) ((W1.setRow h r1).drew.setRow h r2) := fun ty dc sc => by
        rw [hr2]
        exact run_copy_row Try.prog (W1.setRow h r1).drew _ _ ty 2 h (i + 1) _ dc ⟨g, i, none⟩ _ sc r1 2 (xs.drop i) Try.underlying22 hsz hg1 (by rw [hdl]; simp only [Nat.min_def]; split <;> omega)
          (fun j v hj => by
            rw [Addr.add_lit]
            rw [List.getElem?_drop] at hj
            have hjl : i + j < cap := by rw [← hn]; exact (List.getElem?_eq_some_iff.1 hj).1
            have e1 : ((W1.setRow h r1).drew.cell? ⟨g, i + j, none⟩) = w.cell? ⟨g, i + j, none⟩ := World.cell?_of_block ((setRow_other W1 h g r1 (by omega)).trans (hWo g (by omega)))
            rw [e1]
            exact (hold (i + j) hjl).trans hj) (by rw [hdl, hr1]; simp; omega) hd1
      have hend : RetRow w 2 (.slice (some ⟨g, 0, none⟩) cap cap) ys (.returned (.slice (some ⟨h, 0, none⟩) (cap + 1) gc)) ((W1.setRow h r1).drew.setRow h r2) := by
        refine retRow hyl (own_mk (setRow_heap _ h r1 _ _ _ hg1) hgc hgm ?_ ?_) ?_ (.inr (by rw [hh]; rfl))
        · rw [hr2, hr1]; simp; omega
        · rw [hr2, hr1, ← hys]; exact ins_new R.toList xs _ i cap x hRt hi hn (by rw [Array.length_toList, hRs]; omega) rfl
        · exact ⟨hWg.os, hWg.tape, hWg.output, by simp [World.setRow]; exact hWg.size, fun j hj hne => (setRow_other (W1.setRow h r1).drew h j r2 (by omega)).trans ((setRow_other W1 h j r1 (by omega)).trans (hWo j (by omega)))⟩
      have HE := Aside0.mk hend
      have HC1 := Aside0.mk hcp1
      have HC2 := Aside0.mk hcp2
      have HA := Aside0.mk hap
      have b2 : decide ((cap : Int) < (cap : Int) + 1) = true := decide_eq_true (by omega)
      have b3 : IntKind.i64.wrap ((i : Int) + 1) = (i : Int) + 1 := by rw [IntKind.wrap_i64]; omega
      have b6 : (0 : Int) ≤ (i : Int) + 1 := by omega
      have b7 : ((i : Int) + 1).toNat = i + 1 := by omega
      have b8 : ¬ (gc = i + 1) := by omega
      have b11 : ¬ (gc = i) := by omega
      have b12 : ¬ (cap = i) := by omega
      have b9 : (cap : Int) + 1 - (i : Int) = (k : Int) := by omega
      have b9' : wrap64 ((cap : Int) + 1 - (i : Int)) = (k : Int) := by rw [b9]; exact IntWalk.wrap64_in _ (by omega)
      have mixed : Try.prog.follows .mixedOrders = true := by kernel_rfl
      clear hend hcp1 hcp2 hap hr1 hr2 hold hdl hd1 hys hyl hDe hg1 hg ht h4 hxs hx hx1 hnews hv hne hi0 hz0 hz1 hz2 hsz hR hRs hRt hWe hWg hWo hW1 hf htk hk hik
      go_enter Try.func33, Try.ntmps33
      go_wp2_with (at_builtin; refine Go.Lib.wpList_append_run _ rfl (.tmp 34) (.tmp 39) 22 3 rfl _ _ rfl rfl _ _ (HA.out _) ?_)
      simp only [HC1.out]
      go_wp2_with fail
      refine startL (fun _ => True) [] (by kernel_rfl) ?_
      change WalkL _ _ _ _ _ _ 9 #[false, false, false, false, false, false, false, false, false] _ _
      refine pu 0 (.slice (some ⟨h, 0, none⟩) (cap + 1) gc) trivial rfl ?_
      refine pu 1 (.int .i64 i) trivial rfl ?_
      refine pu 2 (.int .i64 1) trivial rfl ?_
      refine pu 3 (.int .i64 ((i : Int) + 1)) trivial rfl ?_
      refine pu 4 (.slice (some ⟨h, i + 1, none⟩) (cap - i) (gc - (i + 1))) trivial rfl ?_
      refine pu 5 (.slice (some ⟨g, 0, none⟩) cap cap) trivial rfl ?_
      refine pu 6 (.int .i64 i) trivial rfl ?_
      refine pu 7 (.slice (some ⟨g, i, none⟩) (cap - i) (cap - i)) trivial rfl ?_
      refine vl 8 _ (HC2.out 3 _ _) (by kernel_rfl) rfl trivial ?_
      refine doneL (by kernel_rfl) ?_ _
      go_wp2_with fail
      go_ret
      exact HE.out
/-- .. of a variadic argument that the caller has just made. -/
theorem InsI.fresh (v : Value) (xs : List Value) (i : Nat) (x : Value) (w : World) (hv : w.ownsRow 0 2 1 v xs.length xs) (hi : i ≤ xs.length) (hx : x.oneCell' = true) (hxs : ∀ u ∈ xs, u.oneCell' = true) (hlen : xs.length ≤ 100) :
    Calls Try.prog 33 #[v, .int .i64 (i : Int), .slice (some ⟨w.heap.size, 0, none⟩) 1 1] (w.alloc (.cells #[x] 2)) (RetRow w 2 v (xs.take i ++ x :: xs.drop i)) := by
  refine (InsI.calls v xs i x w.heap.size (w.alloc (.cells #[x] 2)) (hv.alloc _) hi (heap_alloc_new w _) (fun e => ?_) hx hxs hlen).mono ?_
  · have := (hv.lt _ e).2
    omega
  · rintro e w' ⟨A, n, c, rfl, ho, hg, hb⟩
    refine ⟨A, n, c, rfl, ho, grown_trans (World.grownBy_alloc w _ _) hg, hb.imp id fun h g hg' => ?_⟩
    have := h g hg'
    rw [World.size_alloc] at this
    omega
set_option maxHeartbeats 4000000 in
theorem DelI.calls (v : Value) (xs : List Value) (i : Nat) (w : World) (hv : w.ownsRow 0 2 1 v xs.length xs) (hi : i < xs.length) (hxs : ∀ u ∈ xs, u.oneCell' = true) (hlen : xs.length ≤ 100) :
    Calls Try.prog 52 #[v, .int .i64 (i : Int), .int .i64 (i + 1 : Nat)] w (RetRow w 2 v (xs.take i ++ xs.drop (i + 1))) := by
  obtain ⟨i0, hi0, hz0, hz1, hz2⟩ := info_parts info2
  obtain ⟨m, hm⟩ : ∃ m, xs.length = i + 1 + m := ⟨xs.length - (i + 1), by omega⟩
  rcases own_form hv with ⟨rfl, h0, _⟩ | ⟨g, cap, cur, rfl, hg, h1, h2, h3, h4⟩
  · omega
  rw [hm] at hi hlen h1 h4 ⊢
  have hdl : (xs.drop (i + 1)).length = m := by rw [List.length_drop, hm]; omega
  have hd1 : ∀ u ∈ xs.drop (i + 1), u.oneCell' = true := fun u hu => hxs u (List.mem_of_mem_drop hu)
  have hold : ∀ j, j < i + 1 + m → w.cell? ⟨g, j, none⟩ = xs[j]? := fun j hj => by rw [cell_of_row w g j _ _ (0, 0) hg, ← h4, List.getElem?_take_of_lt hj, Array.getElem?_toList]
  obtain ⟨D, hD, hDe⟩ := sl_from (P := Try.prog) 22 2 Try.underlying22 hi0 hz1 (some ⟨g, 0, none⟩) (i + 1 + m) cap (i + 1) (by omega)
  rw [show i + 1 + m - (i + 1) = m by omega] at hD
  obtain ⟨a, ha, hac⟩ : ∃ a, D = some a ∧ (0 < m → a = ⟨g, i + 1, none⟩) := by
    by_cases hc : i + 1 < cap
    · exact ⟨⟨g, i + 1, none⟩, by rw [hDe hc]; simp [Addr.add_lit], fun _ => rfl⟩
    · have h0 := hD w
      have h1' := cut_from (P := Try.prog) 22 2 .i64 Try.underlying22 hi0 1 hz1 (some ⟨g, 0, none⟩) (i + 1 + m) cap ((i + 1 : Nat) : Int) (by omega) (by omega) w
      rw [h0] at h1'
      rw [Int.toNat_natCast, if_pos (by omega)] at h1'
      injection h1' with h1'
      injection h1' with h1'
      exact ⟨_, h1', fun h => by omega⟩
  subst ha
  obtain ⟨ys, hys⟩ : ∃ ys, xs.take i ++ xs.drop (i + 1) = ys := ⟨_, rfl⟩
  rw [hys]
  have hyl : ys.length = i + m := by rw [← hys]; simp; omega
  obtain ⟨r1, hr1⟩ : ∃ r1, r1 = (cur.toList.take (i * 1) ++ xs.drop (i + 1) ++ cur.toList.drop (i * 1 + (xs.drop (i + 1)).length)).toArray := ⟨_, rfl⟩
  have hap : ∀ ty dc, (Builtin.append_ #[22, 22] ty #[.slice (some ⟨g, 0, none⟩) i cap, .slice (some a) m dc]).run Try.prog w.drew = .ok (.slice (some ⟨g, 0, none⟩) (i + m) cap) (w.drew.setRow g r1) := fun ty dc => by
    rw [hr1]
    have := run_append_room (P := Try.prog) w.drew 22 ty 2 i0 Try.underlying22 hi0 g i cap cur hg a m dc (xs.drop (i + 1)) (by rw [hz1, hdl]; omega)
      (fun j u hj => by
        have hjm : j < m := by rw [← hdl]; exact (List.getElem?_eq_some_iff.1 hj).1
        rw [hac (by omega), Addr.add_lit]
        rw [List.getElem?_drop] at hj
        exact (hold (i + 1 + j) (by omega)).trans hj) hd1 (by omega) (by rw [hz1, hdl, h3]; omega)
    rw [hz1] at this
    exact this
  have hr1s : r1.size = cap := by rw [hr1]; simp; omega
  have hg1 : (w.drew.setRow g r1).heap[g]? = some (.cells r1 2 (0, 0)) := setRow_heap w.drew g cur _ _ _ hg
  have hcl : ∀ ty dc, (Builtin.clear_ #[22] ty #[.slice (some ⟨g, i + m, none⟩) 1 dc]).run Try.prog (w.drew.setRow g r1) = .ok (.tuple #[]) ((w.drew.setRow g r1).setRow g (r1.setIfInBounds (i + m) (.int .i64 0))) := fun ty dc => by
    rw [← setCells_one _ g (i + m) _ r1 _ hg1]
    exact Lib.run_clear_slice _ 22 2 ty (.int .i64 0) Try.underlying22 (fun w => by simp [zeroValue, typeInfo, hi0, hz0]) rfl rfl g (i + m) 1 dc (by omega)
      (fun j hj => by rw [cell_of_row _ g _ _ _ (0, 0) hg1, Array.getElem?_eq_getElem (by omega)]; rfl) (fun j hj => by simp [World.frozen?, hg1])
  have hend : RetRow w 2 (.slice (some ⟨g, 0, none⟩) (i + 1 + m) cap) ys (.returned (.slice (some ⟨g, 0, none⟩) (i + m) cap)) ((w.drew.setRow g r1).setRow g (r1.setIfInBounds (i + m) (.int .i64 0))) := by
    refine retRow hyl (own_mk (setRow_heap _ g r1 _ _ _ hg1) (by omega) h2 (by simpa using hr1s) ?_) ?_ (.inl rfl)
    · rw [hr1, ← hys]; exact del_list cur.toList xs i m _ h4 hm (by rw [Array.length_toList, h3]; omega)
    · exact grown_trans (grown_trans (grown_drewN w 1 _) (grown_setRow w.drew g r1)) (grown_setRow _ g _)
  have hD' : ∀ W, (Instr.slice 22 (.slice (some ⟨g, 0, none⟩) (i + 1 + m) cap) (some (.int .i64 ((i : Int) + 1))) none none).run Try.prog W = .ok (.slice (some a) m (cap - (i + 1))) W := fun W => by
    rw [show ((i : Int) + 1) = ((i + 1 : Nat) : Int) by omega]; exact hD W
  have hn1 : ((i : Int) == ((i + 1 : Nat) : Int)) = false := by simp; omega
  have hn2 : ¬ ((i : Int) = ((i + 1 : Nat) : Int)) := by omega
  have hn3 : ¬ ((i : Int) = (i : Int) + 1) := by omega
  have hto := sl_to (P := Try.prog) 22 2 Try.underlying22 hi0 (some ⟨g, 0, none⟩) (i + 1 + m) cap i (by omega)
  have HE := Aside0.mk hend
  have HA := Aside0.mk hap
  have HC := Aside0.mk hcl
  have b1 : (i : Int) ≤ (cap : Int) := by omega
  have b2 : ((i + 1 + m : Nat) : Int) ≤ (cap : Int) := by omega
  have b3 : (i : Int) + 1 + (m : Int) ≤ (cap : Int) := by omega
  have b4 : (i : Int) + (m : Int) ≤ (i : Int) + 1 + (m : Int) := by omega
  have b5 : (0 : Int) ≤ (i : Int) + (m : Int) := by omega
  have b6 : ¬ (cap = i + m) := by omega
  have b7 : ((i : Int) + (m : Int)).toNat = i + m := by omega
  have b8 : ((i : Int) + 1 + (m : Int)).toNat = i + 1 + m := by omega
  have b9 : i + 1 + m - (i + m) = 1 := by omega
  clear hend hap hcl hr1 hold hdl hd1 hys hyl hDe hg1 hg h4 hxs hv hi0 hz0 hz1 hz2 hr1s hac hm h3
  go_enter Try.func52, Try.ntmps52
  go_wp2_with fail
  refine startL (fun _ => True) [] (by kernel_rfl) ?_
  change WalkL _ _ _ _ _ _ 8 #[false, false, false, false, false, false, false, false] _ _
  refine pu 0 (.slice (some ⟨g, 0, none⟩) (i + 1 + m) cap) trivial rfl ?_
  refine pu 1 (.int .i64 i) trivial rfl ?_
  refine pu 2 (.slice (some ⟨g, 0, none⟩) i cap) trivial rfl ?_
  refine pu 3 (.slice (some ⟨g, 0, none⟩) (i + 1 + m) cap) trivial rfl ?_
  refine pu 4 (.int .i64 (i + 1 : Nat)) trivial rfl ?_
  refine pu 5 (.slice (some a) m (cap - (i + 1))) trivial rfl ?_
  refine vl 6 _ (HA.out 22 _) (by kernel_rfl) rfl trivial ?_
  refine pu 7 (.slice (some ⟨g, 0, none⟩) (i + m) cap) trivial rfl ?_
  refine doneL (by kernel_rfl) ?_ _
  go_wp2_with fail
  simp only [HC.out]
  go_wp2_with fail
  go_ret
  exact HE.out
set_option maxHeartbeats 4000000 in
theorem CloI.calls (b o n c : Nat) (xs : List Value) (w : World) (hn : xs.length = n) (h0 : 0 < n) (hc : ∀ j u, xs[j]? = some u → w.cell? ⟨b, o + j, none⟩ = some u) (hxs : ∀ u ∈ xs, u.oneCell' = true) (hlen : n ≤ 100) :
    Calls Try.prog 47 #[.slice (some ⟨b, o, none⟩) n c] w (RetNew w 2 n xs) := by
  obtain ⟨i0, hi0, hz0, hz1, hz2⟩ := info_parts info2
  have he := Go.run_eql_slice_nil (P := Try.prog) w 22 2 (some ⟨b, o, none⟩) n c Try.underlying22
  have hown0 : (w.alloc (.cells #[] 2)).ownsRow w.heap.size 2 1 (.slice (some ⟨w.heap.size, 0, none⟩) 0 0) 0 [] := World.ownsRow_lit (base := w.heap.size) (e := 2) (size := 1) w #[] 0 (Nat.le_refl _) (by decide) rfl
  have hb0 : Below w.heap.size w (w.alloc (.cells #[] 2)) := (Below.refl _ w).alloc (Nat.le_refl _) _
  obtain ⟨v', w', hr, hown', hgrow, _, hblk⟩ := run_append_own_at (P := Try.prog) (w.alloc (.cells #[] 2)) w.heap.size 22 22 2 i0 _ 1 8 Try.underlying22 hi0 hz0 hz1 hz2 rfl (by omega) (.slice (some ⟨w.heap.size, 0, none⟩) 0 0) 0 [] hown0 ⟨b, o, none⟩ n c xs (by omega)
    (fun j u hj => by rw [Addr.add_lit, Go.Lib.cell?_alloc_some _ (hc j u hj)]) hxs (by simp only [maxLen]; omega) (by omega) (by simp)
  rw [Nat.zero_add, List.nil_append] at hown'
  obtain ⟨A, k, rfl⟩ : ∃ A k, v' = .slice A n k := by
    rcases hown'.2 with ⟨_, e⟩ | ⟨g, cap, cur, rfl, _⟩
    · omega
    · exact ⟨_, _, rfl⟩
  have hend : RetNew w 2 n xs (.returned (.slice A n k)) w' :=
    ⟨A, k, rfl, hown', hb0.grown hgrow (by simp) fun j ej => by
      have : w.heap.size = j := by simpa [Value.ownBlock] using ej
      omega⟩
  have HE := Aside0.mk hend
  have HR := Aside0.mk hr
  clear hend hr hown' hgrow hblk hown0 hb0 hc hxs hi0 hz0 hz1 hz2 hn
  go_enter Try.func47, Try.ntmps47
  go_wp2_with (at_builtin; refine Go.Lib.wpList_append_run _ rfl (.tmp 5) (.tmp 6) 22 22 rfl _ _ rfl rfl _ _ HR.out ?_)
  go_ret
  exact HE.out
/-- append of one element that the caller has just laid. -/
theorem AppI.fresh (v : Value) (xs : List Value) (x : Value) (w : World) (hv : w.ownsRow 0 2 1 v xs.length xs) (hx : x.oneCell' = true) (hlen : xs.length ≤ 100) :
    ∃ A n c w', (Builtin.append_ #[22, 22] 22 #[v, .slice (some ⟨w.heap.size, 0, none⟩) 1 1]).run Try.prog (w.alloc (.cells #[x] 2)) = .ok (.slice A n c) w' ∧ RowOp w w' 2 v (.slice A n c) (xs ++ [x]) := by
  obtain ⟨i0, hi0, hz0, hz1, hz2⟩ := info_parts info2
  obtain ⟨v', w', hr, hown', hgrow, _, hblk⟩ := run_append_own_at (P := Try.prog) (w.alloc (.cells #[x] 2)) 0 22 22 2 i0 _ 1 8 Try.underlying22 hi0 hz0 hz1 hz2 rfl (by omega) v xs.length xs (hv.alloc _) ⟨w.heap.size, 0, none⟩ 1 1 [x] rfl
    (World.news_of_block (cs := #[x]) (heap_alloc_new w _)) (fun u hu => by rw [List.mem_singleton.1 hu]; exact hx) (by simp only [maxLen]; omega) (by omega) (by omega)
  rw [show xs.length + 1 = (xs ++ [x]).length by simp] at hown'
  obtain ⟨A, c, rfl, _⟩ := own_slice hown'
  refine ⟨A, _, c, w', hr, hown', grown_trans (World.grownBy_alloc w _ _) hgrow, hblk.imp id fun h g hg => ?_⟩
  rw [h] at hg
  injection hg with hg
  rw [World.size_alloc] at hg
  omega
/-- append of another row. -/
theorem AppI.row (v : Value) (xs : List Value) (A2 : Option Addr) (n2 c2 : Nat) (ys : List Value) (w : World) (hv : w.ownsRow 0 2 1 v xs.length xs) (h2 : w.ownsRow 0 2 1 (.slice A2 n2 c2) ys.length ys) (hn2 : ys.length = n2) (hys : ∀ u ∈ ys, u.oneCell' = true) (hlen : xs.length + ys.length ≤ 100) :
    ∃ A n c w', (Builtin.append_ #[22, 22] 22 #[v, .slice A2 n2 c2]).run Try.prog w = .ok (.slice A n c) w' ∧ RowOp w w' 2 v (.slice A n c) (xs ++ ys) := by
  obtain ⟨i0, hi0, hz0, hz1, hz2⟩ := info_parts info2
  subst hn2
  rcases own_form h2 with ⟨e, e0, rfl⟩ | ⟨g, cap, cur, e, hg, h1, h3, h4, h5⟩
  · injection e with e1 e2 e3
    subst e1; subst e3
    have hr := run_append_owned_none (P := Try.prog) w 0 22 22 2 i0 1 Try.underlying22 hi0 v xs.length xs hv
    obtain ⟨A, c, rfl, _⟩ := own_slice hv
    rw [List.append_nil]
    exact ⟨A, _, c, w, hr, hv, ⟨rfl, rfl, rfl, Nat.le_refl _, fun _ _ _ => rfl⟩, .inl rfl⟩
  · injection e with e1 e2 e3
    subst e1; subst e3
    obtain ⟨v', w', hr, hown', hgrow, _, hblk⟩ := run_append_own_at (P := Try.prog) w 0 22 22 2 i0 _ 1 8 Try.underlying22 hi0 hz0 hz1 hz2 rfl (by omega) v xs.length xs hv ⟨g, 0, none⟩ ys.length c2 ys (by omega)
      (fun j u hj => by
        rw [Addr.add_lit, Nat.zero_add, cell_of_row w g j _ _ (0, 0) hg, ← Array.getElem?_toList, ← List.getElem?_take_of_lt (List.getElem?_eq_some_iff.1 hj).1, h5]
        exact hj) hys (by simp only [maxLen]; omega) (by omega) (by omega)
    rw [show xs.length + ys.length = (xs ++ ys).length by simp] at hown'
    obtain ⟨A, c, rfl, _⟩ := own_slice hown'
    refine ⟨A, _, c, w', hr, hown', hgrow, hblk.imp id fun h g hg => ?_⟩
    rw [h] at hg
    injection hg with hg
    omega
end Go.Proofs.Ytkfcflflgecljaa.H
