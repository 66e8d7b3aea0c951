/- bmap.Below: the numbers of the lower blocks. -/
import Derived.Test.YtpgdcpbbfphbiaaQ3
import Derived.Test.YtpgdcpbbfphbiaaHBNum
import Derived.Test.YtpgdcpbbfphbiaaQ7
import Derived.Test.YtpgdcpbbfphbiaaQ9
import Derived.Test.YtpgdcpbbfphbiaaHArr
import Derived.Laws.CopyOwn
set_option linter.unusedVariables false
set_option linter.unusedSimpArgs false
namespace Go.Proofs.Ytpgdcpbbfphbiaa.Q
open Go.RowKit Go.Shelf Go.Proofs.Ytpgdcpbbfphbiaa.H Go.Proofs.YtpgdcpbbfphbiaaW.PrintWords Go.Proofs.YtpgdcpbbfphbiaaW.PrintLast Go.Proofs.YtpgdcpbbfphbiaaW.PrintMore
attribute [local go_sem] Oper.semAt_some
set_option maxRecDepth 100000

def blocksV (a : Int) : Int := (inode_Blocks.f a).getD 0
theorem blocks_eq (a : Int) : inode_Blocks.f a = some (blocksV a) := rfl
def depV (a : Int) : Int := (inode_Depth.f a).getD 0
theorem dep_eq (a : Int) : inode_Depth.f a = some (depV a) := by
  unfold depV inode_Depth.f
  rw [blocks_eq, Option.bind_some]
  split
  · rfl
  · split <;> rfl
def lowV (a : Int) : Int := (bmap_lower.f a).getD 0
theorem low_eq (a : Int) : bmap_lower.f a = some (lowV a) := rfl

def badAt (b : ByteArray) (many : Int) (k : Nat) : Bool := (decide (0 < tkN b k)) != (decide ((k : Int) < many))
def outK (b : ByteArray) (k : Nat) : List Int := (numsN b k).filter (fun x => decide (0 < x))
theorem outK_succ (b : ByteArray) (k : Nat) : outK b (k + 1) = outK b k ++ (if decide (0 < tkN b k) = true then [tkN b k] else []) := by
  unfold outK
  rw [numsN_succ, List.filter_append]
  congr 1
  by_cases h : 0 < tkN b k <;> simp [h]
theorem outK_len (b : ByteArray) (k : Nat) : (outK b k).length ≤ k := by
  have := List.length_filter_le (fun x => decide (0 < x)) (numsN b k)
  rw [numsN_len] at this
  exact this
def bmap_Below.f (size : Int) (top : ByteArray) : Option (List Int × Int) :=
  if size > 8193532 then some ([], 130) else if depV size = 2 then (if top.size = 508 then (if okN top = true then (if (List.range 127).any (badAt top (lowV size)) = true then some ([], 130) else some (outK top 127, 0)) else none) else some ([], 130)) else some ([], 130)

set_option maxHeartbeats 8000000 in
theorem below_yes (size : Int) (b : ByteArray) (hz : decide (8193532 < size) = false) (hdep : inode_Depth.f size = some 2) (hs : b.size = 508) (hb : okN b = true) (w : World) :
    Calls Try.prog 20 #[.int .u32 size, .string b] w fun e w' => (((List.range 127).any (badAt b (lowV size)) = true ∧ e = .returned (.tuple #[.slice none 0 0, .int .i64 130])) ∨
      ((List.range 127).any (badAt b (lowV size)) = false ∧ ∃ v, e = .returned (.tuple #[v, .int .i64 0]) ∧ w'.ownsRow w.heap.size 22 1 v (outK b 127).length ((outK b 127).map (Value.int .u32)))) ∧ Below w.heap.size w w' := by
  obtain ⟨i0, hi, hz0, hz1, hz2⟩ := info_parts info_u32
  obtain ⟨many, hmany⟩ : ∃ many, lowV size = many := ⟨_, rfl⟩
  have hlow : bmap_lower.f size = some many := by rw [← hmany]; rfl
  rw [hmany]
  refine (callsIn_wide (n := 10)).1 ?_
  refine callsIn_of_wp_marks Try.func20 rfl trivial ?_ rfl
  simp only [Try.ntmps20, List.size_toArray, List.length_cons, List.length_nil, Nat.reduceAdd, Nat.reduceSub, Array.replicate_succ, Array.replicate_zero, List.push_toArray, List.append_toArray, List.nil_append, List.cons_append]
  gi_wp2_with fail
  refine wpIn_scope ?_
  gi_wp2_with fail
  refine ⟨trivial, (callsIn_wide.2 (inode_Depth.calls size 2 _ hdep)).mono ?_⟩
  rintro e w1 ⟨rfl, m1, rfl⟩
  gi_wp2_with fail
  refine ⟨trivial, (callsIn_wide.2 (bmap_lower.calls size many _ hlow)).mono ?_⟩
  rintro e w2 ⟨rfl, m2, rfl⟩
  gi_wp2_with fail
  obtain ⟨H, hH⟩ : ∃ H, w.heap.size = H := ⟨_, rfl⟩
  simp only [hH, Nat.add_assoc, Nat.reduceAdd]
  obtain ⟨W0, hW0⟩ : ∃ W0, (((((w.drewN m1).alloc (.cells #[.slice none 0 0] 31)).drewN m2).alloc (.cells #[.int .i64 many] 3)).alloc (.cells #[.bool true] 4)) = W0 := ⟨_, rfl⟩
  have hs0 : W0.heap.size = H + 3 := by rw [← hW0]; simp [hH]
  have hB0 : Below H w W0 := by
    rw [← hW0]
    exact ((pw_below_drewN ((pw_below_drewN (Below.refl H w) m1).alloc (by simp; omega) _) m2).alloc (by simp; omega) _).alloc (by simp; omega) _
  have o0 : Boxed W0 H 31 (.slice none 0 0) := by
    rw [← hW0]
    have := (show Boxed (((w.drewN m1).alloc (.cells #[.slice none 0 0] 31)).drewN m2) (w.drewN m1).heap.size 31 (.slice none 0 0) from Boxed.new (w.drewN m1) 31 (.slice none 0 0)).alloc (.cells #[.int .i64 many] 3) |>.alloc (.cells #[.bool true] 4)
    rwa [World.heap_drewN, hH] at this
  have n0 : Boxed W0 (H + 1) 3 (.int .i64 many) := by
    rw [← hW0]
    have := (Boxed.new (((w.drewN m1).alloc (.cells #[.slice none 0 0] 31)).drewN m2) 3 (.int .i64 many)).alloc (.cells #[.bool true] 4)
    rwa [World.heap_drewN, World.size_alloc, World.heap_drewN, hH] at this
  have g0 : Boxed W0 (H + 2) 4 (.bool true) := by
    rw [← hW0]
    have := Boxed.new ((((w.drewN m1).alloc (.cells #[.slice none 0 0] 31)).drewN m2).alloc (.cells #[.int .i64 many] 3)) 4 (.bool true)
    rwa [World.size_alloc, World.heap_drewN, World.size_alloc, World.heap_drewN, hH] at this
  simp only [hW0]
  clear hW0
  refine wpIn_label ?_
  gi_wp2_with fail
  refine ⟨trivial, (callsIn_wide.2 (numbers_calls b W0)).mono ?_⟩
  rintro e W1 ⟨rfl, hW1⟩
  have hs1 : W1.heap.size = H + 4 := by rw [hW1]; simp [hs0]
  have x1 : W1.heap[H + 3]? = some (.cells #[.string b] 9 (0, 0)) := by rw [hW1, ← hs0]; exact World.alloc_heap_new _ _
  have hB1 : Below H w W1 := by rw [hW1]; exact hB0.alloc (by omega) _
  have o1 : Boxed W1 H 31 (.slice none 0 0) := by rw [hW1]; exact o0.alloc _
  have n1 : Boxed W1 (H + 1) 3 (.int .i64 many) := by rw [hW1]; exact n0.alloc _
  have g1 : Boxed W1 (H + 2) 4 (.bool true) := by rw [hW1]; exact g0.alloc _
  rw [hs0]
  clear hW1 hs0 hB0 o0 n0 g0
  gi_wp2_with fail
  refine wpIn_rangeN rfl (by omega) (gf := 46) (lb := #[.pointer (some ⟨H + 3, 0, none⟩)]) rfl trivial (enters_of Try.func46 (by kernel_rfl) rfl)
    (numbers_seq 9 (by omega) b hb (H + 3) W1 x1) (Below.refl _ _) (fun _ => rfl) (fun h => h.elim) (fun h => h.elim) (by omega)
    (fun k W => (∃ v, Boxed W H 31 v ∧ W.ownsRow (H + 6) 22 1 v (outK b k).length ((outK b k).map (Value.int .u32))) ∧ Boxed W (H + 1) 3 (.int .i64 many) ∧ Boxed W (H + 2) 4 (.bool true) ∧ Below H w W ∧ (∀ j, j < k → badAt b many j = false))
    (fun q k W => q = .exit 0 ∧ Boxed W (H + 2) 4 (.bool false) ∧ Below H w W ∧ (List.range 127).any (badAt b many) = true)
    (fun k => (stands_ex fun v => (stands_box _ _ _ (by rintro (h | h | h) <;> first | exact h.elim | omega)).and (stands_row (by rintro j (h | h | h) <;> first | exact h.elim | omega))).and ((stands_box _ _ _ (by rintro (h | h | h) <;> first | exact h.elim | omega)).and ((stands_box _ _ _ (by rintro (h | h | h) <;> first | exact h.elim | omega)).and ((stands_below (by omega) (by rintro j (h | h | h) <;> first | exact h.elim | omega)).and (stands_pure _)))))
    (fun q k => (stands_pure _).and ((stands_box _ _ _ (by rintro (h | h | h) <;> first | exact h.elim | omega)).and ((stands_below (by omega) (by rintro j (h | h | h) <;> first | exact h.elim | omega)).and (stands_pure _))))
    ⟨⟨_, o1, World.ownsRow_nil _ _ _ _⟩, n1, g1, hB1, fun j hj => by omega⟩
    (fun k => { tmps := #[.int .u32 size, .string b, undef, undef, .slice none 0 0, .int .i64 0, .pointer (some ⟨H, 0, none⟩), .pointer (some ⟨H + 1, 0, none⟩), .pointer (some ⟨H + 2, 0, none⟩), .int .i64 k, .int .u32 (tkN b k), .int .u32 size, .bool false, .bool false, .int .u32 size, .int .i64 2, .bool false, .bool false, .bool false, .string b, .int .i64 508, .bool false, .bool false, .int .u32 size, .int .i64 many, .string b, .func (.func 46) #[] #[.pointer (some ⟨H + 3, 0, none⟩)], .int .i64 k, .int .u32 (tkN b k), undef, undef, undef, undef, undef, undef, undef, undef, undef, undef, undef, undef, undef, undef, undef], defers := [] }) ?assign ?body ?done ?stop
  case assign =>
    intro lp k W K hK
    gi_wp2
    exact hK
  case body =>
    rintro lp k W hk hWs ⟨⟨v, hv, hrow⟩, hn, hg, hB, hgood⟩
    have HBW := Aside0.mk hB
    have HGD := Aside0.mk hgood
    have hc0 := hv.cell
    have hc1 := hn.cell
    have hc2 := hg.cell
    have hf2 := hg.frozen
    have hlen := outK_len b k
    have hsu := outK_succ b k
    clear hB hgood
    cases x0 : decide (0 < tkN b k) with
    | true =>
      cases y0 : decide ((k : Int) < many) with
      | true =>
        have hbk : badAt b many k = false := by unfold badAt; rw [x0, y0]; rfl
        rw [x0, if_pos rfl] at hsu
        have HBK := Aside0.mk hbk
        have HSU := Aside0.mk hsu
        clear hsu hbk
        gi_wp2_with (first | (gi_at_builtin; refine wpListIn_append_own _ rfl _ _ 31 rfl (H + 6) 22 i0 (.int .u32 0) 1 4 Try.underlying31 hi hz0 hz1 hz2 rfl (by decide) _ _ _ rfl (hrow.alloc _) ⟨W.heap.size, 0, none⟩ 1 1 [.int .u32 (tkN b k)] rfl rfl (cell_one_new _ _ _) (by simp [Value.oneCell']) (by unfold maxLen; omega) (by omega) (by simp; omega) ?_; intro v' w1 hown' hgrow _; obtain ⟨g', cap', rfl⟩ := ownsRow_succ hown'; obtain ⟨hv1, hv2, hr2, hk2, hb2, hj2⟩ := box_appended (n₀ := H) hv hrow (by omega) (by omega) (Nat.le_refl _) hown' hgrow; have hc1 := hv1.cell; have hf1 := hv1.frozen))
        refine ⟨hk2, ⟨by have := hb2.size; omega, fun j hj hl => hj2 j (by omega) (by omega)⟩, ⟨_, hv2, ?_⟩, (hj2 _ (by omega) (by omega)).trans hn, (hj2 _ (by omega) (by omega)).trans hg, HBW.out.trans hb2, fun j hj => ?_⟩
        · rw [HSU.out, List.length_append, List.map_append]; exact hr2
        · rcases Nat.lt_or_ge j k with h | h
          · exact HGD.out j h
          · obtain rfl : j = k := by omega
            exact HBK.out
      | false =>
        have hbk : badAt b many k = true := by unfold badAt; rw [x0, y0]; rfl
        have hany : (List.range 127).any (badAt b many) = true := List.any_eq_true.2 ⟨k, List.mem_range.2 hk, hbk⟩
        have HA := Aside0.mk hany
        clear hsu hbk hany
        gi_wp2
        exact ⟨KeepsOthers.setCell _ _ _, rfl, hg.set _, HBW.out.setCell (p := ⟨H + 2, 0, none⟩) (Nat.le_add_right H 2) _, HA.out⟩
    | false =>
      cases y0 : decide ((k : Int) < many) with
      | true =>
        have hbk : badAt b many k = true := by unfold badAt; rw [x0, y0]; rfl
        have hany : (List.range 127).any (badAt b many) = true := List.any_eq_true.2 ⟨k, List.mem_range.2 hk, hbk⟩
        have HA := Aside0.mk hany
        clear hsu hbk hany
        gi_wp2
        exact ⟨KeepsOthers.setCell _ _ _, rfl, hg.set _, HBW.out.setCell (p := ⟨H + 2, 0, none⟩) (Nat.le_add_right H 2) _, HA.out⟩
      | false =>
        have hbk : badAt b many k = false := by unfold badAt; rw [x0, y0]; rfl
        rw [x0, if_neg (by decide), List.append_nil] at hsu
        have HBK := Aside0.mk hbk
        have HSU := Aside0.mk hsu
        clear hsu hbk
        gi_wp2
        refine ⟨KeepsOthers.refl _, KeepAt.refl _ _, ⟨_, hv, ?_⟩, hn, hg, HBW.out, fun j hj => ?_⟩
        · rw [HSU.out]; exact hrow
        · rcases Nat.lt_or_ge j k with h | h
          · exact HGD.out j h
          · obtain rfl : j = k := by omega
            exact HBK.out
  case done =>
    rintro W ⟨⟨v, hv, hrow⟩, hn, hg, hB, hgood⟩ hWs hD
    have hc0 := hv.cell
    have hc2 := hg.cell
    have hany : (List.range 127).any (badAt b many) = false := by
      rw [List.any_eq_false]
      intro j hj
      rw [hgood j (List.mem_range.1 hj)]; decide
    have HA := Aside0.mk hany
    clear hgood hany
    gi_wp2
    simp only [Exit.noGoto]
    refine ⟨by simp, .inl ⟨_, _, rfl, run_takeDeferred hD, ?_⟩⟩
    refine ⟨_, results_tmp2 rfl _ _ _, ⟨.inr ⟨HA.out, _, rfl, ?_⟩, ?_⟩⟩
    · exact ownsRow_putObj (row_lower hrow (by omega)) _ hD rfl
    · rw [hH]; exact hB.trans (belowK_b (w := W1) (by omega) W _ _ _ (by omega) hD rfl rfl)
  case stop =>
    rintro q k W hk ⟨rfl, hg, hB, hany⟩ hWs hD
    have hc2 := hg.cell
    have HA := Aside0.mk hany
    clear hany
    gi_wp2
    simp only [Exit.noGoto]
    refine ⟨by simp, .inl ⟨_, _, rfl, run_takeDeferred hD, ?_⟩⟩
    refine ⟨_, results_tmp2 rfl _ _ _, ⟨.inl ⟨HA.out, rfl⟩, ?_⟩⟩
    rw [hH]; exact hB.trans (belowK_b (w := W1) (by omega) W _ _ _ (by omega) hD rfl rfl)
set_option maxHeartbeats 4000000 in
theorem below_no0 (size : Int) (b : ByteArray) (hz : decide (8193532 < size) = true) (w : World) :
    Calls Try.prog 20 #[.int .u32 size, .string b] w fun e w' => e = .returned (.tuple #[.slice none 0 0, .int .i64 130]) ∧ Below w.heap.size w w' := by
  go_enter Try.func20, Try.ntmps20
  go_wp2_with fail
  refine wp_scope_straight ?_
  go_wp2_with fail
  (try simp only [Exit.noGoto])
  go_ret2
  exact ⟨rfl, Below.refl _ w⟩
set_option maxHeartbeats 4000000 in
theorem below_no1 (size : Int) (b : ByteArray) (hz : decide (8193532 < size) = false) (d : Int) (hdep : inode_Depth.f size = some d) (hd : (d != 2) = true) (w : World) :
    Calls Try.prog 20 #[.int .u32 size, .string b] w fun e w' => e = .returned (.tuple #[.slice none 0 0, .int .i64 130]) ∧ Below w.heap.size w w' := by
  go_enter Try.func20, Try.ntmps20
  go_wp2_with fail
  refine wp_scope_straight ?_
  go_wp2_with fail
  refine (inode_Depth.calls size d _ hdep).mono ?_
  rintro e w1 ⟨rfl, m1, rfl⟩
  go_wp2_with fail
  (try simp only [Exit.noGoto])
  go_ret2
  exact ⟨rfl, pw_below_drewN (Below.refl _ w) m1⟩
set_option maxHeartbeats 4000000 in
theorem below_no2 (size : Int) (b : ByteArray) (hz : decide (8193532 < size) = false) (hdep : inode_Depth.f size = some 2) (hs : ((b.size : Int) != 508) = true) (w : World) :
    Calls Try.prog 20 #[.int .u32 size, .string b] w fun e w' => e = .returned (.tuple #[.slice none 0 0, .int .i64 130]) ∧ Below w.heap.size w w' := by
  go_enter Try.func20, Try.ntmps20
  go_wp2_with fail
  refine wp_scope_straight ?_
  go_wp2_with fail
  refine (inode_Depth.calls size 2 _ hdep).mono ?_
  rintro e w1 ⟨rfl, m1, rfl⟩
  go_wp2_with fail
  (try simp only [Exit.noGoto])
  go_ret2
  exact ⟨rfl, pw_below_drewN (Below.refl _ w) m1⟩
theorem bmap_Below.calls (size : Int) (b : ByteArray) (r1 : List Int) (r2 : Int) (w : World) (h : bmap_Below.f size b = some (r1, r2)) :
    Calls Try.prog 20 #[.int .u32 size, .string b] w fun e w' => ∃ v0_ : Value, e = .returned (.tuple #[v0_, .int .i64 r2]) ∧ Kd.R (Kd.int .u32) 22 w' w.heap.size (fun _ => True) v0_ r1 ∧ Below w.heap.size w w' := by
  unfold bmap_Below.f at h
  by_cases h0 : size > 8193532
  · rw [if_pos h0] at h
    cases h
    refine (below_no0 size b (decide_eq_true h0) w).mono ?_
    rintro e w' ⟨rfl, hbe⟩
    exact ⟨_, rfl, Kd.R_nil _ _ _ _ _, hbe⟩
  rw [if_neg h0] at h
  by_cases h1 : depV size = 2
  · rw [if_pos h1] at h
    have hd : inode_Depth.f size = some 2 := by rw [dep_eq, h1]
    by_cases h2 : b.size = 508
    · rw [if_pos h2] at h
      by_cases h3 : okN b = true
      · rw [if_pos h3] at h
        refine (below_yes size b (decide_eq_false h0) hd h2 h3 w).mono ?_
        rintro e w' ⟨⟨ha, rfl⟩ | ⟨ha, v, rfl, hrow⟩, hbe⟩
        · rw [if_pos ha] at h
          cases h
          exact ⟨_, rfl, Kd.R_nil _ _ _ _ _, hbe⟩
        · rw [if_neg (by rw [ha]; decide)] at h
          cases h
          exact ⟨v, rfl, Kd.R_of_own hrow (fun _ _ => trivial), hbe⟩
      · rw [if_neg h3] at h; cases h
    · rw [if_neg h2] at h
      cases h
      refine (below_no2 size b (decide_eq_false h0) hd (by simp; omega) w).mono ?_
      rintro e w' ⟨rfl, hbe⟩
      exact ⟨_, rfl, Kd.R_nil _ _ _ _ _, hbe⟩
  · rw [if_neg h1] at h
    cases h
    refine (below_no1 size b (decide_eq_false h0) _ (dep_eq size) (by simp [h1]) w).mono ?_
    rintro e w' ⟨rfl, hbe⟩
    exact ⟨_, rfl, Kd.R_nil _ _ _ _ _, hbe⟩
end Go.Proofs.Ytpgdcpbbfphbiaa.Q

set_option linter.unusedVariables false
set_option linter.unusedSimpArgs false
namespace Go.Proofs.Ytpgdcpbbfphbiaa.Q
open Go.RowKit Go.Shelf Go.Proofs.Ytpgdcpbbfphbiaa.H Go.Proofs.YtpgdcpbbfphbiaaW.PrintWords Go.Proofs.YtpgdcpbbfphbiaaW.PrintLast Go.Proofs.YtpgdcpbbfphbiaaW.PrintMore
attribute [local go_sem] Oper.semAt_some
set_option maxRecDepth 100000

def cntV (a : Int) : Int := (bmap_Count.f a).getD 0
theorem cnt_eq (a : Int) : bmap_Count.f a = some (cntV a) := by
  unfold cntV bmap_Count.f
  split
  · rfl
  · rw [dep_eq, Option.bind_some]
    split <;> rfl
def hasZ (l : List Int) : Option Bool := slices_Contains_uint32_uint32_28.f (l.length + 2) l 0
theorem six_cells {W : World} {G : Nat} {t : TypeId} {o0 o1 o2 o3 o4 o5 : Value} (h : W.heap[G]? = some (.cells #[o0, o1, o2, o3, o4, o5] t (0, 0))) (v0 v1 v2 v3 v4 v5 : Value) :
    ((((((W.setCell ⟨G, 0, none⟩ v0).setCell ⟨G, 1, none⟩ v1).setCell ⟨G, 2, none⟩ v2).setCell ⟨G, 3, none⟩ v3).setCell ⟨G, 4, none⟩ v4).setCell ⟨G, 5, none⟩ v5).heap[G]? = some (.cells #[v0, v1, v2, v3, v4, v5] t (0, 0)) := by
  simp [World.setCell, Array.getElem?_modify, h]
theorem six_other {W : World} {G j : Nat} (hj : j ≠ G) (v0 v1 v2 v3 v4 v5 : Value) :
    ((((((W.setCell ⟨G, 0, none⟩ v0).setCell ⟨G, 1, none⟩ v1).setCell ⟨G, 2, none⟩ v2).setCell ⟨G, 3, none⟩ v3).setCell ⟨G, 4, none⟩ v4).setCell ⟨G, 5, none⟩ v5).heap[j]? = W.heap[j]? := by
  simp [World.setCell, Array.getElem?_modify, Ne.symm hj]
theorem six_below {w W : World} {n G : Nat} (h : Below n w W) (hn : n ≤ G) (v0 v1 v2 v3 v4 v5 : Value) :
    Below n w ((((((W.setCell ⟨G, 0, none⟩ v0).setCell ⟨G, 1, none⟩ v1).setCell ⟨G, 2, none⟩ v2).setCell ⟨G, 3, none⟩ v3).setCell ⟨G, 4, none⟩ v4).setCell ⟨G, 5, none⟩ v5) :=
  (((((h.setCell (p := ⟨G, 0, none⟩) hn v0).setCell (p := ⟨G, 1, none⟩) hn v1).setCell (p := ⟨G, 2, none⟩) hn v2).setCell (p := ⟨G, 3, none⟩) hn v3).setCell (p := ⟨G, 4, none⟩) hn v4).setCell (p := ⟨G, 5, none⟩) hn v5
theorem arr_facts {W : World} {G : Nat} {t : TypeId} {v0 v1 v2 v3 v4 v5 : Value} (h : W.heap[G]? = some (.cells #[v0, v1, v2, v3, v4, v5] t (0, 0))) :
    (W.cell? ⟨G, 0, none⟩ = some v0 ∧ W.cell? ⟨G, 1, none⟩ = some v1 ∧ W.cell? ⟨G, 2, none⟩ = some v2 ∧ W.cell? ⟨G, 3, none⟩ = some v3 ∧ W.cell? ⟨G, 4, none⟩ = some v4 ∧ W.cell? ⟨G, 5, none⟩ = some v5) ∧
    (W.frozen? ⟨G, 0, none⟩ = false ∧ W.frozen? ⟨G, 1, none⟩ = false ∧ W.frozen? ⟨G, 2, none⟩ = false ∧ W.frozen? ⟨G, 3, none⟩ = false ∧ W.frozen? ⟨G, 4, none⟩ = false ∧ W.frozen? ⟨G, 5, none⟩ = false) :=
  ⟨⟨by rw [Lib.cell_of_heap h]; rfl, by rw [Lib.cell_of_heap h]; rfl, by rw [Lib.cell_of_heap h]; rfl, by rw [Lib.cell_of_heap h]; rfl, by rw [Lib.cell_of_heap h]; rfl, by rw [Lib.cell_of_heap h]; rfl⟩,
    Lib.frozen_of_heap h 0, Lib.frozen_of_heap h 1, Lib.frozen_of_heap h 2, Lib.frozen_of_heap h 3, Lib.frozen_of_heap h 4, Lib.frozen_of_heap h 5⟩
theorem wpList_copy_box {P : Program} {w : World} {ops : Array Oper} {rest : List Oper} {o : Oper} {a : Act} {Q : Exit → Act → World → Prop} (hgd : o.guard = none) (d s : Operand) (dT sT : TypeId)
    (ho : o.op = .call { callee := .builtin .copy, args := #[d, s], argTypes := #[dT, sT] }) (elem : TypeId) (hu : P.underlying dT = some (.slice elem)) (hsz : (P.info? elem).map (·.size) = some 1)
    (dp sp : Option Addr) (dLen dCap sLen sCap : Nat) (hd : a.eval d = .slice dp dLen dCap) (hs : a.eval s = .slice sp sLen sCap)
    (g off : Nat) (cur : List Value) (t : TypeId) (hg : w.heap[g]? = some (.cells cur.toArray t (0, 0))) (cs : List Value) (hn : cs.length = Nat.min sLen dLen)
    (hpos : 0 < cs.length → dp = some ⟨g, off, none⟩ ∧ ∃ ad, sp = some ad ∧ ∀ j v, cs[j]? = some v → w.cell? (ad.add j) = some v)
    (hfit : off + cs.length ≤ cur.length) (h1 : ∀ v ∈ cs, v.oneCell' = true) (B : Nat) (w0 : World) (hb : Below B w0 w) (hBg : B ≤ g)
    (h : ∀ w', Hid (w'.heap[g]? = some (.cells (splice cur off cs).toArray t (0, 0))) → (∀ k, k ≠ g → w'.heap[k]? = w.heap[k]?) → Below B w0 w' → wpList P ops Q rest (a.put o.dst (goInt cs.length)) w') :
    wpList P ops Q (o :: rest) a w := by
  by_cases h0 : cs.length = 0
  · obtain rfl : cs = [] := List.eq_nil_of_length_eq_zero h0
    refine wpList_copy_nothing hgd d s dT sT ho elem hu hsz dp sp dLen dCap sLen sCap hd hs (by simpa using hn.symm) ?_
    exact h w (show _ = _ by simpa [splice] using hg) (fun _ _ => rfl) hb
  · obtain ⟨rfl, ad, rfl, hsrc⟩ := hpos (by omega)
    refine wpList_copy_own hgd d s dT sT ho elem hu hsz g off dLen dCap ad sLen sCap hd hs cur.toArray t hg cs hn hsrc (by simpa using hfit) h1 ?_
    exact h _ (show _ = _ by simpa [splice] using setRow_heap w g _ _ t _ hg) (fun k hk => setRow_other w g k _ hk) (below_setRow hb hBg _)
theorem splice6 : ∀ (l : List Int), l.length ≤ 6 → splice (List.replicate 6 (Value.int .u32 0)) 0 (l.map (Value.int .u32)) = [.int .u32 (l.getD 0 0), .int .u32 (l.getD 1 0), .int .u32 (l.getD 2 0), .int .u32 (l.getD 3 0), .int .u32 (l.getD 4 0), .int .u32 (l.getD 5 0)]
  | [], _ => rfl
  | [_], _ => rfl
  | [_, _], _ => rfl
  | [_, _, _], _ => rfl
  | [_, _, _, _], _ => rfl
  | [_, _, _, _, _], _ => rfl
  | [_, _, _, _, _, _], _ => rfl
  | _ :: _ :: _ :: _ :: _ :: _ :: _ :: _, h => by simp at h
abbrev z6 : Array Value := #[.int .u32 0, .int .u32 0, .int .u32 0, .int .u32 0, .int .u32 0, .int .u32 0]
theorem lay_boxes (w : World) : ((w.alloc (.cells z6 32)).alloc (.cells z6 32)).heap[w.heap.size]? = some (.cells z6 32 (0, 0)) ∧ ((w.alloc (.cells z6 32)).alloc (.cells z6 32)).heap[w.heap.size + 1]? = some (.cells z6 32 (0, 0)) ∧ Below w.heap.size w ((w.alloc (.cells z6 32)).alloc (.cells z6 32)) ∧ ((w.alloc (.cells z6 32)).alloc (.cells z6 32)).heap.size = w.heap.size + 2 := by
  refine ⟨(Below.heap_alloc _ _ _ (by simp)).trans (World.alloc_heap_new w _), ?_, ((Below.refl _ w).alloc (Nat.le_refl _) _).alloc (by simp) _, by simp⟩
  have := World.alloc_heap_new (w.alloc (.cells z6 32)) (.cells z6 32)
  rwa [World.size_alloc] at this
set_option maxHeartbeats 4000000 in
theorem lay_0 (size : Int) (A1 : Option Addr) (c1 : Nat) (l1 : List Int) (A2 : Option Addr) (c2 : Nat) (w : World) (hC1 : Kd.C (Kd.int .u32) w A1 l1.length l1) (hC2 : Kd.C (Kd.int .u32) w A2 0 []) (hz : decide (8193532 < size) = false)
    (hbl : inode_Blocks.f size = some (l1.length : Int)) (hct : bmap_Count.f size = some 0) (hl : l1.length ≤ 6) (hzz : hasZ [] = some false) (v0 v1 v2 v3 v4 v5 : Int) (hsp : splice (List.replicate 6 (Value.int .u32 0)) 0 (l1.map (Value.int .u32)) = [.int .u32 v0, .int .u32 v1, .int .u32 v2, .int .u32 v3, .int .u32 v4, .int .u32 v5]) :
    Calls Try.prog 15 #[.int .u32 size, .slice A1 l1.length c1, .slice A2 0 c2] w fun e w' => e = .returned (.tuple #[.agg #[.int .u32 v0, .int .u32 v1, .int .u32 v2, .int .u32 v3, .int .u32 v4, .int .u32 v5], .slice none 0 0, .int .i64 0]) ∧ Below w.heap.size w w' := by
  have HC1 := Aside0.mk hC1
  have HC2 := Aside0.mk hC2
  have HZZ := Aside0.mk hzz
  have HSP := Aside0.mk hsp
  clear hC1 hC2 hzz hsp
  go_enter Try.func15, Try.ntmps15
  go_wp2_with fail
  refine (inode_Blocks.calls size _ _ hbl).mono ?_
  rintro e w1 ⟨rfl, m1, rfl⟩
  go_wp2_with fail
  refine (bmap_Count.calls size _ _ hct).mono ?_
  rintro e w2 ⟨rfl, m2, rfl⟩
  go_wp2_with fail
  refine (slices_Contains_uint32_uint32_28.calls _ A2 c2 [] 0 false _ (Kd.C_drewN (Kd.C_alloc (Kd.C_alloc HC2.out _) _) _) (Nat.zero_le _) HZZ.out).mono ?_
  rintro e w3 ⟨rfl, hd3⟩
  obtain ⟨r0, r1, hB, hsz⟩ := lay_boxes w
  replace r0 : w3.heap[w.heap.size]? = some (.cells z6 32 (0, 0)) := by obtain ⟨n, rfl⟩ := hd3; exact r0
  replace r1 : w3.heap[w.heap.size + 1]? = some (.cells z6 32 (0, 0)) := by obtain ⟨n, rfl⟩ := hd3; exact r1
  have hB3 : Below w.heap.size w w3 := by obtain ⟨n, rfl⟩ := hd3; exact pw_below_drewN (pw_below_drewN hB _) n
  have hpos : 0 < (l1.map (Value.int .u32)).length → ∃ ad, A1 = some ad ∧ ∀ j v, (l1.map (Value.int .u32))[j]? = some v → w3.cell? (ad.add j) = some v := by
    intro h0
    rw [List.length_map] at h0
    obtain ⟨ad, e0, g0⟩ := Kd.at_int (Kd.C_below HC1.out hB3) 0 (by omega) (by omega)
    refine ⟨ad, e0, fun j v hj => ?_⟩
    rw [List.getElem?_map] at hj
    obtain ⟨x, hx, rfl⟩ := Option.map_eq_some_iff.1 hj
    obtain ⟨hjl, hxe⟩ := List.getElem?_eq_some_iff.1 hx
    obtain ⟨ad', e1, g1⟩ := Kd.at_int (Kd.C_below HC1.out hB3) (j : Int) (by omega) (by omega)
    rw [e0] at e1; cases e1
    rw [Int.toNat_natCast] at g1
    rw [g1, ← hxe]; simp [rd, hjl]
  have HPOS := Aside0.mk hpos
  have HR0 := Aside0.mk r0
  have HB3 := Aside0.mk hB3
  have hn : (l1.map (Value.int .u32)).length = Nat.min l1.length 6 := by rw [List.length_map]; exact (Nat.min_eq_left hl).symm
  have hfit : 0 + (l1.map (Value.int .u32)).length ≤ (List.replicate 6 (Value.int .u32 0)).length := by rw [List.length_map, List.length_replicate]; omega
  have hone : ∀ v ∈ l1.map (Value.int .u32), v.oneCell' = true := fun v hv => by obtain ⟨x, _, rfl⟩ := List.mem_map.1 hv; rfl
  have HN := Aside0.mk hn
  have HFIT := Aside0.mk hfit
  have HONE := Aside0.mk hone
  have HR1 : Aside0 (w3.heap[w.heap.size + 1]? = some (.cells (List.replicate 6 (Value.int .u32 0)).toArray 32 (0, 0))) := ⟨r1⟩
  clear r0 r1 hB hsz hB3 hpos hd3 hn hfit hone
  go_wp2_with (refine wpList_copy_box rfl _ _ 31 31 rfl 22 Try.underlying31 (by kernel_rfl) _ _ _ _ _ _ rfl rfl (w.heap.size + 1) 0 (List.replicate 6 (.int .u32 0)) 32 HR1.out (l1.map (Value.int .u32)) HN.out (fun h => ⟨rfl, HPOS.out h⟩) HFIT.out HONE.out w.heap.size w HB3.out (by omega) ?_; intro w4 HX4 hoth hB4; have y4 := (hoth w.heap.size (by omega)).trans HR0.out; have x4 := HX4.out; rw [HSP.out] at x4; obtain ⟨⟨u0, u1, u2, u3, u4, u5⟩, _⟩ := arr_facts x4; obtain ⟨⟨q0, q1, q2, q3, q4, q5⟩, f0, f1, f2, f3, f4, f5⟩ := arr_facts y4; have Y4 := Aside0.mk y4; have B4 := Aside0.mk hB4; clear HX4 hoth x4 y4 hB4)
  refine bodyPost_ret (results_ctt rfl _ _ w.heap.size 32 #[.int .u32 v0, .int .u32 v1, .int .u32 v2, .int .u32 v3, .int .u32 v4, .int .u32 v5] (0, 0) _ rfl (six_cells Y4.out _ _ _ _ _ _) Try.underlying32 rfl (by kernel_rfl)) rfl ?_
  exact ⟨rfl, six_below B4.out (Nat.le_refl _) _ _ _ _ _ _⟩
set_option maxHeartbeats 4000000 in
theorem lay_e1 (size : Int) (A1 : Option Addr) (n1 c1 : Nat) (A2 : Option Addr) (n2 c2 : Nat) (w : World) (hz : decide (8193532 < size) = true) :
    Calls Try.prog 15 #[.int .u32 size, .slice A1 n1 c1, .slice A2 n2 c2] w fun e w' => e = .returned (.tuple #[.agg z6, .slice none 0 0, .int .i64 130]) ∧ Below w.heap.size w w' := by
  go_enter Try.func15, Try.ntmps15
  go_upto_region 2 with (fail)
  obtain ⟨r0, r1, hB, hsz⟩ := lay_boxes w
  generalize (w.alloc (.cells z6 32)).alloc (.cells z6 32) = w1 at r0 r1 hB hsz ⊢
  obtain ⟨⟨q0, q1, q2, q3, q4, q5⟩, f0, f1, f2, f3, f4, f5⟩ := arr_facts r0
  obtain ⟨⟨u0, u1, u2, u3, u4, u5⟩, _⟩ := arr_facts r1
  have R0 := Aside0.mk r0
  have B4 := Aside0.mk hB
  clear r0 r1 hB hsz
  go_wp2_with fail
  refine bodyPost_ret (results_ctt rfl _ _ w.heap.size 32 _ (0, 0) _ rfl (six_cells R0.out _ _ _ _ _ _) Try.underlying32 rfl (by kernel_rfl)) rfl ?_
  exact ⟨rfl, six_below B4.out (Nat.le_refl _) _ _ _ _ _ _⟩
set_option maxHeartbeats 4000000 in
theorem lay_e2 (size : Int) (A1 : Option Addr) (n1 c1 : Nat) (A2 : Option Addr) (n2 c2 : Nat) (w : World) (hz : decide (8193532 < size) = false) (b : Int) (hbl : inode_Blocks.f size = some b) (hne : ((n1 : Int) != b) = true) :
    Calls Try.prog 15 #[.int .u32 size, .slice A1 n1 c1, .slice A2 n2 c2] w fun e w' => e = .returned (.tuple #[.agg z6, .slice none 0 0, .int .i64 130]) ∧ Below w.heap.size w w' := by
  go_enter Try.func15, Try.ntmps15
  go_wp2_with fail
  refine (inode_Blocks.calls size _ _ hbl).mono ?_
  rintro e w1 ⟨rfl, hd⟩
  obtain ⟨r0, r1, hB, hsz⟩ := lay_boxes w
  replace r0 : w1.heap[w.heap.size]? = some (.cells z6 32 (0, 0)) := by obtain ⟨n, rfl⟩ := hd; exact r0
  replace r1 : w1.heap[w.heap.size + 1]? = some (.cells z6 32 (0, 0)) := by obtain ⟨n, rfl⟩ := hd; exact r1
  replace hB : Below w.heap.size w w1 := by obtain ⟨n, rfl⟩ := hd; first | exact pw_below_drewN hB n | exact pw_below_drewN (pw_below_drewN hB _) n
  clear hd
  obtain ⟨⟨q0, q1, q2, q3, q4, q5⟩, f0, f1, f2, f3, f4, f5⟩ := arr_facts r0
  obtain ⟨⟨u0, u1, u2, u3, u4, u5⟩, _⟩ := arr_facts r1
  have R0 := Aside0.mk r0
  have B4 := Aside0.mk hB
  clear r0 r1 hB hsz
  go_wp2_with fail
  refine bodyPost_ret (results_ctt rfl _ _ w.heap.size 32 _ (0, 0) _ rfl (six_cells R0.out _ _ _ _ _ _) Try.underlying32 rfl (by kernel_rfl)) rfl ?_
  exact ⟨rfl, six_below B4.out (Nat.le_refl _) _ _ _ _ _ _⟩
set_option maxHeartbeats 4000000 in
theorem lay_e3 (size : Int) (A1 : Option Addr) (n1 c1 : Nat) (A2 : Option Addr) (n2 c2 : Nat) (w : World) (hz : decide (8193532 < size) = false) (hbl : inode_Blocks.f size = some (n1 : Int)) (b : Int) (hct : bmap_Count.f size = some b) (hne : ((n2 : Int) != b) = true) :
    Calls Try.prog 15 #[.int .u32 size, .slice A1 n1 c1, .slice A2 n2 c2] w fun e w' => e = .returned (.tuple #[.agg z6, .slice none 0 0, .int .i64 130]) ∧ Below w.heap.size w w' := by
  go_enter Try.func15, Try.ntmps15
  go_wp2_with fail
  refine (inode_Blocks.calls size _ _ hbl).mono ?_
  rintro e w1 ⟨rfl, m1, rfl⟩
  go_wp2_with fail
  refine (bmap_Count.calls size _ _ hct).mono ?_
  rintro e w2 ⟨rfl, hd⟩
  obtain ⟨r0, r1, hB, hsz⟩ := lay_boxes w
  replace r0 : w2.heap[w.heap.size]? = some (.cells z6 32 (0, 0)) := by obtain ⟨n, rfl⟩ := hd; exact r0
  replace r1 : w2.heap[w.heap.size + 1]? = some (.cells z6 32 (0, 0)) := by obtain ⟨n, rfl⟩ := hd; exact r1
  replace hB : Below w.heap.size w w2 := by obtain ⟨n, rfl⟩ := hd; first | exact pw_below_drewN hB n | exact pw_below_drewN (pw_below_drewN hB _) n
  clear hd
  obtain ⟨⟨q0, q1, q2, q3, q4, q5⟩, f0, f1, f2, f3, f4, f5⟩ := arr_facts r0
  obtain ⟨⟨u0, u1, u2, u3, u4, u5⟩, _⟩ := arr_facts r1
  have R0 := Aside0.mk r0
  have B4 := Aside0.mk hB
  clear r0 r1 hB hsz
  go_wp2_with fail
  refine bodyPost_ret (results_ctt rfl _ _ w.heap.size 32 _ (0, 0) _ rfl (six_cells R0.out _ _ _ _ _ _) Try.underlying32 rfl (by kernel_rfl)) rfl ?_
  exact ⟨rfl, six_below B4.out (Nat.le_refl _) _ _ _ _ _ _⟩
set_option maxHeartbeats 4000000 in
theorem lay_e4 (size : Int) (A1 : Option Addr) (n1 c1 : Nat) (A2 : Option Addr) (n2 c2 : Nat) (l2 : List Int) (hl2 : l2.length = n2) (w : World) (hC2 : Kd.C (Kd.int .u32) w A2 l2.length l2) (hc2 : l2.length ≤ c2) (hz : decide (8193532 < size) = false) (hbl : inode_Blocks.f size = some (n1 : Int)) (hct : bmap_Count.f size = some (n2 : Int)) (hzz : hasZ l2 = some true) :
    Calls Try.prog 15 #[.int .u32 size, .slice A1 n1 c1, .slice A2 n2 c2] w fun e w' => e = .returned (.tuple #[.agg z6, .slice none 0 0, .int .i64 130]) ∧ Below w.heap.size w w' := by
  subst hl2
  have HC2 := Aside0.mk hC2
  have HZZ := Aside0.mk hzz
  clear hC2 hzz
  go_enter Try.func15, Try.ntmps15
  go_wp2_with fail
  refine (inode_Blocks.calls size _ _ hbl).mono ?_
  rintro e w1 ⟨rfl, m1, rfl⟩
  go_wp2_with fail
  refine (bmap_Count.calls size _ _ hct).mono ?_
  rintro e w2 ⟨rfl, m2, rfl⟩
  go_wp2_with fail
  refine (slices_Contains_uint32_uint32_28.calls _ A2 c2 l2 0 true _ (Kd.C_drewN (Kd.C_alloc (Kd.C_alloc HC2.out _) _) _) hc2 HZZ.out).mono ?_
  rintro e w3 ⟨rfl, hd⟩
  obtain ⟨r0, r1, hB, hsz⟩ := lay_boxes w
  replace r0 : w3.heap[w.heap.size]? = some (.cells z6 32 (0, 0)) := by obtain ⟨n, rfl⟩ := hd; exact r0
  replace r1 : w3.heap[w.heap.size + 1]? = some (.cells z6 32 (0, 0)) := by obtain ⟨n, rfl⟩ := hd; exact r1
  replace hB : Below w.heap.size w w3 := by obtain ⟨n, rfl⟩ := hd; first | exact pw_below_drewN hB n | exact pw_below_drewN (pw_below_drewN hB _) n
  clear hd
  obtain ⟨⟨q0, q1, q2, q3, q4, q5⟩, f0, f1, f2, f3, f4, f5⟩ := arr_facts r0
  obtain ⟨⟨u0, u1, u2, u3, u4, u5⟩, _⟩ := arr_facts r1
  have R0 := Aside0.mk r0
  have B4 := Aside0.mk hB
  clear r0 r1 hB hsz
  go_wp2_with fail
  refine bodyPost_ret (results_ctt rfl _ _ w.heap.size 32 _ (0, 0) _ rfl (six_cells R0.out _ _ _ _ _ _) Try.underlying32 rfl (by kernel_rfl)) rfl ?_
  exact ⟨rfl, six_below B4.out (Nat.le_refl _) _ _ _ _ _ _⟩
end Go.Proofs.Ytpgdcpbbfphbiaa.Q
