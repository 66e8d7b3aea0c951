/- The walks of the functions of package vol that range over a function. -/
import Derived.Test.YtpcokafalmafgaaHNum
import Derived.RangeFuncBox
import Derived.Maps.AppendAt
import Derived.Deep.QuietTactic
import Derived.BigQuiet
import Derived.Test.YtpcokafalmafgaaWWords
set_option linter.unusedVariables false
set_option linter.unusedSimpArgs false
namespace Go.Proofs.Ytpcokafalmafgaa.H
open Go.RowKit Go.Shelf
attribute [local go_sem] Oper.semAt_some

/-- What is left of a text behind k contents, and the k-th one. -/
def rest (s : ByteArray) (k : Nat) : ByteArray := s.extract (508 * k) s.size
def piece (s : ByteArray) (k : Nat) : ByteArray := (rest s k).extract 0 (min (rest s k).size 508)
def pieces (s : ByteArray) : Nat := (s.size + 507) / 508
theorem rest_size (s : ByteArray) (k : Nat) : (rest s k).size = s.size - 508 * k := by simp [rest, ByteArray.size_extract]
theorem rest_zero (s : ByteArray) : rest s 0 = s := by
 unfold rest
 apply ByteArray.ext
 apply Array.toList_inj.1
 simp only [ByteArray.data_extract, Array.toList_extract, List.extract_eq_take_drop, Nat.mul_zero, List.drop_zero]
 exact List.take_of_length_le (by rw [Array.length_toList]; exact Nat.le_refl _)
theorem rest_succ (s : ByteArray) (k : Nat) : (rest s k).extract (min (rest s k).size 508) (rest s k).size = rest s (k + 1) := by
 have h := rest_size s k
 apply ByteArray.ext
 apply Array.toList_inj.1
 simp only [rest, ByteArray.data_extract, Array.toList_extract, List.extract_eq_take_drop, ByteArray.size_extract]
 rw [List.drop_take, List.drop_drop, List.take_take]
 have hz : s.data.toList.length = s.size := by rw [Array.length_toList]; rfl
 by_cases c : 508 ≤ s.size - 508 * k
 ·have e1 : min (min s.size s.size - 508 * k) 508 = 508 := by omega
  rw [e1, show 508 * k + 508 = 508 * (k + 1) by omega]
  rw [List.take_of_length_le (by rw [List.length_drop, hz]; omega), List.take_of_length_le (by rw [List.length_drop, hz]; omega)]
 ·rw [List.take_of_length_le (by rw [List.length_drop, hz]; omega), List.take_of_length_le (by rw [List.length_drop, hz]; omega), List.drop_of_length_le (by rw [hz]; omega), List.drop_of_length_le (by rw [hz]; omega)]

theorem contents_calls (s : ByteArray) (w : World) : Calls Try.prog 32 #[.string s] w fun e w' =>
  e = .returned (.func (.func 49) #[] #[.pointer (some ⟨w.heap.size, 0, none⟩)]) ∧ w' = w.alloc (.cells #[.string s] 9) := by
 go_enter Try.func32, Try.ntmps32
 go_wp2
 go_ret
 exact ⟨rfl, rfl⟩

set_option maxRecDepth 100000 in
set_option maxHeartbeats 2000000 in
/-- The iterator of vol.contents: the contents of a text, counted. -/
theorem contents_seq (n : Nat) (h1n : 1 ≤ n) (s : ByteArray) (hs : s.size ≤ 4611686018427387904) (Bd : Nat) (w : World)
  (hBd : w.heap[Bd]? = some (.cells #[.string s] 9 (0, 0))) :
  SeqN Fence.wide n Try.prog 49 #[.pointer (some ⟨Bd, 0, none⟩)]
   (fun k => #[.int .i64 k, .string (piece s k)]) (fun j => j = Bd) (fun t => t = 9) (fun j => j = Bd) (pieces s) w := fun l J Jx W hW hJ hJx hY h0 => by
 have hlt : Bd < w.heap.size := (Array.getElem?_eq_some_iff.1 hBd).1
 have hd : W.heap[Bd]? = some (.cells #[.string (rest s 0)] 9 (0, 0)) := by rw [rest_zero]; exact (hW.block Bd hlt).trans hBd
 clear hW hBd
 refine callsIn_of_wp Try.func49 rfl trivial ?_ rfl
 simp only [Try.ntmps49, List.size_toArray, List.length_cons, List.length_nil, Nat.reduceAdd, Nat.reduceSub, Array.replicate_succ, Array.replicate_zero, List.push_toArray, List.append_toArray, List.nil_append, List.cons_append]
 gi_wp2
 gi_loopw [3] (fun i wr => ∃ k : Nat, k ≤ pieces s ∧ i = .int .i64 k ∧ J k wr ∧ wr.heap[Bd]? = some (.cells #[.string (rest s k)] 9 (0, 0)))
  (fun i _ => pieces s - (intOf i).toNat)
 case atStart => exact ⟨0, by omega, rfl, h0, hd⟩
 case round =>
  obtain ⟨k, hk, rfl, hJs, hdk⟩ := hrel
  have hrs := rest_size s k
  have hsuc := rest_succ s k
  have hpc : piece s k = (rest s k).extract 0 (min (rest s k).size 508) := rfl
  obtain ⟨d, hd'⟩ : ∃ d, rest s k = d := ⟨_, rfl⟩
  rw [hd'] at hrs hdk hsuc hpc
  have hkb : k ≤ 18446744073709551616 := by unfold pieces at hk; omega
  have hc : wr.cell? ⟨Bd, 0, none⟩ = some (.string d) := by rw [Lib.cell_of_heap hdk]; rfl
  by_cases hlt' : k < pieces s
  ·have hpos : 0 < d.size := by unfold pieces at hlt'; omega
   obtain ⟨m, hm⟩ : ∃ m, min d.size 508 = m := ⟨_, rfl⟩
   rw [hm] at hsuc hpc
   have hmd : m ≤ d.size := by omega
   have hmm : min (d.size : Int) 508 = (m : Int) := by omega
   have hm508 : m ≤ 508 := by omega
   obtain ⟨fn, tmps, assign, body, hy, hR⟩ := hY k _ hlt' hJs
   rw [hpc] at hy
   have hp2 : decide (0 < (d.size : Int)) = true := decide_eq_true (by omega)
   have hkb2 : k ≤ 9223372036854775806 := by unfold pieces at hlt'; omega
   have Hm := Lib.hid hm
   have Hrs := Lib.hid hrs
   have Hsuc := Lib.hid hsuc
   have Hpc := Lib.hid hpc
   clear hm hrs hsuc hpc hd'
   gi_wp2
   refine hR.mono ?_
   rintro e W3 (⟨rfl, hJ3, hk3⟩ | ⟨rfl, hJx3⟩)
   ·have hd3 : W3.heap[Bd]? = some (.cells #[.string d] 9 (0, 0)) := (hk3.same Bd rfl (Array.getElem?_eq_some_iff.1 hdk).1).trans hdk
    have hc3 : W3.cell? ⟨Bd, 0, none⟩ = some (.string d) := by rw [Lib.cell_of_heap hd3]; rfl
    have hf3 : W3.frozen? ⟨Bd, 0, none⟩ = false := Lib.frozen_of_heap hd3 0
    have hT : Turn (fun j => j = Bd) (fun t => t = 9) W3 (W3.setCell ⟨Bd, 0, none⟩ (.string (d.extract m d.size))) := Turn.setCell _ hd3 rfl rfl
    gi_wp2
    go_roundw
    case rel =>
     refine ⟨k + 1, by omega, by simp, hJ _ _ _ hJ3 hT, ?_⟩
     rw [← Hsuc.out]
     simp [World.setCell, Array.getElem?_modify, hd3]
    case measure => simp [intOf]; omega
   ·gi_wp2
    refine bodyPost_ret (results_none rfl _ _ _) rfl ?_
    exact ⟨⟨_, rfl⟩, .inr ⟨k + 1, by omega, hJx3⟩⟩
  ·have hz : d.size = 0 := by unfold pieces at hlt' hk; omega
   have hp2 : decide (0 < (d.size : Int)) = false := decide_eq_false (by omega)
   have hkw : k = pieces s := by omega
   have hz' : ¬ 0 < d.size := by omega
   have hz'' : ¬ (0 : Int) < (d.size : Int) := by omega
   clear hd' hrs hsuc hpc hz
   gi_wp2
   go_end0
   exact ⟨⟨_, rfl⟩, .inl (hkw ▸ hJs)⟩

theorem info_string : (Try.prog.info? 9).map (fun i => (i.zero, i.size, i.bytes)) = some (some (.string ⟨#[]⟩), 1, 16) := by kernel_rfl

/-- The contents of a text. -/
def pieceL (s : ByteArray) (k : Nat) : List ByteArray := (List.range k).map (piece s)
theorem pieceL_succ (s : ByteArray) (k : Nat) : pieceL s (k + 1) = pieceL s k ++ [piece s k] := by simp [pieceL, List.range_succ]

set_option maxRecDepth 100000 in
set_option maxHeartbeats 4000000 in
theorem cut_walk (s : ByteArray) (w : World) (hs : s.size ≤ 140737488355328) :
  Calls Try.prog 13 #[.string s] w fun e w' => ∃ v, e = .returned v ∧ w'.ownsRow w.heap.size 9 1 v (pieces s) ((pieceL s (pieces s)).map Value.string) ∧ Below w.heap.size w w' := by
 obtain ⟨i0, hi, hz0, hz1, hz2⟩ := info_parts info_string
 refine (callsIn_wide (n := 10)).1 ?_
 refine callsIn_of_wp_marks Try.func13 rfl trivial ?_ rfl
 simp only [Try.ntmps13, List.size_toArray, List.length_cons, List.length_nil, Nat.reduceAdd, Nat.reduceSub, Array.replicate_succ, Array.replicate_zero, List.push_toArray, List.append_toArray, List.nil_append, List.cons_append]
 gi_wp2_with fail
 refine ⟨trivial, (callsIn_wide.2 (contents_calls _ _)).mono ?_⟩
 rintro e W0 ⟨rfl, hW0⟩
 obtain ⟨H, hH⟩ : ∃ H, w.heap.size = H := ⟨_, rfl⟩
 simp only [World.size_alloc, hH, Nat.add_assoc, Nat.reduceAdd]
 have hsz : W0.heap.size = H + 2 := by rw [hW0]; simp [hH]
 have hbl : Below H w W0 := by rw [hW0]; exact (((Below.refl H w).alloc (by omega) _).alloc (by simp; omega) _)
 have h1 : W0.heap[H + 1]? = some (.cells #[.string s] 9 (0, 0)) := by
  rw [hW0]; have := World.alloc_heap_new (w.alloc (.cells #[.slice none 0 0] 29)) (.cells #[.string s] 9); simpa [hH] using this
 have h0 : Boxed W0 H 29 (.slice none 0 0) := by
  rw [hW0]; have := (Boxed.new w 29 (.slice none 0 0)).alloc (.cells #[.string s] 9); rwa [hH] at this
 clear hW0
 gi_wp2
 refine wpIn_rangeN rfl (by omega) (gf := 49) (lb := #[.pointer (some ⟨H + 1, 0, none⟩)]) rfl trivial (enters_of Try.func49 (by kernel_rfl) rfl)
  (contents_seq 9 (by omega) s (by omega) (H + 1) W0 h1) (Below.refl _ _) (fun _ => rfl) (by omega) (by omega) (by omega)
  (fun k W => (∃ v, Boxed W H 29 v ∧ W.ownsRow (H + 4) 9 1 v k ((pieceL s k).map Value.string)) ∧ Below H w W)
  (fun _ _ _ => False)
  (fun k => (stands_ex fun v => (stands_box _ _ _ (by omega)).and (stands_row (by omega))).and (stands_below (by omega) (by omega)))
  (fun _ _ _ _ h _ => h)
  ⟨⟨_, h0, World.ownsRow_nil _ _ _ _⟩, hbl⟩
  (fun k => { tmps := #[.string s, undef, .slice none 0 0, .pointer (some ⟨H, 0, none⟩), undef, .string (piece s k), .string s, .func (.func 49) #[] #[.pointer (some ⟨H + 1, 0, none⟩)], .int .i64 k, .string (piece s k), undef, undef, undef, undef, undef], defers := [] }) ?assign ?body ?done ?stop
 case assign =>
  intro l k W K hK
  gi_wp2
  exact hK
 case body =>
  rintro l k W hk hWs ⟨⟨v, hv, hrow⟩, hB⟩
  have hc := hv.cell
  have hkb : k + 1 ≤ 300000000000 := by unfold pieces at hk; omega
  obtain ⟨pk, hpk⟩ : ∃ p, piece s k = p := ⟨_, rfl⟩
  rw [hpk]
  gi_wp2_with (first | (gi_at_builtin; refine wpListIn_append_own _ rfl _ _ 29 rfl (H + 4) 9 i0 (.string ⟨#[]⟩) 1 16 Try.underlying29 hi hz0 hz1 hz2 rfl (by decide) _ _ _ rfl (hrow.alloc _) ⟨W.heap.size, 0, none⟩ 1 1 [.string pk] rfl rfl (cell_one_new _ _ _) (by simp [Value.oneCell']) (by unfold maxLen; omega) (by omega) (by simp; omega) ?_; intro v' w1 hown' hgrow _; obtain ⟨g', cap', rfl⟩ := ownsRow_succ hown'; obtain ⟨hv1, hv2, hr2, hk2, hb2, hj2⟩ := box_appended (n₀ := H) hv hrow (by omega) (by omega) (Nat.le_refl _) hown' hgrow; have hc1 := hv1.cell; have hf1 := hv1.frozen))
  refine ⟨hk2, ⟨hb2.size, fun j hj _ => by subst hj; exact hj2 _ (by omega) (by omega)⟩, ⟨_, hv2, ?_⟩, hB.trans hb2⟩
  rw [pieceL_succ, List.map_append, hpk]; exact hr2
 case done =>
  rintro W ⟨⟨v, hv, hrow⟩, hB⟩ hWs hD
  have hc := hv.cell
  gi_wp2
  refine ⟨by simp, .inl ⟨_, _, rfl, run_takeDeferred hD, ?_⟩⟩
  refine ⟨_, results_tmp rfl _ _ _, ⟨_, rfl, ?_, ?_⟩⟩
  ·exact ownsRow_putObj (row_lower hrow (by omega)) _ hD rfl
  ·rw [hH]; exact hB.trans (belowK_b (w := W0) (by omega) W _ _ _ (by omega) hD rfl rfl)
 case stop =>
  intro c k W _ h
  exact h.elim

def bareB (s : ByteArray) (i : Nat) : Bool := (s.data.toList.drop i).all (· == 0)
def sameB (a b : ByteArray) : Bool := ((a.extract 0 (min a.size b.size)).toList == (b.extract 0 (min a.size b.size)).toList) && (bareB a (min a.size b.size) && bareB b (min a.size b.size))

theorem bare_any (m : Nat) (s : ByteArray) (w : World) (hs : s.size ≤ 9223372036854775807) :
  Calls Try.prog 40 #[.string s, .int .i64 m] w fun e w' => e = .returned (.bool (bareB s m)) ∧ w' = w :=
 num_Bare.same s m _ w (by unfold num_Bare.f bareB; rw [if_pos hs]; simp)

set_option maxRecDepth 100000 in
set_option maxHeartbeats 1000000 in
theorem same_walk1 (a b : ByteArray) (w : World) (ha : a.size ≤ 9223372036854775807) (hb : b.size ≤ 9223372036854775807) (m : Nat) (hma : m ≤ a.size) (hmb : m ≤ b.size) (hmm : min (a.size : Int) (b.size : Int) = (m : Int))
  (he : ((a.extract 0 m).toList == (b.extract 0 m).toList) = true) (hx : bareB a m = true) :
  Calls Try.prog 33 #[.string a, .string b] w fun e w' => e = .returned (.bool (bareB b m)) ∧ ∃ n, w' = w.drewN n := by
 go_enter Try.func33, Try.ntmps33
 go_wp2
 go_quiet ((go_at_call 40; exact Calls.quiet_of_same (bare_any m _ _ (by assumption))))
 all_goals (go_wp2; go_ret; exact ⟨rfl, _, rfl⟩)

set_option maxRecDepth 100000 in
set_option maxHeartbeats 1000000 in
theorem same_walk2 (a b : ByteArray) (w : World) (ha : a.size ≤ 9223372036854775807) (hb : b.size ≤ 9223372036854775807) (m : Nat) (hma : m ≤ a.size) (hmb : m ≤ b.size) (hmm : min (a.size : Int) (b.size : Int) = (m : Int))
  (he : ((a.extract 0 m).toList == (b.extract 0 m).toList) = true) (hx : bareB a m = false) :
  Calls Try.prog 33 #[.string a, .string b] w fun e w' => e = .returned (.bool false) ∧ ∃ n, w' = w.drewN n := by
 go_enter Try.func33, Try.ntmps33
 go_wp2
 go_quiet ((go_at_call 40; exact Calls.quiet_of_same (bare_any m _ _ (by assumption))))
 all_goals (go_wp2; go_ret; exact ⟨rfl, _, rfl⟩)

set_option maxRecDepth 100000 in
set_option maxHeartbeats 1000000 in
theorem same_walk3 (a b : ByteArray) (w : World) (ha : a.size ≤ 9223372036854775807) (hb : b.size ≤ 9223372036854775807) (m : Nat) (hma : m ≤ a.size) (hmb : m ≤ b.size) (hmm : min (a.size : Int) (b.size : Int) = (m : Int))
  (he : ((a.extract 0 m).toList == (b.extract 0 m).toList) = false) :
  Calls Try.prog 33 #[.string a, .string b] w fun e w' => e = .returned (.bool false) ∧ ∃ n, w' = w.drewN n := by
 go_enter Try.func33, Try.ntmps33
 go_wp2
 go_quiet ((go_at_call 40; exact Calls.quiet_of_same (bare_any m _ _ (by assumption))))
 all_goals (go_wp2; go_ret; exact ⟨rfl, _, rfl⟩)

theorem same_walk (a b : ByteArray) (w : World) (ha : a.size ≤ 9223372036854775807) (hb : b.size ≤ 9223372036854775807) :
  Calls Try.prog 33 #[.string a, .string b] w fun e w' => e = .returned (.bool (sameB a b)) ∧ ∃ n, w' = w.drewN n := by
 have hmm : min (a.size : Int) (b.size : Int) = ((min a.size b.size : Nat) : Int) := by omega
 unfold sameB
 cases he : ((a.extract 0 (min a.size b.size)).toList == (b.extract 0 (min a.size b.size)).toList) with
 | false => exact same_walk3 a b w ha hb _ (by omega) (by omega) hmm he
 | true =>
  cases hx : bareB a (min a.size b.size) with
  | false => exact same_walk2 a b w ha hb _ (by omega) (by omega) hmm he hx
  | true => exact same_walk1 a b w ha hb _ (by omega) (by omega) hmm he hx

theorem info_int : (Try.prog.info? 3).map (fun i => (i.zero, i.size, i.bytes)) = some (some (.int .i64 0), 1, 8) := by kernel_rfl

/-- Is the k-th content another one? -/
def diffB (was now : ByteArray) (k : Nat) : Bool := !(decide (k < pieces was) && sameB (piece was k) (piece now k))
def diffL (was now : ByteArray) (k : Nat) : List Nat := (List.range k).filter (diffB was now)
theorem diffL_yes (was now : ByteArray) (k : Nat) (h : diffB was now k = true) : diffL was now (k + 1) = diffL was now k ++ [k] := by simp [diffL, List.range_succ, List.filter_append, h]
theorem diffL_no (was now : ByteArray) (k : Nat) (h : diffB was now k = false) : diffL was now (k + 1) = diffL was now k := by simp [diffL, List.range_succ, List.filter_append, h]
theorem diffL_le (was now : ByteArray) (k : Nat) : (diffL was now k).length ≤ k := by
 have := List.length_filter_le (diffB was now) (List.range k)
 simpa [diffL] using this
def intV (k : Nat) : Value := .int .i64 k
theorem piece_size (s : ByteArray) (k : Nat) (hs : s.size ≤ 140737488355328) : (piece s k).size ≤ 9223372036854775807 := by
 have h1 := rest_size s k
 unfold piece
 rw [ByteArray.size_extract]; omega

/-- Where the old contents lie. -/
def OldAt (was : ByteArray) (A : Option Addr) (H : Nat) (W : World) : Prop := ∀ j, j < pieces was → ∃ g, A = some ⟨g, 0, none⟩ ∧ g < H ∧ W.cell? ⟨g, j, none⟩ = some (.string (piece was j))
theorem oldAt_of {was : ByteArray} {W : World} {base H : Nat} {v : Value} (h : W.ownsRow base 9 1 v (pieces was) ((pieceL was (pieces was)).map Value.string)) (hH : W.heap.size ≤ H) : ∃ A c, v = .slice A (pieces was) c ∧ OldAt was A H W := by
 rcases h.2 with ⟨rfl, h0⟩ | ⟨g, cap, cur, rfl, hb, hg, r⟩
 ·exact ⟨none, 0, by rw [h0], fun j hj => by omega⟩
 ·refine ⟨_, cap, rfl, fun j hj => ⟨g, rfl, ?_, ?_⟩⟩
  ·have := (Array.getElem?_eq_some_iff.1 hg).1; omega
  ·have := h.cells (g := g) rfl j (.string (piece was j)) (by simp [pieceL, hj])
   rwa [show (⟨g, 0, none⟩ : Addr).add j = ⟨g, j, none⟩ by unfold Addr.add; split <;> simp_all] at this
theorem stands_old {own : Nat → Prop} {T : TypeId → Prop} (was : ByteArray) (A : Option Addr) (H : Nat) (ho : ∀ k, own k → H ≤ k) : Stands own T (OldAt was A H) := fun X Y h ht j hj => by
 obtain ⟨g, e, hg, hc⟩ := h j hj
 exact ⟨g, e, hg, stands_cell ⟨g, j, none⟩ _ (fun k => absurd (ho g k) (by omega)) X Y hc ht⟩

set_option maxRecDepth 100000 in
set_option maxHeartbeats 4000000 in
theorem changed_walk (was now : ByteArray) (w : World) (hs : was.size ≤ 140737488355328) (hn : now.size ≤ 140737488355328) :
  Calls Try.prog 12 #[.string was, .string now] w fun e w' => ∃ v, e = .returned v ∧ w'.ownsRow w.heap.size 3 1 v (diffL was now (pieces now)).length ((diffL was now (pieces now)).map intV) ∧ Below w.heap.size w w' := by
 obtain ⟨i0, hi, hz0, hz1, hz2⟩ := info_parts info_int
 refine (callsIn_wide (n := 10)).1 ?_
 refine callsIn_of_wp_marks Try.func12 rfl trivial ?_ rfl
 simp only [Try.ntmps12, List.size_toArray, List.length_cons, List.length_nil, Nat.reduceAdd, Nat.reduceSub, Array.replicate_succ, Array.replicate_zero, List.push_toArray, List.append_toArray, List.nil_append, List.cons_append]
 gi_wp2_with fail
 refine wpIn_scope ?_
 gi_wp2_with fail
 refine ⟨trivial, (callsIn_wide.2 (cut_walk was _ hs)).mono ?_⟩
 rintro e W1 ⟨vo, rfl, hro, hb1⟩
 obtain ⟨H, hH⟩ : ∃ H, W1.heap.size = H := ⟨_, rfl⟩
 obtain ⟨A, co, rfl, hold⟩ := oldAt_of hro (Nat.le_of_eq hH)
 have hle := hb1.size
 gi_wp2_with fail
 refine wpIn_label ?_
 gi_wp2_with fail
 refine ⟨trivial, (callsIn_wide.2 (contents_calls _ _)).mono ?_⟩
 rintro e W0 ⟨rfl, hW0⟩
 simp only [World.size_alloc, hH, Nat.add_assoc, Nat.reduceAdd]
 have hsz : W0.heap.size = H + 3 := by rw [hW0]; simp [hH]
 have hbl : Below H W1 W0 := by rw [hW0]; exact (((Below.refl H W1).alloc (by omega) _).alloc (by simp; omega) _).alloc (by simp; omega) _
 have h2 : W0.heap[H + 2]? = some (.cells #[.string now] 9 (0, 0)) := by
  rw [hW0]; have := World.alloc_heap_new ((W1.alloc (.cells #[.slice A (pieces was) co] 29)).alloc (.cells #[.slice none 0 0] 25)) (.cells #[.string now] 9); simpa [hH] using this
 have h1 : Boxed W0 (H + 1) 25 (.slice none 0 0) := by
  rw [hW0]; have := (Boxed.new (W1.alloc (.cells #[.slice A (pieces was) co] 29)) 25 (.slice none 0 0)).alloc (.cells #[.string now] 9); simpa [hH] using this
 have h0 : Boxed W0 H 29 (.slice A (pieces was) co) := by
  rw [hW0]; have := ((Boxed.new W1 29 (.slice A (pieces was) co)).alloc (.cells #[.slice none 0 0] 25)).alloc (.cells #[.string now] 9); rwa [hH] at this
 have hold0 : OldAt was A H W0 := fun j hj => by
  obtain ⟨g, e, hg, hc⟩ := hold j hj
  exact ⟨g, e, hg, (hbl.cell (p := ⟨g, j, none⟩) hg).trans hc⟩
 have hb0 : Below w.heap.size w W0 := hb1.trans (hbl.mono (by omega))
 clear hW0 hro hbl hold
 gi_wp2
 refine wpIn_rangeN rfl (by omega) (gf := 49) (lb := #[.pointer (some ⟨H + 2, 0, none⟩)]) rfl trivial (enters_of Try.func49 (by kernel_rfl) rfl)
  (contents_seq 9 (by omega) now (by omega) (H + 2) W0 h2) (Below.refl _ _) (fun _ => rfl) (by omega) (by omega) (by omega)
  (fun k W => Boxed W H 29 (.slice A (pieces was) co) ∧ OldAt was A H W ∧ (∃ v, Boxed W (H + 1) 25 v ∧ W.ownsRow (H + 5) 3 1 v (diffL was now k).length ((diffL was now k).map intV)) ∧ Below w.heap.size w W)
  (fun _ _ _ => False)
  (fun k => (stands_box _ _ _ (by omega)).and ((stands_old _ _ _ (by omega)).and ((stands_ex fun v => (stands_box _ _ _ (by omega)).and (stands_row (by omega))).and (stands_below (by omega) (by omega)))))
  (fun _ _ _ _ h _ => h)
  ⟨h0, hold0, ⟨_, h1, World.ownsRow_nil _ _ _ _⟩, hb0⟩
  (fun k => { tmps := #[.string was, .string now, undef, undef, .slice none 0 0, .pointer (some ⟨H, 0, none⟩), .pointer (some ⟨H + 1, 0, none⟩), .int .i64 k, .string (piece now k), .string was, .slice A (pieces was) co, .string now, .func (.func 49) #[] #[.pointer (some ⟨H + 2, 0, none⟩)], .int .i64 k, .string (piece now k), undef, undef, undef, undef, undef, undef, undef, undef, undef, undef, undef, undef, undef, undef, undef, undef, undef], defers := [] }) ?assign ?body ?done ?stop
 case assign =>
  intro l k W K hK
  gi_wp2
  exact hK
 case body =>
  rintro l k W hk hWs ⟨hbo, hol, ⟨v, hv, hrow⟩, hB⟩
  have hc := hv.cell
  have hco := hbo.cell
  have hkb : k + 1 ≤ 300000000000 := by unfold pieces at hk; omega
  have hdl := diffL_le was now k
  have hpn := piece_size now k hn
  have hpw := piece_size was k hs
  have hNb : pieces was ≤ 300000000000 := by unfold pieces; omega
  by_cases hlt : k < pieces was
  ·obtain ⟨g, rfl, hg, hcell⟩ := hol k hlt
   have hlt2 : decide ((k : Int) < (pieces was : Int)) = true := decide_eq_true (by omega)
   have hlt3 : decide (k < pieces was) = true := decide_eq_true hlt
   have hdf : diffB was now k = !(sameB (piece was k) (piece now k)) := by unfold diffB; rw [hlt3]; simp
   obtain ⟨pk, hpk⟩ : ∃ p, piece now k = p := ⟨_, rfl⟩
   obtain ⟨ok, hok⟩ : ∃ p, piece was k = p := ⟨_, rfl⟩
   rw [hpk, hok] at hdf
   rw [hok] at hcell hpw
   rw [hpk] at hpn ⊢
   have Hok := Lib.hid hok
   have Hpk := Lib.hid hpk
   clear hok hpk
   cases hsm : sameB ok pk with
   | true =>
    rw [hsm] at hdf
    have Hdf := Lib.hid hdf
    have Hsm := Lib.hid hsm
    clear hdf hsm
    gi_wp2_with fail
    refine ⟨trivial, (CallsIn.inRound l (callsIn_wide.2 (same_walk _ _ _ hpw hpn))).mono ?_⟩
    rintro e W2 ⟨rfl, nd, rfl⟩
    rw [Hsm.out]
    gi_wp2
    refine ⟨⟨Nat.le_refl _, fun _ _ h _ => h⟩, ⟨Nat.le_refl _, fun _ _ _ => rfl⟩, hbo, hol, ⟨v, hv, ?_⟩, ⟨hB.os, hB.tape, hB.output, hB.size, hB.block⟩⟩
    rw [diffL_no was now k Hdf.out]; exact hrow
   | false =>
    rw [hsm] at hdf
    have Hdf := Lib.hid hdf
    have Hsm := Lib.hid hsm
    clear hdf hsm
    gi_wp2_with fail
    refine ⟨trivial, (CallsIn.inRound l (callsIn_wide.2 (same_walk _ _ _ hpw hpn))).mono ?_⟩
    rintro e W2 ⟨rfl, nd, rfl⟩
    rw [Hsm.out]
    have hrow2 : (W.drewN nd).ownsRow (H + 5) 3 1 v (diffL was now k).length ((diffL was now k).map intV) := hrow
    have hvB : Boxed (W.drewN nd) (H + 1) 25 v := hv
    have hcd : (W.drewN nd).cell? ⟨H + 1, 0, none⟩ = some v := hc
    gi_wp2_with (first | (gi_at_builtin; refine wpListIn_append_own _ rfl _ _ 25 rfl (H + 5) 3 i0 (.int .i64 0) 1 8 Try.underlying25 hi hz0 hz1 hz2 rfl (by decide) _ _ _ rfl (hrow2.alloc _) ⟨(W.drewN nd).heap.size, 0, none⟩ 1 1 [.int .i64 k] rfl rfl (cell_one_new _ _ _) (by simp [Value.oneCell']) (by unfold maxLen; omega) (by omega) (by simp; omega) ?_; intro v' w1 hown' hgrow _; obtain ⟨g', cap', rfl⟩ := ownsRow_succ hown'; obtain ⟨hv1, hv2, hr2, hk2, hb2, hj2⟩ := box_appended (n₀ := H + 1) hvB hrow2 (by first | omega | (simp; omega)) (by omega) (Nat.le_refl _) hown' hgrow; have hc1 := hv1.cell; have hf1 := hv1.frozen))
    refine ⟨⟨hk2.size, fun j o h1 h2 => hk2.same j o h1 h2⟩, ⟨hb2.size, fun j hj _ => by subst hj; exact hj2 _ (by omega) (by omega)⟩, (hj2 H (by omega) (by omega)).trans hbo, fun j hj => ?_, ⟨_, hv2, ?_⟩, ⟨hb2.os.trans hB.os, hb2.tape.trans hB.tape, hb2.output.trans hB.output, Nat.le_trans hB.size hb2.size, fun j hj => (hb2.block j (by omega)).trans (hB.block j hj)⟩⟩
    ·obtain ⟨g2, e2, hg2, hc2⟩ := hol j hj
     exact ⟨g2, e2, hg2, (hb2.cell (p := ⟨g2, j, none⟩) (Nat.lt_succ_of_lt hg2)).trans hc2⟩
    ·rw [diffL_yes was now k Hdf.out, List.map_append, List.length_append]; exact hr2
  ·have hlt2 : decide ((k : Int) < (pieces was : Int)) = false := decide_eq_false (by omega)
   have hdf : diffB was now k = true := by unfold diffB; rw [decide_eq_false hlt]; rfl
   have Hdf := Lib.hid hdf
   obtain ⟨pk, hpk⟩ : ∃ p, piece now k = p := ⟨_, rfl⟩
   rw [hpk]
   clear hdf hpk
   have hrow2 := hrow
   have hvB := hv
   gi_wp2_with fail
   refine ⟨trivial, ?_⟩
   gi_wp2_with (first | (gi_at_builtin; refine wpListIn_append_own _ rfl _ _ 25 rfl (H + 5) 3 i0 (.int .i64 0) 1 8 Try.underlying25 hi hz0 hz1 hz2 rfl (by decide) _ _ _ rfl (hrow2.alloc _) ⟨W.heap.size, 0, none⟩ 1 1 [.int .i64 k] rfl rfl (cell_one_new _ _ _) (by simp [Value.oneCell']) (by unfold maxLen; omega) (by omega) (by simp; omega) ?_; intro v' w1 hown' hgrow _; obtain ⟨g', cap', rfl⟩ := ownsRow_succ hown'; obtain ⟨hv1, hv2, hr2, hk2, hb2, hj2⟩ := box_appended (n₀ := H + 1) hvB hrow2 (by first | omega | (simp; omega)) (by omega) (Nat.le_refl _) hown' hgrow; have hc1 := hv1.cell; have hf1 := hv1.frozen))
   refine ⟨⟨hk2.size, fun j o h1 h2 => hk2.same j o h1 h2⟩, ⟨hb2.size, fun j hj _ => by subst hj; exact hj2 _ (by omega) (by omega)⟩, (hj2 H (by omega) (by omega)).trans hbo, fun j hj => ?_, ⟨_, hv2, ?_⟩, ⟨hb2.os.trans hB.os, hb2.tape.trans hB.tape, hb2.output.trans hB.output, Nat.le_trans hB.size hb2.size, fun j hj => (hb2.block j (by omega)).trans (hB.block j hj)⟩⟩
   ·obtain ⟨g2, e2, hg2, hc2⟩ := hol j hj
    exact ⟨g2, e2, hg2, (hb2.cell (p := ⟨g2, j, none⟩) (Nat.lt_succ_of_lt hg2)).trans hc2⟩
   ·rw [diffL_yes was now k Hdf.out, List.map_append, List.length_append]; exact hr2
 case done =>
  rintro W ⟨_, _, ⟨v, hv, hrow⟩, hB⟩ hWs hD
  have hc := hv.cell
  gi_wp2
  refine ⟨by simp, .inl ⟨_, _, rfl, run_takeDeferred hD, ?_⟩⟩
  refine ⟨_, results_tmp rfl _ _ _, ⟨_, rfl, ?_, ?_⟩⟩
  ·exact ownsRow_putObj (row_lower hrow (by omega)) _ hD rfl
  ·exact hB.trans (belowK_b (w := W0) (by omega) W _ _ _ (by omega) hD rfl rfl)
 case stop =>
  intro c k W _ h
  exact h.elim
end Go.Proofs.Ytpcokafalmafgaa.H

set_option linter.unusedVariables false
namespace Go.Proofs.Ytpcokafalmafgaa.H
open Go.RowKit Go.Proofs.YtpcokafalmafgaaW.PrintWords

/-- vol.Cut -/
def vol_Cut.f (s : ByteArray) : Option (List ByteArray) := if s.size ≤ 140737488355328 then some (pieceL s (pieces s)) else none
theorem vol_Cut.calls (s : ByteArray) (r : List ByteArray) (w : World) (h : vol_Cut.f s = some r) :
  Calls Try.prog 13 #[.string s] w fun e w' => ∃ v0_ : Value, e = .returned (v0_) ∧ Kd.R Kd.string 9 w' w.heap.size (fun _ => True) v0_ r ∧ Below w.heap.size w w' := by
 unfold vol_Cut.f at h
 split at h
 ·rename_i hs
  obtain rfl := Option.some.inj h
  refine (cut_walk s w hs).mono ?_
  rintro e w' ⟨v, rfl, hr, hb⟩
  have hl : (pieceL s (pieces s)).length = pieces s := by simp [pieceL]
  exact ⟨v, rfl, Kd.R_of_own (by rw [hl]; exact hr) (fun _ _ => trivial), hb⟩
 ·cases h

/-- vol.Changed -/
def vol_Changed.f (was now : ByteArray) : Option (List Int) := if was.size ≤ 140737488355328 ∧ now.size ≤ 140737488355328 then some ((diffL was now (pieces now)).map fun k : Nat => (k : Int)) else none
theorem vol_Changed.calls (was now : ByteArray) (r : List Int) (w : World) (h : vol_Changed.f was now = some r) :
  Calls Try.prog 12 #[.string was, .string now] w fun e w' => ∃ v0_ : Value, e = .returned (v0_) ∧ Kd.R (Kd.int .i64) 3 w' w.heap.size (fun _ => True) v0_ r ∧ Below w.heap.size w w' := by
 unfold vol_Changed.f at h
 split at h
 ·rename_i hs
  obtain rfl := Option.some.inj h
  refine (changed_walk was now w hs.1 hs.2).mono ?_
  rintro e w' ⟨v, rfl, hr, hb⟩
  refine ⟨v, rfl, Kd.R_of_own ?_ (fun _ _ => trivial), hb⟩
  rw [List.length_map]
  have : encs (Value.int .i64) ((diffL was now (pieces now)).map fun k : Nat => (k : Int)) = (diffL was now (pieces now)).map intV := by
   simp [encs, intV, Function.comp_def]
  rw [this]; exact hr
 ·cases h
end Go.Proofs.Ytpcokafalmafgaa.H
