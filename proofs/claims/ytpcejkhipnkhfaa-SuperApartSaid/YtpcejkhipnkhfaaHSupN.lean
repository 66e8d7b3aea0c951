/- super.Newest: the newer of two super blocks. -/
import Derived.Test.YtpcejkhipnkhfaaQ1
import Derived.Test.YtpcejkhipnkhfaaQ4
import Derived.Test.YtpcejkhipnkhfaaQ6
import Derived.Test.YtpcejkhipnkhfaaHSupD
import Derived.Test.YtpcejkhipnkhfaaHRF
import Derived.Test.YtpcejkhipnkhfaaHRW
import Derived.OwnWalkIn
import Derived.TacticsInMore
import Derived.LoopNIn
import Derived.LoopIn
import Derived.Lib.Hide
set_option linter.unusedVariables false
set_option linter.unusedSimpArgs false
namespace Go.Proofs.Ytpcejkhipnkhfaa.Q
open Go.RowKit Go.Shelf Go.Proofs.Ytpcejkhipnkhfaa.H Go.Proofs.YtpcejkhipnkhfaaW.PrintWords Go.Proofs.YtpcejkhipnkhfaaW.PrintLast Go.Proofs.YtpcejkhipnkhfaaW.PrintMore
attribute [local go_sem] Oper.semAt_some
attribute [local go_sem high] eqA24
set_option maxRecDepth 100000

abbrev SvE := S24
def svV (x : SvE) : Value := .agg #[.int .i64 x.f0, .int .u64 x.f1, .int .i64 x.f2, .int .u64 x.f3]
/-- Is a decoded one of the disk? -/
def svOk (n : Int) (d : SvE × Int) : Prop := d.2 = 0 ∧ d.1.f0 = n
instance (n : Int) (d : SvE × Int) : Decidable (svOk n d) := by unfold svOk; infer_instance
def svAt (x y : SvE × Int) (j : Nat) : SvE × Int := if j = 0 then x else y
def mat (n : Int) (x y : SvE × Int) : Nat → List (Int × SvE)
  | 0 => []
  | j + 1 => mat n x y j ++ (if svOk n (svAt x y j) then [((j : Int), (svAt x y j).1)] else [])
theorem mat_yes {n : Int} {x y : SvE × Int} {j : Nat} (h : svOk n (svAt x y j)) : mat n x y (j + 1) = mat n x y j ++ [((j : Int), (svAt x y j).1)] := by
  show mat n x y j ++ _ = _; rw [if_pos h]
theorem mat_no {n : Int} {x y : SvE × Int} {j : Nat} (h : ¬ svOk n (svAt x y j)) : mat n x y (j + 1) = mat n x y j := by
  show mat n x y j ++ _ = _; rw [if_neg h, List.append_nil]
theorem mat_pre (n : Int) (x y : SvE × Int) : ∀ d j, ∃ r, mat n x y (j + d) = mat n x y j ++ r
  | 0, j => ⟨[], by simp⟩
  | d + 1, j => by
    obtain ⟨r, hr⟩ := mat_pre n x y d j
    exact ⟨_, by show mat n x y (j + d) ++ _ = _; rw [hr, List.append_assoc]⟩
def zeroSv : SvE := ⟨0, 0, 0, 0⟩
def matAt (n : Int) (x y : SvE × Int) (k : Nat) : Int × SvE := (mat n x y 2)[k]?.getD (0, zeroSv)
theorem mat_hit {n : Int} {x y : SvE × Int} {j : Nat} (hj : j < 2) (h : svOk n (svAt x y j)) : (mat n x y j).length < (mat n x y 2).length ∧ matAt n x y (mat n x y j).length = ((j : Int), (svAt x y j).1) := by
  obtain ⟨r, hr⟩ := mat_pre n x y (2 - (j + 1)) (j + 1)
  rw [show j + 1 + (2 - (j + 1)) = 2 by omega, mat_yes h] at hr
  unfold matAt
  rw [hr]
  refine ⟨by simp, ?_⟩
  rw [List.append_assoc, List.getElem?_append_right (Nat.le_refl _)]
  simp

set_option maxHeartbeats 4000000 in
/-- The iterator of super.those over two blocks. -/
theorem those_seq (nn : Nat) (h1n : 1 ≤ nn) (n : Int) (one two : ByteArray) (x y : SvE × Int) (hx : super_Decode.f one = some (x.1.f0, x.1.f1, x.1.f2, x.1.f3, x.2)) (hy : super_Decode.f two = some (y.1.f0, y.1.f1, y.1.f2, y.1.f3, y.2))
    (G Bn Bl : Nat) (ad : Addr) (had : (⟨G, 0, none⟩ : Addr) = ad) (w : World) (hG : w.heap[G]? = some (.cells #[.string one, .string two] 9 (0, 0)))
    (hBn : w.heap[Bn]? = some (.cells #[.int .i64 n] 3 (0, 0))) (hBl : w.heap[Bl]? = some (.cells #[.slice (some ad) 2 2] 69 (0, 0))) :
    SeqN Fence.wide nn Try.prog 38 #[.pointer (some ⟨Bl, 0, none⟩), .pointer (some ⟨Bn, 0, none⟩)]
      (fun k => #[.int .i64 (matAt n x y k).1, svV (matAt n x y k).2]) (fun _ => False) (fun _ => False) (fun j => j = G ∨ j = Bn ∨ j = Bl) (mat n x y 2).length w := fun lp J Jx W hW hJ hJx hY h0 => by
  have hlg : G < w.heap.size := (Array.getElem?_eq_some_iff.1 hG).1
  have hln : Bn < w.heap.size := (Array.getElem?_eq_some_iff.1 hBn).1
  have hll : Bl < w.heap.size := (Array.getElem?_eq_some_iff.1 hBl).1
  have hg : W.heap[G]? = some (.cells #[.string one, .string two] 9 (0, 0)) := (hW.block G hlg).trans hG
  have hn : W.heap[Bn]? = some (.cells #[.int .i64 n] 3 (0, 0)) := (hW.block Bn hln).trans hBn
  have hl : W.heap[Bl]? = some (.cells #[.slice (some ad) 2 2] 69 (0, 0)) := (hW.block Bl hll).trans hBl
  have hcl : W.cell? ⟨Bl, 0, none⟩ = some (.slice (some ad) 2 2) := by rw [Lib.cell_of_heap hl]; rfl
  have hu := Try.underlying24
  clear hW hG hBn hBl
  have HX := Aside0.mk hx
  have HY := Aside0.mk hy
  clear hx hy
  refine callsIn_of_wp Try.func38 rfl trivial ?_ rfl
  simp only [Try.ntmps38, List.size_toArray, List.length_cons, List.length_nil, Nat.reduceAdd, Nat.reduceSub, Array.replicate_succ, Array.replicate_zero, List.push_toArray, List.append_toArray, List.nil_append, List.cons_append]
  gi_wp2
  gi_loopw [10] (fun i wr => ∃ j : Nat, j ≤ 2 ∧ i = .int .i64 j ∧ J (mat n x y j).length wr ∧ wr.heap[G]? = some (.cells #[.string one, .string two] 9 (0, 0)) ∧ wr.heap[Bn]? = some (.cells #[.int .i64 n] 3 (0, 0)) ∧ wr.heap[Bl]? = some (.cells #[.slice (some ad) 2 2] 69 (0, 0)))
    (fun i _ => 2 - (intOf i).toNat)
  case atStart => exact ⟨0, by omega, rfl, h0, hg, hn, hl⟩
  case round =>
    obtain ⟨j, hj, rfl, hJs, hgj, hnj, hlj⟩ := hrel
    by_cases hlt : j < 2
    · have hjl : decide ((j : Int) < 2) = true := decide_eq_true (by omega)
      obtain ⟨s, d, hs, hd, hdec⟩ : ∃ (s : ByteArray) (d : SvE × Int), wr.cell? (ad.add j) = some (.string s) ∧ svAt x y j = d ∧ super_Decode.f s = some (d.1.f0, d.1.f1, d.1.f2, d.1.f3, d.2) := by
        subst had
        match j, hlt with
        | 0, _ => exact ⟨one, x, by show wr.cell? ⟨G, 0, none⟩ = _; rw [Lib.cell_of_heap hgj]; rfl, rfl, HX.out⟩
        | 1, _ => exact ⟨two, y, by show wr.cell? ⟨G, 1, none⟩ = _; rw [Lib.cell_of_heap hgj]; rfl, rfl, HY.out⟩
        | j + 2, h => omega
      have HD := Aside0.mk hdec
      have HS := Aside0.mk hd
      clear hdec hd
      gi_wp2_with fail
      refine ⟨trivial, (callsIn_wide.2 (super_Decode.calls _ _ _ _ _ _ _ HD.out)).mono ?_⟩
      rintro e w4 ⟨rfl, hb4⟩
      have hJ4 := hJ _ _ _ (hJ _ _ _ hJs (Turn.of_below hb4)) (Turn.alloc w4 (.cells #[.int .i64 d.1.f0, .int .u64 d.1.f1, .int .i64 d.1.f2, .int .u64 d.1.f3] 24))
      have hg4 : w4.heap[G]? = some (.cells #[.string one, .string two] 9 (0, 0)) := (hb4.block G (Array.getElem?_eq_some_iff.1 hgj).1).trans hgj
      have hn4 : w4.heap[Bn]? = some (.cells #[.int .i64 n] 3 (0, 0)) := (hb4.block Bn (Array.getElem?_eq_some_iff.1 hnj).1).trans hnj
      have hl4 : w4.heap[Bl]? = some (.cells #[.slice (some ad) 2 2] 69 (0, 0)) := (hb4.block Bl (Array.getElem?_eq_some_iff.1 hlj).1).trans hlj
      have hg5 := blk_alloc hg4 (.cells #[.int .i64 d.1.f0, .int .u64 d.1.f1, .int .i64 d.1.f2, .int .u64 d.1.f3] 24)
      have hn5 := blk_alloc hn4 (.cells #[.int .i64 d.1.f0, .int .u64 d.1.f1, .int .i64 d.1.f2, .int .u64 d.1.f3] 24)
      have hl5 := blk_alloc hl4 (.cells #[.int .i64 d.1.f0, .int .u64 d.1.f1, .int .i64 d.1.f2, .int .u64 d.1.f3] 24)
      have hcn : w4.cell? ⟨Bn, 0, none⟩ = some (.int .i64 n) := by rw [Lib.cell_of_heap hn4]; rfl
      have hbn := (Array.getElem?_eq_some_iff.1 hn4).1
      by_cases hok : svOk n (svAt x y j)
      · have hok' := hok
        rw [HS.out] at hok'
        obtain ⟨he, hf⟩ := hok'
        have he1 : (d.2 == 0) = true := by simp [he]
        have hf1 : (d.1.f0 == n) = true := by simp [hf]
        obtain ⟨hk, hme⟩ := mat_hit hlt hok
        obtain ⟨fn, tmps, assign, body, hy, hR⟩ := hY _ _ hk hJ4
        rw [hme, HS.out] at hy
        have HOK := Aside0.mk hok
        have HK := Aside0.mk hk
        have HME := Aside0.mk hme
        clear hok hk hme he hf
        simp only [svV] at hy
        gi_wp2
        refine hR.mono ?_
        rintro e W3 (⟨rfl, hJ3, hk3⟩ | ⟨rfl, hJx3⟩)
        · gi_wp2
          go_roundw
          case rel =>
            refine ⟨j + 1, by omega, by simp, ?_, (hk3.same G (.inl rfl) (blk_lt hg5)).trans hg5, (hk3.same Bn (.inr (.inl rfl)) (blk_lt hn5)).trans hn5, (hk3.same Bl (.inr (.inr rfl)) (blk_lt hl5)).trans hl5⟩
            rw [mat_yes HOK.out, List.length_append]
            exact hJ3
          case measure => simp [intOf]; omega
        · gi_wp2
          refine bodyPost_ret (results_none rfl _ _ _) rfl ?_
          exact ⟨⟨_, rfl⟩, .inr ⟨_, by have := HK.out; omega, hJx3⟩⟩
      · have hno := mat_no hok
        have HNO := Aside0.mk hno
        rw [HS.out] at hok
        clear hno
        by_cases he : d.2 = 0
        · have hf : d.1.f0 ≠ n := fun h => hok ⟨he, h⟩
          have he1 : (d.2 == 0) = true := by simp [he]
          have hf1 : (d.1.f0 == n) = false := by simp [hf]
          clear hok he hf
          gi_wp2
          refine ⟨fun _ h => (by cases h), ?_⟩
          gi_wp2
          go_roundw
          case rel => exact ⟨j + 1, by omega, by simp, by rw [HNO.out]; exact hJ4, hg5, hn5, hl5⟩
          case measure => simp [intOf]; omega
        · have he1 : (d.2 == 0) = false := by simp [he]
          clear hok he
          gi_wp2
          refine ⟨fun _ h => (by cases h), ?_⟩
          gi_wp2
          go_roundw
          case rel => exact ⟨j + 1, by omega, by simp, by rw [HNO.out]; exact hJ4, hg5, hn5, hl5⟩
          case measure => simp [intOf]; omega
    · have hjl : decide ((j : Int) < 2) = false := decide_eq_false (by omega)
      obtain rfl : j = 2 := by omega
      gi_wp2
      go_end0
      exact ⟨⟨_, rfl⟩, .inl hJs⟩

def nstep (b p : Int × SvE) : Int × SvE := if (b.2.f0 == 0 && (b.2.f1 == 0 && (b.2.f2 == 0 && (b.2.f3 == 0)))) = true then p else if p.2.f1 ≤ b.2.f1 then b else p
def bstJ (n : Int) (x y : SvE × Int) (k : Nat) : Int × SvE := ((mat n x y 2).take k).foldl nstep (0, zeroSv)
theorem bstJ_succ (n : Int) (x y : SvE × Int) (k : Nat) (hk : k < (mat n x y 2).length) : bstJ n x y (k + 1) = nstep (bstJ n x y k) (matAt n x y k) := by
  unfold bstJ matAt
  rw [List.take_succ_eq_append_getElem hk, List.foldl_append, List.getElem?_eq_getElem hk]; rfl
def svOf (r : Int × Int × Int × Int × Int) : SvE × Int := (⟨r.1, r.2.1, r.2.2.1, r.2.2.2.1⟩, r.2.2.2.2)
def newV (n : Int) (x y : SvE × Int) : Int × Int × Int × Int × Int × Int :=
  let b := bstJ n x y (mat n x y 2).length
  if (b.2.f0 == 0 && (b.2.f1 == 0 && (b.2.f2 == 0 && (b.2.f3 == 0)))) = true then (b.2.f0, b.2.f1, b.2.f2, b.2.f3, 0, 50) else (b.2.f0, b.2.f1, b.2.f2, b.2.f3, b.1, 0)
def super_Newest.f (one two : ByteArray) (n : Int) : Option (Int × Int × Int × Int × Int × Int) := (super_Decode.f one).bind fun r => (super_Decode.f two).bind fun q => some (newV n (svOf r) (svOf q))
def svC (x : SvE) : Array Value := #[.int .i64 x.f0, .int .u64 x.f1, .int .i64 x.f2, .int .u64 x.f3]

theorem those_calls (n : Int) (A : Option Addr) (k c : Nat) (w : World) : Calls Try.prog 31 #[.int .i64 n, .slice A k c] w fun e w' =>
    e = .returned (.func (.func 38) #[] #[.pointer (some ⟨w.heap.size + 1, 0, none⟩), .pointer (some ⟨w.heap.size, 0, none⟩)]) ∧ w' = (w.alloc (.cells #[.int .i64 n] 3)).alloc (.cells #[.slice A k c] 69) := by
  go_enter Try.func31, Try.ntmps31
  go_wp2
  go_ret
  exact ⟨rfl, rfl⟩

theorem five_world {W : World} {H : Nat} {T T2 : TypeId} {o : Value} {s : SvE} (h1 : W.heap[H + 1]? = some (.cells (svC s) T (0, 0))) (h2 : W.heap[H + 2]? = some (.cells #[o] T2 (0, 0))) (v0 v1 v2 v3 v : Value) :
    (((((W.setCell ⟨H + 1, 0, none⟩ v0).setCell ⟨H + 1, 1, none⟩ v1).setCell ⟨H + 1, 2, none⟩ v2).setCell ⟨H + 1, 3, none⟩ v3).setCell ⟨H + 2, 0, none⟩ v).heap[H + 1]? = some (.cells #[v0, v1, v2, v3] T (0, 0)) ∧
    (((((W.setCell ⟨H + 1, 0, none⟩ v0).setCell ⟨H + 1, 1, none⟩ v1).setCell ⟨H + 1, 2, none⟩ v2).setCell ⟨H + 1, 3, none⟩ v3).setCell ⟨H + 2, 0, none⟩ v).heap[H + 2]? = some (.cells #[v] T2 (0, 0)) ∧
    (∀ j, j ≠ H + 1 → j ≠ H + 2 → (((((W.setCell ⟨H + 1, 0, none⟩ v0).setCell ⟨H + 1, 1, none⟩ v1).setCell ⟨H + 1, 2, none⟩ v2).setCell ⟨H + 1, 3, none⟩ v3).setCell ⟨H + 2, 0, none⟩ v).heap[j]? = W.heap[j]?) ∧
    KeepsOthers W (((((W.setCell ⟨H + 1, 0, none⟩ v0).setCell ⟨H + 1, 1, none⟩ v1).setCell ⟨H + 1, 2, none⟩ v2).setCell ⟨H + 1, 3, none⟩ v3).setCell ⟨H + 2, 0, none⟩ v) ∧
    W.heap.size ≤ (((((W.setCell ⟨H + 1, 0, none⟩ v0).setCell ⟨H + 1, 1, none⟩ v1).setCell ⟨H + 1, 2, none⟩ v2).setCell ⟨H + 1, 3, none⟩ v3).setCell ⟨H + 2, 0, none⟩ v).heap.size ∧
    ∀ (n : Nat) (w : World), n ≤ H → Below n w W → Below n w (((((W.setCell ⟨H + 1, 0, none⟩ v0).setCell ⟨H + 1, 1, none⟩ v1).setCell ⟨H + 1, 2, none⟩ v2).setCell ⟨H + 1, 3, none⟩ v3).setCell ⟨H + 2, 0, none⟩ v) := by
  have hne : ∀ (X : World) (u : Value), (X.setCell ⟨H + 2, 0, none⟩ u).heap[H + 1]? = X.heap[H + 1]? := fun X u => Below.heap_setCell X ⟨H + 2, 0, none⟩ u (H + 1) (by simp)
  have hse : ∀ (X : World) (i : Nat) (u : Value) (j : Nat), j ≠ H + 1 → (X.setCell ⟨H + 1, i, none⟩ u).heap[j]? = X.heap[j]? := fun X i u j hj => Below.heap_setCell X ⟨H + 1, i, none⟩ u j hj
  have hk : KeepsOthers W (((((W.setCell ⟨H + 1, 0, none⟩ v0).setCell ⟨H + 1, 1, none⟩ v1).setCell ⟨H + 1, 2, none⟩ v2).setCell ⟨H + 1, 3, none⟩ v3).setCell ⟨H + 2, 0, none⟩ v) :=
    ((((KeepsOthers.setCell _ _ _).trans (KeepsOthers.setCell _ _ _)).trans (KeepsOthers.setCell _ _ _)).trans (KeepsOthers.setCell _ _ _)).trans (KeepsOthers.setCell _ _ _)
  refine ⟨(hne _ _).trans (four_cells h1 _ _ _ _), ?_, fun j a b => ?_, hk, hk.size, fun n w hn hb => ?_⟩
  · have h3 : ((((W.setCell ⟨H + 1, 0, none⟩ v0).setCell ⟨H + 1, 1, none⟩ v1).setCell ⟨H + 1, 2, none⟩ v2).setCell ⟨H + 1, 3, none⟩ v3).heap[H + 2]? = some (.cells #[o] T2 (0, 0)) := by
      rw [hse _ _ _ _ (by omega), hse _ _ _ _ (by omega), hse _ _ _ _ (by omega), hse _ _ _ _ (by omega)]; exact h2
    generalize (((W.setCell ⟨H + 1, 0, none⟩ v0).setCell ⟨H + 1, 1, none⟩ v1).setCell ⟨H + 1, 2, none⟩ v2).setCell ⟨H + 1, 3, none⟩ v3 = X at h3
    simp [World.setCell, Array.getElem?_modify, h3]
  · rw [Below.heap_setCell _ _ _ _ b, hse _ _ _ _ a, hse _ _ _ _ a, hse _ _ _ _ a, hse _ _ _ _ a]
  · exact (four_below hb (by omega) _ _ _ _).setCell (p := ⟨H + 2, 0, none⟩) (by show n ≤ H + 2; omega) v

set_option maxHeartbeats 8000000 in
theorem newest_walk (one two : ByteArray) (n : Int) (x y : SvE × Int) (hx : super_Decode.f one = some (x.1.f0, x.1.f1, x.1.f2, x.1.f3, x.2)) (hy : super_Decode.f two = some (y.1.f0, y.1.f1, y.1.f2, y.1.f3, y.2)) (w : World) :
    Calls Try.prog 16 #[.string one, .string two, .int .i64 n] w fun e w' => e = .returned (.tuple #[.agg #[.int .i64 (newV n x y).1, .int .u64 (newV n x y).2.1, .int .i64 (newV n x y).2.2.1, .int .u64 (newV n x y).2.2.2.1], .int .i64 (newV n x y).2.2.2.2.1, .int .i64 (newV n x y).2.2.2.2.2]) ∧ Below w.heap.size w w' := by
  have hu := Try.underlying24
  have HX := Aside0.mk hx
  have HY := Aside0.mk hy
  clear hx hy
  refine (callsIn_wide (n := 10)).1 ?_
  refine callsIn_of_wp_marks Try.func16 rfl trivial ?_ rfl
  simp only [Try.ntmps16, List.size_toArray, List.length_cons, List.length_nil, Nat.reduceAdd, Nat.reduceSub, Array.replicate_succ, Array.replicate_zero, List.push_toArray, List.append_toArray, List.nil_append, List.cons_append]
  gi_wp2_with fail
  refine wpIn_scope ?_
  gi_wp2_with fail
  refine wpIn_label ?_
  gi_wp2_with fail
  refine ⟨trivial, (callsIn_wide.2 (those_calls _ _ _ _ _)).mono ?_⟩
  rintro e W0 ⟨rfl, hW0⟩
  obtain ⟨H, hH⟩ : ∃ H, w.heap.size = H := ⟨_, rfl⟩
  simp only [World.size_alloc, hH, Nat.add_assoc, Nat.reduceAdd]
  obtain ⟨ad, had⟩ : ∃ ad : Addr, (⟨H + 3, 0, none⟩ : Addr) = ad := ⟨_, rfl⟩
  simp only [hH, Nat.add_assoc, Nat.reduceAdd, had] at hW0 ⊢
  obtain ⟨w1, hw1⟩ : ∃ w1, w.alloc (.cells #[.int .i64 0, .int .u64 0, .int .i64 0, .int .u64 0] 24) = w1 := ⟨_, rfl⟩
  obtain ⟨w2, hw2⟩ : ∃ w2, w1.alloc (.cells #[.int .i64 0, .int .u64 0, .int .i64 0, .int .u64 0] 24) = w2 := ⟨_, rfl⟩
  obtain ⟨w3, hw3⟩ : ∃ w3, w2.alloc (.cells #[.int .i64 0] 3) = w3 := ⟨_, rfl⟩
  obtain ⟨w4, hw4⟩ : ∃ w4, w3.alloc (.cells #[.string one, .string two] 9) = w4 := ⟨_, rfl⟩
  obtain ⟨w5, hw5⟩ : ∃ w5, w4.alloc (.cells #[.int .i64 n] 3) = w5 := ⟨_, rfl⟩
  rw [hw1, hw2, hw3, hw4, hw5] at hW0
  have s1 : w1.heap.size = H + 1 := by rw [← hw1]; simp [hH]
  have s2 : w2.heap.size = H + 2 := by rw [← hw2]; simp [s1]
  have s3 : w3.heap.size = H + 3 := by rw [← hw3]; simp [s2]
  have s4 : w4.heap.size = H + 4 := by rw [← hw4]; simp [s3]
  have s5 : w5.heap.size = H + 5 := by rw [← hw5]; simp [s4]
  have hsz : W0.heap.size = H + 6 := by rw [hW0]; simp [s5]
  have e1 : w1.heap[H]? = some (.cells #[.int .i64 0, .int .u64 0, .int .i64 0, .int .u64 0] 24 (0, 0)) := by rw [← hw1, ← hH]; exact blk_new _ _
  have e2 : w2.heap[H + 1]? = some (.cells #[.int .i64 0, .int .u64 0, .int .i64 0, .int .u64 0] 24 (0, 0)) := by rw [← hw2, ← s1]; exact blk_new _ _
  have e3 : w3.heap[H + 2]? = some (.cells #[.int .i64 0] 3 (0, 0)) := by rw [← hw3, ← s2]; exact blk_new _ _
  have e4 : w4.heap[H + 3]? = some (.cells #[.string one, .string two] 9 (0, 0)) := by rw [← hw4, ← s3]; exact blk_new _ _
  have e5 : w5.heap[H + 4]? = some (.cells #[.int .i64 n] 3 (0, 0)) := by rw [← hw5, ← s4]; exact blk_new _ _
  have f6 : W0.heap[H + 5]? = some (.cells #[.slice (some ad) 2 2] 69 (0, 0)) := by rw [hW0, ← s5]; exact blk_new _ _
  have f5 : W0.heap[H + 4]? = some (.cells #[.int .i64 n] 3 (0, 0)) := by rw [hW0]; exact blk_alloc e5 _
  have f4 : W0.heap[H + 3]? = some (.cells #[.string one, .string two] 9 (0, 0)) := by rw [hW0, ← hw5]; exact blk_alloc (blk_alloc e4 _) _
  have f3 : W0.heap[H + 2]? = some (.cells #[.int .i64 0] 3 (0, 0)) := by rw [hW0, ← hw5, ← hw4]; exact blk_alloc (blk_alloc (blk_alloc e3 _) _) _
  have f2 : W0.heap[H + 1]? = some (.cells #[.int .i64 0, .int .u64 0, .int .i64 0, .int .u64 0] 24 (0, 0)) := by rw [hW0, ← hw5, ← hw4, ← hw3]; exact blk_alloc (blk_alloc (blk_alloc (blk_alloc e2 _) _) _) _
  have f1 : W0.heap[H]? = some (.cells #[.int .i64 0, .int .u64 0, .int .i64 0, .int .u64 0] 24 (0, 0)) := by rw [hW0, ← hw5, ← hw4, ← hw3, ← hw2]; exact blk_alloc (blk_alloc (blk_alloc (blk_alloc (blk_alloc e1 _) _) _) _) _
  have hbl : Below H w W0 := by rw [hW0, ← hw5, ← hw4, ← hw3, ← hw2, ← hw1]; exact ((((((Below.refl H w).alloc (by omega) _).alloc (by simp; omega) _).alloc (by simp; omega) _).alloc (by simp; omega) _).alloc (by simp; omega) _).alloc (by simp; omega) _
  clear hW0 e1 e2 e3 e4 e5 hw1 hw2 hw3 hw4 hw5 s1 s2 s3 s4 s5
  gi_wp2
  refine wpIn_rangeW rfl (by omega) (gf := 38) (lb := #[.pointer (some ⟨H + 5, 0, none⟩), .pointer (some ⟨H + 4, 0, none⟩)]) rfl trivial (enters_of Try.func38 (by kernel_rfl) rfl)
    (those_seq 9 (by omega) n one two x y HX.out HY.out (H + 3) (H + 4) (H + 5) ad had W0 f4 f5 f6) (Below.refl _ _) (fun _ => rfl) (fun h => h) (fun h => h) (by omega)
    (fun k W => W.heap[H]? = some (.cells #[.int .i64 0, .int .u64 0, .int .i64 0, .int .u64 0] 24 (0, 0)) ∧ W.heap[H + 1]? = some (.cells (svC (bstJ n x y k).2) 24 (0, 0)) ∧ W.heap[H + 2]? = some (.cells #[.int .i64 (bstJ n x y k).1] 3 (0, 0)) ∧ Below H w W)
    (fun _ _ _ => False)
    (fun k => (stands_heap _ _ (by rintro (h | h | h) <;> first | exact h | omega)).and ((stands_heap _ _ (by rintro (h | h | h) <;> first | exact h | omega)).and ((stands_heap _ _ (by rintro (h | h | h) <;> first | exact h | omega)).and (stands_below (by omega) (by rintro q (h | h | h) <;> first | exact h.elim | omega)))))
    (fun _ _ _ _ h _ => h)
    ⟨f1, f2, f3, hbl⟩
    (fun k V => { tmps := #[.string one, .string two, .int .i64 n, undef, undef, undef, .pointer (some ⟨H, 0, none⟩), .int .i64 0, .int .i64 0, .pointer (some ⟨H + 1, 0, none⟩), .pointer (some ⟨H + 2, 0, none⟩), .int .i64 (matAt n x y k).1, .pointer (some ⟨V.heap.size, 0, none⟩), .int .i64 n, .string one, .string two, .slice (some ad) 2 2, .func (.func 38) #[] #[.pointer (some ⟨H + 5, 0, none⟩), .pointer (some ⟨H + 4, 0, none⟩)], .int .i64 (matAt n x y k).1, svV (matAt n x y k).2, undef, undef, undef, undef, undef, undef, undef, undef, undef, undef, undef, undef, undef, undef, undef, undef, undef, undef], defers := [] })
    (fun k V => V.alloc (.cells (svC (matAt n x y k).2) 24))
    (fun k V => (Below.refl _ _).alloc (Nat.le_refl _) _) ?assign ?body ?done ?stop
  case assign =>
    intro lo k W K _ hK
    unfold svV
    unfold svV svC at hK
    gi_wp2
    exact hK
  case body =>
    rintro lo k V W hk hVs ⟨g1, g2, g3, hB⟩ hsame hsz2
    have hnext := bstJ_succ n x y k hk
    obtain ⟨p, hp⟩ : ∃ p, matAt n x y k = p := ⟨_, rfl⟩
    obtain ⟨b, hb⟩ : ∃ b, bstJ n x y k = b := ⟨_, rfl⟩
    have g4 : W.heap[V.heap.size]? = some (.cells (svC (matAt n x y k).2) 24 (0, 0)) := (hsame _ (by omega)).trans (World.alloc_heap_new V _)
    rw [hp] at hnext g4 ⊢
    rw [hb] at hnext g2 g3
    have a0 : W.cell? ⟨V.heap.size, 0, none⟩ = some (.int .i64 p.2.f0) := by rw [Lib.cell_of_heap g4]; rfl
    have a1 : W.cell? ⟨V.heap.size, 1, none⟩ = some (.int .u64 p.2.f1) := by rw [Lib.cell_of_heap g4]; rfl
    have a2 : W.cell? ⟨V.heap.size, 2, none⟩ = some (.int .i64 p.2.f2) := by rw [Lib.cell_of_heap g4]; rfl
    have a3 : W.cell? ⟨V.heap.size, 3, none⟩ = some (.int .u64 p.2.f3) := by rw [Lib.cell_of_heap g4]; rfl
    have b0 : W.cell? ⟨H + 1, 0, none⟩ = some (.int .i64 b.2.f0) := by rw [Lib.cell_of_heap g2]; rfl
    have b1 : W.cell? ⟨H + 1, 1, none⟩ = some (.int .u64 b.2.f1) := by rw [Lib.cell_of_heap g2]; rfl
    have b2 : W.cell? ⟨H + 1, 2, none⟩ = some (.int .i64 b.2.f2) := by rw [Lib.cell_of_heap g2]; rfl
    have b3 : W.cell? ⟨H + 1, 3, none⟩ = some (.int .u64 b.2.f3) := by rw [Lib.cell_of_heap g2]; rfl
    have r0 : W.frozen? ⟨H + 1, 0, none⟩ = false := Lib.frozen_of_heap g2 0
    have r1 : W.frozen? ⟨H + 1, 1, none⟩ = false := Lib.frozen_of_heap g2 1
    have r2 : W.frozen? ⟨H + 1, 2, none⟩ = false := Lib.frozen_of_heap g2 2
    have r3 : W.frozen? ⟨H + 1, 3, none⟩ = false := Lib.frozen_of_heap g2 3
    have d0 : W.cell? ⟨H + 2, 0, none⟩ = some (.int .i64 b.1) := by rw [Lib.cell_of_heap g3]; rfl
    have d1 : W.frozen? ⟨H + 2, 0, none⟩ = false := Lib.frozen_of_heap g3 0
    have HNX := Aside0.mk hnext
    unfold svV
    clear hsame hsz2 hp hb hnext
    by_cases hz : (b.2.f0 == 0 && (b.2.f1 == 0 && (b.2.f2 == 0 && (b.2.f3 == 0)))) = true
    · have hst : nstep b p = p := by unfold nstep; rw [if_pos hz]
      have HN := Aside0.mk (HNX.out.trans hst)
      clear hst
      gi_wp2
      obtain ⟨q1, q2, q3, q4, q5, q6⟩ := five_world g2 g3 (.int .i64 p.2.f0) (.int .u64 p.2.f1) (.int .i64 p.2.f2) (.int .u64 p.2.f3) (.int .i64 p.1)
      refine ⟨q4, ⟨q5, fun j hj _ => q3 j (by omega) (by omega)⟩, (q3 H (by omega) (by omega)).trans g1, ?_, ?_, q6 H w (by omega) hB⟩
      · rw [HN.out]; exact q1
      · rw [HN.out]; exact q2
    · have hz0 : (b.2.f0 == 0 && (b.2.f1 == 0 && (b.2.f2 == 0 && (b.2.f3 == 0)))) = false := by simpa using hz
      by_cases hle : p.2.f1 ≤ b.2.f1
      · have hst : nstep b p = b := by unfold nstep; rw [if_neg hz, if_pos hle]
        have HN := Aside0.mk (HNX.out.trans hst)
        have hl1 : decide (p.2.f1 ≤ b.2.f1) = true := decide_eq_true hle
        clear hst hz
        gi_wp2
        refine ⟨KeepsOthers.refl W, KeepAt.refl _ W, g1, by rw [HN.out]; exact g2, by rw [HN.out]; exact g3, hB⟩
      · have hst : nstep b p = p := by unfold nstep; rw [if_neg hz, if_neg hle]
        have HN := Aside0.mk (HNX.out.trans hst)
        have hl1 : decide (p.2.f1 ≤ b.2.f1) = false := decide_eq_false hle
        clear hst hz
        gi_wp2
        obtain ⟨q1, q2, q3, q4, q5, q6⟩ := five_world g2 g3 (.int .i64 p.2.f0) (.int .u64 p.2.f1) (.int .i64 p.2.f2) (.int .u64 p.2.f3) (.int .i64 p.1)
        refine ⟨q4, ⟨q5, fun j hj _ => q3 j (by omega) (by omega)⟩, (q3 H (by omega) (by omega)).trans g1, ?_, ?_, q6 H w (by omega) hB⟩
        · rw [HN.out]; exact q1
        · rw [HN.out]; exact q2
  case done =>
    rintro W ⟨g1, g2, g3, hB⟩ hWs hD
    rw [hsz] at hD
    have hnw : newV n x y = (let b := bstJ n x y (mat n x y 2).length; if (b.2.f0 == 0 && (b.2.f1 == 0 && (b.2.f2 == 0 && (b.2.f3 == 0)))) = true then (b.2.f0, b.2.f1, b.2.f2, b.2.f3, 0, 50) else (b.2.f0, b.2.f1, b.2.f2, b.2.f3, b.1, 0)) := rfl
    obtain ⟨b, hb⟩ : ∃ b, bstJ n x y (mat n x y 2).length = b := ⟨_, rfl⟩
    rw [hb] at g2 g3 hnw
    simp only [] at hnw
    have b0 : W.cell? ⟨H + 1, 0, none⟩ = some (.int .i64 b.2.f0) := by rw [Lib.cell_of_heap g2]; rfl
    have b1 : W.cell? ⟨H + 1, 1, none⟩ = some (.int .u64 b.2.f1) := by rw [Lib.cell_of_heap g2]; rfl
    have b2 : W.cell? ⟨H + 1, 2, none⟩ = some (.int .i64 b.2.f2) := by rw [Lib.cell_of_heap g2]; rfl
    have b3 : W.cell? ⟨H + 1, 3, none⟩ = some (.int .u64 b.2.f3) := by rw [Lib.cell_of_heap g2]; rfl
    have d0 : W.cell? ⟨H + 2, 0, none⟩ = some (.int .i64 b.1) := by rw [Lib.cell_of_heap g3]; rfl
    have z0 : W.cell? ⟨H, 0, none⟩ = some (.int .i64 0) := by rw [Lib.cell_of_heap g1]; rfl
    have z1 : W.cell? ⟨H, 1, none⟩ = some (.int .u64 0) := by rw [Lib.cell_of_heap g1]; rfl
    have z2 : W.cell? ⟨H, 2, none⟩ = some (.int .i64 0) := by rw [Lib.cell_of_heap g1]; rfl
    have z3 : W.cell? ⟨H, 3, none⟩ = some (.int .u64 0) := by rw [Lib.cell_of_heap g1]; rfl
    have r0 : W.frozen? ⟨H, 0, none⟩ = false := Lib.frozen_of_heap g1 0
    have r1 : W.frozen? ⟨H, 1, none⟩ = false := Lib.frozen_of_heap g1 1
    have r2 : W.frozen? ⟨H, 2, none⟩ = false := Lib.frozen_of_heap g1 2
    have r3 : W.frozen? ⟨H, 3, none⟩ = false := Lib.frozen_of_heap g1 3
    have HD := Aside0.mk hD
    clear hb
    by_cases hz : (b.2.f0 == 0 && (b.2.f1 == 0 && (b.2.f2 == 0 && (b.2.f3 == 0)))) = true
    · rw [if_pos hz] at hnw
      have HNW := Aside0.mk hnw
      clear hnw
      gi_wp2
      obtain ⟨x1, x2⟩ : (((((W.setCell ⟨H, 0, none⟩ (.int .i64 b.2.f0)).setCell ⟨H, 1, none⟩ (.int .u64 b.2.f1)).setCell ⟨H, 2, none⟩ (.int .i64 b.2.f2)).setCell ⟨H, 3, none⟩ (.int .u64 b.2.f3)).heap[H + 6]? = some (.deferred (some []))) ∧ (((((W.setCell ⟨H, 0, none⟩ (.int .i64 b.2.f0)).setCell ⟨H, 1, none⟩ (.int .u64 b.2.f1)).setCell ⟨H, 2, none⟩ (.int .i64 b.2.f2)).setCell ⟨H, 3, none⟩ (.int .u64 b.2.f3)).heap[H]? = some (.cells (svC b.2) 24 (0, 0))) := by
        refine ⟨?_, four_cells g1 _ _ _ _⟩
        rw [Below.heap_setCell _ _ _ _ (by simp), Below.heap_setCell _ _ _ _ (by simp), Below.heap_setCell _ _ _ _ (by simp), Below.heap_setCell _ _ _ _ (by simp)]; exact HD.out
      have x3 := four_below hB (Nat.le_refl H) (.int .i64 b.2.f0) (.int .u64 b.2.f1) (.int .i64 b.2.f2) (.int .u64 b.2.f3)
      generalize ((((W.setCell ⟨H, 0, none⟩ (.int .i64 b.2.f0)).setCell ⟨H, 1, none⟩ (.int .u64 b.2.f1)).setCell ⟨H, 2, none⟩ (.int .i64 b.2.f2)).setCell ⟨H, 3, none⟩ (.int .u64 b.2.f3)) = WX at x1 x2 x3 ⊢
      simp only [hsz]
      have x4 : (WX.putObj (H + 6) (.deferred none)).heap[H]? = some (.cells (svC b.2) 24 (0, 0)) := (World.putObj_heap_other (by omega)).trans x2
      refine ⟨by simp, .inl ⟨_, _, rfl, run_takeDeferred x1, ?_⟩⟩
      refine ⟨_, results_ctt rfl _ _ H 24 (svC b.2) (0, 0) _ rfl x4 Try.underlying24 rfl (by kernel_rfl), ⟨?_, ?_⟩⟩
      · rw [HNW.out]; rfl
      · rw [hH]; exact x3.trans (belowK_b (w := W0) (by omega) WX (H + 6) _ _ (by omega) x1 rfl rfl)
    · have hz0 : (b.2.f0 == 0 && (b.2.f1 == 0 && (b.2.f2 == 0 && (b.2.f3 == 0)))) = false := by simpa using hz
      rw [if_neg hz] at hnw
      have HNW := Aside0.mk hnw
      clear hnw hz
      gi_wp2
      gi_region
      gi_wp2
      obtain ⟨x1, x2⟩ : (((((W.setCell ⟨H, 0, none⟩ (.int .i64 b.2.f0)).setCell ⟨H, 1, none⟩ (.int .u64 b.2.f1)).setCell ⟨H, 2, none⟩ (.int .i64 b.2.f2)).setCell ⟨H, 3, none⟩ (.int .u64 b.2.f3)).heap[H + 6]? = some (.deferred (some []))) ∧ (((((W.setCell ⟨H, 0, none⟩ (.int .i64 b.2.f0)).setCell ⟨H, 1, none⟩ (.int .u64 b.2.f1)).setCell ⟨H, 2, none⟩ (.int .i64 b.2.f2)).setCell ⟨H, 3, none⟩ (.int .u64 b.2.f3)).heap[H]? = some (.cells (svC b.2) 24 (0, 0))) := by
        refine ⟨?_, four_cells g1 _ _ _ _⟩
        rw [Below.heap_setCell _ _ _ _ (by simp), Below.heap_setCell _ _ _ _ (by simp), Below.heap_setCell _ _ _ _ (by simp), Below.heap_setCell _ _ _ _ (by simp)]; exact HD.out
      have x3 := four_below hB (Nat.le_refl H) (.int .i64 b.2.f0) (.int .u64 b.2.f1) (.int .i64 b.2.f2) (.int .u64 b.2.f3)
      generalize ((((W.setCell ⟨H, 0, none⟩ (.int .i64 b.2.f0)).setCell ⟨H, 1, none⟩ (.int .u64 b.2.f1)).setCell ⟨H, 2, none⟩ (.int .i64 b.2.f2)).setCell ⟨H, 3, none⟩ (.int .u64 b.2.f3)) = WX at x1 x2 x3 ⊢
      have x5 : WX.drew.heap[H + 6]? = some (.deferred (some [])) := x1
      have x6 : WX.drew.heap[H]? = some (.cells (svC b.2) 24 (0, 0)) := x2
      have x7 : Below H w WX.drew := below_drew1 x3
      clear x1 x2 x3
      generalize WX.drew = WX at x5 x6 x7 ⊢
      have x1 := x5
      have x2 := x6
      have x3 := x7
      simp only [hsz]
      have x4 : (WX.putObj (H + 6) (.deferred none)).heap[H]? = some (.cells (svC b.2) 24 (0, 0)) := (World.putObj_heap_other (by omega)).trans x2
      refine ⟨by simp, .inl ⟨_, _, rfl, run_takeDeferred x1, ?_⟩⟩
      refine ⟨_, results_ctt rfl _ _ H 24 (svC b.2) (0, 0) _ rfl x4 Try.underlying24 rfl (by kernel_rfl), ⟨?_, ?_⟩⟩
      · rw [HNW.out]; rfl
      · rw [hH]; exact x3.trans (belowK_b (w := W0) (by omega) WX (H + 6) _ _ (by omega) x1 rfl rfl)
  case stop =>
    intro c k W _ h
    exact h.elim
theorem super_Newest.calls (one two : ByteArray) (n : Int) (r1 r2 r3 r4 r5 r6 : Int) (w : World) (h : super_Newest.f one two n = some (r1, r2, r3, r4, r5, r6)) :
    Calls Try.prog 16 #[.string one, .string two, .int .i64 n] w fun e w' => e = .returned (.tuple #[.agg #[.int .i64 r1, .int .u64 r2, .int .i64 r3, .int .u64 r4], .int .i64 r5, .int .i64 r6]) ∧ Below w.heap.size w w' := by
  unfold super_Newest.f at h
  obtain ⟨r, hr, h⟩ := Option.bind_eq_some_iff.mp h
  obtain ⟨q, hq, h⟩ := Option.bind_eq_some_iff.mp h
  have h := Option.some.inj h
  have := newest_walk one two n (svOf r) (svOf q) hr hq w
  rw [h] at this
  exact this
end Go.Proofs.Ytpcejkhipnkhfaa.Q
