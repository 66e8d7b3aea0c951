/- root.all: the iterator over a root's blocks. -/
import Derived.Test.YtmpcpcfdomlehaaHRT
import Derived.Test.YtmpcpcfdomlehaaQ0
import Derived.WalkKit
import Derived.OwnWalkIn
import Derived.TacticsInMore
import Derived.LoopNIn
import Derived.LoopIn
import Derived.Sort.QuietIn
set_option linter.unusedVariables false
set_option linter.unusedSimpArgs false
namespace Go.Proofs.Ytmpcpcfdomlehaa.Q
open Go.RowKit Go.Proofs.Ytmpcpcfdomlehaa.H Go.Proofs.YtmpcpcfdomlehaaW.PrintWords Go.Proofs.YtmpcpcfdomlehaaW.PrintLast Go.Proofs.YtmpcpcfdomlehaaW.PrintMore
attribute [local go_sem] Oper.semAt_some
set_option maxRecDepth 100000

theorem cell_same {z W : World} (hs : ∀ k, k < z.heap.size → W.heap[k]? = z.heap[k]?) {a : Addr} {v : Value} (h : z.cell? a = some v) : W.cell? a = some v :=
  (World.cell?_of_block (hs a.block (World.block_lt_of_cell? z _ h))).trans h
theorem all_calls (a b : Int) (A2 : Option Addr) (n2 c2 : Nat) (A3 : Option Addr) (n3 c3 : Nat) (w : World) : Calls Try.prog 19 #[.agg #[.int .u64 a, .int .u64 b, .slice A2 n2 c2, .slice A3 n3 c3]] w fun e w' =>
    e = .returned (.func (.func 30) #[] #[.pointer (some ⟨w.heap.size, 0, none⟩)]) ∧ w' = w.alloc (.cells #[.int .u64 a, .int .u64 b, .slice A2 n2 c2, .slice A3 n3 c3] 25) := by
  go_enter Try.func19, Try.ntmps19
  go_wp2
  go_ret
  exact ⟨rfl, rfl⟩
/-- What a round keeps for the iterator: all that stood ahead of the call, and the lists. -/
def keepR (z : World) (k : Nat) (o : Obj) : Prop := k < z.heap.size ∨ ∃ cs fz, o = .cells cs 23 fz
def offR (d c : List Int) (m : Nat) : Nat := if m = 0 then 0 else if m = 1 then d.length else d.length + c.length
theorem measM (m n : Nat) (h : m < n) : n - (intOf (.int .i64 ((m : Int) + 1))).toNat < n - (intOf (.int .i64 (m : Int))).toNat := by
  show n - ((m : Int) + 1).toNat < n - (m : Int).toNat; omega
theorem wN (m : Nat) (h : m < 9223372036854775000) : wrap64 ((m : Int) + 1) = (m : Int) + 1 := IntWalk.wrap64_in _ (by omega)
set_option maxHeartbeats 4000000 in
theorem all_seq (nn : Nat) (h1n : 1 ≤ nn) (a b : Int) (A2 : Option Addr) (c2 : Nat) (d : List Int) (A3 : Option Addr) (c3 : Nat) (c : List Int) (Rb : Nat) (z w : World) (hz : Below z.heap.size z w)
    (hRb : w.heap[Rb]? = some (.cells #[.int .u64 a, .int .u64 b, .slice A2 d.length c2, .slice A3 c.length c3] 25 (0, 0)))
    (hC2 : Kd.C (Kd.int .u32) z A2 d.length d) (hC3 : Kd.C (Kd.int .u32) z A3 c.length c) (hd : d.length ≤ 100000) (hc : c.length ≤ 100000) :
    SeqT Fence.wide nn Try.prog 30 #[.pointer (some ⟨Rb, 0, none⟩)] (fun k => #[.int .u32 ((d ++ c).getD k 0)]) (fun _ => False) (fun _ => False) (keepR z) (d.length + c.length) w := fun lp J Jx W hW hJ hJx hY h0 => by
  have hlb : Rb < w.heap.size := (Array.getElem?_eq_some_iff.1 hRb).1
  have hm := (hW.block Rb hlb).trans hRb
  have q2 : W.cell? ⟨Rb, 2, none⟩ = some (.slice A2 d.length c2) := by rw [Lib.cell_of_heap hm]; rfl
  have q3 : W.cell? ⟨Rb, 3, none⟩ = some (.slice A3 c.length c3) := by rw [Lib.cell_of_heap hm]; rfl
  have hsW : Aside0 (∀ k, k < z.heap.size → W.heap[k]? = z.heap[k]?) := ⟨fun k hk => (hW.block k (by have := hz.size; omega)).trans (hz.block k hk)⟩
  have hzW : z.heap.size ≤ W.heap.size := by have := hz.size; have := hW.size; omega
  obtain ⟨Wn, hWn⟩ : ∃ Wn, W.heap.size = Wn := ⟨_, rfl⟩
  have HZ := Aside0.mk hzW
  have HC2 := Aside0.mk hC2
  have HC3 := Aside0.mk hC3
  have HD := Aside0.mk hd
  have HCC := Aside0.mk hc
  clear hW hRb hm hlb hz hzW hC2 hC3 hd hc
  refine callsIn_of_wp Try.func30 rfl trivial ?_ rfl
  simp only [Try.ntmps30, List.size_toArray, List.length_cons, List.length_nil, Nat.reduceAdd, Nat.reduceSub, Array.replicate_succ, Array.replicate_zero, List.push_toArray, List.append_toArray, List.nil_append, List.cons_append]
  gi_wp2
  gi_loopw [13] (fun i wr => ∃ m k : Nat, m ≤ 2 ∧ i = .int .i64 m ∧ k = offR d c m ∧ J k wr ∧ wr.heap[Wn]? = some (.cells #[.slice A2 d.length c2, .slice A3 c.length c3] 23 (0, 0)) ∧ Aside0 (∀ k, k < z.heap.size → wr.heap[k]? = z.heap[k]?))
    (fun i _ => 2 - (intOf i).toNat)
  case atStart =>
    refine ⟨0, 0, by omega, rfl, rfl, hJ 0 _ _ h0 (Turn.alloc _ _), by rw [← hWn]; exact World.alloc_heap_new _ _, ⟨fun k hk => (Below.heap_alloc _ _ _ (by have := HZ.out; omega)).trans (hsW.out k hk)⟩⟩
  case round =>
    obtain ⟨m, k, hm, rfl, hk, hJs, hbk, hsr⟩ := hrel
    by_cases hlt : m < 2
    · obtain ⟨A, l, cp, hcell, hC, hl, hget, hoff⟩ : ∃ (A : Option Addr) (l : List Int) (cp : Nat), wr.cell? ⟨Wn, m, none⟩ = some (.slice A l.length cp) ∧ Aside0 (Kd.C (Kd.int .u32) z A l.length l) ∧ l.length ≤ 100000 ∧ Aside0 (∀ j, j < l.length → (d ++ c).getD (k + j) 0 = l.getD j 0) ∧ Aside0 (offR d c (m + 1) = k + l.length ∧ k + l.length ≤ d.length + c.length) := by
        by_cases h0 : m = 0
        · subst h0
          subst hk
          refine ⟨A2, d, c2, by rw [Lib.cell_of_heap hbk]; rfl, HC2, HD.out, ⟨fun j hj => ?_⟩, ⟨?_, ?_⟩⟩
          · simp only [offR, if_true, Nat.zero_add]
            rw [List.getD_eq_getElem?_getD, List.getD_eq_getElem?_getD, List.getElem?_append_left hj]
          · simp [offR]
          · simp [offR]
        · have h1 : m = 1 := by omega
          subst h1
          subst hk
          refine ⟨A3, c, c3, by rw [Lib.cell_of_heap hbk]; rfl, HC3, HCC.out, ⟨fun j hj => ?_⟩, ⟨?_, ?_⟩⟩
          · simp only [offR]
            rw [if_neg (by decide), if_pos trivial, List.getD_eq_getElem?_getD, List.getD_eq_getElem?_getD, List.getElem?_append_right (by omega), Nat.add_sub_cancel_left]
          · simp [offR]
          · simp [offR]
      have hltz : decide ((m : Int) < 2) = true := decide_eq_true (by omega)
      have hm0 : (0 : Int) ≤ (m : Int) := by omega
      have hm2 : (m : Int) < 2 := by omega
      have HLT := Aside0.mk hlt
      have HM := Aside0.mk hm
      have HK := Aside0.mk hk
      have em := wN m (by omega)
      clear hlt hm hk
      gi_wp2
      gi_loopw [19] (fun i wr => ∃ j : Nat, j ≤ l.length ∧ i = .int .i64 j ∧ J (k + j) wr ∧ wr.heap[Wn]? = some (.cells #[.slice A2 d.length c2, .slice A3 c.length c3] 23 (0, 0)) ∧ Aside0 (∀ k, k < z.heap.size → wr.heap[k]? = z.heap[k]?))
        (fun i _ => l.length - (intOf i).toNat)
      case atStart =>
        exact ⟨0, by omega, rfl, hJs, hbk, hsr⟩
      case round =>
        obtain ⟨j, hj, rfl, hJt, hbt, hst⟩ := hrel
        by_cases hjl : j < l.length
        · obtain ⟨ad, e0, g0⟩ := Kd.at_int hC.out (j : Int) (by omega) (by omega)
          subst e0
          have g1 := cell_same hst.out g0
          have hu : rd l (j : Int) = l.getD j 0 := by simp [rd]
          have hget2 := hget.out j hjl
          obtain ⟨u, hu2⟩ : ∃ u, l.getD j 0 = u := ⟨_, rfl⟩
          rw [hu, hu2] at g1
          rw [hu2] at hget2
          have hkN : k + j < d.length + c.length := by have := hoff.out.2; omega
          obtain ⟨fn, tmps, assign, body, hy, hR⟩ := hY (k + j) _ hkN hJt
          rw [hget2] at hy
          have hjz : decide ((j : Int) < (l.length : Int)) = true := decide_eq_true (by omega)
          have hj0 : (0 : Int) ≤ (j : Int) := by omega
          have hj1 : (j : Int) < (l.length : Int) := by omega
          simp only [Int.toNat_natCast] at g1
          have ej := wN j (by omega)
          have HKN := Aside0.mk hkN
          have HJL := Aside0.mk hjl
          clear hget2 hu hu2 hkN hjl hj g0
          gi_wp2
          refine hR.mono ?_
          rintro e W3 (⟨rfl, hJ3, hk3⟩ | ⟨rfl, hJx3⟩)
          · have hb3 := hk3.same Wn _ (.inr ⟨_, _, rfl⟩) hbt
            have hs3 : Aside0 (∀ k, k < z.heap.size → W3.heap[k]? = z.heap[k]?) := ⟨fun i hi => by
              have hx : z.heap[i]? = some z.heap[i] := Array.getElem?_eq_getElem hi
              exact (hk3.same i _ (.inl hi) ((hst.out i hi).trans hx)).trans hx.symm⟩
            gi_wp2
            go_roundw
            case rel => exact ⟨j + 1, HJL.out, rfl, hJ3, hb3, hs3⟩
            case measure => exact measM j l.length HJL.out
          · gi_wp2
            refine bodyPost_ret (results_none rfl _ _ _) rfl ?_
            exact ⟨⟨_, rfl⟩, .inr ⟨k + j + 1, HKN.out, hJx3⟩⟩
        · have hjz : decide ((j : Int) < (l.length : Int)) = false := decide_eq_false (by omega)
          have hjj : j = l.length := by omega
          subst hjj
          have hkk := hoff.out.1
          rw [← hkk] at hJt
          have HKK := Aside0.mk hkk
          clear hkk hjl hj
          gi_wp2
          go_roundw
          case rel => exact ⟨m + 1, _, HLT.out, rfl, rfl, hJt, hbt, hst⟩
          case measure => exact measM m 2 HLT.out
    · have hltz : decide ((m : Int) < 2) = false := decide_eq_false (by omega)
      have hmm : m = 2 := by omega
      subst hmm
      have hkk : k = d.length + c.length := by rw [hk]; rfl
      have HKK := Aside0.mk hkk
      clear hlt hm hk hkk
      gi_wp2
      go_end0
      exact ⟨⟨_, rfl⟩, .inl (HKK.out ▸ hJs)⟩
end Go.Proofs.Ytmpcpcfdomlehaa.Q
