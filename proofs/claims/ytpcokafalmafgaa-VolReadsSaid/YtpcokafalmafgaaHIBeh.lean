/- inode.behind: the iterator over a map's numbers, from a place on. -/
import Derived.Test.YtpcokafalmafgaaHIMapR
import Derived.WalkKit
import Derived.OwnWalkIn
import Derived.TacticsInMore
import Derived.LoopNIn
import Derived.LoopIn
import Derived.Sort.QuietIn
set_option linter.unusedVariables false
set_option linter.unusedSimpArgs false
namespace Go.Proofs.Ytpcokafalmafgaa.Q
open Go.RowKit Go.Proofs.Ytpcokafalmafgaa.H Go.Proofs.YtpcokafalmafgaaW.PrintWords Go.Proofs.YtpcokafalmafgaaW.PrintLast Go.Proofs.YtpcokafalmafgaaW.PrintMore
attribute [local go_sem] Oper.semAt_some
set_option maxRecDepth 100000

theorem behind_calls (m0 m1 m2 m3 m4 m5 fr : Int) (w : World) : Calls Try.prog 63 #[.agg #[.int .u32 m0, .int .u32 m1, .int .u32 m2, .int .u32 m3, .int .u32 m4, .int .u32 m5], .int .i64 fr] w fun e w' =>
  e = .returned (.func (.func 76) #[] #[.pointer (some ⟨w.heap.size + 1, 0, none⟩), .pointer (some ⟨w.heap.size, 0, none⟩)]) ∧ w' = (w.alloc (.cells #[.int .u32 m0, .int .u32 m1, .int .u32 m2, .int .u32 m3, .int .u32 m4, .int .u32 m5] 40)).alloc (.cells #[.int .i64 fr] 3) := by
 go_enter Try.func63, Try.ntmps63
 go_wp2
 go_ret
 exact ⟨rfl, rfl⟩
theorem measB (i : Nat) (h : i < 6) : 6 - (intOf (.int .i64 ((i : Int) + 1))).toNat < 6 - (intOf (.int .i64 (i : Int))).toNat := by
 show 6 - ((i : Int) + 1).toNat < 6 - (i : Int).toNat; omega
set_option maxHeartbeats 4000000 in
theorem behind_seq (nn : Nat) (h1n : 1 ≤ nn) (m0 m1 m2 m3 m4 m5 : Int) (fr : Nat) (hfr : fr < 9223372036854775000) (Bm Bf : Nat) (w : World)
  (hBm : w.heap[Bm]? = some (.cells #[.int .u32 m0, .int .u32 m1, .int .u32 m2, .int .u32 m3, .int .u32 m4, .int .u32 m5] 40 (0, 0))) (hBf : w.heap[Bf]? = some (.cells #[.int .i64 fr] 3 (0, 0))) :
  SeqN Fence.wide nn Try.prog 76 #[.pointer (some ⟨Bf, 0, none⟩), .pointer (some ⟨Bm, 0, none⟩)] (fun k => #[.int .u32 ([m0, m1, m2, m3, m4, m5].getD (fr + k) 0)]) (fun _ => False) (fun _ => False) (fun j => j = Bm) (6 - fr) w := fun lp J Jx W hW hJ hJx hY h0 => by
 have hlm : Bm < w.heap.size := (Array.getElem?_eq_some_iff.1 hBm).1
 have hlf : Bf < w.heap.size := (Array.getElem?_eq_some_iff.1 hBf).1
 have hm := (hW.block Bm hlm).trans hBm
 have hf := (hW.block Bf hlf).trans hBf
 have hcf : W.cell? ⟨Bf, 0, none⟩ = some (.int .i64 fr) := by rw [Lib.cell_of_heap hf]; rfl
 clear hW hBm hBf hf
 refine callsIn_of_wp Try.func76 rfl trivial ?_ rfl
 simp only [Try.ntmps76, List.size_toArray, List.length_cons, List.length_nil, Nat.reduceAdd, Nat.reduceSub, Array.replicate_succ, Array.replicate_zero, List.push_toArray, List.append_toArray, List.nil_append, List.cons_append]
 gi_wp2
 gi_loopw [4] (fun i wr => ∃ k : Nat, k ≤ 6 - fr ∧ i = .int .i64 ((fr + k : Nat) : Int) ∧ J k wr ∧ wr.heap[Bm]? = some (.cells #[.int .u32 m0, .int .u32 m1, .int .u32 m2, .int .u32 m3, .int .u32 m4, .int .u32 m5] 40 (0, 0)))
  (fun i _ => 6 - (intOf i).toNat)
 case atStart => exact ⟨0, by omega, rfl, h0, hm⟩
 case round =>
  obtain ⟨k, hk, rfl, hJs, hmk⟩ := hrel
  by_cases hlt : fr + k < 6
  ·obtain ⟨i, hi⟩ : ∃ i, fr + k = i := ⟨_, rfl⟩
   have hc := six_cell hmk i (by omega)
   rw [hi]
   have hltz : decide ((i : Int) < 6) = true := decide_eq_true (by omega)
   have hi0 : (0 : Int) ≤ (i : Int) := by omega
   have hi6 : (i : Int) < 6 := by omega
   have hkN : k < 6 - fr := by omega
   obtain ⟨fn, tmps, assign, body, hy, hR⟩ := hY k _ hkN hJs
   rw [hi] at hy
   have HI := Aside0.mk hi
   have HKN := Aside0.mk hkN
   have HLT := Aside0.mk hlt
   clear hi hkN hlt hk
   obtain ⟨u, hu⟩ : ∃ u, [m0, m1, m2, m3, m4, m5].getD i 0 = u := ⟨_, rfl⟩
   rw [hu] at hc hy
   clear hu
   gi_wp2
   refine hR.mono ?_
   rintro e W3 (⟨rfl, hJ3, hk3⟩ | ⟨rfl, hJx3⟩)
   ·have hm3 := (hk3.same Bm rfl (Array.getElem?_eq_some_iff.1 hmk).1).trans hmk
    gi_wp2
    go_roundw
    case rel => exact ⟨k + 1, HKN.out, by rw [← HI.out]; rfl, hJ3, hm3⟩
    case measure => exact measB i (by have := HLT.out; have := HI.out; omega)
   ·gi_wp2
    refine bodyPost_ret (results_none rfl _ _ _) rfl ?_
    exact ⟨⟨_, rfl⟩, .inr ⟨k + 1, HKN.out, hJx3⟩⟩
  ·have hltz : decide (((fr + k : Nat) : Int) < 6) = false := decide_eq_false (by omega)
   have hkk : k = 6 - fr := by omega
   obtain ⟨i, hi⟩ : ∃ i, fr + k = i := ⟨_, rfl⟩
   rw [hi] at hltz ⊢
   have HKK := Aside0.mk hkk
   clear hlt hk hkk hi
   gi_wp2
   go_end0
   exact ⟨⟨_, rfl⟩, .inl (HKK.out ▸ hJs)⟩
end Go.Proofs.Ytpcokafalmafgaa.Q
