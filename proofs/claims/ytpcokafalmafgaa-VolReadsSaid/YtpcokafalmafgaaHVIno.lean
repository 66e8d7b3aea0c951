/- '==' of files. -/
import Derived.Test.YtpcokafalmafgaaHIRgt
import Derived.Test.YtpcokafalmafgaaQ4
set_option linter.unusedVariables false
namespace Go.Proofs.Ytpcokafalmafgaa.H
open Go.RowKit Go.Proofs.YtpcokafalmafgaaW.PrintWords Go.Proofs.YtpcokafalmafgaaW.PrintLast Go.Proofs.YtpcokafalmafgaaW.PrintMore
theorem nodEq5 (d : Nat) (w : World) (x0 y0 : Int) (x1 y1 : Int) (x2 y2 : Int) (x3 y3 : Int) (x4 y4 : ByteArray) :
  (Op.equalIn (d + 2) 35 (.agg #[.int .i64 x0, .int .u16 x1, .int .u16 x2, .int .u64 x3, .string x4]) (.agg #[.int .i64 y0, .int .u16 y1, .int .u16 y2, .int .u64 y3, .string y4])).run Try.prog w = .ok (x0 == y0 && (x1 == y1 && (x2 == y2 && (x3 == y3 && (x4.toList == y4.toList))))) w := by
 refine eqA_of Try.underlying35 (by kernel_rfl) ?_
 refine eqf_cons (by rfl) (by go_simp; rfl) (by go_simp; rfl) (by go_simp) ?_
 refine eqf_cons (by rfl) (by go_simp; rfl) (by go_simp; rfl) (by go_simp) ?_
 refine eqf_cons (by rfl) (by go_simp; rfl) (by go_simp; rfl) (by go_simp) ?_
 refine eqf_cons (by rfl) (by go_simp; rfl) (by go_simp; rfl) (by go_simp) ?_
 exact eqf_last (by rfl) (by go_simp; rfl) (by go_simp; rfl) (by go_simp)
end Go.Proofs.Ytpcokafalmafgaa.H

set_option linter.unusedVariables false
set_option linter.unusedSimpArgs false
namespace Go.Proofs.Ytpcokafalmafgaa.Q
open Go.RowKit Go.Sort Go.Proofs.Ytpcokafalmafgaa.H Go.Proofs.YtpcokafalmafgaaW.PrintWords Go.Proofs.YtpcokafalmafgaaW.PrintLast Go.Proofs.YtpcokafalmafgaaW.PrintMore
attribute [local go_sem] Oper.semAt_some
attribute [local go_sem high] inoEq12 inoEq6 nodEq5
set_option maxRecDepth 100000

theorem vdrawn_heap {w w' : World} (h : Drawn0 w w') : w'.heap = w.heap := by obtain ⟨n, rfl⟩ := h.out; rfl
theorem vin_big (n0 n1 n2 n3 : Int) (d : ByteArray) (m0 m1 m2 m3 m4 m5 : Int) (w : World) (hbad : d.size > 8193532) :
  Calls Try.prog 17 #[.agg #[.int .i64 n0, .int .u16 n1, .int .u16 n2, .int .u64 n3, .string d], .agg #[.int .u32 m0, .int .u32 m1, .int .u32 m2, .int .u32 m3, .int .u32 m4, .int .u32 m5]] w fun e w' => e = .returned (.tuple #[.agg #[.int .i64 0, .int .u16 0, .int .u16 0, .int .u32 0, .int .u64 0, .int .i64 0, .int .u32 0, .int .u32 0, .int .u32 0, .int .u32 0, .int .u32 0, .int .u32 0], .int .i64 154]) ∧ Below w.heap.size w w' := by
 have hu := Try.underlying42
 have d1 : decide ((8193532 : Int) < (d.size : Int)) = true := decide_eq_true (by omega)
 clear hbad
 go_enter Try.func17, Try.ntmps17
 go_wp2_with fail
 obtain ⟨H, hH⟩ : ∃ H, w.heap.size = H := ⟨_, rfl⟩
 rw [hH]
 have hn : (((w.alloc (.cells #[.int .i64 n0, .int .u16 n1, .int .u16 n2, .int .u64 n3, .string d] 35)).alloc (.cells #[.int .u32 m0, .int .u32 m1, .int .u32 m2, .int .u32 m3, .int .u32 m4, .int .u32 m5] 40)).alloc (.cells #[.int .i64 0, .int .u16 0, .int .u16 0, .int .u32 0, .int .u64 0, .int .i64 0, .int .u32 0, .int .u32 0, .int .u32 0, .int .u32 0, .int .u32 0, .int .u32 0] 42)).heap[H]? = some (.cells #[.int .i64 n0, .int .u16 n1, .int .u16 n2, .int .u64 n3, .string d] 35 (0, 0)) := by
  rw [Below.heap_alloc _ _ _ (by simp; omega), Below.heap_alloc _ _ _ (by simp; omega), ← hH]; exact World.alloc_heap_new w _
 have hm : (((w.alloc (.cells #[.int .i64 n0, .int .u16 n1, .int .u16 n2, .int .u64 n3, .string d] 35)).alloc (.cells #[.int .u32 m0, .int .u32 m1, .int .u32 m2, .int .u32 m3, .int .u32 m4, .int .u32 m5] 40)).alloc (.cells #[.int .i64 0, .int .u16 0, .int .u16 0, .int .u32 0, .int .u64 0, .int .i64 0, .int .u32 0, .int .u32 0, .int .u32 0, .int .u32 0, .int .u32 0, .int .u32 0] 42)).heap[H + 1]? = some (.cells #[.int .u32 m0, .int .u32 m1, .int .u32 m2, .int .u32 m3, .int .u32 m4, .int .u32 m5] 40 (0, 0)) := by
  rw [Below.heap_alloc _ _ _ (by simp; omega), ← hH]; have := World.alloc_heap_new (w.alloc (.cells #[.int .i64 n0, .int .u16 n1, .int .u16 n2, .int .u64 n3, .string d] 35)) (.cells #[.int .u32 m0, .int .u32 m1, .int .u32 m2, .int .u32 m3, .int .u32 m4, .int .u32 m5] 40); rwa [World.size_alloc] at this
 have hz : (((w.alloc (.cells #[.int .i64 n0, .int .u16 n1, .int .u16 n2, .int .u64 n3, .string d] 35)).alloc (.cells #[.int .u32 m0, .int .u32 m1, .int .u32 m2, .int .u32 m3, .int .u32 m4, .int .u32 m5] 40)).alloc (.cells #[.int .i64 0, .int .u16 0, .int .u16 0, .int .u32 0, .int .u64 0, .int .i64 0, .int .u32 0, .int .u32 0, .int .u32 0, .int .u32 0, .int .u32 0, .int .u32 0] 42)).heap[H + 2]? = some (.cells #[.int .i64 0, .int .u16 0, .int .u16 0, .int .u32 0, .int .u64 0, .int .i64 0, .int .u32 0, .int .u32 0, .int .u32 0, .int .u32 0, .int .u32 0, .int .u32 0] 42 (0, 0)) := by
  rw [← hH]; have := World.alloc_heap_new ((w.alloc (.cells #[.int .i64 n0, .int .u16 n1, .int .u16 n2, .int .u64 n3, .string d] 35)).alloc (.cells #[.int .u32 m0, .int .u32 m1, .int .u32 m2, .int .u32 m3, .int .u32 m4, .int .u32 m5] 40)) (.cells #[.int .i64 0, .int .u16 0, .int .u16 0, .int .u32 0, .int .u64 0, .int .i64 0, .int .u32 0, .int .u32 0, .int .u32 0, .int .u32 0, .int .u32 0, .int .u32 0] 42); rwa [World.size_alloc, World.size_alloc] at this
 have hs : (((w.alloc (.cells #[.int .i64 n0, .int .u16 n1, .int .u16 n2, .int .u64 n3, .string d] 35)).alloc (.cells #[.int .u32 m0, .int .u32 m1, .int .u32 m2, .int .u32 m3, .int .u32 m4, .int .u32 m5] 40)).alloc (.cells #[.int .i64 0, .int .u16 0, .int .u16 0, .int .u32 0, .int .u64 0, .int .i64 0, .int .u32 0, .int .u32 0, .int .u32 0, .int .u32 0, .int .u32 0, .int .u32 0] 42)).heap.size = H + 3 := by rw [World.size_alloc, World.size_alloc, World.size_alloc, hH]
 have hb : Below H w (((w.alloc (.cells #[.int .i64 n0, .int .u16 n1, .int .u16 n2, .int .u64 n3, .string d] 35)).alloc (.cells #[.int .u32 m0, .int .u32 m1, .int .u32 m2, .int .u32 m3, .int .u32 m4, .int .u32 m5] 40)).alloc (.cells #[.int .i64 0, .int .u16 0, .int .u16 0, .int .u32 0, .int .u64 0, .int .i64 0, .int .u32 0, .int .u32 0, .int .u32 0, .int .u32 0, .int .u32 0, .int .u32 0] 42)) := (((Below.refl H w).alloc (by omega) _).alloc (by simp; omega) _).alloc (by simp; omega) _
 (try rw [show H + 1 + 1 = H + 2 from rfl])
 generalize ((w.alloc (.cells #[.int .i64 n0, .int .u16 n1, .int .u16 n2, .int .u64 n3, .string d] 35)).alloc (.cells #[.int .u32 m0, .int .u32 m1, .int .u32 m2, .int .u32 m3, .int .u32 m4, .int .u32 m5] 40)).alloc (.cells #[.int .i64 0, .int .u16 0, .int .u16 0, .int .u32 0, .int .u64 0, .int .i64 0, .int .u32 0, .int .u32 0, .int .u32 0, .int .u32 0, .int .u32 0, .int .u32 0] 42) = W0 at hn hm hz hs hb ⊢
 refine bodyPost_ret (results_ct rfl _ _ (H + 2) 42 #[.int .i64 0, .int .u16 0, .int .u16 0, .int .u32 0, .int .u64 0, .int .i64 0, .int .u32 0, .int .u32 0, .int .u32 0, .int .u32 0, .int .u32 0, .int .u32 0] (0, 0) _ rfl hz Try.underlying42 rfl (by kernel_rfl)) rfl ?_
 exact ⟨rfl, hb⟩
theorem vin_map (n0 n1 n2 n3 : Int) (d : ByteArray) (m0 m1 m2 m3 m4 m5 : Int) (w : World) (hbad : ¬ d.size > 8193532) (c0 : (n0 == 0 && (n1 == 0 && (n2 == 0 && (n3 == 0 && (d.toList == ([] : List UInt8)))))) = true) (c1 : (m0 == 0 && (m1 == 0 && (m2 == 0 && (m3 == 0 && (m4 == 0 && (m5 == 0)))))) = false) :
  Calls Try.prog 17 #[.agg #[.int .i64 n0, .int .u16 n1, .int .u16 n2, .int .u64 n3, .string d], .agg #[.int .u32 m0, .int .u32 m1, .int .u32 m2, .int .u32 m3, .int .u32 m4, .int .u32 m5]] w fun e w' => e = .returned (.tuple #[.agg #[.int .i64 0, .int .u16 0, .int .u16 0, .int .u32 0, .int .u64 0, .int .i64 0, .int .u32 0, .int .u32 0, .int .u32 0, .int .u32 0, .int .u32 0, .int .u32 0], .int .i64 154]) ∧ Below w.heap.size w w' := by
 have hu := Try.underlying42
 have d1 : decide ((8193532 : Int) < (d.size : Int)) = false := decide_eq_false (by omega)
 have c2 : (n0 == 0 && (n1 == 0 && (n2 == 0 && (n3 == 0 && d.toList.isEmpty)))) = true := by simpa using c0
 clear hbad
 go_enter Try.func17, Try.ntmps17
 go_wp2_with fail
 obtain ⟨H, hH⟩ : ∃ H, w.heap.size = H := ⟨_, rfl⟩
 rw [hH]
 have hn : (((w.alloc (.cells #[.int .i64 n0, .int .u16 n1, .int .u16 n2, .int .u64 n3, .string d] 35)).alloc (.cells #[.int .u32 m0, .int .u32 m1, .int .u32 m2, .int .u32 m3, .int .u32 m4, .int .u32 m5] 40)).alloc (.cells #[.int .i64 0, .int .u16 0, .int .u16 0, .int .u32 0, .int .u64 0, .int .i64 0, .int .u32 0, .int .u32 0, .int .u32 0, .int .u32 0, .int .u32 0, .int .u32 0] 42)).heap[H]? = some (.cells #[.int .i64 n0, .int .u16 n1, .int .u16 n2, .int .u64 n3, .string d] 35 (0, 0)) := by
  rw [Below.heap_alloc _ _ _ (by simp; omega), Below.heap_alloc _ _ _ (by simp; omega), ← hH]; exact World.alloc_heap_new w _
 have hm : (((w.alloc (.cells #[.int .i64 n0, .int .u16 n1, .int .u16 n2, .int .u64 n3, .string d] 35)).alloc (.cells #[.int .u32 m0, .int .u32 m1, .int .u32 m2, .int .u32 m3, .int .u32 m4, .int .u32 m5] 40)).alloc (.cells #[.int .i64 0, .int .u16 0, .int .u16 0, .int .u32 0, .int .u64 0, .int .i64 0, .int .u32 0, .int .u32 0, .int .u32 0, .int .u32 0, .int .u32 0, .int .u32 0] 42)).heap[H + 1]? = some (.cells #[.int .u32 m0, .int .u32 m1, .int .u32 m2, .int .u32 m3, .int .u32 m4, .int .u32 m5] 40 (0, 0)) := by
  rw [Below.heap_alloc _ _ _ (by simp; omega), ← hH]; have := World.alloc_heap_new (w.alloc (.cells #[.int .i64 n0, .int .u16 n1, .int .u16 n2, .int .u64 n3, .string d] 35)) (.cells #[.int .u32 m0, .int .u32 m1, .int .u32 m2, .int .u32 m3, .int .u32 m4, .int .u32 m5] 40); rwa [World.size_alloc] at this
 have hz : (((w.alloc (.cells #[.int .i64 n0, .int .u16 n1, .int .u16 n2, .int .u64 n3, .string d] 35)).alloc (.cells #[.int .u32 m0, .int .u32 m1, .int .u32 m2, .int .u32 m3, .int .u32 m4, .int .u32 m5] 40)).alloc (.cells #[.int .i64 0, .int .u16 0, .int .u16 0, .int .u32 0, .int .u64 0, .int .i64 0, .int .u32 0, .int .u32 0, .int .u32 0, .int .u32 0, .int .u32 0, .int .u32 0] 42)).heap[H + 2]? = some (.cells #[.int .i64 0, .int .u16 0, .int .u16 0, .int .u32 0, .int .u64 0, .int .i64 0, .int .u32 0, .int .u32 0, .int .u32 0, .int .u32 0, .int .u32 0, .int .u32 0] 42 (0, 0)) := by
  rw [← hH]; have := World.alloc_heap_new ((w.alloc (.cells #[.int .i64 n0, .int .u16 n1, .int .u16 n2, .int .u64 n3, .string d] 35)).alloc (.cells #[.int .u32 m0, .int .u32 m1, .int .u32 m2, .int .u32 m3, .int .u32 m4, .int .u32 m5] 40)) (.cells #[.int .i64 0, .int .u16 0, .int .u16 0, .int .u32 0, .int .u64 0, .int .i64 0, .int .u32 0, .int .u32 0, .int .u32 0, .int .u32 0, .int .u32 0, .int .u32 0] 42); rwa [World.size_alloc, World.size_alloc] at this
 have hs : (((w.alloc (.cells #[.int .i64 n0, .int .u16 n1, .int .u16 n2, .int .u64 n3, .string d] 35)).alloc (.cells #[.int .u32 m0, .int .u32 m1, .int .u32 m2, .int .u32 m3, .int .u32 m4, .int .u32 m5] 40)).alloc (.cells #[.int .i64 0, .int .u16 0, .int .u16 0, .int .u32 0, .int .u64 0, .int .i64 0, .int .u32 0, .int .u32 0, .int .u32 0, .int .u32 0, .int .u32 0, .int .u32 0] 42)).heap.size = H + 3 := by rw [World.size_alloc, World.size_alloc, World.size_alloc, hH]
 have hb : Below H w (((w.alloc (.cells #[.int .i64 n0, .int .u16 n1, .int .u16 n2, .int .u64 n3, .string d] 35)).alloc (.cells #[.int .u32 m0, .int .u32 m1, .int .u32 m2, .int .u32 m3, .int .u32 m4, .int .u32 m5] 40)).alloc (.cells #[.int .i64 0, .int .u16 0, .int .u16 0, .int .u32 0, .int .u64 0, .int .i64 0, .int .u32 0, .int .u32 0, .int .u32 0, .int .u32 0, .int .u32 0, .int .u32 0] 42)) := (((Below.refl H w).alloc (by omega) _).alloc (by simp; omega) _).alloc (by simp; omega) _
 (try rw [show H + 1 + 1 = H + 2 from rfl])
 generalize ((w.alloc (.cells #[.int .i64 n0, .int .u16 n1, .int .u16 n2, .int .u64 n3, .string d] 35)).alloc (.cells #[.int .u32 m0, .int .u32 m1, .int .u32 m2, .int .u32 m3, .int .u32 m4, .int .u32 m5] 40)).alloc (.cells #[.int .i64 0, .int .u16 0, .int .u16 0, .int .u32 0, .int .u64 0, .int .i64 0, .int .u32 0, .int .u32 0, .int .u32 0, .int .u32 0, .int .u32 0, .int .u32 0] 42) = W0 at hn hm hz hs hb ⊢
 refine bodyPost_ret (results_ct rfl _ _ (H + 2) 42 #[.int .i64 0, .int .u16 0, .int .u16 0, .int .u32 0, .int .u64 0, .int .i64 0, .int .u32 0, .int .u32 0, .int .u32 0, .int .u32 0, .int .u32 0, .int .u32 0] (0, 0) _ rfl hz Try.underlying42 rfl (by kernel_rfl)) rfl ?_
 exact ⟨rfl, hb⟩
set_option maxHeartbeats 8000000 in
theorem vin_mainF (n0 n1 n2 n3 dp : Int) (d : ByteArray) (m0 m1 m2 m3 m4 m5 : Int) (r : Bool) (w : World) (hsz : ¬ d.size > 8193532) (c0 : (n0 == 0 && (n1 == 0 && (n2 == 0 && (n3 == 0 && (d.toList == ([] : List UInt8)))))) = false) (hd : inode_Depth.f (d.size : Int) = some dp) (hr : inode_Right.f n0 n1 n2 d.size n3 dp m0 m1 m2 m3 m4 m5 = some r) :
  Calls Try.prog 17 #[.agg #[.int .i64 n0, .int .u16 n1, .int .u16 n2, .int .u64 n3, .string d], .agg #[.int .u32 m0, .int .u32 m1, .int .u32 m2, .int .u32 m3, .int .u32 m4, .int .u32 m5]] w fun e w' => (if r = true then (if (n0 == 0 && (n1 == 0 && (n2 == 0 && ((d.size : Int) == 0 && (n3 == 0 && (dp == 0 && ((m0 == 0 && (m1 == 0 && (m2 == 0 && (m3 == 0 && (m4 == 0 && (m5 == 0))))))))))))) = true then e = .returned (.tuple #[.agg #[.int .i64 0, .int .u16 0, .int .u16 0, .int .u32 0, .int .u64 0, .int .i64 0, .int .u32 0, .int .u32 0, .int .u32 0, .int .u32 0, .int .u32 0, .int .u32 0], .int .i64 154]) else e = .returned (.tuple #[.agg #[.int .i64 n0, .int .u16 n1, .int .u16 n2, .int .u32 (d.size : Int), .int .u64 n3, .int .i64 dp, .int .u32 m0, .int .u32 m1, .int .u32 m2, .int .u32 m3, .int .u32 m4, .int .u32 m5], .int .i64 0])) else e = .returned (.tuple #[.agg #[.int .i64 0, .int .u16 0, .int .u16 0, .int .u32 0, .int .u64 0, .int .i64 0, .int .u32 0, .int .u32 0, .int .u32 0, .int .u32 0, .int .u32 0, .int .u32 0], .int .i64 154])) ∧ Below w.heap.size w w' := by
 have hu := Try.underlying42
 have d1 : decide ((8193532 : Int) < (d.size : Int)) = false := decide_eq_false (by omega)
 have c2 : (n0 == 0 && (n1 == 0 && (n2 == 0 && (n3 == 0 && d.toList.isEmpty)))) = false := by simpa using c0
 have eu : IntKind.u32.wrap (d.size : Int) = (d.size : Int) := IntWalk.u32_in _ (by omega)
 have HD := Aside0.mk hd
 have HR := Aside0.mk hr
 clear hsz hd hr
 go_enter Try.func17, Try.ntmps17
 go_wp2_with fail
 obtain ⟨H, hH⟩ : ∃ H, w.heap.size = H := ⟨_, rfl⟩
 rw [hH]
 have hn : (((w.alloc (.cells #[.int .i64 n0, .int .u16 n1, .int .u16 n2, .int .u64 n3, .string d] 35)).alloc (.cells #[.int .u32 m0, .int .u32 m1, .int .u32 m2, .int .u32 m3, .int .u32 m4, .int .u32 m5] 40)).alloc (.cells #[.int .i64 0, .int .u16 0, .int .u16 0, .int .u32 0, .int .u64 0, .int .i64 0, .int .u32 0, .int .u32 0, .int .u32 0, .int .u32 0, .int .u32 0, .int .u32 0] 42)).heap[H]? = some (.cells #[.int .i64 n0, .int .u16 n1, .int .u16 n2, .int .u64 n3, .string d] 35 (0, 0)) := by
  rw [Below.heap_alloc _ _ _ (by simp; omega), Below.heap_alloc _ _ _ (by simp; omega), ← hH]; exact World.alloc_heap_new w _
 have hm : (((w.alloc (.cells #[.int .i64 n0, .int .u16 n1, .int .u16 n2, .int .u64 n3, .string d] 35)).alloc (.cells #[.int .u32 m0, .int .u32 m1, .int .u32 m2, .int .u32 m3, .int .u32 m4, .int .u32 m5] 40)).alloc (.cells #[.int .i64 0, .int .u16 0, .int .u16 0, .int .u32 0, .int .u64 0, .int .i64 0, .int .u32 0, .int .u32 0, .int .u32 0, .int .u32 0, .int .u32 0, .int .u32 0] 42)).heap[H + 1]? = some (.cells #[.int .u32 m0, .int .u32 m1, .int .u32 m2, .int .u32 m3, .int .u32 m4, .int .u32 m5] 40 (0, 0)) := by
  rw [Below.heap_alloc _ _ _ (by simp; omega), ← hH]; have := World.alloc_heap_new (w.alloc (.cells #[.int .i64 n0, .int .u16 n1, .int .u16 n2, .int .u64 n3, .string d] 35)) (.cells #[.int .u32 m0, .int .u32 m1, .int .u32 m2, .int .u32 m3, .int .u32 m4, .int .u32 m5] 40); rwa [World.size_alloc] at this
 have hz : (((w.alloc (.cells #[.int .i64 n0, .int .u16 n1, .int .u16 n2, .int .u64 n3, .string d] 35)).alloc (.cells #[.int .u32 m0, .int .u32 m1, .int .u32 m2, .int .u32 m3, .int .u32 m4, .int .u32 m5] 40)).alloc (.cells #[.int .i64 0, .int .u16 0, .int .u16 0, .int .u32 0, .int .u64 0, .int .i64 0, .int .u32 0, .int .u32 0, .int .u32 0, .int .u32 0, .int .u32 0, .int .u32 0] 42)).heap[H + 2]? = some (.cells #[.int .i64 0, .int .u16 0, .int .u16 0, .int .u32 0, .int .u64 0, .int .i64 0, .int .u32 0, .int .u32 0, .int .u32 0, .int .u32 0, .int .u32 0, .int .u32 0] 42 (0, 0)) := by
  rw [← hH]; have := World.alloc_heap_new ((w.alloc (.cells #[.int .i64 n0, .int .u16 n1, .int .u16 n2, .int .u64 n3, .string d] 35)).alloc (.cells #[.int .u32 m0, .int .u32 m1, .int .u32 m2, .int .u32 m3, .int .u32 m4, .int .u32 m5] 40)) (.cells #[.int .i64 0, .int .u16 0, .int .u16 0, .int .u32 0, .int .u64 0, .int .i64 0, .int .u32 0, .int .u32 0, .int .u32 0, .int .u32 0, .int .u32 0, .int .u32 0] 42); rwa [World.size_alloc, World.size_alloc] at this
 have hs : (((w.alloc (.cells #[.int .i64 n0, .int .u16 n1, .int .u16 n2, .int .u64 n3, .string d] 35)).alloc (.cells #[.int .u32 m0, .int .u32 m1, .int .u32 m2, .int .u32 m3, .int .u32 m4, .int .u32 m5] 40)).alloc (.cells #[.int .i64 0, .int .u16 0, .int .u16 0, .int .u32 0, .int .u64 0, .int .i64 0, .int .u32 0, .int .u32 0, .int .u32 0, .int .u32 0, .int .u32 0, .int .u32 0] 42)).heap.size = H + 3 := by rw [World.size_alloc, World.size_alloc, World.size_alloc, hH]
 have hb : Below H w (((w.alloc (.cells #[.int .i64 n0, .int .u16 n1, .int .u16 n2, .int .u64 n3, .string d] 35)).alloc (.cells #[.int .u32 m0, .int .u32 m1, .int .u32 m2, .int .u32 m3, .int .u32 m4, .int .u32 m5] 40)).alloc (.cells #[.int .i64 0, .int .u16 0, .int .u16 0, .int .u32 0, .int .u64 0, .int .i64 0, .int .u32 0, .int .u32 0, .int .u32 0, .int .u32 0, .int .u32 0, .int .u32 0] 42)) := (((Below.refl H w).alloc (by omega) _).alloc (by simp; omega) _).alloc (by simp; omega) _
 (try rw [show H + 1 + 1 = H + 2 from rfl])
 generalize ((w.alloc (.cells #[.int .i64 n0, .int .u16 n1, .int .u16 n2, .int .u64 n3, .string d] 35)).alloc (.cells #[.int .u32 m0, .int .u32 m1, .int .u32 m2, .int .u32 m3, .int .u32 m4, .int .u32 m5] 40)).alloc (.cells #[.int .i64 0, .int .u16 0, .int .u16 0, .int .u32 0, .int .u64 0, .int .i64 0, .int .u32 0, .int .u32 0, .int .u32 0, .int .u32 0, .int .u32 0, .int .u32 0] 42) = W0 at hn hm hz hs hb ⊢
 refine Code.wp_mono (Q := fun e a' W' => e = .normal ∧ a' = { tmps := #[.agg #[.int .i64 n0, .int .u16 n1, .int .u16 n2, .int .u64 n3, .string d], .agg #[.int .u32 m0, .int .u32 m1, .int .u32 m2, .int .u32 m3, .int .u32 m4, .int .u32 m5], .pointer (some ⟨H, 0, none⟩), .pointer (some ⟨H + 1, 0, none⟩), .pointer (some ⟨H + 2, 0, none⟩), .int .i64 0, .bool false, .int .u32 (d.size : Int), .pointer (some ⟨H + 3, 0, none⟩), .agg #[.int .i64 n0, .int .u16 n1, .int .u16 n2, .int .u64 n3, .string d], .agg #[.int .i64 0, .int .u16 0, .int .u16 0, .int .u64 0, .string ⟨#[]⟩], .bool false, .pointer (some ⟨H, 4, none⟩), .string d, .int .i64 (d.size : Int), .bool false, .bool false, .bool false, .bool false, undef, undef, undef, .bool false, .bool false, undef, .pointer (some ⟨H, 4, none⟩), .string d, .int .i64 (d.size : Int), .int .u32 (d.size : Int), .pointer (some ⟨H, 0, none⟩), .int .i64 n0, .pointer (some ⟨H, 1, none⟩), .int .u16 n1, .pointer (some ⟨H, 2, none⟩), .int .u16 n2, .int .u32 (d.size : Int), .pointer (some ⟨H, 3, none⟩), .int .u64 n3, .int .u32 (d.size : Int), .int .i64 dp, .agg #[.int .u32 m0, .int .u32 m1, .int .u32 m2, .int .u32 m3, .int .u32 m4, .int .u32 m5], .agg #[.int .i64 n0, .int .u16 n1, .int .u16 n2, .int .u32 (d.size : Int), .int .u64 n3, .int .i64 dp, .int .u32 m0, .int .u32 m1, .int .u32 m2, .int .u32 m3, .int .u32 m4, .int .u32 m5], undef, undef, undef, undef, undef, undef, undef, undef, undef, undef, undef, undef, undef, undef], defers := [] } ∧ W'.heap[H]? = some (.cells #[.int .i64 n0, .int .u16 n1, .int .u16 n2, .int .u64 n3, .string d] 35 (0, 0)) ∧ W'.heap[H + 2]? = some (.cells #[.int .i64 0, .int .u16 0, .int .u16 0, .int .u32 0, .int .u64 0, .int .i64 0, .int .u32 0, .int .u32 0, .int .u32 0, .int .u32 0, .int .u32 0, .int .u32 0] 42 (0, 0)) ∧ W'.heap[H + 3]? = some (.cells #[.int .i64 n0, .int .u16 n1, .int .u16 n2, .int .u32 (d.size : Int), .int .u64 n3, .int .i64 dp, .int .u32 m0, .int .u32 m1, .int .u32 m2, .int .u32 m3, .int .u32 m4, .int .u32 m5] 42 (0, 0)) ∧ Below H w W') ?post ?_
 case post => 
  rintro e a' W7 ⟨rfl, rfl, hn7, hz3, hx7, hb7⟩
  clear hn hm hz hs hb W0 HD
  obtain ⟨g0, g1, g2, g3, g4, g5, g6, g7, g8, g9, g10, g11⟩ := ino_cells hx7
  go_wp2_with fail
  refine (inode_Right.calls _ _ _ _ _ _ _ _ _ _ _ _ r W7 HR.out).mono ?_
  rintro e w8 ⟨rfl, hb8⟩
  have hl7 := (Array.getElem?_eq_some_iff.1 hx7).1
  have hz8 := (hb8.block (H + 2) (by omega)).trans hz3
  have hx8 := (hb8.block (H + 3) (by omega)).trans hx7
  have hB8 : Below H w w8 := hb7.trans (hb8.mono (by omega))
  clear g0 g1 g2 g3 g4 g5 g6 g7 g8 g9 g10 g11 hn7 hz3 hx7 hb7 hb8 hl7
  obtain ⟨z0, z1, z2, z3, z4, z5, z6, z7, z8, z9, z10, z11⟩ := ino_cells hz8
  have f0 := ino_free hz8 0
  have f1 := ino_free hz8 1
  have f2 := ino_free hz8 2
  have f3 := ino_free hz8 3
  have f4 := ino_free hz8 4
  have f5 := ino_free hz8 5
  have f6 := ino_free hz8 6
  have f7 := ino_free hz8 7
  have f8 := ino_free hz8 8
  have f9 := ino_free hz8 9
  have f10 := ino_free hz8 10
  have f11 := ino_free hz8 11
  obtain ⟨g0, g1, g2, g3, g4, g5, g6, g7, g8, g9, g10, g11⟩ := ino_cells hx8
  cases r with
  | false =>
   go_wp2
   refine bodyPost_ret (results_ct rfl _ _ (H + 2) 42 #[.int .i64 0, .int .u16 0, .int .u16 0, .int .u32 0, .int .u64 0, .int .i64 0, .int .u32 0, .int .u32 0, .int .u32 0, .int .u32 0, .int .u32 0, .int .u32 0] (0, 0) _ rfl (set12_cells hz8 _ _ _ _ _ _ _ _ _ _ _ _) Try.underlying42 rfl (by kernel_rfl)) rfl ?_
   refine ⟨?_, set12_below hB8 (by omega) _ _ _ _ _ _ _ _ _ _ _ _⟩
   first | rfl | (rw [if_neg (by decide)]; rfl)
  | true =>
   by_cases cx : (n0 == 0 && (n1 == 0 && (n2 == 0 && ((d.size : Int) == 0 && (n3 == 0 && (dp == 0 && ((m0 == 0 && (m1 == 0 && (m2 == 0 && (m3 == 0 && (m4 == 0 && (m5 == 0))))))))))))) = true
   ·go_wp2
    refine bodyPost_ret (results_ct rfl _ _ (H + 2) 42 #[.int .i64 0, .int .u16 0, .int .u16 0, .int .u32 0, .int .u64 0, .int .i64 0, .int .u32 0, .int .u32 0, .int .u32 0, .int .u32 0, .int .u32 0, .int .u32 0] (0, 0) _ rfl (set12_cells hz8 _ _ _ _ _ _ _ _ _ _ _ _) Try.underlying42 rfl (by kernel_rfl)) rfl ?_
    refine ⟨?_, set12_below hB8 (by omega) _ _ _ _ _ _ _ _ _ _ _ _⟩
    first | rfl | (rw [if_pos cx]; rfl) | (rw [if_pos rfl, if_pos cx]; rfl)
   ·have dx : (n0 == 0 && (n1 == 0 && (n2 == 0 && ((d.size : Int) == 0 && (n3 == 0 && (dp == 0 && ((m0 == 0 && (m1 == 0 && (m2 == 0 && (m3 == 0 && (m4 == 0 && (m5 == 0))))))))))))) = false := by simpa using cx
    have cx' := Aside0.mk cx
    clear cx
    go_wp2
    refine bodyPost_ret (results_ct rfl _ _ (H + 2) 42 #[.int .i64 n0, .int .u16 n1, .int .u16 n2, .int .u32 (d.size : Int), .int .u64 n3, .int .i64 dp, .int .u32 m0, .int .u32 m1, .int .u32 m2, .int .u32 m3, .int .u32 m4, .int .u32 m5] (0, 0) _ rfl (set12_cells hz8 _ _ _ _ _ _ _ _ _ _ _ _) Try.underlying42 rfl (by kernel_rfl)) rfl ?_
    refine ⟨?_, set12_below hB8 (by omega) _ _ _ _ _ _ _ _ _ _ _ _⟩
    first | rfl | (rw [if_neg cx'.out]; rfl) | (rw [if_pos rfl, if_neg cx'.out]; rfl)
 refine wp_region_held (S := fun W => W.heap[H]? = some (.cells #[.int .i64 n0, .int .u16 n1, .int .u16 n2, .int .u64 n3, .string d] 35 (0, 0)) ∧ W.heap[H + 1]? = some (.cells #[.int .u32 m0, .int .u32 m1, .int .u32 m2, .int .u32 m3, .int .u32 m4, .int .u32 m5] 40 (0, 0))) (by kernel_rfl) ?_
 have hPN : (W0.drew.heap[H]? = some (.cells #[.int .i64 n0, .int .u16 n1, .int .u16 n2, .int .u64 n3, .string d] 35 (0, 0)) ∧ W0.drew.heap[H + 1]? = some (.cells #[.int .u32 m0, .int .u32 m1, .int .u32 m2, .int .u32 m3, .int .u32 m4, .int .u32 m5] 40 (0, 0))) ∧ W0.drew.heap[H + 2]? = some (.cells #[.int .i64 0, .int .u16 0, .int .u16 0, .int .u32 0, .int .u64 0, .int .i64 0, .int .u32 0, .int .u32 0, .int .u32 0, .int .u32 0, .int .u32 0, .int .u32 0] 42 (0, 0)) ∧ W0.drew.heap.size = H + 3 ∧ Below H w W0.drew := ⟨⟨hn, hm⟩, hz, hs, pw_below_drewN hb 1⟩
 change wpAnyH _ _ _ _ _ 15 #[false, false, false, false, false, false, false, false, false, false, false, false, false, false, false] _ W0.drew
 clear hn hm hz hs hb
 generalize W0.drew = W1 at hPN ⊢
 obtain ⟨hS, hz, hs, hb⟩ := hPN
 refine takeH 0 (l' := #[true, false, false, false, false, false, false, false, false, false, false, false, false, false, false]) (v := .pointer (some ⟨H, 0, none⟩)) rfl (by kernel_rfl) (by kernel_rfl) (by kernel_rfl) (fun _ _ _ h => by cases h.1) (by kernel_rfl) (fun _ _ => by go_simp) hS (by show Act.put _ (some 29) _ = _; simp only [Act.put, List.setIfInBounds_toArray, List.set_cons_zero, List.set_cons_succ]; try rfl) (by kernel_rfl) ?_
 refine takeH 1 (l' := #[true, true, false, false, false, false, false, false, false, false, false, false, false, false, false]) (v := .int .i64 n0) rfl (by kernel_rfl) (by kernel_rfl) (by kernel_rfl) (fun _ _ _ h => by cases h.1) (by kernel_rfl) (fun W hS => by have c := (show W.cell? ⟨H, 0, none⟩ = some (.int .i64 n0) by rw [Lib.cell_of_heap hS.1]; rfl); go_simp) hS (by show Act.put _ (some 30) _ = _; simp only [Act.put, List.setIfInBounds_toArray, List.set_cons_zero, List.set_cons_succ]; try rfl) (by kernel_rfl) ?_
 refine takeH 2 (l' := #[true, true, true, false, false, false, false, false, false, false, false, false, false, false, false]) (v := .pointer (some ⟨H, 1, none⟩)) rfl (by kernel_rfl) (by kernel_rfl) (by kernel_rfl) (fun _ _ _ h => by cases h.1) (by kernel_rfl) (fun _ _ => by go_simp) hS (by show Act.put _ (some 31) _ = _; simp only [Act.put, List.setIfInBounds_toArray, List.set_cons_zero, List.set_cons_succ]; try rfl) (by kernel_rfl) ?_
 refine takeH 3 (l' := #[true, true, true, true, false, false, false, false, false, false, false, false, false, false, false]) (v := .int .u16 n1) rfl (by kernel_rfl) (by kernel_rfl) (by kernel_rfl) (fun _ _ _ h => by cases h.1) (by kernel_rfl) (fun W hS => by have c := (show W.cell? ⟨H, 1, none⟩ = some (.int .u16 n1) by rw [Lib.cell_of_heap hS.1]; rfl); go_simp) hS (by show Act.put _ (some 32) _ = _; simp only [Act.put, List.setIfInBounds_toArray, List.set_cons_zero, List.set_cons_succ]; try rfl) (by kernel_rfl) ?_
 refine takeH 4 (l' := #[true, true, true, true, true, false, false, false, false, false, false, false, false, false, false]) (v := .pointer (some ⟨H, 2, none⟩)) rfl (by kernel_rfl) (by kernel_rfl) (by kernel_rfl) (fun _ _ _ h => by cases h.1) (by kernel_rfl) (fun _ _ => by go_simp) hS (by show Act.put _ (some 33) _ = _; simp only [Act.put, List.setIfInBounds_toArray, List.set_cons_zero, List.set_cons_succ]; try rfl) (by kernel_rfl) ?_
 refine takeH 5 (l' := #[true, true, true, true, true, true, false, false, false, false, false, false, false, false, false]) (v := .int .u16 n2) rfl (by kernel_rfl) (by kernel_rfl) (by kernel_rfl) (fun _ _ _ h => by cases h.1) (by kernel_rfl) (fun W hS => by have c := (show W.cell? ⟨H, 2, none⟩ = some (.int .u16 n2) by rw [Lib.cell_of_heap hS.1]; rfl); go_simp) hS (by show Act.put _ (some 34) _ = _; simp only [Act.put, List.setIfInBounds_toArray, List.set_cons_zero, List.set_cons_succ]; try rfl) (by kernel_rfl) ?_
 refine takeH 6 (l' := #[true, true, true, true, true, true, true, false, false, false, false, false, false, false, false]) (v := .int .u32 (d.size : Int)) rfl (by kernel_rfl) (by kernel_rfl) (by kernel_rfl) (fun _ _ _ h => by cases h.1) (by kernel_rfl) (fun _ _ => by go_simp) hS (by show Act.put _ (some 35) _ = _; simp only [Act.put, List.setIfInBounds_toArray, List.set_cons_zero, List.set_cons_succ]; try rfl) (by kernel_rfl) ?_
 refine takeH 7 (l' := #[true, true, true, true, true, true, true, true, false, false, false, false, false, false, false]) (v := .pointer (some ⟨H, 3, none⟩)) rfl (by kernel_rfl) (by kernel_rfl) (by kernel_rfl) (fun _ _ _ h => by cases h.1) (by kernel_rfl) (fun _ _ => by go_simp) hS (by show Act.put _ (some 36) _ = _; simp only [Act.put, List.setIfInBounds_toArray, List.set_cons_zero, List.set_cons_succ]; try rfl) (by kernel_rfl) ?_
 refine takeH 8 (l' := #[true, true, true, true, true, true, true, true, true, false, false, false, false, false, false]) (v := .int .u64 n3) rfl (by kernel_rfl) (by kernel_rfl) (by kernel_rfl) (fun _ _ _ h => by cases h.1) (by kernel_rfl) (fun W hS => by have c := (show W.cell? ⟨H, 3, none⟩ = some (.int .u64 n3) by rw [Lib.cell_of_heap hS.1]; rfl); go_simp) hS (by show Act.put _ (some 37) _ = _; simp only [Act.put, List.setIfInBounds_toArray, List.set_cons_zero, List.set_cons_succ]; try rfl) (by kernel_rfl) ?_
 refine takeH 9 (l' := #[true, true, true, true, true, true, true, true, true, true, false, false, false, false, false]) (v := .int .u32 (d.size : Int)) rfl (by kernel_rfl) (by kernel_rfl) (by kernel_rfl) (fun _ _ _ h => by cases h.1) (by kernel_rfl) (fun _ _ => by go_simp) hS (by show Act.put _ (some 38) _ = _; simp only [Act.put, List.setIfInBounds_toArray, List.set_cons_zero, List.set_cons_succ]; try rfl) (by kernel_rfl) ?_
 refine takeH 11 (l' := #[true, true, true, true, true, true, true, true, true, true, false, true, false, false, false]) (v := .agg #[.int .u32 m0, .int .u32 m1, .int .u32 m2, .int .u32 m3, .int .u32 m4, .int .u32 m5]) rfl (by kernel_rfl) (by kernel_rfl) (by kernel_rfl) (fun _ _ _ h => by cases h.1) (by kernel_rfl) (fun W hS => by have c0 := six_cell hS.2 0 (by omega); have c1 := six_cell hS.2 1 (by omega); have c2 := six_cell hS.2 2 (by omega); have c3 := six_cell hS.2 3 (by omega); have c4 := six_cell hS.2 4 (by omega); have c5 := six_cell hS.2 5 (by omega); simp only [List.getD_cons_zero, List.getD_cons_succ] at c0 c1 c2 c3 c4 c5; go_simp) hS (by show Act.put _ (some 40) _ = _; simp only [Act.put, List.setIfInBounds_toArray, List.set_cons_zero, List.set_cons_succ]; try rfl) (by kernel_rfl) ?_
 refine allH (rs := [10, 13]) (by kernel_rfl) (by decide) (enterH 10 39 (l' := #[true, true, true, true, true, true, true, true, true, true, true, true, false, false, false]) (f := 34) (args := #[.int .u32 (d.size : Int)]) rfl rfl (by kernel_rfl) (by go_simp) (inode_Depth.calls (d.size : Int) dp W1 HD.out) (by kernel_rfl) ?_ (readyH 13 (l' := #[true, true, true, true, true, true, true, true, true, true, false, true, false, true, false]) (v := .pointer (some ⟨H + 3, 0, none⟩)) (w1 := W1.alloc (.cells #[.int .i64 0, .int .u16 0, .int .u16 0, .int .u32 0, .int .u64 0, .int .i64 0, .int .u32 0, .int .u32 0, .int .u32 0, .int .u32 0, .int .u32 0, .int .u32 0] 42)) rfl (by kernel_rfl) (by go_simp; try (rw [hs]; try rfl)) (by show Act.put _ (some 8) _ = _; simp only [Act.put, List.setIfInBounds_toArray, List.set_cons_zero, List.set_cons_succ]; try rfl) (by kernel_rfl) ⟨(Below.heap_alloc _ _ _ (by omega)).trans hS.1, (Below.heap_alloc _ _ _ (by omega)).trans hS.2⟩ ?_ AllH.nil))
 ·rintro e W2 ⟨rfl, hD⟩
  have e2 := vdrawn_heap hD
  have hS2 : W2.heap[H]? = some (.cells #[.int .i64 n0, .int .u16 n1, .int .u16 n2, .int .u64 n3, .string d] 35 (0, 0)) ∧ W2.heap[H + 1]? = some (.cells #[.int .u32 m0, .int .u32 m1, .int .u32 m2, .int .u32 m3, .int .u32 m4, .int .u32 m5] 40 (0, 0)) := ⟨by rw [e2]; exact hS.1, by rw [e2]; exact hS.2⟩
  have hs2 : W2.heap.size = H + 3 := by rw [e2]; exact hs
  have hz2 : W2.heap[H + 2]? = some (.cells #[.int .i64 0, .int .u16 0, .int .u16 0, .int .u32 0, .int .u64 0, .int .i64 0, .int .u32 0, .int .u32 0, .int .u32 0, .int .u32 0, .int .u32 0, .int .u32 0] 42 (0, 0)) := by rw [e2]; exact hz
  have hb2 : Below H w W2 := hb.trans (hD.below.mono (by omega))
  refine ⟨_, rfl, hS2, _, (by show Act.put _ (some 39) _ = _; simp only [Act.put, List.setIfInBounds_toArray, List.set_cons_zero, List.set_cons_succ]; try rfl), ?_⟩
  refine takeH 12 (l' := #[true, true, true, true, true, true, true, true, true, true, true, true, true, false, false]) (v := .agg #[.int .i64 n0, .int .u16 n1, .int .u16 n2, .int .u32 (d.size : Int), .int .u64 n3, .int .i64 dp, .int .u32 m0, .int .u32 m1, .int .u32 m2, .int .u32 m3, .int .u32 m4, .int .u32 m5]) rfl (by kernel_rfl) (by kernel_rfl) (by kernel_rfl) (fun _ _ _ h => by cases h.1) (by kernel_rfl) (fun _ _ => by go_simp; first | done | rfl) hS2 (by show Act.put _ (some 41) _ = _; simp only [Act.put, List.setIfInBounds_toArray, List.set_cons_zero, List.set_cons_succ]; try rfl) (by kernel_rfl) ?_
  refine allH (rs := [13]) (by kernel_rfl) (by decide) (readyH 13 (l' := #[true, true, true, true, true, true, true, true, true, true, true, true, true, true, false]) (v := .pointer (some ⟨H + 3, 0, none⟩)) (w1 := W2.alloc (.cells #[.int .i64 0, .int .u16 0, .int .u16 0, .int .u32 0, .int .u64 0, .int .i64 0, .int .u32 0, .int .u32 0, .int .u32 0, .int .u32 0, .int .u32 0, .int .u32 0] 42)) rfl (by kernel_rfl) (by go_simp; try (rw [hs2]; try rfl)) (by show Act.put _ (some 8) _ = _; simp only [Act.put, List.setIfInBounds_toArray, List.set_cons_zero, List.set_cons_succ]; try rfl) (by kernel_rfl) ⟨(Below.heap_alloc _ _ _ (by omega)).trans hS2.1, (Below.heap_alloc _ _ _ (by omega)).trans hS2.2⟩ ?_ AllH.nil)
  have hx : (W2.alloc (.cells #[.int .i64 0, .int .u16 0, .int .u16 0, .int .u32 0, .int .u64 0, .int .i64 0, .int .u32 0, .int .u32 0, .int .u32 0, .int .u32 0, .int .u32 0, .int .u32 0] 42)).heap[H + 3]? = some (.cells #[.int .i64 0, .int .u16 0, .int .u16 0, .int .u32 0, .int .u64 0, .int .i64 0, .int .u32 0, .int .u32 0, .int .u32 0, .int .u32 0, .int .u32 0, .int .u32 0] 42 (0, 0)) := by rw [← hs2]; exact World.alloc_heap_new W2 _
  have hz3 : (W2.alloc (.cells #[.int .i64 0, .int .u16 0, .int .u16 0, .int .u32 0, .int .u64 0, .int .i64 0, .int .u32 0, .int .u32 0, .int .u32 0, .int .u32 0, .int .u32 0, .int .u32 0] 42)).heap[H + 2]? = some (.cells #[.int .i64 0, .int .u16 0, .int .u16 0, .int .u32 0, .int .u64 0, .int .i64 0, .int .u32 0, .int .u32 0, .int .u32 0, .int .u32 0, .int .u32 0, .int .u32 0] 42 (0, 0)) := (Below.heap_alloc _ _ _ (by omega)).trans hz2
  have hS3 : (W2.alloc (.cells #[.int .i64 0, .int .u16 0, .int .u16 0, .int .u32 0, .int .u64 0, .int .i64 0, .int .u32 0, .int .u32 0, .int .u32 0, .int .u32 0, .int .u32 0, .int .u32 0] 42)).heap[H]? = some (.cells #[.int .i64 n0, .int .u16 n1, .int .u16 n2, .int .u64 n3, .string d] 35 (0, 0)) ∧ (W2.alloc (.cells #[.int .i64 0, .int .u16 0, .int .u16 0, .int .u32 0, .int .u64 0, .int .i64 0, .int .u32 0, .int .u32 0, .int .u32 0, .int .u32 0, .int .u32 0, .int .u32 0] 42)).heap[H + 1]? = some (.cells #[.int .u32 m0, .int .u32 m1, .int .u32 m2, .int .u32 m3, .int .u32 m4, .int .u32 m5] 40 (0, 0)) := ⟨(Below.heap_alloc _ _ _ (by omega)).trans hS2.1, (Below.heap_alloc _ _ _ (by omega)).trans hS2.2⟩
  have hb3 : Below H w (W2.alloc (.cells #[.int .i64 0, .int .u16 0, .int .u16 0, .int .u32 0, .int .u64 0, .int .i64 0, .int .u32 0, .int .u32 0, .int .u32 0, .int .u32 0, .int .u32 0, .int .u32 0] 42)) := hb2.alloc (by omega) _
  generalize W2.alloc (.cells #[.int .i64 0, .int .u16 0, .int .u16 0, .int .u32 0, .int .u64 0, .int .i64 0, .int .u32 0, .int .u32 0, .int .u32 0, .int .u32 0, .int .u32 0, .int .u32 0] 42) = W3 at hx hz3 hS3 hb3 ⊢
  obtain ⟨z0, z1, z2, z3, z4, z5, z6, z7, z8, z9, z10, z11⟩ := ino_cells hx
  have f0 := ino_free hx 0
  have f1 := ino_free hx 1
  have f2 := ino_free hx 2
  have f3 := ino_free hx 3
  have f4 := ino_free hx 4
  have f5 := ino_free hx 5
  have f6 := ino_free hx 6
  have f7 := ino_free hx 7
  have f8 := ino_free hx 8
  have f9 := ino_free hx 9
  have f10 := ino_free hx 10
  have f11 := ino_free hx 11
  refine allH (rs := [14]) (by kernel_rfl) (by decide) (skipH 14 (l' := #[true, true, true, true, true, true, true, true, true, true, true, true, true, true, true]) (w1 := set12 W3 (H + 3) (.int .i64 n0) (.int .u16 n1) (.int .u16 n2) (.int .u32 (d.size : Int)) (.int .u64 n3) (.int .i64 dp) (.int .u32 m0) (.int .u32 m1) (.int .u32 m2) (.int .u32 m3) (.int .u32 m4) (.int .u32 m5)) rfl (by kernel_rfl) (by go_simp; first | done | rfl) (by rfl) (by kernel_rfl) ⟨by rw [set12_other _ _ _ (by omega)]; exact hS3.1, by rw [set12_other _ _ _ (by omega)]; exact hS3.2⟩ ?_ AllH.nil)
  exact wpAnyH_done (by kernel_rfl) ⟨rfl, rfl, by rw [set12_other _ _ _ (by omega)]; exact hS3.1, by rw [set12_other _ _ _ (by omega)]; exact hz3, set12_cells hx _ _ _ _ _ _ _ _ _ _ _ _, set12_below hb3 (by omega) _ _ _ _ _ _ _ _ _ _ _ _⟩ _
 ·have hx1 : (W1.alloc (.cells #[.int .i64 0, .int .u16 0, .int .u16 0, .int .u32 0, .int .u64 0, .int .i64 0, .int .u32 0, .int .u32 0, .int .u32 0, .int .u32 0, .int .u32 0, .int .u32 0] 42)).heap[H + 3]? = some (.cells #[.int .i64 0, .int .u16 0, .int .u16 0, .int .u32 0, .int .u64 0, .int .i64 0, .int .u32 0, .int .u32 0, .int .u32 0, .int .u32 0, .int .u32 0, .int .u32 0] 42 (0, 0)) := by rw [← hs]; exact World.alloc_heap_new W1 _
  have hz1 : (W1.alloc (.cells #[.int .i64 0, .int .u16 0, .int .u16 0, .int .u32 0, .int .u64 0, .int .i64 0, .int .u32 0, .int .u32 0, .int .u32 0, .int .u32 0, .int .u32 0, .int .u32 0] 42)).heap[H + 2]? = some (.cells #[.int .i64 0, .int .u16 0, .int .u16 0, .int .u32 0, .int .u64 0, .int .i64 0, .int .u32 0, .int .u32 0, .int .u32 0, .int .u32 0, .int .u32 0, .int .u32 0] 42 (0, 0)) := (Below.heap_alloc _ _ _ (by omega)).trans hz
  have hS1 : (W1.alloc (.cells #[.int .i64 0, .int .u16 0, .int .u16 0, .int .u32 0, .int .u64 0, .int .i64 0, .int .u32 0, .int .u32 0, .int .u32 0, .int .u32 0, .int .u32 0, .int .u32 0] 42)).heap[H]? = some (.cells #[.int .i64 n0, .int .u16 n1, .int .u16 n2, .int .u64 n3, .string d] 35 (0, 0)) ∧ (W1.alloc (.cells #[.int .i64 0, .int .u16 0, .int .u16 0, .int .u32 0, .int .u64 0, .int .i64 0, .int .u32 0, .int .u32 0, .int .u32 0, .int .u32 0, .int .u32 0, .int .u32 0] 42)).heap[H + 1]? = some (.cells #[.int .u32 m0, .int .u32 m1, .int .u32 m2, .int .u32 m3, .int .u32 m4, .int .u32 m5] 40 (0, 0)) := ⟨(Below.heap_alloc _ _ _ (by omega)).trans hS.1, (Below.heap_alloc _ _ _ (by omega)).trans hS.2⟩
  have hb1 : Below H w (W1.alloc (.cells #[.int .i64 0, .int .u16 0, .int .u16 0, .int .u32 0, .int .u64 0, .int .i64 0, .int .u32 0, .int .u32 0, .int .u32 0, .int .u32 0, .int .u32 0, .int .u32 0] 42)) := hb.alloc (by omega) _
  generalize W1.alloc (.cells #[.int .i64 0, .int .u16 0, .int .u16 0, .int .u32 0, .int .u64 0, .int .i64 0, .int .u32 0, .int .u32 0, .int .u32 0, .int .u32 0, .int .u32 0, .int .u32 0] 42) = W5 at hx1 hz1 hS1 hb1 ⊢
  refine allH (rs := [10]) (by kernel_rfl) (by decide) (enterH 10 39 (l' := #[true, true, true, true, true, true, true, true, true, true, true, true, false, true, false]) (f := 34) (args := #[.int .u32 (d.size : Int)]) rfl rfl (by kernel_rfl) (by go_simp) (inode_Depth.calls (d.size : Int) dp W5 HD.out) (by kernel_rfl) ?_ AllH.nil)
  rintro e W3 ⟨rfl, hD⟩
  have e2 := vdrawn_heap hD
  have hS3 : W3.heap[H]? = some (.cells #[.int .i64 n0, .int .u16 n1, .int .u16 n2, .int .u64 n3, .string d] 35 (0, 0)) ∧ W3.heap[H + 1]? = some (.cells #[.int .u32 m0, .int .u32 m1, .int .u32 m2, .int .u32 m3, .int .u32 m4, .int .u32 m5] 40 (0, 0)) := ⟨by rw [e2]; exact hS1.1, by rw [e2]; exact hS1.2⟩
  have hS2 := hS3
  have hx : W3.heap[H + 3]? = some (.cells #[.int .i64 0, .int .u16 0, .int .u16 0, .int .u32 0, .int .u64 0, .int .i64 0, .int .u32 0, .int .u32 0, .int .u32 0, .int .u32 0, .int .u32 0, .int .u32 0] 42 (0, 0)) := by rw [e2]; exact hx1
  have hz3 : W3.heap[H + 2]? = some (.cells #[.int .i64 0, .int .u16 0, .int .u16 0, .int .u32 0, .int .u64 0, .int .i64 0, .int .u32 0, .int .u32 0, .int .u32 0, .int .u32 0, .int .u32 0, .int .u32 0] 42 (0, 0)) := by rw [e2]; exact hz1
  have hb3 : Below H w W3 := hb1.trans (hD.below.mono (by have := (Array.getElem?_eq_some_iff.1 hx1).1; omega))
  refine ⟨_, rfl, hS3, _, (by show Act.put _ (some 39) _ = _; simp only [Act.put, List.setIfInBounds_toArray, List.set_cons_zero, List.set_cons_succ]; try rfl), ?_⟩
  refine takeH 12 (l' := #[true, true, true, true, true, true, true, true, true, true, true, true, true, true, false]) (v := .agg #[.int .i64 n0, .int .u16 n1, .int .u16 n2, .int .u32 (d.size : Int), .int .u64 n3, .int .i64 dp, .int .u32 m0, .int .u32 m1, .int .u32 m2, .int .u32 m3, .int .u32 m4, .int .u32 m5]) rfl (by kernel_rfl) (by kernel_rfl) (by kernel_rfl) (fun _ _ _ h => by cases h.1) (by kernel_rfl) (fun _ _ => by go_simp; first | done | rfl) hS2 (by show Act.put _ (some 41) _ = _; simp only [Act.put, List.setIfInBounds_toArray, List.set_cons_zero, List.set_cons_succ]; try rfl) (by kernel_rfl) ?_
  obtain ⟨z0, z1, z2, z3, z4, z5, z6, z7, z8, z9, z10, z11⟩ := ino_cells hx
  have f0 := ino_free hx 0
  have f1 := ino_free hx 1
  have f2 := ino_free hx 2
  have f3 := ino_free hx 3
  have f4 := ino_free hx 4
  have f5 := ino_free hx 5
  have f6 := ino_free hx 6
  have f7 := ino_free hx 7
  have f8 := ino_free hx 8
  have f9 := ino_free hx 9
  have f10 := ino_free hx 10
  have f11 := ino_free hx 11
  refine allH (rs := [14]) (by kernel_rfl) (by decide) (skipH 14 (l' := #[true, true, true, true, true, true, true, true, true, true, true, true, true, true, true]) (w1 := set12 W3 (H + 3) (.int .i64 n0) (.int .u16 n1) (.int .u16 n2) (.int .u32 (d.size : Int)) (.int .u64 n3) (.int .i64 dp) (.int .u32 m0) (.int .u32 m1) (.int .u32 m2) (.int .u32 m3) (.int .u32 m4) (.int .u32 m5)) rfl (by kernel_rfl) (by go_simp; first | done | rfl) (by rfl) (by kernel_rfl) ⟨by rw [set12_other _ _ _ (by omega)]; exact hS3.1, by rw [set12_other _ _ _ (by omega)]; exact hS3.2⟩ ?_ AllH.nil)
  exact wpAnyH_done (by kernel_rfl) ⟨rfl, rfl, by rw [set12_other _ _ _ (by omega)]; exact hS3.1, by rw [set12_other _ _ _ (by omega)]; exact hz3, set12_cells hx _ _ _ _ _ _ _ _ _ _ _ _, set12_below hb3 (by omega) _ _ _ _ _ _ _ _ _ _ _ _⟩ _
set_option maxHeartbeats 8000000 in
theorem vin_mainT (n0 n1 n2 n3 dp : Int) (d : ByteArray) (m0 m1 m2 m3 m4 m5 : Int) (r : Bool) (w : World) (hsz : ¬ d.size > 8193532) (c0 : (n0 == 0 && (n1 == 0 && (n2 == 0 && (n3 == 0 && (d.toList == ([] : List UInt8)))))) = true) (c1 : (m0 == 0 && (m1 == 0 && (m2 == 0 && (m3 == 0 && (m4 == 0 && (m5 == 0)))))) = true) (hd : inode_Depth.f (d.size : Int) = some dp) (hr : inode_Right.f n0 n1 n2 d.size n3 dp m0 m1 m2 m3 m4 m5 = some r) :
  Calls Try.prog 17 #[.agg #[.int .i64 n0, .int .u16 n1, .int .u16 n2, .int .u64 n3, .string d], .agg #[.int .u32 m0, .int .u32 m1, .int .u32 m2, .int .u32 m3, .int .u32 m4, .int .u32 m5]] w fun e w' => (if r = true then e = .returned (.tuple #[.agg #[.int .i64 n0, .int .u16 n1, .int .u16 n2, .int .u32 (d.size : Int), .int .u64 n3, .int .i64 dp, .int .u32 m0, .int .u32 m1, .int .u32 m2, .int .u32 m3, .int .u32 m4, .int .u32 m5], .int .i64 0]) else e = .returned (.tuple #[.agg #[.int .i64 0, .int .u16 0, .int .u16 0, .int .u32 0, .int .u64 0, .int .i64 0, .int .u32 0, .int .u32 0, .int .u32 0, .int .u32 0, .int .u32 0, .int .u32 0], .int .i64 154])) ∧ Below w.heap.size w w' := by
 have hu := Try.underlying42
 have d1 : decide ((8193532 : Int) < (d.size : Int)) = false := decide_eq_false (by omega)
 have c2 : (n0 == 0 && (n1 == 0 && (n2 == 0 && (n3 == 0 && d.toList.isEmpty)))) = true := by simpa using c0
 have eu : IntKind.u32.wrap (d.size : Int) = (d.size : Int) := IntWalk.u32_in _ (by omega)
 have HD := Aside0.mk hd
 have HR := Aside0.mk hr
 clear hsz hd hr
 go_enter Try.func17, Try.ntmps17
 go_wp2_with fail
 obtain ⟨H, hH⟩ : ∃ H, w.heap.size = H := ⟨_, rfl⟩
 rw [hH]
 have hn : (((w.alloc (.cells #[.int .i64 n0, .int .u16 n1, .int .u16 n2, .int .u64 n3, .string d] 35)).alloc (.cells #[.int .u32 m0, .int .u32 m1, .int .u32 m2, .int .u32 m3, .int .u32 m4, .int .u32 m5] 40)).alloc (.cells #[.int .i64 0, .int .u16 0, .int .u16 0, .int .u32 0, .int .u64 0, .int .i64 0, .int .u32 0, .int .u32 0, .int .u32 0, .int .u32 0, .int .u32 0, .int .u32 0] 42)).heap[H]? = some (.cells #[.int .i64 n0, .int .u16 n1, .int .u16 n2, .int .u64 n3, .string d] 35 (0, 0)) := by
  rw [Below.heap_alloc _ _ _ (by simp; omega), Below.heap_alloc _ _ _ (by simp; omega), ← hH]; exact World.alloc_heap_new w _
 have hm : (((w.alloc (.cells #[.int .i64 n0, .int .u16 n1, .int .u16 n2, .int .u64 n3, .string d] 35)).alloc (.cells #[.int .u32 m0, .int .u32 m1, .int .u32 m2, .int .u32 m3, .int .u32 m4, .int .u32 m5] 40)).alloc (.cells #[.int .i64 0, .int .u16 0, .int .u16 0, .int .u32 0, .int .u64 0, .int .i64 0, .int .u32 0, .int .u32 0, .int .u32 0, .int .u32 0, .int .u32 0, .int .u32 0] 42)).heap[H + 1]? = some (.cells #[.int .u32 m0, .int .u32 m1, .int .u32 m2, .int .u32 m3, .int .u32 m4, .int .u32 m5] 40 (0, 0)) := by
  rw [Below.heap_alloc _ _ _ (by simp; omega), ← hH]; have := World.alloc_heap_new (w.alloc (.cells #[.int .i64 n0, .int .u16 n1, .int .u16 n2, .int .u64 n3, .string d] 35)) (.cells #[.int .u32 m0, .int .u32 m1, .int .u32 m2, .int .u32 m3, .int .u32 m4, .int .u32 m5] 40); rwa [World.size_alloc] at this
 have hz : (((w.alloc (.cells #[.int .i64 n0, .int .u16 n1, .int .u16 n2, .int .u64 n3, .string d] 35)).alloc (.cells #[.int .u32 m0, .int .u32 m1, .int .u32 m2, .int .u32 m3, .int .u32 m4, .int .u32 m5] 40)).alloc (.cells #[.int .i64 0, .int .u16 0, .int .u16 0, .int .u32 0, .int .u64 0, .int .i64 0, .int .u32 0, .int .u32 0, .int .u32 0, .int .u32 0, .int .u32 0, .int .u32 0] 42)).heap[H + 2]? = some (.cells #[.int .i64 0, .int .u16 0, .int .u16 0, .int .u32 0, .int .u64 0, .int .i64 0, .int .u32 0, .int .u32 0, .int .u32 0, .int .u32 0, .int .u32 0, .int .u32 0] 42 (0, 0)) := by
  rw [← hH]; have := World.alloc_heap_new ((w.alloc (.cells #[.int .i64 n0, .int .u16 n1, .int .u16 n2, .int .u64 n3, .string d] 35)).alloc (.cells #[.int .u32 m0, .int .u32 m1, .int .u32 m2, .int .u32 m3, .int .u32 m4, .int .u32 m5] 40)) (.cells #[.int .i64 0, .int .u16 0, .int .u16 0, .int .u32 0, .int .u64 0, .int .i64 0, .int .u32 0, .int .u32 0, .int .u32 0, .int .u32 0, .int .u32 0, .int .u32 0] 42); rwa [World.size_alloc, World.size_alloc] at this
 have hs : (((w.alloc (.cells #[.int .i64 n0, .int .u16 n1, .int .u16 n2, .int .u64 n3, .string d] 35)).alloc (.cells #[.int .u32 m0, .int .u32 m1, .int .u32 m2, .int .u32 m3, .int .u32 m4, .int .u32 m5] 40)).alloc (.cells #[.int .i64 0, .int .u16 0, .int .u16 0, .int .u32 0, .int .u64 0, .int .i64 0, .int .u32 0, .int .u32 0, .int .u32 0, .int .u32 0, .int .u32 0, .int .u32 0] 42)).heap.size = H + 3 := by rw [World.size_alloc, World.size_alloc, World.size_alloc, hH]
 have hb : Below H w (((w.alloc (.cells #[.int .i64 n0, .int .u16 n1, .int .u16 n2, .int .u64 n3, .string d] 35)).alloc (.cells #[.int .u32 m0, .int .u32 m1, .int .u32 m2, .int .u32 m3, .int .u32 m4, .int .u32 m5] 40)).alloc (.cells #[.int .i64 0, .int .u16 0, .int .u16 0, .int .u32 0, .int .u64 0, .int .i64 0, .int .u32 0, .int .u32 0, .int .u32 0, .int .u32 0, .int .u32 0, .int .u32 0] 42)) := (((Below.refl H w).alloc (by omega) _).alloc (by simp; omega) _).alloc (by simp; omega) _
 (try rw [show H + 1 + 1 = H + 2 from rfl])
 generalize ((w.alloc (.cells #[.int .i64 n0, .int .u16 n1, .int .u16 n2, .int .u64 n3, .string d] 35)).alloc (.cells #[.int .u32 m0, .int .u32 m1, .int .u32 m2, .int .u32 m3, .int .u32 m4, .int .u32 m5] 40)).alloc (.cells #[.int .i64 0, .int .u16 0, .int .u16 0, .int .u32 0, .int .u64 0, .int .i64 0, .int .u32 0, .int .u32 0, .int .u32 0, .int .u32 0, .int .u32 0, .int .u32 0] 42) = W0 at hn hm hz hs hb ⊢
 refine Code.wp_mono (Q := fun e a' W' => e = .normal ∧ a' = { tmps := #[.agg #[.int .i64 n0, .int .u16 n1, .int .u16 n2, .int .u64 n3, .string d], .agg #[.int .u32 m0, .int .u32 m1, .int .u32 m2, .int .u32 m3, .int .u32 m4, .int .u32 m5], .pointer (some ⟨H, 0, none⟩), .pointer (some ⟨H + 1, 0, none⟩), .pointer (some ⟨H + 2, 0, none⟩), .int .i64 0, .bool true, .int .u32 (d.size : Int), .pointer (some ⟨H + 3, 0, none⟩), .agg #[.int .i64 n0, .int .u16 n1, .int .u16 n2, .int .u64 n3, .string d], .agg #[.int .i64 0, .int .u16 0, .int .u16 0, .int .u64 0, .string ⟨#[]⟩], .bool true, .pointer (some ⟨H, 4, none⟩), .string d, .int .i64 (d.size : Int), .bool false, .bool false, .bool true, .bool true, .agg #[.int .u32 m0, .int .u32 m1, .int .u32 m2, .int .u32 m3, .int .u32 m4, .int .u32 m5], .agg #[.int .u32 0, .int .u32 0, .int .u32 0, .int .u32 0, .int .u32 0, .int .u32 0], .bool false, .bool false, .bool false, undef, .pointer (some ⟨H, 4, none⟩), .string d, .int .i64 (d.size : Int), .int .u32 (d.size : Int), .pointer (some ⟨H, 0, none⟩), .int .i64 n0, .pointer (some ⟨H, 1, none⟩), .int .u16 n1, .pointer (some ⟨H, 2, none⟩), .int .u16 n2, .int .u32 (d.size : Int), .pointer (some ⟨H, 3, none⟩), .int .u64 n3, .int .u32 (d.size : Int), .int .i64 dp, .agg #[.int .u32 m0, .int .u32 m1, .int .u32 m2, .int .u32 m3, .int .u32 m4, .int .u32 m5], .agg #[.int .i64 n0, .int .u16 n1, .int .u16 n2, .int .u32 (d.size : Int), .int .u64 n3, .int .i64 dp, .int .u32 m0, .int .u32 m1, .int .u32 m2, .int .u32 m3, .int .u32 m4, .int .u32 m5], undef, undef, undef, undef, undef, undef, undef, undef, undef, undef, undef, undef, undef, undef], defers := [] } ∧ W'.heap[H]? = some (.cells #[.int .i64 n0, .int .u16 n1, .int .u16 n2, .int .u64 n3, .string d] 35 (0, 0)) ∧ W'.heap[H + 2]? = some (.cells #[.int .i64 0, .int .u16 0, .int .u16 0, .int .u32 0, .int .u64 0, .int .i64 0, .int .u32 0, .int .u32 0, .int .u32 0, .int .u32 0, .int .u32 0, .int .u32 0] 42 (0, 0)) ∧ W'.heap[H + 3]? = some (.cells #[.int .i64 n0, .int .u16 n1, .int .u16 n2, .int .u32 (d.size : Int), .int .u64 n3, .int .i64 dp, .int .u32 m0, .int .u32 m1, .int .u32 m2, .int .u32 m3, .int .u32 m4, .int .u32 m5] 42 (0, 0)) ∧ Below H w W') ?post ?_
 case post => 
  rintro e a' W7 ⟨rfl, rfl, hn7, hz3, hx7, hb7⟩
  clear hn hm hz hs hb W0 HD
  obtain ⟨g0, g1, g2, g3, g4, g5, g6, g7, g8, g9, g10, g11⟩ := ino_cells hx7
  go_wp2_with fail
  refine (inode_Right.calls _ _ _ _ _ _ _ _ _ _ _ _ r W7 HR.out).mono ?_
  rintro e w8 ⟨rfl, hb8⟩
  have hl7 := (Array.getElem?_eq_some_iff.1 hx7).1
  have hz8 := (hb8.block (H + 2) (by omega)).trans hz3
  have hx8 := (hb8.block (H + 3) (by omega)).trans hx7
  have hB8 : Below H w w8 := hb7.trans (hb8.mono (by omega))
  clear g0 g1 g2 g3 g4 g5 g6 g7 g8 g9 g10 g11 hn7 hz3 hx7 hb7 hb8 hl7
  obtain ⟨z0, z1, z2, z3, z4, z5, z6, z7, z8, z9, z10, z11⟩ := ino_cells hz8
  have f0 := ino_free hz8 0
  have f1 := ino_free hz8 1
  have f2 := ino_free hz8 2
  have f3 := ino_free hz8 3
  have f4 := ino_free hz8 4
  have f5 := ino_free hz8 5
  have f6 := ino_free hz8 6
  have f7 := ino_free hz8 7
  have f8 := ino_free hz8 8
  have f9 := ino_free hz8 9
  have f10 := ino_free hz8 10
  have f11 := ino_free hz8 11
  obtain ⟨g0, g1, g2, g3, g4, g5, g6, g7, g8, g9, g10, g11⟩ := ino_cells hx8
  cases r with
  | false =>
   go_wp2
   refine bodyPost_ret (results_ct rfl _ _ (H + 2) 42 #[.int .i64 0, .int .u16 0, .int .u16 0, .int .u32 0, .int .u64 0, .int .i64 0, .int .u32 0, .int .u32 0, .int .u32 0, .int .u32 0, .int .u32 0, .int .u32 0] (0, 0) _ rfl (set12_cells hz8 _ _ _ _ _ _ _ _ _ _ _ _) Try.underlying42 rfl (by kernel_rfl)) rfl ?_
   refine ⟨?_, set12_below hB8 (by omega) _ _ _ _ _ _ _ _ _ _ _ _⟩
   first | rfl | (rw [if_neg (by decide)]; rfl)
  | true =>
   go_wp2
   refine bodyPost_ret (results_ct rfl _ _ (H + 2) 42 #[.int .i64 n0, .int .u16 n1, .int .u16 n2, .int .u32 (d.size : Int), .int .u64 n3, .int .i64 dp, .int .u32 m0, .int .u32 m1, .int .u32 m2, .int .u32 m3, .int .u32 m4, .int .u32 m5] (0, 0) _ rfl (set12_cells hz8 _ _ _ _ _ _ _ _ _ _ _ _) Try.underlying42 rfl (by kernel_rfl)) rfl ?_
   refine ⟨?_, set12_below hB8 (by omega) _ _ _ _ _ _ _ _ _ _ _ _⟩
   first | rfl | (rw [if_pos rfl]; rfl)
 refine wp_region_held (S := fun W => W.heap[H]? = some (.cells #[.int .i64 n0, .int .u16 n1, .int .u16 n2, .int .u64 n3, .string d] 35 (0, 0)) ∧ W.heap[H + 1]? = some (.cells #[.int .u32 m0, .int .u32 m1, .int .u32 m2, .int .u32 m3, .int .u32 m4, .int .u32 m5] 40 (0, 0))) (by kernel_rfl) ?_
 have hPN : (W0.drew.heap[H]? = some (.cells #[.int .i64 n0, .int .u16 n1, .int .u16 n2, .int .u64 n3, .string d] 35 (0, 0)) ∧ W0.drew.heap[H + 1]? = some (.cells #[.int .u32 m0, .int .u32 m1, .int .u32 m2, .int .u32 m3, .int .u32 m4, .int .u32 m5] 40 (0, 0))) ∧ W0.drew.heap[H + 2]? = some (.cells #[.int .i64 0, .int .u16 0, .int .u16 0, .int .u32 0, .int .u64 0, .int .i64 0, .int .u32 0, .int .u32 0, .int .u32 0, .int .u32 0, .int .u32 0, .int .u32 0] 42 (0, 0)) ∧ W0.drew.heap.size = H + 3 ∧ Below H w W0.drew := ⟨⟨hn, hm⟩, hz, hs, pw_below_drewN hb 1⟩
 change wpAnyH _ _ _ _ _ 15 #[false, false, false, false, false, false, false, false, false, false, false, false, false, false, false] _ W0.drew
 clear hn hm hz hs hb
 generalize W0.drew = W1 at hPN ⊢
 obtain ⟨hS, hz, hs, hb⟩ := hPN
 refine takeH 0 (l' := #[true, false, false, false, false, false, false, false, false, false, false, false, false, false, false]) (v := .pointer (some ⟨H, 0, none⟩)) rfl (by kernel_rfl) (by kernel_rfl) (by kernel_rfl) (fun _ _ _ h => by cases h.1) (by kernel_rfl) (fun _ _ => by go_simp) hS (by show Act.put _ (some 29) _ = _; simp only [Act.put, List.setIfInBounds_toArray, List.set_cons_zero, List.set_cons_succ]; try rfl) (by kernel_rfl) ?_
 refine takeH 1 (l' := #[true, true, false, false, false, false, false, false, false, false, false, false, false, false, false]) (v := .int .i64 n0) rfl (by kernel_rfl) (by kernel_rfl) (by kernel_rfl) (fun _ _ _ h => by cases h.1) (by kernel_rfl) (fun W hS => by have c := (show W.cell? ⟨H, 0, none⟩ = some (.int .i64 n0) by rw [Lib.cell_of_heap hS.1]; rfl); go_simp) hS (by show Act.put _ (some 30) _ = _; simp only [Act.put, List.setIfInBounds_toArray, List.set_cons_zero, List.set_cons_succ]; try rfl) (by kernel_rfl) ?_
 refine takeH 2 (l' := #[true, true, true, false, false, false, false, false, false, false, false, false, false, false, false]) (v := .pointer (some ⟨H, 1, none⟩)) rfl (by kernel_rfl) (by kernel_rfl) (by kernel_rfl) (fun _ _ _ h => by cases h.1) (by kernel_rfl) (fun _ _ => by go_simp) hS (by show Act.put _ (some 31) _ = _; simp only [Act.put, List.setIfInBounds_toArray, List.set_cons_zero, List.set_cons_succ]; try rfl) (by kernel_rfl) ?_
 refine takeH 3 (l' := #[true, true, true, true, false, false, false, false, false, false, false, false, false, false, false]) (v := .int .u16 n1) rfl (by kernel_rfl) (by kernel_rfl) (by kernel_rfl) (fun _ _ _ h => by cases h.1) (by kernel_rfl) (fun W hS => by have c := (show W.cell? ⟨H, 1, none⟩ = some (.int .u16 n1) by rw [Lib.cell_of_heap hS.1]; rfl); go_simp) hS (by show Act.put _ (some 32) _ = _; simp only [Act.put, List.setIfInBounds_toArray, List.set_cons_zero, List.set_cons_succ]; try rfl) (by kernel_rfl) ?_
 refine takeH 4 (l' := #[true, true, true, true, true, false, false, false, false, false, false, false, false, false, false]) (v := .pointer (some ⟨H, 2, none⟩)) rfl (by kernel_rfl) (by kernel_rfl) (by kernel_rfl) (fun _ _ _ h => by cases h.1) (by kernel_rfl) (fun _ _ => by go_simp) hS (by show Act.put _ (some 33) _ = _; simp only [Act.put, List.setIfInBounds_toArray, List.set_cons_zero, List.set_cons_succ]; try rfl) (by kernel_rfl) ?_
 refine takeH 5 (l' := #[true, true, true, true, true, true, false, false, false, false, false, false, false, false, false]) (v := .int .u16 n2) rfl (by kernel_rfl) (by kernel_rfl) (by kernel_rfl) (fun _ _ _ h => by cases h.1) (by kernel_rfl) (fun W hS => by have c := (show W.cell? ⟨H, 2, none⟩ = some (.int .u16 n2) by rw [Lib.cell_of_heap hS.1]; rfl); go_simp) hS (by show Act.put _ (some 34) _ = _; simp only [Act.put, List.setIfInBounds_toArray, List.set_cons_zero, List.set_cons_succ]; try rfl) (by kernel_rfl) ?_
 refine takeH 6 (l' := #[true, true, true, true, true, true, true, false, false, false, false, false, false, false, false]) (v := .int .u32 (d.size : Int)) rfl (by kernel_rfl) (by kernel_rfl) (by kernel_rfl) (fun _ _ _ h => by cases h.1) (by kernel_rfl) (fun _ _ => by go_simp) hS (by show Act.put _ (some 35) _ = _; simp only [Act.put, List.setIfInBounds_toArray, List.set_cons_zero, List.set_cons_succ]; try rfl) (by kernel_rfl) ?_
 refine takeH 7 (l' := #[true, true, true, true, true, true, true, true, false, false, false, false, false, false, false]) (v := .pointer (some ⟨H, 3, none⟩)) rfl (by kernel_rfl) (by kernel_rfl) (by kernel_rfl) (fun _ _ _ h => by cases h.1) (by kernel_rfl) (fun _ _ => by go_simp) hS (by show Act.put _ (some 36) _ = _; simp only [Act.put, List.setIfInBounds_toArray, List.set_cons_zero, List.set_cons_succ]; try rfl) (by kernel_rfl) ?_
 refine takeH 8 (l' := #[true, true, true, true, true, true, true, true, true, false, false, false, false, false, false]) (v := .int .u64 n3) rfl (by kernel_rfl) (by kernel_rfl) (by kernel_rfl) (fun _ _ _ h => by cases h.1) (by kernel_rfl) (fun W hS => by have c := (show W.cell? ⟨H, 3, none⟩ = some (.int .u64 n3) by rw [Lib.cell_of_heap hS.1]; rfl); go_simp) hS (by show Act.put _ (some 37) _ = _; simp only [Act.put, List.setIfInBounds_toArray, List.set_cons_zero, List.set_cons_succ]; try rfl) (by kernel_rfl) ?_
 refine takeH 9 (l' := #[true, true, true, true, true, true, true, true, true, true, false, false, false, false, false]) (v := .int .u32 (d.size : Int)) rfl (by kernel_rfl) (by kernel_rfl) (by kernel_rfl) (fun _ _ _ h => by cases h.1) (by kernel_rfl) (fun _ _ => by go_simp) hS (by show Act.put _ (some 38) _ = _; simp only [Act.put, List.setIfInBounds_toArray, List.set_cons_zero, List.set_cons_succ]; try rfl) (by kernel_rfl) ?_
 refine takeH 11 (l' := #[true, true, true, true, true, true, true, true, true, true, false, true, false, false, false]) (v := .agg #[.int .u32 m0, .int .u32 m1, .int .u32 m2, .int .u32 m3, .int .u32 m4, .int .u32 m5]) rfl (by kernel_rfl) (by kernel_rfl) (by kernel_rfl) (fun _ _ _ h => by cases h.1) (by kernel_rfl) (fun W hS => by have c0 := six_cell hS.2 0 (by omega); have c1 := six_cell hS.2 1 (by omega); have c2 := six_cell hS.2 2 (by omega); have c3 := six_cell hS.2 3 (by omega); have c4 := six_cell hS.2 4 (by omega); have c5 := six_cell hS.2 5 (by omega); simp only [List.getD_cons_zero, List.getD_cons_succ] at c0 c1 c2 c3 c4 c5; go_simp) hS (by show Act.put _ (some 40) _ = _; simp only [Act.put, List.setIfInBounds_toArray, List.set_cons_zero, List.set_cons_succ]; try rfl) (by kernel_rfl) ?_
 refine allH (rs := [10, 13]) (by kernel_rfl) (by decide) (enterH 10 39 (l' := #[true, true, true, true, true, true, true, true, true, true, true, true, false, false, false]) (f := 34) (args := #[.int .u32 (d.size : Int)]) rfl rfl (by kernel_rfl) (by go_simp) (inode_Depth.calls (d.size : Int) dp W1 HD.out) (by kernel_rfl) ?_ (readyH 13 (l' := #[true, true, true, true, true, true, true, true, true, true, false, true, false, true, false]) (v := .pointer (some ⟨H + 3, 0, none⟩)) (w1 := W1.alloc (.cells #[.int .i64 0, .int .u16 0, .int .u16 0, .int .u32 0, .int .u64 0, .int .i64 0, .int .u32 0, .int .u32 0, .int .u32 0, .int .u32 0, .int .u32 0, .int .u32 0] 42)) rfl (by kernel_rfl) (by go_simp; try (rw [hs]; try rfl)) (by show Act.put _ (some 8) _ = _; simp only [Act.put, List.setIfInBounds_toArray, List.set_cons_zero, List.set_cons_succ]; try rfl) (by kernel_rfl) ⟨(Below.heap_alloc _ _ _ (by omega)).trans hS.1, (Below.heap_alloc _ _ _ (by omega)).trans hS.2⟩ ?_ AllH.nil))
 ·rintro e W2 ⟨rfl, hD⟩
  have e2 := vdrawn_heap hD
  have hS2 : W2.heap[H]? = some (.cells #[.int .i64 n0, .int .u16 n1, .int .u16 n2, .int .u64 n3, .string d] 35 (0, 0)) ∧ W2.heap[H + 1]? = some (.cells #[.int .u32 m0, .int .u32 m1, .int .u32 m2, .int .u32 m3, .int .u32 m4, .int .u32 m5] 40 (0, 0)) := ⟨by rw [e2]; exact hS.1, by rw [e2]; exact hS.2⟩
  have hs2 : W2.heap.size = H + 3 := by rw [e2]; exact hs
  have hz2 : W2.heap[H + 2]? = some (.cells #[.int .i64 0, .int .u16 0, .int .u16 0, .int .u32 0, .int .u64 0, .int .i64 0, .int .u32 0, .int .u32 0, .int .u32 0, .int .u32 0, .int .u32 0, .int .u32 0] 42 (0, 0)) := by rw [e2]; exact hz
  have hb2 : Below H w W2 := hb.trans (hD.below.mono (by omega))
  refine ⟨_, rfl, hS2, _, (by show Act.put _ (some 39) _ = _; simp only [Act.put, List.setIfInBounds_toArray, List.set_cons_zero, List.set_cons_succ]; try rfl), ?_⟩
  refine takeH 12 (l' := #[true, true, true, true, true, true, true, true, true, true, true, true, true, false, false]) (v := .agg #[.int .i64 n0, .int .u16 n1, .int .u16 n2, .int .u32 (d.size : Int), .int .u64 n3, .int .i64 dp, .int .u32 m0, .int .u32 m1, .int .u32 m2, .int .u32 m3, .int .u32 m4, .int .u32 m5]) rfl (by kernel_rfl) (by kernel_rfl) (by kernel_rfl) (fun _ _ _ h => by cases h.1) (by kernel_rfl) (fun _ _ => by go_simp; first | done | rfl) hS2 (by show Act.put _ (some 41) _ = _; simp only [Act.put, List.setIfInBounds_toArray, List.set_cons_zero, List.set_cons_succ]; try rfl) (by kernel_rfl) ?_
  refine allH (rs := [13]) (by kernel_rfl) (by decide) (readyH 13 (l' := #[true, true, true, true, true, true, true, true, true, true, true, true, true, true, false]) (v := .pointer (some ⟨H + 3, 0, none⟩)) (w1 := W2.alloc (.cells #[.int .i64 0, .int .u16 0, .int .u16 0, .int .u32 0, .int .u64 0, .int .i64 0, .int .u32 0, .int .u32 0, .int .u32 0, .int .u32 0, .int .u32 0, .int .u32 0] 42)) rfl (by kernel_rfl) (by go_simp; try (rw [hs2]; try rfl)) (by show Act.put _ (some 8) _ = _; simp only [Act.put, List.setIfInBounds_toArray, List.set_cons_zero, List.set_cons_succ]; try rfl) (by kernel_rfl) ⟨(Below.heap_alloc _ _ _ (by omega)).trans hS2.1, (Below.heap_alloc _ _ _ (by omega)).trans hS2.2⟩ ?_ AllH.nil)
  have hx : (W2.alloc (.cells #[.int .i64 0, .int .u16 0, .int .u16 0, .int .u32 0, .int .u64 0, .int .i64 0, .int .u32 0, .int .u32 0, .int .u32 0, .int .u32 0, .int .u32 0, .int .u32 0] 42)).heap[H + 3]? = some (.cells #[.int .i64 0, .int .u16 0, .int .u16 0, .int .u32 0, .int .u64 0, .int .i64 0, .int .u32 0, .int .u32 0, .int .u32 0, .int .u32 0, .int .u32 0, .int .u32 0] 42 (0, 0)) := by rw [← hs2]; exact World.alloc_heap_new W2 _
  have hz3 : (W2.alloc (.cells #[.int .i64 0, .int .u16 0, .int .u16 0, .int .u32 0, .int .u64 0, .int .i64 0, .int .u32 0, .int .u32 0, .int .u32 0, .int .u32 0, .int .u32 0, .int .u32 0] 42)).heap[H + 2]? = some (.cells #[.int .i64 0, .int .u16 0, .int .u16 0, .int .u32 0, .int .u64 0, .int .i64 0, .int .u32 0, .int .u32 0, .int .u32 0, .int .u32 0, .int .u32 0, .int .u32 0] 42 (0, 0)) := (Below.heap_alloc _ _ _ (by omega)).trans hz2
  have hS3 : (W2.alloc (.cells #[.int .i64 0, .int .u16 0, .int .u16 0, .int .u32 0, .int .u64 0, .int .i64 0, .int .u32 0, .int .u32 0, .int .u32 0, .int .u32 0, .int .u32 0, .int .u32 0] 42)).heap[H]? = some (.cells #[.int .i64 n0, .int .u16 n1, .int .u16 n2, .int .u64 n3, .string d] 35 (0, 0)) ∧ (W2.alloc (.cells #[.int .i64 0, .int .u16 0, .int .u16 0, .int .u32 0, .int .u64 0, .int .i64 0, .int .u32 0, .int .u32 0, .int .u32 0, .int .u32 0, .int .u32 0, .int .u32 0] 42)).heap[H + 1]? = some (.cells #[.int .u32 m0, .int .u32 m1, .int .u32 m2, .int .u32 m3, .int .u32 m4, .int .u32 m5] 40 (0, 0)) := ⟨(Below.heap_alloc _ _ _ (by omega)).trans hS2.1, (Below.heap_alloc _ _ _ (by omega)).trans hS2.2⟩
  have hb3 : Below H w (W2.alloc (.cells #[.int .i64 0, .int .u16 0, .int .u16 0, .int .u32 0, .int .u64 0, .int .i64 0, .int .u32 0, .int .u32 0, .int .u32 0, .int .u32 0, .int .u32 0, .int .u32 0] 42)) := hb2.alloc (by omega) _
  generalize W2.alloc (.cells #[.int .i64 0, .int .u16 0, .int .u16 0, .int .u32 0, .int .u64 0, .int .i64 0, .int .u32 0, .int .u32 0, .int .u32 0, .int .u32 0, .int .u32 0, .int .u32 0] 42) = W3 at hx hz3 hS3 hb3 ⊢
  obtain ⟨z0, z1, z2, z3, z4, z5, z6, z7, z8, z9, z10, z11⟩ := ino_cells hx
  have f0 := ino_free hx 0
  have f1 := ino_free hx 1
  have f2 := ino_free hx 2
  have f3 := ino_free hx 3
  have f4 := ino_free hx 4
  have f5 := ino_free hx 5
  have f6 := ino_free hx 6
  have f7 := ino_free hx 7
  have f8 := ino_free hx 8
  have f9 := ino_free hx 9
  have f10 := ino_free hx 10
  have f11 := ino_free hx 11
  refine allH (rs := [14]) (by kernel_rfl) (by decide) (skipH 14 (l' := #[true, true, true, true, true, true, true, true, true, true, true, true, true, true, true]) (w1 := set12 W3 (H + 3) (.int .i64 n0) (.int .u16 n1) (.int .u16 n2) (.int .u32 (d.size : Int)) (.int .u64 n3) (.int .i64 dp) (.int .u32 m0) (.int .u32 m1) (.int .u32 m2) (.int .u32 m3) (.int .u32 m4) (.int .u32 m5)) rfl (by kernel_rfl) (by go_simp; first | done | rfl) (by rfl) (by kernel_rfl) ⟨by rw [set12_other _ _ _ (by omega)]; exact hS3.1, by rw [set12_other _ _ _ (by omega)]; exact hS3.2⟩ ?_ AllH.nil)
  exact wpAnyH_done (by kernel_rfl) ⟨rfl, rfl, by rw [set12_other _ _ _ (by omega)]; exact hS3.1, by rw [set12_other _ _ _ (by omega)]; exact hz3, set12_cells hx _ _ _ _ _ _ _ _ _ _ _ _, set12_below hb3 (by omega) _ _ _ _ _ _ _ _ _ _ _ _⟩ _
 ·have hx1 : (W1.alloc (.cells #[.int .i64 0, .int .u16 0, .int .u16 0, .int .u32 0, .int .u64 0, .int .i64 0, .int .u32 0, .int .u32 0, .int .u32 0, .int .u32 0, .int .u32 0, .int .u32 0] 42)).heap[H + 3]? = some (.cells #[.int .i64 0, .int .u16 0, .int .u16 0, .int .u32 0, .int .u64 0, .int .i64 0, .int .u32 0, .int .u32 0, .int .u32 0, .int .u32 0, .int .u32 0, .int .u32 0] 42 (0, 0)) := by rw [← hs]; exact World.alloc_heap_new W1 _
  have hz1 : (W1.alloc (.cells #[.int .i64 0, .int .u16 0, .int .u16 0, .int .u32 0, .int .u64 0, .int .i64 0, .int .u32 0, .int .u32 0, .int .u32 0, .int .u32 0, .int .u32 0, .int .u32 0] 42)).heap[H + 2]? = some (.cells #[.int .i64 0, .int .u16 0, .int .u16 0, .int .u32 0, .int .u64 0, .int .i64 0, .int .u32 0, .int .u32 0, .int .u32 0, .int .u32 0, .int .u32 0, .int .u32 0] 42 (0, 0)) := (Below.heap_alloc _ _ _ (by omega)).trans hz
  have hS1 : (W1.alloc (.cells #[.int .i64 0, .int .u16 0, .int .u16 0, .int .u32 0, .int .u64 0, .int .i64 0, .int .u32 0, .int .u32 0, .int .u32 0, .int .u32 0, .int .u32 0, .int .u32 0] 42)).heap[H]? = some (.cells #[.int .i64 n0, .int .u16 n1, .int .u16 n2, .int .u64 n3, .string d] 35 (0, 0)) ∧ (W1.alloc (.cells #[.int .i64 0, .int .u16 0, .int .u16 0, .int .u32 0, .int .u64 0, .int .i64 0, .int .u32 0, .int .u32 0, .int .u32 0, .int .u32 0, .int .u32 0, .int .u32 0] 42)).heap[H + 1]? = some (.cells #[.int .u32 m0, .int .u32 m1, .int .u32 m2, .int .u32 m3, .int .u32 m4, .int .u32 m5] 40 (0, 0)) := ⟨(Below.heap_alloc _ _ _ (by omega)).trans hS.1, (Below.heap_alloc _ _ _ (by omega)).trans hS.2⟩
  have hb1 : Below H w (W1.alloc (.cells #[.int .i64 0, .int .u16 0, .int .u16 0, .int .u32 0, .int .u64 0, .int .i64 0, .int .u32 0, .int .u32 0, .int .u32 0, .int .u32 0, .int .u32 0, .int .u32 0] 42)) := hb.alloc (by omega) _
  generalize W1.alloc (.cells #[.int .i64 0, .int .u16 0, .int .u16 0, .int .u32 0, .int .u64 0, .int .i64 0, .int .u32 0, .int .u32 0, .int .u32 0, .int .u32 0, .int .u32 0, .int .u32 0] 42) = W5 at hx1 hz1 hS1 hb1 ⊢
  refine allH (rs := [10]) (by kernel_rfl) (by decide) (enterH 10 39 (l' := #[true, true, true, true, true, true, true, true, true, true, true, true, false, true, false]) (f := 34) (args := #[.int .u32 (d.size : Int)]) rfl rfl (by kernel_rfl) (by go_simp) (inode_Depth.calls (d.size : Int) dp W5 HD.out) (by kernel_rfl) ?_ AllH.nil)
  rintro e W3 ⟨rfl, hD⟩
  have e2 := vdrawn_heap hD
  have hS3 : W3.heap[H]? = some (.cells #[.int .i64 n0, .int .u16 n1, .int .u16 n2, .int .u64 n3, .string d] 35 (0, 0)) ∧ W3.heap[H + 1]? = some (.cells #[.int .u32 m0, .int .u32 m1, .int .u32 m2, .int .u32 m3, .int .u32 m4, .int .u32 m5] 40 (0, 0)) := ⟨by rw [e2]; exact hS1.1, by rw [e2]; exact hS1.2⟩
  have hS2 := hS3
  have hx : W3.heap[H + 3]? = some (.cells #[.int .i64 0, .int .u16 0, .int .u16 0, .int .u32 0, .int .u64 0, .int .i64 0, .int .u32 0, .int .u32 0, .int .u32 0, .int .u32 0, .int .u32 0, .int .u32 0] 42 (0, 0)) := by rw [e2]; exact hx1
  have hz3 : W3.heap[H + 2]? = some (.cells #[.int .i64 0, .int .u16 0, .int .u16 0, .int .u32 0, .int .u64 0, .int .i64 0, .int .u32 0, .int .u32 0, .int .u32 0, .int .u32 0, .int .u32 0, .int .u32 0] 42 (0, 0)) := by rw [e2]; exact hz1
  have hb3 : Below H w W3 := hb1.trans (hD.below.mono (by have := (Array.getElem?_eq_some_iff.1 hx1).1; omega))
  refine ⟨_, rfl, hS3, _, (by show Act.put _ (some 39) _ = _; simp only [Act.put, List.setIfInBounds_toArray, List.set_cons_zero, List.set_cons_succ]; try rfl), ?_⟩
  refine takeH 12 (l' := #[true, true, true, true, true, true, true, true, true, true, true, true, true, true, false]) (v := .agg #[.int .i64 n0, .int .u16 n1, .int .u16 n2, .int .u32 (d.size : Int), .int .u64 n3, .int .i64 dp, .int .u32 m0, .int .u32 m1, .int .u32 m2, .int .u32 m3, .int .u32 m4, .int .u32 m5]) rfl (by kernel_rfl) (by kernel_rfl) (by kernel_rfl) (fun _ _ _ h => by cases h.1) (by kernel_rfl) (fun _ _ => by go_simp; first | done | rfl) hS2 (by show Act.put _ (some 41) _ = _; simp only [Act.put, List.setIfInBounds_toArray, List.set_cons_zero, List.set_cons_succ]; try rfl) (by kernel_rfl) ?_
  obtain ⟨z0, z1, z2, z3, z4, z5, z6, z7, z8, z9, z10, z11⟩ := ino_cells hx
  have f0 := ino_free hx 0
  have f1 := ino_free hx 1
  have f2 := ino_free hx 2
  have f3 := ino_free hx 3
  have f4 := ino_free hx 4
  have f5 := ino_free hx 5
  have f6 := ino_free hx 6
  have f7 := ino_free hx 7
  have f8 := ino_free hx 8
  have f9 := ino_free hx 9
  have f10 := ino_free hx 10
  have f11 := ino_free hx 11
  refine allH (rs := [14]) (by kernel_rfl) (by decide) (skipH 14 (l' := #[true, true, true, true, true, true, true, true, true, true, true, true, true, true, true]) (w1 := set12 W3 (H + 3) (.int .i64 n0) (.int .u16 n1) (.int .u16 n2) (.int .u32 (d.size : Int)) (.int .u64 n3) (.int .i64 dp) (.int .u32 m0) (.int .u32 m1) (.int .u32 m2) (.int .u32 m3) (.int .u32 m4) (.int .u32 m5)) rfl (by kernel_rfl) (by go_simp; first | done | rfl) (by rfl) (by kernel_rfl) ⟨by rw [set12_other _ _ _ (by omega)]; exact hS3.1, by rw [set12_other _ _ _ (by omega)]; exact hS3.2⟩ ?_ AllH.nil)
  exact wpAnyH_done (by kernel_rfl) ⟨rfl, rfl, by rw [set12_other _ _ _ (by omega)]; exact hS3.1, by rw [set12_other _ _ _ (by omega)]; exact hz3, set12_cells hx _ _ _ _ _ _ _ _ _ _ _ _, set12_below hb3 (by omega) _ _ _ _ _ _ _ _ _ _ _ _⟩ _
def vol_Inode.f (n0 n1 n2 n3 : Int) (d : ByteArray) (m0 m1 m2 m3 m4 m5 : Int) : Option (Int × Int × Int × Int × Int × Int × Int × Int × Int × Int × Int × Int × Int) :=
 if d.size > 8193532 then some (0, 0, 0, 0, 0, 0, 0, 0, 0, 0, 0, 0, 154) else if (n0 == 0 && (n1 == 0 && (n2 == 0 && (n3 == 0 && (d.toList == ([] : List UInt8)))))) = true ∧ (m0 == 0 && (m1 == 0 && (m2 == 0 && (m3 == 0 && (m4 == 0 && (m5 == 0)))))) = false then some (0, 0, 0, 0, 0, 0, 0, 0, 0, 0, 0, 0, 154) else
  (inode_Depth.f (d.size : Int)).bind fun dp => (inode_Right.f n0 n1 n2 d.size n3 dp m0 m1 m2 m3 m4 m5).bind fun r => if r = true then (if (n0 == 0 && (n1 == 0 && (n2 == 0 && (n3 == 0 && (d.toList == ([] : List UInt8)))))) = false ∧ (n0 == 0 && (n1 == 0 && (n2 == 0 && ((d.size : Int) == 0 && (n3 == 0 && (dp == 0 && ((m0 == 0 && (m1 == 0 && (m2 == 0 && (m3 == 0 && (m4 == 0 && (m5 == 0))))))))))))) = true then some (0, 0, 0, 0, 0, 0, 0, 0, 0, 0, 0, 0, 154) else some (n0, n1, n2, d.size, n3, dp, m0, m1, m2, m3, m4, m5, 0)) else some (0, 0, 0, 0, 0, 0, 0, 0, 0, 0, 0, 0, 154)
theorem vol_Inode.calls (n0 n1 n2 n3 : Int) (d : ByteArray) (m0 m1 m2 m3 m4 m5 : Int) (r1 r2 r3 r4 r5 r6 r7 r8 r9 r10 r11 r12 r13 : Int) (w : World) (h : vol_Inode.f n0 n1 n2 n3 d m0 m1 m2 m3 m4 m5 = some (r1, r2, r3, r4, r5, r6, r7, r8, r9, r10, r11, r12, r13)) :
  Calls Try.prog 17 #[.agg #[.int .i64 n0, .int .u16 n1, .int .u16 n2, .int .u64 n3, .string d], .agg #[.int .u32 m0, .int .u32 m1, .int .u32 m2, .int .u32 m3, .int .u32 m4, .int .u32 m5]] w fun e w' => e = .returned (.tuple #[.agg #[.int .i64 r1, .int .u16 r2, .int .u16 r3, .int .u32 r4, .int .u64 r5, .int .i64 r6, .int .u32 r7, .int .u32 r8, .int .u32 r9, .int .u32 r10, .int .u32 r11, .int .u32 r12], .int .i64 r13]) ∧ Below w.heap.size w w' := by
 unfold vol_Inode.f at h
 by_cases hsz : d.size > 8193532
 ·rw [if_pos hsz] at h; cases h; exact vin_big n0 n1 n2 n3 d m0 m1 m2 m3 m4 m5 w hsz
 ·rw [if_neg hsz] at h
  by_cases hm : (n0 == 0 && (n1 == 0 && (n2 == 0 && (n3 == 0 && (d.toList == ([] : List UInt8)))))) = true ∧ (m0 == 0 && (m1 == 0 && (m2 == 0 && (m3 == 0 && (m4 == 0 && (m5 == 0)))))) = false
  ·rw [if_pos hm] at h; cases h; exact vin_map n0 n1 n2 n3 d m0 m1 m2 m3 m4 m5 w hsz hm.1 hm.2
  ·rw [if_neg hm] at h
   obtain ⟨dp, hd, h⟩ := Option.bind_eq_some_iff.mp h
   obtain ⟨r, hr, h⟩ := Option.bind_eq_some_iff.mp h
   by_cases c0 : (n0 == 0 && (n1 == 0 && (n2 == 0 && (n3 == 0 && (d.toList == ([] : List UInt8)))))) = true
   ·have c1 : (m0 == 0 && (m1 == 0 && (m2 == 0 && (m3 == 0 && (m4 == 0 && (m5 == 0)))))) = true := by
     cases hq : (m0 == 0 && (m1 == 0 && (m2 == 0 && (m3 == 0 && (m4 == 0 && (m5 == 0)))))) with
     | true => rfl
     | false => exact absurd ⟨c0, hq⟩ hm
    refine (vin_mainT n0 n1 n2 n3 dp d m0 m1 m2 m3 m4 m5 r w hsz c0 c1 hd hr).mono fun e w' he => ?_
    by_cases hrr : r = true
    ·rw [if_pos hrr] at h he
     rw [if_neg (fun q => by rw [c0] at q; cases q.1)] at h
     cases h; exact he
    ·rw [if_neg hrr] at h he; cases h; exact he
   ·have c0' : (n0 == 0 && (n1 == 0 && (n2 == 0 && (n3 == 0 && (d.toList == ([] : List UInt8)))))) = false := by simpa using c0
    refine (vin_mainF n0 n1 n2 n3 dp d m0 m1 m2 m3 m4 m5 r w hsz c0' hd hr).mono fun e w' he => ?_
    by_cases hrr : r = true
    ·rw [if_pos hrr] at h he
     by_cases hx : (n0 == 0 && (n1 == 0 && (n2 == 0 && ((d.size : Int) == 0 && (n3 == 0 && (dp == 0 && ((m0 == 0 && (m1 == 0 && (m2 == 0 && (m3 == 0 && (m4 == 0 && (m5 == 0))))))))))))) = true
     ·rw [if_pos hx] at he
      rw [if_pos ⟨c0', hx⟩] at h
      cases h; exact he
     ·rw [if_neg hx] at he
      rw [if_neg (fun q => hx q.2)] at h
      cases h; exact he
    ·rw [if_neg hrr] at h he; cases h; exact he
end Go.Proofs.Ytpcokafalmafgaa.Q
