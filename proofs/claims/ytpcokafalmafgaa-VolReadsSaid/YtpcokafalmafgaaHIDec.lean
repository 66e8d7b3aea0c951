/- inode.Decode: the inode of bytes. -/
import Derived.Test.YtpcokafalmafgaaQ9
import Derived.Test.YtpcokafalmafgaaHIEnc
import Derived.Test.YtpcokafalmafgaaHIRgt
import Derived.Test.YtpcokafalmafgaaPNum
import Derived.Lib.QuietBelow
import Derived.Laws.CopyOwn
set_option linter.unusedVariables false
set_option linter.unusedSimpArgs false
namespace Go.Proofs.Ytpcokafalmafgaa.Q
open Go.RowKit Go.Shelf Go.Sort Go.Proofs.Ytpcokafalmafgaa.H Go.Proofs.YtpcokafalmafgaaW.PrintWords Go.Proofs.YtpcokafalmafgaaW.PrintLast Go.Proofs.YtpcokafalmafgaaW.PrintMore
attribute [local go_sem] Oper.semAt_some
set_option maxRecDepth 100000

/-- The numbers of an inode, as bytes have them. -/
def inoN (b : ByteArray) : Nat → Int
 | 0 => P.valB b 0 1
 | 1 => P.valB b 1 2
 | 2 => P.valB b 3 2
 | 3 => P.valB b 5 4
 | 4 => P.valB b 9 6
 | 5 => P.valB b 15 1
 | j + 6 => P.valB b (16 + 4 * j) 4
def inode_Decode.f (b : ByteArray) : Option (Int × Int × Int × Int × Int × Int × Int × Int × Int × Int × Int × Int × Int) :=
 if b.size = 42 then (inode_Encode.f (inoN b 0) (inoN b 1) (inoN b 2) (inoN b 3) (inoN b 4) (inoN b 5) (inoN b 6) (inoN b 7) (inoN b 8) (inoN b 9) (inoN b 10) (inoN b 11)).bind fun e => if e.2 = 0 then (if e.1 = b then some (inoN b 0, inoN b 1, inoN b 2, inoN b 3, inoN b 4, inoN b 5, inoN b 6, inoN b 7, inoN b 8, inoN b 9, inoN b 10, inoN b 11, 0) else some (0, 0, 0, 0, 0, 0, 0, 0, 0, 0, 0, 0, 100)) else some (0, 0, 0, 0, 0, 0, 0, 0, 0, 0, 0, 0, 100)
 else some (0, 0, 0, 0, 0, 0, 0, 0, 0, 0, 0, 0, 100)
theorem inoN_range (b : ByteArray) : (0 ≤ inoN b 0 ∧ inoN b 0 < 256) ∧ (0 ≤ inoN b 1 ∧ inoN b 1 < 65536) ∧ (0 ≤ inoN b 2 ∧ inoN b 2 < 65536) ∧ (0 ≤ inoN b 3 ∧ inoN b 3 < 4294967296) ∧ (0 ≤ inoN b 4 ∧ inoN b 4 < 281474976710656) ∧ (0 ≤ inoN b 5 ∧ inoN b 5 < 256) :=
 ⟨P.valB_range b 0 1, P.valB_range b 1 2, P.valB_range b 3 2, P.valB_range b 5 4, P.valB_range b 9 6, P.valB_range b 15 1⟩
theorem inoN_map (b : ByteArray) (j : Nat) : 0 ≤ inoN b (6 + j) ∧ inoN b (6 + j) < 4294967296 := by
 rw [Nat.add_comm 6 j]; exact P.valB_range b (16 + 4 * j) 4
/-- The map while it is read. -/
def mK (b : ByteArray) (k j : Nat) : Int := if j < k then inoN b (6 + j) else 0
def decC (b : ByteArray) (k : Nat) : Array Value := inoC (inoN b 0) (inoN b 1) (inoN b 2) (inoN b 3) (inoN b 4) (inoN b 5) (mK b k 0) (mK b k 1) (mK b k 2) (mK b k 3) (mK b k 4) (mK b k 5)
theorem decC_end (b : ByteArray) : decC b 6 = inoC (inoN b 0) (inoN b 1) (inoN b 2) (inoN b 3) (inoN b 4) (inoN b 5) (inoN b 6) (inoN b 7) (inoN b 8) (inoN b 9) (inoN b 10) (inoN b 11) := rfl
theorem decC_set {W : World} {G : Nat} {t : TypeId} {b : ByteArray} {k : Nat} (h : W.heap[G]? = some (.cells (decC b k) t (0, 0))) (hk : k < 6) :
  (W.setCell ⟨G, 6 + k, none⟩ (.int .u32 (inoN b (6 + k)))).heap[G]? = some (.cells (decC b (k + 1)) t (0, 0)) := by
 match k, hk with
 | 0, _ => simp [World.setCell, Array.getElem?_modify, h, decC, inoC, mK]
 | 1, _ => simp [World.setCell, Array.getElem?_modify, h, decC, inoC, mK]
 | 2, _ => simp [World.setCell, Array.getElem?_modify, h, decC, inoC, mK]
 | 3, _ => simp [World.setCell, Array.getElem?_modify, h, decC, inoC, mK]
 | 4, _ => simp [World.setCell, Array.getElem?_modify, h, decC, inoC, mK]
 | 5, _ => simp [World.setCell, Array.getElem?_modify, h, decC, inoC, mK]
theorem decC_cell {W : World} {G : Nat} {t : TypeId} {b : ByteArray} {k : Nat} (h : W.heap[G]? = some (.cells (decC b k) t (0, 0))) (hk : k < 6) : W.cell? ⟨G, 6 + k, none⟩ = some (.int .u32 0) := by
 rw [Lib.cell_of_heap h]
 match k, hk with
 | 0, _ => simp [decC, inoC, mK]
 | 1, _ => simp [decC, inoC, mK]
 | 2, _ => simp [decC, inoC, mK]
 | 3, _ => simp [decC, inoC, mK]
 | 4, _ => simp [decC, inoC, mK]
 | 5, _ => simp [decC, inoC, mK]
theorem drawn_trans {w w' w'' : World} (h : Drawn0 w w') (h' : Drawn0 w' w'') : Drawn0 w w'' := by
 obtain ⟨n, rfl⟩ := h.out
 obtain ⟨m, rfl⟩ := h'.out
 exact ⟨⟨n + m, by simp [World.drewN, Nat.add_assoc]⟩⟩
theorem drawn_heap {w w' : World} (h : Drawn0 w w') : w'.heap = w.heap := by obtain ⟨n, rfl⟩ := h.out; rfl
set_option maxHeartbeats 4000000 in
theorem decTake_calls (s : ByteArray) (at_ : Nat) (wd : Nat) (B : Nat) (w : World) (hB : w.cell? ⟨B, 0, none⟩ = some (.string s)) (h1 : 1 ≤ wd) (h8 : wd ≤ 8) (hs : s.size = 42) (ha : at_ + wd ≤ 42) :
  Calls Try.prog 73 #[.int .i64 (at_ : Int), .int .i64 (wd : Int), .pointer (some ⟨B, 0, none⟩)] w fun e w' => e = .returned (.int .u64 (P.valB s at_ wd)) ∧ Drawn0 w w' := by
 have h := P.take_f s at_ wd (by omega) (by omega) (by omega) 12 (by omega)
 rw [show P.takeV s at_ wd = (P.valB s at_ wd, 0) by unfold P.takeV; rw [if_pos (by omega)]; simp] at h
 go_enter Try.func73, Try.ntmps73
 go_wp2_with (first | (go_at_call 74; refine (num_Take.calls 12 s at_ wd _ _ _ h).mono ?_; rintro e w1 ⟨rfl, hb1⟩))
 go_ret
 exact ⟨rfl, hb1⟩


set_option maxHeartbeats 8000000 in
theorem inoD_yes (b : ByteArray) (eb : ByteArray) (ee : Int) (r : Array Value) (re : Int) (w : World) (hsz : b.size = 42) (henc : inode_Encode.f (inoN b 0) (inoN b 1) (inoN b 2) (inoN b 3) (inoN b 4) (inoN b 5) (inoN b 6) (inoN b 7) (inoN b 8) (inoN b 9) (inoN b 10) (inoN b 11) = some (eb, ee))
  (hr : (if ee = 0 then (if eb = b then (inoC (inoN b 0) (inoN b 1) (inoN b 2) (inoN b 3) (inoN b 4) (inoN b 5) (inoN b 6) (inoN b 7) (inoN b 8) (inoN b 9) (inoN b 10) (inoN b 11), (0 : Int)) else (#[.int .i64 0, .int .u16 0, .int .u16 0, .int .u32 0, .int .u64 0, .int .i64 0, .int .u32 0, .int .u32 0, .int .u32 0, .int .u32 0, .int .u32 0, .int .u32 0], 100)) else (#[.int .i64 0, .int .u16 0, .int .u16 0, .int .u32 0, .int .u64 0, .int .i64 0, .int .u32 0, .int .u32 0, .int .u32 0, .int .u32 0, .int .u32 0, .int .u32 0], 100)) = (r, re)) :
  Calls Try.prog 61 #[.string b] w fun e w' => e = .returned (.tuple #[.agg r, .int .i64 re]) ∧ Below w.heap.size w w' := by
 have hu := Try.underlying42
 have hs1 : ((b.size : Int) != 42) = false := by simp; omega
 have HE := Aside0.mk henc
 have HRR := Aside0.mk hr
 clear henc hr
 have HS := Aside0.mk hsz
 clear hsz
 go_enter Try.func61, Try.ntmps61
 go_wp2_with fail
 obtain ⟨H, hH⟩ : ∃ H, w.heap.size = H := ⟨_, rfl⟩
 rw [hH]
 have hb0 : Below H w ((w.alloc (.cells #[.string b] 9)).alloc (.cells #[.int .i64 0, .int .u16 0, .int .u16 0, .int .u32 0, .int .u64 0, .int .i64 0, .int .u32 0, .int .u32 0, .int .u32 0, .int .u32 0, .int .u32 0, .int .u32 0] 42)) := ((Below.refl H w).alloc (by omega) _).alloc (by simp; omega) _
 have hx0 : ((w.alloc (.cells #[.string b] 9)).alloc (.cells #[.int .i64 0, .int .u16 0, .int .u16 0, .int .u32 0, .int .u64 0, .int .i64 0, .int .u32 0, .int .u32 0, .int .u32 0, .int .u32 0, .int .u32 0, .int .u32 0] 42)).heap[H]? = some (.cells #[.string b] 9 (0, 0)) := by
  rw [← hH]; exact (Below.heap_alloc _ _ _ (by simp)).trans (World.alloc_heap_new w _)
 have hz0 : ((w.alloc (.cells #[.string b] 9)).alloc (.cells #[.int .i64 0, .int .u16 0, .int .u16 0, .int .u32 0, .int .u64 0, .int .i64 0, .int .u32 0, .int .u32 0, .int .u32 0, .int .u32 0, .int .u32 0, .int .u32 0] 42)).heap[H + 1]? = some (.cells #[.int .i64 0, .int .u16 0, .int .u16 0, .int .u32 0, .int .u64 0, .int .i64 0, .int .u32 0, .int .u32 0, .int .u32 0, .int .u32 0, .int .u32 0, .int .u32 0] 42 (0, 0)) := by
  rw [← hH]; have := World.alloc_heap_new (w.alloc (.cells #[.string b] 9)) (.cells #[.int .i64 0, .int .u16 0, .int .u16 0, .int .u32 0, .int .u64 0, .int .i64 0, .int .u32 0, .int .u32 0, .int .u32 0, .int .u32 0, .int .u32 0, .int .u32 0] 42); simpa using this
 have hs0 : ((w.alloc (.cells #[.string b] 9)).alloc (.cells #[.int .i64 0, .int .u16 0, .int .u16 0, .int .u32 0, .int .u64 0, .int .i64 0, .int .u32 0, .int .u32 0, .int .u32 0, .int .u32 0, .int .u32 0, .int .u32 0] 42)).heap.size = H + 2 := by simp [hH]
 generalize (w.alloc (.cells #[.string b] 9)).alloc (.cells #[.int .i64 0, .int .u16 0, .int .u16 0, .int .u32 0, .int .u64 0, .int .i64 0, .int .u32 0, .int .u32 0, .int .u32 0, .int .u32 0, .int .u32 0, .int .u32 0] 42) = W0 at hb0 hx0 hz0 hs0 ⊢
 have hc0 : W0.cell? ⟨H, 0, none⟩ = some (.string b) := by rw [Lib.cell_of_heap hx0]; rfl
 obtain ⟨q0, q1, q2, q3, q4, q5⟩ := inoN_range b
 have e0 : wrap64 (inoN b 0) = inoN b 0 := IntWalk.wrap64_in _ (by omega)
 have e1 : IntKind.u16.wrap (inoN b 1) = inoN b 1 := IntWalk.u16_in _ (by omega)
 have e2 : IntKind.u16.wrap (inoN b 2) = inoN b 2 := IntWalk.u16_in _ (by omega)
 have e3 : IntKind.u32.wrap (inoN b 3) = inoN b 3 := IntWalk.u32_in _ (by omega)
 have e5 : wrap64 (inoN b 5) = inoN b 5 := IntWalk.wrap64_in _ (by omega)
 clear q0 q1 q2 q3 q4 q5
 refine (show Calls Try.prog 73 #[.int .i64 0, .int .i64 1, .pointer (some ⟨H, 0, none⟩)] W0 (fun e w' => e = .returned (.int .u64 (inoN b 0)) ∧ Drawn0 W0 w') from decTake_calls b 0 1 H W0 hc0 (by omega) (by omega) HS.out (by omega)).mono ?_
 rintro e w1 ⟨rfl, hD1⟩
 have hD1' : Drawn0 W0 w1 := hD1
 have hc1 : w1.cell? ⟨H, 0, none⟩ = some (.string b) := by rw [Lib.cell_of_heap (show w1.heap[H]? = _ by rw [drawn_heap hD1']; exact hx0)]; rfl
 clear hc0 hD1
 go_wp2_with fail
 refine (show Calls Try.prog 73 #[.int .i64 1, .int .i64 2, .pointer (some ⟨H, 0, none⟩)] w1 (fun e w' => e = .returned (.int .u64 (inoN b 1)) ∧ Drawn0 w1 w') from decTake_calls b 1 2 H w1 hc1 (by omega) (by omega) HS.out (by omega)).mono ?_
 rintro e w2 ⟨rfl, hD2⟩
 have hD2' : Drawn0 W0 w2 := drawn_trans hD1' hD2
 have hc2 : w2.cell? ⟨H, 0, none⟩ = some (.string b) := by rw [Lib.cell_of_heap (show w2.heap[H]? = _ by rw [drawn_heap hD2']; exact hx0)]; rfl
 clear hc1 hD2 hD1'
 go_wp2_with fail
 refine (show Calls Try.prog 73 #[.int .i64 3, .int .i64 2, .pointer (some ⟨H, 0, none⟩)] w2 (fun e w' => e = .returned (.int .u64 (inoN b 2)) ∧ Drawn0 w2 w') from decTake_calls b 3 2 H w2 hc2 (by omega) (by omega) HS.out (by omega)).mono ?_
 rintro e w3 ⟨rfl, hD3⟩
 have hD3' : Drawn0 W0 w3 := drawn_trans hD2' hD3
 have hc3 : w3.cell? ⟨H, 0, none⟩ = some (.string b) := by rw [Lib.cell_of_heap (show w3.heap[H]? = _ by rw [drawn_heap hD3']; exact hx0)]; rfl
 clear hc2 hD3 hD2'
 go_wp2_with fail
 refine (show Calls Try.prog 73 #[.int .i64 5, .int .i64 4, .pointer (some ⟨H, 0, none⟩)] w3 (fun e w' => e = .returned (.int .u64 (inoN b 3)) ∧ Drawn0 w3 w') from decTake_calls b 5 4 H w3 hc3 (by omega) (by omega) HS.out (by omega)).mono ?_
 rintro e w4 ⟨rfl, hD4⟩
 have hD4' : Drawn0 W0 w4 := drawn_trans hD3' hD4
 have hc4 : w4.cell? ⟨H, 0, none⟩ = some (.string b) := by rw [Lib.cell_of_heap (show w4.heap[H]? = _ by rw [drawn_heap hD4']; exact hx0)]; rfl
 clear hc3 hD4 hD3'
 go_wp2_with fail
 refine (show Calls Try.prog 73 #[.int .i64 9, .int .i64 6, .pointer (some ⟨H, 0, none⟩)] w4 (fun e w' => e = .returned (.int .u64 (inoN b 4)) ∧ Drawn0 w4 w') from decTake_calls b 9 6 H w4 hc4 (by omega) (by omega) HS.out (by omega)).mono ?_
 rintro e w5 ⟨rfl, hD5⟩
 have hD5' : Drawn0 W0 w5 := drawn_trans hD4' hD5
 have hc5 : w5.cell? ⟨H, 0, none⟩ = some (.string b) := by rw [Lib.cell_of_heap (show w5.heap[H]? = _ by rw [drawn_heap hD5']; exact hx0)]; rfl
 clear hc4 hD5 hD4'
 go_wp2_with fail
 refine (show Calls Try.prog 73 #[.int .i64 15, .int .i64 1, .pointer (some ⟨H, 0, none⟩)] w5 (fun e w' => e = .returned (.int .u64 (inoN b 5)) ∧ Drawn0 w5 w') from decTake_calls b 15 1 H w5 hc5 (by omega) (by omega) HS.out (by omega)).mono ?_
 rintro e w6 ⟨rfl, hD6⟩
 have hD6' : Drawn0 W0 w6 := drawn_trans hD5' hD6
 have hc6 : w6.cell? ⟨H, 0, none⟩ = some (.string b) := by rw [Lib.cell_of_heap (show w6.heap[H]? = _ by rw [drawn_heap hD6']; exact hx0)]; rfl
 clear hc5 hD6 hD5'
 go_wp2_with fail
 have hh6 := drawn_heap hD6'
 have hbd : Below H w w6 := hb0.trans (hD6'.below.mono (by omega))
 have hs6 : w6.heap.size = H + 2 := by rw [hh6]; exact hs0
 have hx6 : w6.heap[H]? = some (.cells #[.string b] 9 (0, 0)) := by rw [hh6]; exact hx0
 have hz6 : w6.heap[H + 1]? = some (.cells #[.int .i64 0, .int .u16 0, .int .u16 0, .int .u32 0, .int .u64 0, .int .i64 0, .int .u32 0, .int .u32 0, .int .u32 0, .int .u32 0, .int .u32 0, .int .u32 0] 42 (0, 0)) := by rw [hh6]; exact hz0
 rw [hs6]
 simp only [e5]
 have hX7 : (w6.alloc (.cells (decC b 0) 42)).heap[H]? = some (.cells #[.string b] 9 (0, 0)) := (Below.heap_alloc _ _ _ (by omega)).trans hx6
 have hZ7 : (w6.alloc (.cells (decC b 0) 42)).heap[H + 1]? = some (.cells #[.int .i64 0, .int .u16 0, .int .u16 0, .int .u32 0, .int .u64 0, .int .i64 0, .int .u32 0, .int .u32 0, .int .u32 0, .int .u32 0, .int .u32 0, .int .u32 0] 42 (0, 0)) := (Below.heap_alloc _ _ _ (by omega)).trans hz6
 have hG7 : (w6.alloc (.cells (decC b 0) 42)).heap[H + 2]? = some (.cells (decC b 0) 42 (0, 0)) := by rw [← hs6]; exact World.alloc_heap_new w6 _
 have hB7 : Below H w (w6.alloc (.cells (decC b 0) 42)) := hbd.alloc (by omega) _
 change Code.wp _ _ _ _ (w6.alloc (.cells (decC b 0) 42))
 generalize w6.alloc (.cells (decC b 0) 42) = w7 at hX7 hZ7 hG7 hB7 ⊢
 clear hD6' hc6 e0 e1 e2 e3 e5 hh6 hbd hs6 hx6 hz6 hb0 hx0 hz0 hs0 w1 w2 w3 w4 w5 w6 W0 hs1
 go_loopg [32] 7 (fun gg v32 w' => ∃ k : Nat, v32 = .int .i64 k ∧ 6 - k ≤ gg ∧ k ≤ 6 ∧ Aside0 (w'.heap[H]? = some (.cells #[.string b] 9 (0, 0))) ∧ Aside0 (w'.heap[H + 1]? = some (.cells #[.int .i64 0, .int .u16 0, .int .u16 0, .int .u32 0, .int .u64 0, .int .i64 0, .int .u32 0, .int .u32 0, .int .u32 0, .int .u32 0, .int .u32 0, .int .u32 0] 42 (0, 0))) ∧ Aside0 (w'.heap[H + 2]? = some (.cells (decC b k) 42 (0, 0))) ∧ Aside0 (Below H w w'))
 case atStart => exact ⟨0, rfl, by omega, by omega, ⟨hX7⟩, ⟨hZ7⟩, ⟨hG7⟩, ⟨hB7⟩⟩
 case round =>
  obtain ⟨k, rfl, hg, hk, HX, HZ, HG, HB⟩ := hrel
  clear hX7 hZ7 hG7 hB7
  by_cases hlt : k < 6
  ·have hltz : decide ((k : Int) < 6) = true := decide_eq_true (by omega)
   have hk0 : (0 : Int) ≤ (k : Int) := by omega
   have hk6 : (k : Int) < 6 := by omega
   have hcs : wr.cell? ⟨H, 0, none⟩ = some (.string b) := by rw [Lib.cell_of_heap HX.out]; rfl
   go_wp2_with fail
   refine (show Calls Try.prog 73 #[.int .i64 (16 + 4 * (k : Int)), .int .i64 4, .pointer (some ⟨H, 0, none⟩)] wr (fun e w' => e = .returned (.int .u64 (inoN b (6 + k))) ∧ Drawn0 wr w') from (by have := decTake_calls b (16 + 4 * k) 4 H wr hcs (by omega) (by omega) HS.out (by omega); rw [Nat.add_comm 6 k]; simpa [inoN] using this)).mono ?_
   rintro e w8 ⟨rfl, hD8⟩
   have hh8 := drawn_heap hD8
   have HX8 : Aside0 (w8.heap[H]? = some (.cells #[.string b] 9 (0, 0))) := ⟨by rw [hh8]; exact HX.out⟩
   have HZ8 : Aside0 (w8.heap[H + 1]? = some (.cells #[.int .i64 0, .int .u16 0, .int .u16 0, .int .u32 0, .int .u64 0, .int .i64 0, .int .u32 0, .int .u32 0, .int .u32 0, .int .u32 0, .int .u32 0, .int .u32 0] 42 (0, 0))) := ⟨by rw [hh8]; exact HZ.out⟩
   have HG8 : w8.heap[H + 2]? = some (.cells (decC b k) 42 (0, 0)) := by rw [hh8]; exact HG.out
   have HB8 : Aside0 (Below H w w8) := ⟨HB.out.trans (hD8.below.mono (by have := (Array.getElem?_eq_some_iff.1 HG.out).1; omega))⟩
   have hg8 := decC_cell HG8 hlt
   have hf8 := ino_free HG8 (6 + k)
   have hS8 := decC_set HG8 hlt
   have hub := inoN_map b k
   obtain ⟨u, hu6⟩ : ∃ u, inoN b (6 + k) = u := ⟨_, rfl⟩
   rw [hu6] at hS8 hub ⊢
   have eu : IntKind.u32.wrap u = u := IntWalk.u32_in u (by omega)
   have HS8 := Aside0.mk hS8
   clear hh8 hD8 hcs HX HZ HG HB hS8 hub HG8 hu6
   go_wp2_with fail
   go_roundg (6 - (k + 1))
   case measure => omega
   case rel =>
    refine ⟨k + 1, rfl, by omega, by omega, ⟨?_⟩, ⟨?_⟩, HS8, ⟨HB8.out.setCell (p := ⟨H + 2, 6 + k, none⟩) (by show H ≤ H + 2; omega) _⟩⟩
    ·rw [Below.heap_setCell _ _ _ _ (by show H ≠ H + 2; omega)]; exact HX8.out
    ·rw [Below.heap_setCell _ _ _ _ (by show H + 1 ≠ H + 2; omega)]; exact HZ8.out
  ·obtain rfl : k = 6 := by omega
   have hG := HG.out
   rw [decC_end] at hG
   have hB := HB.out
   have hX := HX.out
   have hZ := HZ.out
   have hlt6 : decide (((6 : Nat) : Int) < 6) = false := decide_eq_false (by omega)
   obtain ⟨g0, g1, g2, g3, g4, g5, g6, g7, g8, g9, g10, g11⟩ := ino_cells hG
   clear HG HB HX HZ hlt hg hk
   go_wp2_with fail
   refine (inode_Encode.calls _ _ _ _ _ _ _ _ _ _ _ _ _ _ wr HE.out).mono ?_
   rintro e w8 ⟨rfl, hb8⟩
   have hlt2 : H + 2 < wr.heap.size := (Array.getElem?_eq_some_iff.1 hG).1
   have hX8 := (hb8.block H (by omega)).trans hX
   have hZ8 := (hb8.block (H + 1) (by omega)).trans hZ
   have hG8 := (hb8.block (H + 2) (by omega)).trans hG
   have hB8 : Below H w w8 := hB.trans (hb8.mono (by omega))
   clear g0 g1 g2 g3 g4 g5 g6 g7 g8 g9 g10 g11 hb8 hB hX hZ hG hlt2
   have hc8 : w8.cell? ⟨H, 0, none⟩ = some (.string b) := by rw [Lib.cell_of_heap hX8]; rfl
   have hrr := HRR.out
   by_cases he : ee = 0
   ·rw [if_pos he] at hrr
    have he1 : (ee != 0) = false := by simp [he]
    have HEE := Aside0.mk he
    clear he
    by_cases hb : eb = b
    ·rw [if_pos hb] at hrr
     have hbl : (eb.toList == b.toList) = true := by rw [hb]; simp
     simp only [Prod.mk.injEq] at hrr
     have HBB := Aside0.mk hb
     have HRE := Aside0.mk hrr
     clear hb hrr
     obtain ⟨g0, g1, g2, g3, g4, g5, g6, g7, g8, g9, g10, g11⟩ := ino_cells hG8
     obtain ⟨z0, z1, z2, z3, z4, z5, z6, z7, z8, z9, z10, z11⟩ := ino_cells hZ8
     have f0 := ino_free hZ8 0
     have f1 := ino_free hZ8 1
     have f2 := ino_free hZ8 2
     have f3 := ino_free hZ8 3
     have f4 := ino_free hZ8 4
     have f5 := ino_free hZ8 5
     have f6 := ino_free hZ8 6
     have f7 := ino_free hZ8 7
     have f8 := ino_free hZ8 8
     have f9 := ino_free hZ8 9
     have f10 := ino_free hZ8 10
     have f11 := ino_free hZ8 11
     go_wp2
     refine bodyPost_ret (results_ct rfl _ _ (H + 1) 42 (inoC (inoN b 0) (inoN b 1) (inoN b 2) (inoN b 3) (inoN b 4) (inoN b 5) (inoN b 6) (inoN b 7) (inoN b 8) (inoN b 9) (inoN b 10) (inoN b 11)) (0, 0) _ rfl (set12_cells hZ8 _ _ _ _ _ _ _ _ _ _ _ _) Try.underlying42 rfl (by kernel_rfl)) rfl ?_
     exact ⟨by rw [← HRE.out.1, ← HRE.out.2]; rfl, by rw [hH]; exact set12_below hB8 (by omega) _ _ _ _ _ _ _ _ _ _ _ _⟩
    ·rw [if_neg hb] at hrr
     have hbl : (eb.toList == b.toList) = false := by
      rw [beq_eq_false_iff_ne]; intro h; rw [ByteArray.toList_eq, ByteArray.toList_eq] at h; exact hb (ByteArray.ext (Array.toList_inj.1 h))
     simp only [Prod.mk.injEq] at hrr
     have HRE := Aside0.mk hrr
     clear hb hrr
     obtain ⟨z0, z1, z2, z3, z4, z5, z6, z7, z8, z9, z10, z11⟩ := ino_cells hZ8
     have f0 := ino_free hZ8 0
     have f1 := ino_free hZ8 1
     have f2 := ino_free hZ8 2
     have f3 := ino_free hZ8 3
     have f4 := ino_free hZ8 4
     have f5 := ino_free hZ8 5
     have f6 := ino_free hZ8 6
     have f7 := ino_free hZ8 7
     have f8 := ino_free hZ8 8
     have f9 := ino_free hZ8 9
     have f10 := ino_free hZ8 10
     have f11 := ino_free hZ8 11
     go_wp2
     refine bodyPost_ret (results_ct rfl _ _ (H + 1) 42 #[.int .i64 0, .int .u16 0, .int .u16 0, .int .u32 0, .int .u64 0, .int .i64 0, .int .u32 0, .int .u32 0, .int .u32 0, .int .u32 0, .int .u32 0, .int .u32 0] (0, 0) _ rfl (set12_cells hZ8 _ _ _ _ _ _ _ _ _ _ _ _) Try.underlying42 rfl (by kernel_rfl)) rfl ?_
     exact ⟨by rw [← HRE.out.1, ← HRE.out.2]; rfl, by rw [hH]; exact set12_below hB8 (by omega) _ _ _ _ _ _ _ _ _ _ _ _⟩
   ·rw [if_neg he] at hrr
    have he1 : (ee != 0) = true := by simp [he]
    simp only [Prod.mk.injEq] at hrr
    have HRE := Aside0.mk hrr
    clear he hrr
    obtain ⟨z0, z1, z2, z3, z4, z5, z6, z7, z8, z9, z10, z11⟩ := ino_cells hZ8
    have f0 := ino_free hZ8 0
    have f1 := ino_free hZ8 1
    have f2 := ino_free hZ8 2
    have f3 := ino_free hZ8 3
    have f4 := ino_free hZ8 4
    have f5 := ino_free hZ8 5
    have f6 := ino_free hZ8 6
    have f7 := ino_free hZ8 7
    have f8 := ino_free hZ8 8
    have f9 := ino_free hZ8 9
    have f10 := ino_free hZ8 10
    have f11 := ino_free hZ8 11
    go_wp2
    refine bodyPost_ret (results_ct rfl _ _ (H + 1) 42 #[.int .i64 0, .int .u16 0, .int .u16 0, .int .u32 0, .int .u64 0, .int .i64 0, .int .u32 0, .int .u32 0, .int .u32 0, .int .u32 0, .int .u32 0, .int .u32 0] (0, 0) _ rfl (set12_cells hZ8 _ _ _ _ _ _ _ _ _ _ _ _) Try.underlying42 rfl (by kernel_rfl)) rfl ?_
    exact ⟨by rw [← HRE.out.1, ← HRE.out.2]; rfl, by rw [hH]; exact set12_below hB8 (by omega) _ _ _ _ _ _ _ _ _ _ _ _⟩
set_option maxHeartbeats 4000000 in
theorem inoD_size (b : ByteArray) (w : World) (hsz : ¬ b.size = 42) :
  Calls Try.prog 61 #[.string b] w fun e w' => e = .returned (.tuple #[.agg #[.int .i64 0, .int .u16 0, .int .u16 0, .int .u32 0, .int .u64 0, .int .i64 0, .int .u32 0, .int .u32 0, .int .u32 0, .int .u32 0, .int .u32 0, .int .u32 0], .int .i64 100]) ∧ Below w.heap.size w w' := by
 have hu := Try.underlying42
 have hs1 : ((b.size : Int) != 42) = true := by simp; omega
 clear hsz
 go_enter Try.func61, Try.ntmps61
 go_wp2_with fail
 have hz0 : ((w.alloc (.cells #[.string b] 9)).alloc (.cells #[.int .i64 0, .int .u16 0, .int .u16 0, .int .u32 0, .int .u64 0, .int .i64 0, .int .u32 0, .int .u32 0, .int .u32 0, .int .u32 0, .int .u32 0, .int .u32 0] 42)).heap[w.heap.size + 1]? = some (.cells #[.int .i64 0, .int .u16 0, .int .u16 0, .int .u32 0, .int .u64 0, .int .i64 0, .int .u32 0, .int .u32 0, .int .u32 0, .int .u32 0, .int .u32 0, .int .u32 0] 42 (0, 0)) := by
  have := World.alloc_heap_new (w.alloc (.cells #[.string b] 9)) (.cells #[.int .i64 0, .int .u16 0, .int .u16 0, .int .u32 0, .int .u64 0, .int .i64 0, .int .u32 0, .int .u32 0, .int .u32 0, .int .u32 0, .int .u32 0, .int .u32 0] 42); simpa using this
 refine bodyPost_ret (results_ct rfl _ _ (w.heap.size + 1) 42 #[.int .i64 0, .int .u16 0, .int .u16 0, .int .u32 0, .int .u64 0, .int .i64 0, .int .u32 0, .int .u32 0, .int .u32 0, .int .u32 0, .int .u32 0, .int .u32 0] (0, 0) _ rfl hz0 Try.underlying42 rfl (by kernel_rfl)) rfl ?_
 exact ⟨rfl, ((Below.refl _ w).alloc (by omega) _).alloc (by simp) _⟩
theorem inode_Decode.calls (b : ByteArray) (r1 r2 r3 r4 r5 r6 r7 r8 r9 r10 r11 r12 r13 : Int) (w : World) (h : inode_Decode.f b = some (r1, r2, r3, r4, r5, r6, r7, r8, r9, r10, r11, r12, r13)) :
  Calls Try.prog 61 #[.string b] w fun e w' => e = .returned (.tuple #[.agg #[.int .i64 r1, .int .u16 r2, .int .u16 r3, .int .u32 r4, .int .u64 r5, .int .i64 r6, .int .u32 r7, .int .u32 r8, .int .u32 r9, .int .u32 r10, .int .u32 r11, .int .u32 r12], .int .i64 r13]) ∧ Below w.heap.size w w' := by
 unfold inode_Decode.f at h
 by_cases hsz : b.size = 42
 ·rw [if_pos hsz] at h
  obtain ⟨⟨eb, ee⟩, henc, h⟩ := Option.bind_eq_some_iff.mp h
  refine inoD_yes b eb ee (#[.int .i64 r1, .int .u16 r2, .int .u16 r3, .int .u32 r4, .int .u64 r5, .int .i64 r6, .int .u32 r7, .int .u32 r8, .int .u32 r9, .int .u32 r10, .int .u32 r11, .int .u32 r12]) r13 w hsz henc ?_
  by_cases he : ee = 0
  ·rw [if_pos he] at h ⊢
   by_cases hb : eb = b
   ·rw [if_pos hb] at h ⊢; cases h; rfl
   ·rw [if_neg hb] at h ⊢; cases h; rfl
  ·rw [if_neg he] at h ⊢; cases h; rfl
 ·rw [if_neg hsz] at h
  cases h
  exact inoD_size b w hsz
end Go.Proofs.Ytpcokafalmafgaa.Q
