/- inode.Encode: an inode's bytes. -/
import Derived.Test.YtpcokafalmafgaaHNum
import Derived.Test.YtpcokafalmafgaaHIBeh
import Derived.Test.YtpcokafalmafgaaHIRgt
import Derived.Shelf.Abstract
import Derived.Laws.EntriesVeiled
set_option linter.unusedVariables false
set_option linter.unusedSimpArgs false
namespace Go.Proofs.Ytpcokafalmafgaa.Q
open Go.RowKit Go.Shelf Go.Proofs.Ytpcokafalmafgaa.H Go.Proofs.YtpcokafalmafgaaW.PrintWords Go.Proofs.YtpcokafalmafgaaW.PrintLast Go.Proofs.YtpcokafalmafgaaW.PrintMore
attribute [local go_sem] Oper.semAt_some
set_option maxRecDepth 100000

/-- The numbers of an inode, each with its width. -/
def inoL (a0 a1 a2 a3 a4 a5 : Int) (l : List Int) : List UInt8 := lowBytes a0 1 ++ lowBytes a1 2 ++ lowBytes a2 2 ++ lowBytes a3 4 ++ lowBytes a4 6 ++ lowBytes a5 1 ++ (l.map fun x => lowBytes x 4).flatten
def inoB (a0 a1 a2 a3 a4 a5 a6 a7 a8 a9 a10 a11 : Int) : ByteArray := ⟨(inoL a0 a1 a2 a3 a4 a5 [a6, a7, a8, a9, a10, a11] ++ [0, 0]).toArray⟩
def inoOk (a0 a1 a2 a3 a4 a5 a6 a7 a8 a9 a10 a11 : Int) : Prop := (0 ≤ a0 ∧ a0 < 256) ∧ (0 ≤ a1 ∧ a1 < 65536) ∧ (0 ≤ a2 ∧ a2 < 65536) ∧ (0 ≤ a3 ∧ a3 < 4294967296) ∧ (0 ≤ a4 ∧ a4 < 281474976710656) ∧ (0 ≤ a5 ∧ a5 < 256) ∧
 (0 ≤ a6 ∧ a6 < 4294967296) ∧ (0 ≤ a7 ∧ a7 < 4294967296) ∧ (0 ≤ a8 ∧ a8 < 4294967296) ∧ (0 ≤ a9 ∧ a9 < 4294967296) ∧ (0 ≤ a10 ∧ a10 < 4294967296) ∧ (0 ≤ a11 ∧ a11 < 4294967296)
instance (a0 a1 a2 a3 a4 a5 a6 a7 a8 a9 a10 a11 : Int) : Decidable (inoOk a0 a1 a2 a3 a4 a5 a6 a7 a8 a9 a10 a11) := by unfold inoOk; exact inferInstance
def inode_Encode.f (a0 a1 a2 a3 a4 a5 a6 a7 a8 a9 a10 a11 : Int) : Option (ByteArray × Int) := (inode_Right.f a0 a1 a2 a3 a4 a5 a6 a7 a8 a9 a10 a11).bind fun r =>
 if r = true then (if inoOk a0 a1 a2 a3 a4 a5 a6 a7 a8 a9 a10 a11 then some (inoB a0 a1 a2 a3 a4 a5 a6 a7 a8 a9 a10 a11, 0) else none) else some (⟨#[]⟩, 100)

theorem put_yes_f {n : Int} {wd : Nat} (h1 : 1 ≤ wd) (h8 : wd ≤ 8) (h0 : 0 ≤ n) (hn : n < 256 ^ wd) (hn2 : n < 18446744073709551616) : num_Put.f n (wd : Int) = some (leB n wd, 0) := by
 unfold num_Put.f
 rw [if_pos ⟨h0, hn2⟩, if_pos ⟨by omega, by omega⟩, Int.toNat_natCast, if_pos (Int.ediv_eq_zero_of_lt h0 hn)]; rfl
def inoC (a0 a1 a2 a3 a4 a5 a6 a7 a8 a9 a10 a11 : Int) : Array Value := #[.int .i64 a0, .int .u16 a1, .int .u16 a2, .int .u32 a3, .int .u64 a4, .int .i64 a5, .int .u32 a6, .int .u32 a7, .int .u32 a8, .int .u32 a9, .int .u32 a10, .int .u32 a11]
/-- What stands between two puts. -/
structure StI (H b : Nat) (C : Array Value) (w : World) (bs : List UInt8) (W : World) : Prop where
 bld : Lib.IsBuilderF 77 5 b b (Lib.byteCells bs) W
 ino : W.heap[H]? = some (.cells C 42 (0, 0))
 fn : Boxed W (b + 1) 99 (.func (.func 69) #[] #[.pointer (some ⟨b, 0, none⟩)])
 below : Below H w W
 size : b + 2 ≤ W.heap.size
theorem StI_next {H b : Nat} {C : Array Value} {w W W' : World} {bs bs' : List UInt8} (h : StI H b C w bs W) (hHb : H < b) (h' : Lib.IsBuilderF 77 5 b b (Lib.byteCells bs') W') (hbe : Below b W W') (ho : Lib.OthersKept 5 (some b) W W') : StI H b C w bs' W' :=
 ⟨h', (hbe.block H hHb).trans h.ino, (kept_typ ho h.fn (by omega) (by decide)).trans h.fn, h.below.trans (hbe.mono (by omega)), Nat.le_trans h.size hbe.size⟩
theorem StI_stands {own : Nat → Prop} {H b : Nat} {C : Array Value} {w : World} {bs : List UInt8} (hH : H ≤ w.heap.size) (ho : ∀ k, own k → H ≤ k) : Stands own (fun _ => False) (StI H b C w bs) := fun A B h ht =>
 ⟨stands_builderF (fun h => h) (fun h => h) A B h.bld ht, ht.same _ _ h.ino (.inr ⟨_, _, _, rfl, fun h => h⟩), ht.same _ _ h.fn (.inr ⟨_, _, _, rfl, fun h => h⟩), stands_below hH ho A B h.below ht, Nat.le_trans h.size ht.size⟩
theorem putI_calls (n : Int) (wd b : Nat) (bs : List UInt8) (w : World) (h : Lib.IsBuilderF 77 5 b b (Lib.byteCells bs) w) (hb : b ≤ w.heap.size) (hn : num_Put.f n (wd : Int) = some (leB n wd, 0)) (hlen : bs.length ≤ 1000) (hwd : wd ≤ 8) :
  Calls Try.prog 69 #[.int .u64 n, .int .i64 (wd : Int), .pointer (some ⟨b, 0, none⟩)] w fun e w' => (∃ v, e = .returned v) ∧ Lib.IsBuilderF 77 5 b b (Lib.byteCells (bs ++ lowBytes n wd)) w' ∧ Below b w w' ∧ Lib.OthersKept 5 (some b) w w' := by
 have HN := Aside0.mk hn
 clear hn
 go_enter Try.func69, Try.ntmps69
 go_wp2_with fail
 refine (num_Put.calls _ _ _ _ _ HN.out).mono ?_
 rintro e w1 ⟨rfl, hb1⟩
 have hB1 := (Turn.of_below (own := fun _ => False) (T := fun _ => False) hb1).builder h (fun h => h) (fun h => h)
 have hs1 := hb1.size
 go_wp2_with fail
 refine (b_WriteString b b _ (leB n wd) w1 hB1 (by rw [Lib.byteCells_length, leB_size]; omega) (by omega)).mono ?_
 rintro e w2 ⟨rfl, hB2, hbe2, ho2⟩
 go_wp2
 go_end0
 refine ⟨⟨_, rfl⟩, ?_, (hb1.mono hb).trans hbe2, Lib.OthersKept.trans (fun k o hk _ _ => (hb1.block k (Array.getElem?_eq_some_iff.1 hk).1).trans hk) ho2⟩
 rw [Lib.byteCells_append]
 exact .inr hB2
theorem twelve {W : World} {H : Nat} {t : TypeId} {a0 a1 a2 a3 a4 a5 a6 a7 a8 a9 a10 a11 : Int} (h : W.heap[H]? = some (.cells (inoC a0 a1 a2 a3 a4 a5 a6 a7 a8 a9 a10 a11) t (0, 0))) :
  W.cell? ⟨H, 0, none⟩ = some (.int .i64 a0) ∧ W.cell? ⟨H, 1, none⟩ = some (.int .u16 a1) ∧ W.cell? ⟨H, 2, none⟩ = some (.int .u16 a2) ∧ W.cell? ⟨H, 3, none⟩ = some (.int .u32 a3) ∧ W.cell? ⟨H, 4, none⟩ = some (.int .u64 a4) ∧ W.cell? ⟨H, 5, none⟩ = some (.int .i64 a5) ∧
  W.cell? ⟨H, 6, none⟩ = some (.int .u32 a6) ∧ W.cell? ⟨H, 7, none⟩ = some (.int .u32 a7) ∧ W.cell? ⟨H, 8, none⟩ = some (.int .u32 a8) ∧ W.cell? ⟨H, 9, none⟩ = some (.int .u32 a9) ∧ W.cell? ⟨H, 10, none⟩ = some (.int .u32 a10) ∧ W.cell? ⟨H, 11, none⟩ = some (.int .u32 a11) := by
 refine ⟨?_, ?_, ?_, ?_, ?_, ?_, ?_, ?_, ?_, ?_, ?_, ?_⟩ <;> (rw [Lib.cell_of_heap h]; rfl)
theorem inoP1 {n : Int} (h : 0 ≤ n ∧ n < 256) : num_Put.f n ((1 : Nat) : Int) = some (leB n 1, 0) := put_yes_f (by omega) (by omega) h.1 (by rw [show (256 : Int) ^ (1 : Nat) = 256 by decide]; exact h.2) (by omega)
theorem inoP2 {n : Int} (h : 0 ≤ n ∧ n < 65536) : num_Put.f n ((2 : Nat) : Int) = some (leB n 2, 0) := put_yes_f (by omega) (by omega) h.1 (by rw [show (256 : Int) ^ (2 : Nat) = 65536 by decide]; exact h.2) (by omega)
theorem inoP4 {n : Int} (h : 0 ≤ n ∧ n < 4294967296) : num_Put.f n ((4 : Nat) : Int) = some (leB n 4, 0) := put_yes_f (by omega) (by omega) h.1 (by rw [show (256 : Int) ^ (4 : Nat) = 4294967296 by decide]; exact h.2) (by omega)
theorem inoP6 {n : Int} (h : 0 ≤ n ∧ n < 281474976710656) : num_Put.f n ((6 : Nat) : Int) = some (leB n 6, 0) := put_yes_f (by omega) (by omega) h.1 (by rw [show (256 : Int) ^ (6 : Nat) = 281474976710656 by decide]; exact h.2) (by omega)
theorem maps_next (l : List Int) (k : Nat) (h : k < l.length) : ((l.take (k + 1)).map fun x => lowBytes x 4).flatten = ((l.take k).map fun x => lowBytes x 4).flatten ++ lowBytes (l.getD (0 + k) 0) 4 := by
 rw [List.take_succ_eq_append_getElem h, List.map_append, List.flatten_append]; simp [h]
theorem maps_bound {a0 a1 a2 a3 a4 a5 a6 a7 a8 a9 a10 a11 : Int} (h : inoOk a0 a1 a2 a3 a4 a5 a6 a7 a8 a9 a10 a11) (k : Nat) (hk : k < 6) : 0 ≤ [a6, a7, a8, a9, a10, a11].getD (0 + k) 0 ∧ [a6, a7, a8, a9, a10, a11].getD (0 + k) 0 < 4294967296 := by
 obtain ⟨_, _, _, _, _, _, h6, h7, h8, h9, h10, h11⟩ := h
 match k, hk with
 | 0, _ => exact h6
 | 1, _ => exact h7
 | 2, _ => exact h8
 | 3, _ => exact h9
 | 4, _ => exact h10
 | 5, _ => exact h11
theorem maps_len (l : List Int) : ((l.map fun x => lowBytes x 4).flatten).length = 4 * l.length := by
 induction l with
 | nil => rfl
 | cons x xs ih => rw [List.map_cons, List.flatten_cons, List.length_append, lowBytes_length, ih, List.length_cons]; omega
theorem lens (a0 a1 a2 a3 a4 a5 : Int) (l : List Int) (k : Nat) (hk : k ≤ 100) : ([] ++ lowBytes a0 1 ++ lowBytes a1 2 ++ lowBytes a2 2 ++ lowBytes a3 4 ++ lowBytes a4 6 ++ lowBytes a5 1 ++ ((l.take k).map fun x => lowBytes x 4).flatten).length ≤ 1000 := by
 rw [List.length_append, maps_len, List.length_take]
 simp only [List.length_append, lowBytes_length, List.length_nil]
 omega
theorem ino_fit (a0 a1 a2 a3 a4 a5 a6 a7 a8 a9 a10 a11 : Int) : num_Fit.f ⟨([] ++ lowBytes a0 1 ++ lowBytes a1 2 ++ lowBytes a2 2 ++ lowBytes a3 4 ++ lowBytes a4 6 ++ lowBytes a5 1 ++ (([a6, a7, a8, a9, a10, a11].take (6 - 0)).map fun x => lowBytes x 4).flatten).toArray⟩ 42 = some (inoB a0 a1 a2 a3 a4 a5 a6 a7 a8 a9 a10 a11, 0) := by
 have hs : (⟨([] ++ lowBytes a0 1 ++ lowBytes a1 2 ++ lowBytes a2 2 ++ lowBytes a3 4 ++ lowBytes a4 6 ++ lowBytes a5 1 ++ (([a6, a7, a8, a9, a10, a11].take (6 - 0)).map fun x => lowBytes x 4).flatten).toArray⟩ : ByteArray).size = 40 := by
  show List.length _ = 40
  rw [List.length_append, maps_len]
  simp [lowBytes_length]
 unfold num_Fit.f
 rw [if_neg (by omega), if_neg (by omega), if_neg (by omega), hs]
 have he : (⟨([] ++ lowBytes a0 1 ++ lowBytes a1 2 ++ lowBytes a2 2 ++ lowBytes a3 4 ++ lowBytes a4 6 ++ lowBytes a5 1 ++ (([a6, a7, a8, a9, a10, a11].take (6 - 0)).map fun x => lowBytes x 4).flatten).toArray⟩ : ByteArray) ++ zerosB ((42 : Int) - ((40 : Nat) : Int)).toNat = inoB a0 a1 a2 a3 a4 a5 a6 a7 a8 a9 a10 a11 := by
  unfold inoB zerosB inoL
  apply ByteArray.ext
  simp
 rw [he]
set_option maxHeartbeats 8000000 in
theorem inoE_yes (a0 a1 a2 a3 a4 a5 a6 a7 a8 a9 a10 a11 : Int) (w : World) (hr : inode_Right.f a0 a1 a2 a3 a4 a5 a6 a7 a8 a9 a10 a11 = some true) (hok : inoOk a0 a1 a2 a3 a4 a5 a6 a7 a8 a9 a10 a11) :
  Calls Try.prog 59 #[.agg #[.int .i64 a0, .int .u16 a1, .int .u16 a2, .int .u32 a3, .int .u64 a4, .int .i64 a5, .int .u32 a6, .int .u32 a7, .int .u32 a8, .int .u32 a9, .int .u32 a10, .int .u32 a11]] w fun e w' => e = .returned (.tuple #[.string (inoB a0 a1 a2 a3 a4 a5 a6 a7 a8 a9 a10 a11), .int .i64 0]) ∧ Below w.heap.size w w' := by
 have HR := Aside0.mk hr
 have HG := Aside0.mk hok
 clear hr hok
 refine (callsIn_wide (n := 10)).1 ?_
 refine callsIn_of_wp_marks Try.func59 rfl trivial ?_ rfl
 simp only [Try.ntmps59, List.size_toArray, List.length_cons, List.length_nil, Nat.reduceAdd, Nat.reduceSub, Array.replicate_succ, Array.replicate_zero, List.push_toArray, List.append_toArray, List.nil_append, List.cons_append]
 gi_wp2_with fail
 refine ⟨trivial, (callsIn_wide.2 (inode_Right.calls a0 a1 a2 a3 a4 a5 a6 a7 a8 a9 a10 a11 true _ HR.out)).mono ?_⟩
 rintro e w1 ⟨rfl, hb1⟩
 obtain ⟨H, hH⟩ : ∃ H, w.heap.size = H := ⟨_, rfl⟩
 obtain ⟨G, hG⟩ : ∃ G, w1.heap.size = G := ⟨_, rfl⟩
 have hHG : H < G := by have := hb1.size; simp at this; omega
 have hx : w1.heap[H]? = some (.cells (inoC a0 a1 a2 a3 a4 a5 a6 a7 a8 a9 a10 a11) 42 (0, 0)) := by rw [← hH]; exact (hb1.block _ (by simp)).trans (World.alloc_heap_new w _)
 have hB : Below H w w1 := by rw [← hH]; exact ((Below.refl _ w).alloc (Nat.le_refl _) _).trans (hb1.mono (by simp))
 have hfr := Lib.IsBuilderF.of (Lib.fresh_isBuilder 77 5 w1)
 rw [hG] at hfr
 have hbx : Boxed ((w1.alloc (.cells #[.pointer none, .slice none 0 0] 77)).alloc (.cells #[.nilFunc] 99)) (G + 1) 99 .nilFunc := by
  have := Boxed.new (w1.alloc (.cells #[.pointer none, .slice none 0 0] 77)) 99 .nilFunc
  rwa [World.size_alloc, hG] at this
 have hbc := hbx.cell
 have hbf := hbx.frozen
 clear hb1
 obtain ⟨c0, c1, c2, c3, c4, c5, c6, c7, c8, c9, c10, c11⟩ := twelve hx
 have ea0 : IntKind.u64.wrap a0 = a0 := IntWalk.u64_in a0 (by have := HG.out.1; omega)
 have ea1 : IntKind.u64.wrap a1 = a1 := IntWalk.u64_in a1 (by have := HG.out.2.1; omega)
 have ea2 : IntKind.u64.wrap a2 = a2 := IntWalk.u64_in a2 (by have := HG.out.2.2.1; omega)
 have ea3 : IntKind.u64.wrap a3 = a3 := IntWalk.u64_in a3 (by have := HG.out.2.2.2.1; omega)
 have ea5 : IntKind.u64.wrap a5 = a5 := IntWalk.u64_in a5 (by have := HG.out.2.2.2.2.2.1; omega)
 gi_wp2_with fail
 clear c0 c1 c2 c3 c4 c5 c6 c7 c8 c9 c10 c11
 have S0 : StI H G (inoC a0 a1 a2 a3 a4 a5 a6 a7 a8 a9 a10 a11) w [] ((w1.alloc (.cells #[.pointer none, .slice none 0 0] 77)).alloc (.cells #[.func (.func 69) #[] #[.pointer (some ⟨G, 0, none⟩)]] 99)) := by
  refine ⟨Lib.IsBuilderF.alloc hfr _, ?_, ?_, (hB.alloc (by omega) _).alloc (by rw [World.size_alloc]; omega) _, by rw [World.size_alloc, World.size_alloc]; omega⟩
  ·rw [Below.heap_alloc _ _ _ (by rw [World.size_alloc]; omega), Below.heap_alloc _ _ _ (by omega)]; exact hx
  ·have := Boxed.new (w1.alloc (.cells #[.pointer none, .slice none 0 0] 77)) 99 (.func (.func 69) #[] #[.pointer (some ⟨G, 0, none⟩)])
   rwa [World.size_alloc, hG] at this
 clear hx hB hfr hbx hbc hbf
 refine ⟨trivial, (callsIn_wide.2 (putI_calls a0 1 G [] _ S0.bld (by have := S0.size; omega) (inoP1 HG.out.1) (by simp [lowBytes_length]) (by omega))).mono ?_⟩
 rintro e v1 ⟨⟨u1, rfl⟩, hB0, hbe0, ho0⟩
 have S1 := StI_next S0 hHG hB0 hbe0 ho0
 clear S0 hB0 hbe0 ho0
 obtain ⟨c0, c1, c2, c3, c4, c5, c6, c7, c8, c9, c10, c11⟩ := twelve S1.ino
 have hfc := S1.fn.cell
 gi_wp2_with fail
 clear hfc c0 c1 c2 c3 c4 c5 c6 c7 c8 c9 c10 c11
 refine ⟨trivial, (callsIn_wide.2 (putI_calls a1 2 G ([] ++ lowBytes a0 1) _ S1.bld (by have := S1.size; omega) (inoP2 HG.out.2.1) (by simp [lowBytes_length]) (by omega))).mono ?_⟩
 rintro e v2 ⟨⟨u2, rfl⟩, hB1, hbe1, ho1⟩
 have S2 := StI_next S1 hHG hB1 hbe1 ho1
 clear S1 hB1 hbe1 ho1
 obtain ⟨c0, c1, c2, c3, c4, c5, c6, c7, c8, c9, c10, c11⟩ := twelve S2.ino
 have hfc := S2.fn.cell
 gi_wp2_with fail
 clear hfc c0 c1 c2 c3 c4 c5 c6 c7 c8 c9 c10 c11
 refine ⟨trivial, (callsIn_wide.2 (putI_calls a2 2 G ([] ++ lowBytes a0 1 ++ lowBytes a1 2) _ S2.bld (by have := S2.size; omega) (inoP2 HG.out.2.2.1) (by simp [lowBytes_length]) (by omega))).mono ?_⟩
 rintro e v3 ⟨⟨u3, rfl⟩, hB2, hbe2, ho2⟩
 have S3 := StI_next S2 hHG hB2 hbe2 ho2
 clear S2 hB2 hbe2 ho2
 obtain ⟨c0, c1, c2, c3, c4, c5, c6, c7, c8, c9, c10, c11⟩ := twelve S3.ino
 have hfc := S3.fn.cell
 gi_wp2_with fail
 clear hfc c0 c1 c2 c3 c4 c5 c6 c7 c8 c9 c10 c11
 refine ⟨trivial, (callsIn_wide.2 (putI_calls a3 4 G ([] ++ lowBytes a0 1 ++ lowBytes a1 2 ++ lowBytes a2 2) _ S3.bld (by have := S3.size; omega) (inoP4 HG.out.2.2.2.1) (by simp [lowBytes_length]) (by omega))).mono ?_⟩
 rintro e v4 ⟨⟨u4, rfl⟩, hB3, hbe3, ho3⟩
 have S4 := StI_next S3 hHG hB3 hbe3 ho3
 clear S3 hB3 hbe3 ho3
 obtain ⟨c0, c1, c2, c3, c4, c5, c6, c7, c8, c9, c10, c11⟩ := twelve S4.ino
 have hfc := S4.fn.cell
 gi_wp2_with fail
 clear hfc c0 c1 c2 c3 c4 c5 c6 c7 c8 c9 c10 c11
 refine ⟨trivial, (callsIn_wide.2 (putI_calls a4 6 G ([] ++ lowBytes a0 1 ++ lowBytes a1 2 ++ lowBytes a2 2 ++ lowBytes a3 4) _ S4.bld (by have := S4.size; omega) (inoP6 HG.out.2.2.2.2.1) (by simp [lowBytes_length]) (by omega))).mono ?_⟩
 rintro e v5 ⟨⟨u5, rfl⟩, hB4, hbe4, ho4⟩
 have S5 := StI_next S4 hHG hB4 hbe4 ho4
 clear S4 hB4 hbe4 ho4
 obtain ⟨c0, c1, c2, c3, c4, c5, c6, c7, c8, c9, c10, c11⟩ := twelve S5.ino
 have hfc := S5.fn.cell
 gi_wp2_with fail
 clear hfc c0 c1 c2 c3 c4 c5 c6 c7 c8 c9 c10 c11
 refine ⟨trivial, (callsIn_wide.2 (putI_calls a5 1 G ([] ++ lowBytes a0 1 ++ lowBytes a1 2 ++ lowBytes a2 2 ++ lowBytes a3 4 ++ lowBytes a4 6) _ S5.bld (by have := S5.size; omega) (inoP1 HG.out.2.2.2.2.2.1) (by simp [lowBytes_length]) (by omega))).mono ?_⟩
 rintro e v6 ⟨⟨u6, rfl⟩, hB5, hbe5, ho5⟩
 have S6 := StI_next S5 hHG hB5 hbe5 ho5
 clear S5 hB5 hbe5 ho5
 obtain ⟨c0, c1, c2, c3, c4, c5, c6, c7, c8, c9, c10, c11⟩ := twelve S6.ino
 have hfc := S6.fn.cell
 gi_wp2_with fail
 clear hfc c0 c1 c2 c3 c4 c5 c6 c7 c8 c9 c10 c11
 refine ⟨trivial, (callsIn_wide.2 (behind_calls a6 a7 a8 a9 a10 a11 0 _)).mono ?_⟩
 rintro e W0 ⟨rfl, hW0⟩
 obtain ⟨K2, hK2⟩ : ∃ K2, v6.heap.size = K2 := ⟨_, rfl⟩
 have hGK : G + 2 ≤ K2 := by have := S6.size; omega
 have hsz : W0.heap.size = K2 + 2 := by rw [hW0, World.size_alloc, World.size_alloc, hK2]
 have x2 : W0.heap[K2]? = some (.cells #[.int .u32 a6, .int .u32 a7, .int .u32 a8, .int .u32 a9, .int .u32 a10, .int .u32 a11] 40 (0, 0)) := by rw [hW0, Below.heap_alloc _ _ _ (by rw [World.size_alloc]; omega), ← hK2]; exact World.alloc_heap_new v6 _
 have x3 : W0.heap[K2 + 1]? = some (.cells #[.int .i64 ((0 : Nat) : Int)] 3 (0, 0)) := by
  rw [hW0]; have := World.alloc_heap_new (v6.alloc (.cells #[.int .u32 a6, .int .u32 a7, .int .u32 a8, .int .u32 a9, .int .u32 a10, .int .u32 a11] 40)) (.cells #[.int .i64 0] 3)
  rw [World.size_alloc, hK2] at this; exact this
 have S7 : StI H G (inoC a0 a1 a2 a3 a4 a5 a6 a7 a8 a9 a10 a11) w ([] ++ lowBytes a0 1 ++ lowBytes a1 2 ++ lowBytes a2 2 ++ lowBytes a3 4 ++ lowBytes a4 6 ++ lowBytes a5 1) W0 := by
  rw [hW0]
  exact StI_stands (own := fun _ => False) (by omega) (fun _ h => h.elim) _ _ (StI_stands (own := fun _ => False) (by omega) (fun _ h => h.elim) _ _ S6 (Turn.alloc _ _)) (Turn.alloc _ _)
 rw [hK2]
 clear hW0 S6 hK2
 gi_wp2_with fail
 refine wpIn_rangeN rfl (by omega) (gf := 76) (lb := #[.pointer (some ⟨K2 + 1, 0, none⟩), .pointer (some ⟨K2, 0, none⟩)]) rfl trivial (enters_of Try.func76 (by kernel_rfl) rfl)
  (behind_seq 9 (by omega) a6 a7 a8 a9 a10 a11 0 (by omega) K2 (K2 + 1) W0 x2 x3) (Below.refl _ _) (fun _ => rfl) (fun h => h.elim) (fun h => h.elim) (by omega)
  (fun k W => StI H G (inoC a0 a1 a2 a3 a4 a5 a6 a7 a8 a9 a10 a11) w (([] ++ lowBytes a0 1 ++ lowBytes a1 2 ++ lowBytes a2 2 ++ lowBytes a3 4 ++ lowBytes a4 6 ++ lowBytes a5 1) ++ (([a6, a7, a8, a9, a10, a11].take k).map fun x => lowBytes x 4).flatten) W ∧ W.heap[K2]? = some (.cells #[.int .u32 a6, .int .u32 a7, .int .u32 a8, .int .u32 a9, .int .u32 a10, .int .u32 a11] 40 (0, 0)))
  (fun _ _ _ => False)
  (fun k => (StI_stands (by omega) (by rintro j (h | h | h) <;> first | exact h.elim | omega)).and (stands_heap _ _ (by rintro (h | h | h) <;> first | exact h.elim | omega)))
  (fun _ _ _ _ h _ => h)
  ⟨by simpa using S7, x2⟩
  (fun k => { tmps := #[.agg #[.int .i64 a0, .int .u16 a1, .int .u16 a2, .int .u32 a3, .int .u64 a4, .int .i64 a5, .int .u32 a6, .int .u32 a7, .int .u32 a8, .int .u32 a9, .int .u32 a10, .int .u32 a11], .pointer (some ⟨H, 0, none⟩), .string ⟨#[]⟩, .int .i64 0, .pointer (some ⟨G, 0, none⟩), .pointer (some ⟨G + 1, 0, none⟩), .int .u32 ([a6, a7, a8, a9, a10, a11].getD (0 + k) 0), .agg #[.int .i64 a0, .int .u16 a1, .int .u16 a2, .int .u32 a3, .int .u64 a4, .int .i64 a5, .int .u32 a6, .int .u32 a7, .int .u32 a8, .int .u32 a9, .int .u32 a10, .int .u32 a11], .bool true, .bool false, .func (.func 69) #[] #[.pointer (some ⟨G, 0, none⟩)], .func (.func 69) #[] #[.pointer (some ⟨G, 0, none⟩)], .pointer (some ⟨H, 0, none⟩), .int .i64 a0, .int .u64 a0, u1, .func (.func 69) #[] #[.pointer (some ⟨G, 0, none⟩)], .pointer (some ⟨H, 1, none⟩), .int .u16 a1, .int .u64 a1, u2, .func (.func 69) #[] #[.pointer (some ⟨G, 0, none⟩)], .pointer (some ⟨H, 2, none⟩), .int .u16 a2, .int .u64 a2, u3, .func (.func 69) #[] #[.pointer (some ⟨G, 0, none⟩)], .pointer (some ⟨H, 3, none⟩), .int .u32 a3, .int .u64 a3, u4, .func (.func 69) #[] #[.pointer (some ⟨G, 0, none⟩)], .pointer (some ⟨H, 4, none⟩), .int .u64 a4, u5, .func (.func 69) #[] #[.pointer (some ⟨G, 0, none⟩)], .pointer (some ⟨H, 5, none⟩), .int .i64 a5, .int .u64 a5, u6, .pointer (some ⟨H, 6, none⟩), .agg #[.int .u32 a6, .int .u32 a7, .int .u32 a8, .int .u32 a9, .int .u32 a10, .int .u32 a11], .func (.func 76) #[] #[.pointer (some ⟨K2 + 1, 0, none⟩), .pointer (some ⟨K2, 0, none⟩)], .int .u32 ([a6, a7, a8, a9, a10, a11].getD (0 + k) 0), undef, undef, undef, undef, undef, undef, undef, undef], defers := [] }) ?assign ?body ?done ?stop
 case assign =>
  intro lo k W K hK
  obtain ⟨u, hu⟩ : ∃ u, [a6, a7, a8, a9, a10, a11].getD (0 + k) 0 = u := ⟨_, rfl⟩
  simp only [hu] at hK ⊢
  clear hu
  gi_wp2
  exact hK
 case body =>
  rintro lo k W hk hWs ⟨S, hm⟩
  obtain ⟨u, hu⟩ : ∃ u, [a6, a7, a8, a9, a10, a11].getD (0 + k) 0 = u := ⟨_, rfl⟩
  have hub := maps_bound HG.out k hk
  have hnx := maps_next [a6, a7, a8, a9, a10, a11] k hk
  rw [hu] at hub hnx
  simp only [hu]
  have hfc := S.fn.cell
  have ew : IntKind.u64.wrap u = u := IntWalk.u64_in u (by omega)
  have HK := Aside0.mk hk
  clear hu hk
  gi_wp2_with fail
  refine ⟨trivial, (CallsIn.inRound lo (callsIn_wide.2 (putI_calls u 4 G _ W S.bld (by have := S.size; omega) (inoP4 hub) (lens a0 a1 a2 a3 a4 a5 _ k (by have := HK.out; omega)) (by omega)))).mono ?_⟩
  rintro e W1 ⟨⟨u7, rfl⟩, hB7, hbe7, ho7⟩
  gi_wp2_with fail
  refine ⟨kept_others ho7 (builder_block S.bld) hbe7.size, ⟨hbe7.size, fun j hj hl => ?_⟩, ?_, (kept_typ ho7 hm (by omega) (by decide)).trans hm⟩
  ·subst hj; exact kept_typ ho7 hm (by omega) (by decide)
  ·have := StI_next S hHG hB7 hbe7 ho7
   rw [hnx, ← List.append_assoc]; exact this
 case done =>
  rintro W ⟨S, hm⟩ hWs hD
  rw [hsz] at hD
  have hfit := ino_fit a0 a1 a2 a3 a4 a5 a6 a7 a8 a9 a10 a11
  gi_wp2_with fail
  refine ⟨trivial, (callsIn_wide.2 (b_String G G _ W S.bld (by have := S.size; omega))).mono ?_⟩
  rintro e W8 ⟨rfl, hB8, hbe8, ho8⟩
  have hD8 : W8.heap[K2 + 2]? = some (.deferred (some [])) := ho8 _ _ hD (by simp; omega) (fun _ _ e => by cases e)
  gi_wp2_with fail
  refine ⟨trivial, (callsIn_wide.2 (num_Fit.calls _ _ _ _ W8 hfit)).mono ?_⟩
  rintro e W9 ⟨rfl, hb9⟩
  have hD9 : W9.heap[K2 + 2]? = some (.deferred (some [])) := (hb9.block _ (Array.getElem?_eq_some_iff.1 hD8).1).trans hD8
  have hB9 : Below H w W9 := (S.below.trans (hbe8.mono (by omega))).trans (hb9.mono (by have := hbe8.size; have := S.size; omega))
  gi_wp2
  refine ⟨by simp, .inl ⟨_, _, rfl, run_takeDeferred hD9, ?_⟩⟩
  refine ⟨_, results_tmp2 rfl _ _ _, ⟨rfl, ?_⟩⟩
  rw [hH]
  exact hB9.trans (belowK_b (w := w) (by omega) W9 _ _ _ (by omega) hD9 rfl rfl)
 case stop =>
  intro c k W _ h
  exact h.elim
set_option maxHeartbeats 4000000 in
theorem inoE_no (a0 a1 a2 a3 a4 a5 a6 a7 a8 a9 a10 a11 : Int) (w : World) (hr : inode_Right.f a0 a1 a2 a3 a4 a5 a6 a7 a8 a9 a10 a11 = some false) :
  Calls Try.prog 59 #[.agg #[.int .i64 a0, .int .u16 a1, .int .u16 a2, .int .u32 a3, .int .u64 a4, .int .i64 a5, .int .u32 a6, .int .u32 a7, .int .u32 a8, .int .u32 a9, .int .u32 a10, .int .u32 a11]] w fun e w' => e = .returned (.tuple #[.string ⟨#[]⟩, .int .i64 100]) ∧ Below w.heap.size w w' := by
 go_enter Try.func59, Try.ntmps59
 go_wp2_with (first | (go_at_call 35; refine (inode_Right.calls a0 a1 a2 a3 a4 a5 a6 a7 a8 a9 a10 a11 false _ hr).mono ?_; rintro e w1 ⟨rfl, hb1⟩))
 go_ret2
 exact ⟨rfl, ((Below.refl _ w).alloc (Nat.le_refl _) _).trans (hb1.mono (by simp))⟩
theorem inode_Encode.calls (a0 a1 a2 a3 a4 a5 a6 a7 a8 a9 a10 a11 : Int) (r1 : ByteArray) (r2 : Int) (w : World) (h : inode_Encode.f a0 a1 a2 a3 a4 a5 a6 a7 a8 a9 a10 a11 = some (r1, r2)) :
  Calls Try.prog 59 #[.agg #[.int .i64 a0, .int .u16 a1, .int .u16 a2, .int .u32 a3, .int .u64 a4, .int .i64 a5, .int .u32 a6, .int .u32 a7, .int .u32 a8, .int .u32 a9, .int .u32 a10, .int .u32 a11]] w fun e w' => e = .returned (.tuple #[.string r1, .int .i64 r2]) ∧ Below w.heap.size w w' := by
 unfold inode_Encode.f at h
 obtain ⟨r, hr, h⟩ := Option.bind_eq_some_iff.mp h
 cases r with
 | false => rw [if_neg (by decide)] at h; cases h; exact inoE_no a0 a1 a2 a3 a4 a5 a6 a7 a8 a9 a10 a11 w hr
 | true =>
  rw [if_pos rfl] at h
  by_cases hok : inoOk a0 a1 a2 a3 a4 a5 a6 a7 a8 a9 a10 a11
  ·rw [if_pos hok] at h; cases h; exact inoE_yes a0 a1 a2 a3 a4 a5 a6 a7 a8 a9 a10 a11 w hr hok
  ·rw [if_neg hok] at h; cases h
end Go.Proofs.Ytpcokafalmafgaa.Q
