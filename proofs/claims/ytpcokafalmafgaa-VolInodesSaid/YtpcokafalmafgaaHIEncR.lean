/- nautilusref10.Encode: an inode's bytes, by the document's answer. -/
import Derived.Test.YtpcokafalmafgaaQ9
import Derived.Test.YtpcokafalmafgaaHIRgtR
import Derived.Test.YtpcokafalmafgaaHIEnc
import Derived.Test.YtpcokafalmafgaaPNum
import Derived.Lib.QuietBelow
set_option linter.unusedVariables false
set_option linter.unusedSimpArgs false
namespace Go.Proofs.Ytpcokafalmafgaa.Q
open Go.RowKit Go.Shelf Go.Sort Go.Proofs.Ytpcokafalmafgaa.H Go.Proofs.YtpcokafalmafgaaW.PrintWords Go.Proofs.YtpcokafalmafgaaW.PrintLast Go.Proofs.YtpcokafalmafgaaW.PrintMore
set_option maxRecDepth 100000

def nautilusref10_Encode.f (a0 a1 a2 a3 a4 a5 a6 a7 a8 a9 a10 a11 : Int) : Option (ByteArray × Int) := (nautilusref10_Right.f a0 a1 a2 a3 a4 a5 a6 a7 a8 a9 a10 a11).bind fun r =>
 if r = true then (if inoOk a0 a1 a2 a3 a4 a5 a6 a7 a8 a9 a10 a11 then some (inoB a0 a1 a2 a3 a4 a5 a6 a7 a8 a9 a10 a11, 0) else none) else some (⟨#[]⟩, 100)

theorem refB_calls (n : Int) (wd : Nat) (w : World) (h8 : wd ≤ 8) :
  Calls Try.prog 72 #[.int .u64 n, .int .i64 (wd : Int)] w fun e w' => e = .returned (.string (leB n wd)) ∧ Below w.heap.size w w' :=
 nautilusref01_Bytes.calls 10 n wd (leB n wd) w (P.refBytes_f n wd (by omega) (by omega) 10 (by omega))
theorem ino_cat (a0 a1 a2 a3 a4 a5 : Int) : ((((leB a0 1 ++ leB a1 2) ++ leB a2 2) ++ leB a3 4) ++ leB a4 6) ++ leB a5 1 = ⟨(lowBytes a0 1 ++ lowBytes a1 2 ++ lowBytes a2 2 ++ lowBytes a3 4 ++ lowBytes a4 6 ++ lowBytes a5 1).toArray⟩ := by
 apply ByteArray.ext
 simp [leB]
/-- What stands behind k numbers of the map. -/
def inoS (a0 a1 a2 a3 a4 a5 : Int) (l : List Int) (k : Nat) : ByteArray := ⟨(lowBytes a0 1 ++ lowBytes a1 2 ++ lowBytes a2 2 ++ lowBytes a3 4 ++ lowBytes a4 6 ++ lowBytes a5 1 ++ ((l.take k).map fun x => lowBytes x 4).flatten).toArray⟩
theorem inoS_zero (a0 a1 a2 a3 a4 a5 : Int) (l : List Int) : ((((leB a0 1 ++ leB a1 2) ++ leB a2 2) ++ leB a3 4) ++ leB a4 6) ++ leB a5 1 = inoS a0 a1 a2 a3 a4 a5 l 0 := by
 rw [ino_cat]; unfold inoS; simp
theorem inoS_next (a0 a1 a2 a3 a4 a5 : Int) (l : List Int) (k : Nat) (h : k < l.length) : inoS a0 a1 a2 a3 a4 a5 l k ++ leB (l.getD k 0) 4 = inoS a0 a1 a2 a3 a4 a5 l (k + 1) := by
 have := maps_next l k h
 rw [Nat.zero_add] at this
 unfold inoS leB
 rw [this]
 apply ByteArray.ext
 simp
theorem inoS_size (a0 a1 a2 a3 a4 a5 : Int) (l : List Int) (k : Nat) (hk : k ≤ l.length) : (inoS a0 a1 a2 a3 a4 a5 l k).size = 16 + 4 * k := by
 show List.length _ = _
 rw [List.length_append, maps_len, List.length_take]
 simp only [List.length_append, lowBytes_length]
 omega
theorem inoS_end (a0 a1 a2 a3 a4 a5 a6 a7 a8 a9 a10 a11 : Int) : inoS a0 a1 a2 a3 a4 a5 [a6, a7, a8, a9, a10, a11] 6 ++ (⟨#[0, 0]⟩ : ByteArray) = inoB a0 a1 a2 a3 a4 a5 a6 a7 a8 a9 a10 a11 := by
 unfold inoS inoB inoL
 apply ByteArray.ext
 simp

theorem ino_map {W : World} {H : Nat} {t : TypeId} {a0 a1 a2 a3 a4 a5 a6 a7 a8 a9 a10 a11 : Int} (h : W.heap[H]? = some (.cells (inoC a0 a1 a2 a3 a4 a5 a6 a7 a8 a9 a10 a11) t (0, 0))) (i : Nat) (hi : i < 6) :
  W.cell? ⟨H, 6 + i, none⟩ = some (.int .u32 ([a6, a7, a8, a9, a10, a11].getD i 0)) := by
 rw [Lib.cell_of_heap h]
 match i, hi with
 | 0, _ => rfl
 | 1, _ => rfl
 | 2, _ => rfl
 | 3, _ => rfl
 | 4, _ => rfl
 | 5, _ => rfl

set_option maxHeartbeats 8000000 in
theorem inoER_yes (a0 a1 a2 a3 a4 a5 a6 a7 a8 a9 a10 a11 : Int) (w : World) (hr : nautilusref10_Right.f a0 a1 a2 a3 a4 a5 a6 a7 a8 a9 a10 a11 = some true) (hok : inoOk a0 a1 a2 a3 a4 a5 a6 a7 a8 a9 a10 a11) :
  Calls Try.prog 60 #[.agg #[.int .i64 a0, .int .u16 a1, .int .u16 a2, .int .u32 a3, .int .u64 a4, .int .i64 a5, .int .u32 a6, .int .u32 a7, .int .u32 a8, .int .u32 a9, .int .u32 a10, .int .u32 a11]] w fun e w' => e = .returned (.tuple #[.string (inoB a0 a1 a2 a3 a4 a5 a6 a7 a8 a9 a10 a11), .int .i64 0]) ∧ Below w.heap.size w w' := by
 have HR := Aside0.mk hr
 have HG := Aside0.mk hok
 clear hr hok
 go_enter Try.func60, Try.ntmps60
 go_wp2_with (first | (go_at_call 37; refine (nautilusref10_Right.calls a0 a1 a2 a3 a4 a5 a6 a7 a8 a9 a10 a11 true _ HR.out).mono ?_; rintro e w1 ⟨rfl, hb1⟩))
 obtain ⟨H, hH⟩ : ∃ H, w.heap.size = H := ⟨_, rfl⟩
 have hx : w1.heap[H]? = some (.cells (inoC a0 a1 a2 a3 a4 a5 a6 a7 a8 a9 a10 a11) 42 (0, 0)) := by rw [← hH]; exact (hb1.block _ (by simp)).trans (World.alloc_heap_new w _)
 have hB : Below H w w1 := by rw [← hH]; exact ((Below.refl _ w).alloc (Nat.le_refl _) _).trans (hb1.mono (by simp))
 have hlt : H < w1.heap.size := (Array.getElem?_eq_some_iff.1 hx).1
 rw [hH]
 clear hb1
 obtain ⟨c0, c1, c2, c3, c4, c5, c6, c7, c8, c9, c10, c11⟩ := twelve hx
 have x0 : ∀ d os, (grow (redrawn w1 d) os).cell? ⟨H, 0, none⟩ = some (.int .i64 a0) := fun d os => cell_regrown c0 d os
 have x1 : ∀ d os, (grow (redrawn w1 d) os).cell? ⟨H, 1, none⟩ = some (.int .u16 a1) := fun d os => cell_regrown c1 d os
 have x2 : ∀ d os, (grow (redrawn w1 d) os).cell? ⟨H, 2, none⟩ = some (.int .u16 a2) := fun d os => cell_regrown c2 d os
 have x3 : ∀ d os, (grow (redrawn w1 d) os).cell? ⟨H, 3, none⟩ = some (.int .u32 a3) := fun d os => cell_regrown c3 d os
 have x4 : ∀ d os, (grow (redrawn w1 d) os).cell? ⟨H, 4, none⟩ = some (.int .u64 a4) := fun d os => cell_regrown c4 d os
 have x5 : ∀ d os, (grow (redrawn w1 d) os).cell? ⟨H, 5, none⟩ = some (.int .i64 a5) := fun d os => cell_regrown c5 d os
 clear c0 c1 c2 c3 c4 c5 c6 c7 c8 c9 c10 c11
 have ea0 : IntKind.u64.wrap a0 = a0 := IntWalk.u64_in a0 (by have := HG.out.1; omega)
 have ea1 : IntKind.u64.wrap a1 = a1 := IntWalk.u64_in a1 (by have := HG.out.2.1; omega)
 have ea2 : IntKind.u64.wrap a2 = a2 := IntWalk.u64_in a2 (by have := HG.out.2.2.1; omega)
 have ea3 : IntKind.u64.wrap a3 = a3 := IntWalk.u64_in a3 (by have := HG.out.2.2.2.1; omega)
 have ea5 : IntKind.u64.wrap a5 = a5 := IntWalk.u64_in a5 (by have := HG.out.2.2.2.2.2.1; omega)
 obtain ⟨b0, hb0⟩ : ∃ b, leB a0 1 = b := ⟨_, rfl⟩
 have z0 : b0.size = 1 := by rw [← hb0]; exact leB_size _ _
 obtain ⟨b1, hb1⟩ : ∃ b, leB a1 2 = b := ⟨_, rfl⟩
 have z1 : b1.size = 2 := by rw [← hb1]; exact leB_size _ _
 obtain ⟨b2, hb2⟩ : ∃ b, leB a2 2 = b := ⟨_, rfl⟩
 have z2 : b2.size = 2 := by rw [← hb2]; exact leB_size _ _
 obtain ⟨b3, hb3⟩ : ∃ b, leB a3 4 = b := ⟨_, rfl⟩
 have z3 : b3.size = 4 := by rw [← hb3]; exact leB_size _ _
 obtain ⟨b4, hb4⟩ : ∃ b, leB a4 6 = b := ⟨_, rfl⟩
 have z4 : b4.size = 6 := by rw [← hb4]; exact leB_size _ _
 obtain ⟨b5, hb5⟩ : ∃ b, leB a5 1 = b := ⟨_, rfl⟩
 have z5 : b5.size = 1 := by rw [← hb5]; exact leB_size _ _
 have k0 : ∀ d os, Calls Try.prog 72 #[.int .u64 a0, .int .i64 1] (grow (redrawn w1 d) os) fun e w'' => e = .returned (.string b0) ∧ ∃ p : Regrown, w'' = grow (redrawn w1 p.d) p.os := fun d os => Calls.regrown_of (by rw [← hb0]; exact refB_calls a0 1 _ (by omega))
 have k1 : ∀ d os, Calls Try.prog 72 #[.int .u64 a1, .int .i64 2] (grow (redrawn w1 d) os) fun e w'' => e = .returned (.string b1) ∧ ∃ p : Regrown, w'' = grow (redrawn w1 p.d) p.os := fun d os => Calls.regrown_of (by rw [← hb1]; exact refB_calls a1 2 _ (by omega))
 have k2 : ∀ d os, Calls Try.prog 72 #[.int .u64 a2, .int .i64 2] (grow (redrawn w1 d) os) fun e w'' => e = .returned (.string b2) ∧ ∃ p : Regrown, w'' = grow (redrawn w1 p.d) p.os := fun d os => Calls.regrown_of (by rw [← hb2]; exact refB_calls a2 2 _ (by omega))
 have k3 : ∀ d os, Calls Try.prog 72 #[.int .u64 a3, .int .i64 4] (grow (redrawn w1 d) os) fun e w'' => e = .returned (.string b3) ∧ ∃ p : Regrown, w'' = grow (redrawn w1 p.d) p.os := fun d os => Calls.regrown_of (by rw [← hb3]; exact refB_calls a3 4 _ (by omega))
 have k4 : ∀ d os, Calls Try.prog 72 #[.int .u64 a4, .int .i64 6] (grow (redrawn w1 d) os) fun e w'' => e = .returned (.string b4) ∧ ∃ p : Regrown, w'' = grow (redrawn w1 p.d) p.os := fun d os => Calls.regrown_of (by rw [← hb4]; exact refB_calls a4 6 _ (by omega))
 have k5 : ∀ d os, Calls Try.prog 72 #[.int .u64 a5, .int .i64 1] (grow (redrawn w1 d) os) fun e w'' => e = .returned (.string b5) ∧ ∃ p : Regrown, w'' = grow (redrawn w1 p.d) p.os := fun d os => Calls.regrown_of (by rw [← hb5]; exact refB_calls a5 1 _ (by omega))
 have hcat : ((((b0 ++ b1) ++ b2) ++ b3) ++ b4) ++ b5 = inoS a0 a1 a2 a3 a4 a5 [a6, a7, a8, a9, a10, a11] 0 := by rw [← hb0, ← hb1, ← hb2, ← hb3, ← hb4, ← hb5]; exact inoS_zero ..
 have HCAT := Aside0.mk hcat
 clear hcat hb0 hb1 hb2 hb3 hb4 hb5
 have s1 : (b0 ++ b1).size = 3 := by rw [ByteArray.size_append, z0, z1]
 have s2 : ((b0 ++ b1) ++ b2).size = 5 := by rw [ByteArray.size_append, s1, z2]
 have s3 : (((b0 ++ b1) ++ b2) ++ b3).size = 9 := by rw [ByteArray.size_append, s2, z3]
 have s4 : ((((b0 ++ b1) ++ b2) ++ b3) ++ b4).size = 15 := by rw [ByteArray.size_append, s3, z4]
 refine wp_region_quiet_below (by rfl) (by kernel_rfl) ?_
 repeat (quiet_step (fail))
 quiet_step (exact k0 _ _)
 repeat (quiet_step (fail))
 quiet_step (exact k1 _ _)
 repeat (quiet_step (fail))
 quiet_step (exact k2 _ _)
 repeat (quiet_step (fail))
 quiet_step (exact k3 _ _)
 repeat (quiet_step (fail))
 quiet_step (exact k4 _ _)
 repeat (quiet_step (fail))
 quiet_step (exact k5 _ _)
 repeat (quiet_step (fail))
 refine wpQuiet_nil ?_
 rintro _ ⟨⟨dq, osq⟩, rfl⟩
 rw [HCAT.out]
 have hx2 : (grow (redrawn w1 dq) osq).heap[H]? = some (.cells (inoC a0 a1 a2 a3 a4 a5 a6 a7 a8 a9 a10 a11) 42 (0, 0)) := ((below_regrown w1 dq osq).block H hlt).trans hx
 have hB2 : Below H w (grow (redrawn w1 dq) osq) := hB.trans ((below_regrown w1 dq osq).mono (by omega))
 generalize grow (redrawn w1 dq) osq = w2 at hx2 hB2 ⊢
 clear x0 x1 x2 x3 x4 x5 k0 k1 k2 k3 k4 k5 s1 s2 s3 s4 z0 z1 z2 z3 z4 z5 HCAT ea0 ea1 ea2 ea3 ea5 hx hB hlt
 go_wp2_with fail
 go_loopg [5, 6] 7 (fun gg v5 v6 w' => ∃ k : Nat, v6 = .int .i64 k ∧ 6 - k ≤ gg ∧ v5 = .string (inoS a0 a1 a2 a3 a4 a5 [a6, a7, a8, a9, a10, a11] k) ∧ k ≤ 6 ∧ Aside0 (w'.heap[H]? = some (.cells (inoC a0 a1 a2 a3 a4 a5 a6 a7 a8 a9 a10 a11) 42 (0, 0))) ∧ Aside0 (Below H w w'))
 case atStart => exact ⟨0, rfl, by omega, rfl, by omega, ⟨hx2⟩, ⟨hB2⟩⟩
 case round =>
  obtain ⟨k, rfl, hg, rfl, hk, HX, HB⟩ := hrel
  by_cases hlt : k < 6
  ·have hc := ino_map HX.out k hlt
   have hub := maps_bound HG.out k hlt
   rw [Nat.zero_add] at hub
   have hnx := inoS_next a0 a1 a2 a3 a4 a5 [a6, a7, a8, a9, a10, a11] k hlt
   have hsz := inoS_size a0 a1 a2 a3 a4 a5 [a6, a7, a8, a9, a10, a11] k hk
   obtain ⟨u, hu⟩ : ∃ u, [a6, a7, a8, a9, a10, a11].getD k 0 = u := ⟨_, rfl⟩
   rw [hu] at hc hub hnx
   have eu : IntKind.u64.wrap u = u := IntWalk.u64_in u (by omega)
   have hltz : decide ((k : Int) < 6) = true := decide_eq_true (by omega)
   have hk0 : (0 : Int) ≤ (k : Int) := by omega
   have hk6 : (k : Int) < 6 := by omega
   obtain ⟨b, hb⟩ : ∃ b, leB u 4 = b := ⟨_, rfl⟩
   have hz : b.size = 4 := by rw [← hb]; exact leB_size _ _
   rw [hb] at hnx
   have HN := Aside0.mk hnx
   have HBB := Aside0.mk hb
   obtain ⟨S, hS⟩ : ∃ S, inoS a0 a1 a2 a3 a4 a5 [a6, a7, a8, a9, a10, a11] k = S := ⟨_, rfl⟩
   rw [hS] at hsz
   have HS := Aside0.mk hS
   simp only [hS]
   have hs1 : S.size + b.size ≤ 9223372036854775807 := by omega
   clear hu hub hnx hb hS hsz hz
   go_wp2_with fail
   refine (show Calls Try.prog 72 #[.int .u64 u, .int .i64 4] wr (fun e w' => e = .returned (.string b) ∧ Below wr.heap.size wr w') by rw [← HBB.out]; exact refB_calls u 4 wr (by omega)).mono ?_
   rintro e w3 ⟨rfl, hb3⟩
   have HX3 : Aside0 (w3.heap[H]? = some (.cells (inoC a0 a1 a2 a3 a4 a5 a6 a7 a8 a9 a10 a11) 42 (0, 0))) := ⟨(hb3.block H (Array.getElem?_eq_some_iff.1 HX.out).1).trans HX.out⟩
   have HB3 : Aside0 (Below H w w3) := ⟨HB.out.trans (hb3.mono (Nat.le_of_lt (Array.getElem?_eq_some_iff.1 HX.out).1))⟩
   clear hb3 hc eu
   go_wp2_with fail
   rw [← HS.out, HN.out]
   go_roundg (6 - (k + 1))
   case measure => omega
   case rel => exact ⟨k + 1, rfl, by omega, rfl, by omega, HX3, HB3⟩
  ·obtain rfl : k = 6 := by omega
   have hend := inoS_end a0 a1 a2 a3 a4 a5 a6 a7 a8 a9 a10 a11
   have hsz := inoS_size a0 a1 a2 a3 a4 a5 [a6, a7, a8, a9, a10, a11] 6 hk
   obtain ⟨S, hS⟩ : ∃ S, inoS a0 a1 a2 a3 a4 a5 [a6, a7, a8, a9, a10, a11] 6 = S := ⟨_, rfl⟩
   rw [hS] at hend hsz
   rw [hS]
   have hs1 : S.size + 2 ≤ 9223372036854775807 := by omega
   have HE := Aside0.mk hend
   clear hS hend hsz
   go_wp2_with fail
   rw [HE.out]
   go_ret2
   exact ⟨rfl, by rw [hH]; exact HB.out⟩

set_option maxHeartbeats 4000000 in
theorem inoER_no (a0 a1 a2 a3 a4 a5 a6 a7 a8 a9 a10 a11 : Int) (w : World) (hr : nautilusref10_Right.f a0 a1 a2 a3 a4 a5 a6 a7 a8 a9 a10 a11 = some false) :
  Calls Try.prog 60 #[.agg #[.int .i64 a0, .int .u16 a1, .int .u16 a2, .int .u32 a3, .int .u64 a4, .int .i64 a5, .int .u32 a6, .int .u32 a7, .int .u32 a8, .int .u32 a9, .int .u32 a10, .int .u32 a11]] w fun e w' => e = .returned (.tuple #[.string ⟨#[]⟩, .int .i64 100]) ∧ Below w.heap.size w w' := by
 go_enter Try.func60, Try.ntmps60
 go_wp2_with (first | (go_at_call 37; refine (nautilusref10_Right.calls a0 a1 a2 a3 a4 a5 a6 a7 a8 a9 a10 a11 false _ hr).mono ?_; rintro e w1 ⟨rfl, hb1⟩))
 go_ret2
 exact ⟨rfl, ((Below.refl _ w).alloc (Nat.le_refl _) _).trans (hb1.mono (by simp))⟩
theorem nautilusref10_Encode.calls (a0 a1 a2 a3 a4 a5 a6 a7 a8 a9 a10 a11 : Int) (r1 : ByteArray) (r2 : Int) (w : World) (h : nautilusref10_Encode.f a0 a1 a2 a3 a4 a5 a6 a7 a8 a9 a10 a11 = some (r1, r2)) :
  Calls Try.prog 60 #[.agg #[.int .i64 a0, .int .u16 a1, .int .u16 a2, .int .u32 a3, .int .u64 a4, .int .i64 a5, .int .u32 a6, .int .u32 a7, .int .u32 a8, .int .u32 a9, .int .u32 a10, .int .u32 a11]] w fun e w' => e = .returned (.tuple #[.string r1, .int .i64 r2]) ∧ Below w.heap.size w w' := by
 unfold nautilusref10_Encode.f at h
 obtain ⟨r, hr, h⟩ := Option.bind_eq_some_iff.mp h
 cases r with
 | false => rw [if_neg (by decide)] at h; cases h; exact inoER_no a0 a1 a2 a3 a4 a5 a6 a7 a8 a9 a10 a11 w hr
 | true =>
  rw [if_pos rfl] at h
  by_cases hok : inoOk a0 a1 a2 a3 a4 a5 a6 a7 a8 a9 a10 a11
  ·rw [if_pos hok] at h; cases h; exact inoER_yes a0 a1 a2 a3 a4 a5 a6 a7 a8 a9 a10 a11 w hr hok
  ·rw [if_neg hok] at h; cases h
end Go.Proofs.Ytpcokafalmafgaa.Q
