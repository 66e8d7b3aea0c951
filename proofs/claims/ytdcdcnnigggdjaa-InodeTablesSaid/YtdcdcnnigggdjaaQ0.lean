/- Functions of the translation as plain Lean functions, and that the translation computes them: printed by this session's driver of the print. -/
import Derived.Test.YtdcdcnnigggdjaaProg
import Derived.Below
import Derived.Deep.Draws
import Derived.Deep.AppendLies
import Derived.Maps.AppendAt
import Derived.OwnWalk
import Derived.Laws.BytesArg
import Derived.Laws.MakeOwn
import Derived.Laws.OwnMore
import Derived.Deep.OwnRows
import Derived.Tactics
import Derived.Lib.ConvBytes
import Derived.Laws.Slices
import Derived.WalkKit
import Derived.KernelRfl
import Derived.RowKit3
import Derived.Deep.LoopGhost
import Derived.Deep.QuietTactic
import Derived.BigQuiet
import Derived.WideLaws
import Derived.Deep.DeepCutAuto
import Derived.Deep.CutBlock
import Derived.Deep.RegionHeld3
import Derived.Laws.Rows
import Derived.Lib.AppendStr
import Derived.ArgAppend
import Derived.Laws.IdiomCopy
import Derived.OrdersHeld
import Derived.Laws.BitsLemmas
import Derived.RowKit
import Derived.Test.YtdcdcnnigggdjaaHArr
import Derived.Test.YtdcdcnnigggdjaaHMake
import Derived.Test.YtdcdcnnigggdjaaWWords
import Derived.Test.YtdcdcnnigggdjaaWLast
import Derived.Test.YtdcdcnnigggdjaaWTab
import Derived.Test.YtdcdcnnigggdjaaWFour
import Derived.Test.YtdcdcnnigggdjaaWQPut
import Derived.Test.YtdcdcnnigggdjaaWApart
import Derived.Test.YtdcdcnnigggdjaaWArr
import Derived.Test.YtdcdcnnigggdjaaWZeros
import Derived.Test.YtdcdcnnigggdjaaWFoot
import Derived.Test.YtdcdcnnigggdjaaWKept
import Derived.Test.YtdcdcnnigggdjaaWShare
import Derived.Test.YtdcdcnnigggdjaaWN
import Derived.Test.YtdcdcnnigggdjaaWFootNe
import Derived.Test.YtdcdcnnigggdjaaWAt
import Derived.Test.YtdcdcnnigggdjaaWEqStruct
import Derived.Test.YtdcdcnnigggdjaaWRepsOne
import Derived.Test.YtdcdcnnigggdjaaWInv
import Derived.Test.YtdcdcnnigggdjaaWInvWords
import Derived.Test.YtdcdcnnigggdjaaWGuard
import Derived.Test.YtdcdcnnigggdjaaWNEv
import Derived.Test.YtdcdcnnigggdjaaWMore
namespace Go.Proofs.Ytdcdcnnigggdjaa.Q
open Go.Proofs.Ytdcdcnnigggdjaa.H
open Go.RowKit Go.Proofs.YtdcdcnnigggdjaaW.PrintWords Go.Proofs.YtdcdcnnigggdjaaW.PrintLast Go.Proofs.YtdcdcnnigggdjaaW.PrintMore
attribute [local go_sem] max2_int min2_int max_two min_two max_three min_three max_four min_four   -- for this text's walks alone
set_option linter.unusedVariables false
set_option linter.unusedSimpArgs false



def errW : Option Int → Value
  | none => .nilIface
  | some c => .iface 0 (.int .i64 c)
theorem errW_none : errW none = .nilIface := rfl
theorem errW_some (c : Int) : errW (some c) = .iface 0 (.int .i64 c) := rfl

theorem info5 : (Try.prog.info? 5).map (fun i => (i.zero, i.size, i.bytes)) = some (some (.int .u8 0), 1, 1) := by kernel_rfl
-- the values' own types
/-! #### struct type 28 -/
structure S28 where
  f0 : Int
  f1 : Int
  f2 : Int
  f3 : Int
  f4 : Int
  f5 : Int
def z28 : S28 := ⟨(0 : Int), (0 : Int), (0 : Int), (0 : Int), (0 : Int), (0 : Int)⟩
def k28 : Kd S28 := Kd.iso (Kd.pair (Kd.int .u32) (Kd.pair (Kd.int .u32) (Kd.pair (Kd.int .u32) (Kd.pair (Kd.int .u32) (Kd.pair (Kd.int .u32) (Kd.int .u32)))))) (fun x : S28 => (x.f0, x.f1, x.f2, x.f3, x.f4, x.f5))
theorem k28_open {w : World} {x : S28} {cs : List Value} (h : k28.K w x cs) : cs = [.int .u32 x.f0, .int .u32 x.f1, .int .u32 x.f2, .int .u32 x.f3, .int .u32 x.f4, .int .u32 x.f5] := by
  obtain ⟨_, _, rfl, rfl, ⟨_, _, rfl, rfl, ⟨_, _, rfl, rfl, ⟨_, _, rfl, rfl, ⟨_, _, rfl, rfl, rfl⟩⟩⟩⟩⟩ := h
  exact rfl
theorem k28_openM {w : World} {base : Nat} {ok : Nat → Prop} {x : S28} {cs : List Value} (h : k28.M w base ok x cs) : cs = [.int .u32 x.f0, .int .u32 x.f1, .int .u32 x.f2, .int .u32 x.f3, .int .u32 x.f4, .int .u32 x.f5] := by
  obtain ⟨_, _, rfl, rfl, ⟨_, _, rfl, rfl, ⟨_, _, rfl, rfl, ⟨_, _, rfl, rfl, ⟨_, _, rfl, rfl, rfl⟩⟩⟩⟩⟩ := h
  exact rfl
theorem k28_mk (w : World) (x : S28)  : k28.K w x [.int .u32 x.f0, .int .u32 x.f1, .int .u32 x.f2, .int .u32 x.f3, .int .u32 x.f4, .int .u32 x.f5] := ⟨[.int .u32 x.f0], [.int .u32 x.f1, .int .u32 x.f2, .int .u32 x.f3, .int .u32 x.f4, .int .u32 x.f5], rfl, rfl, ⟨[.int .u32 x.f1], [.int .u32 x.f2, .int .u32 x.f3, .int .u32 x.f4, .int .u32 x.f5], rfl, rfl, ⟨[.int .u32 x.f2], [.int .u32 x.f3, .int .u32 x.f4, .int .u32 x.f5], rfl, rfl, ⟨[.int .u32 x.f3], [.int .u32 x.f4, .int .u32 x.f5], rfl, rfl, ⟨[.int .u32 x.f4], [.int .u32 x.f5], rfl, rfl, rfl⟩⟩⟩⟩⟩
theorem k28_mkM (w : World) (base : Nat) (ok : Nat → Prop) (x : S28)  : k28.M w base ok x [.int .u32 x.f0, .int .u32 x.f1, .int .u32 x.f2, .int .u32 x.f3, .int .u32 x.f4, .int .u32 x.f5] := ⟨[.int .u32 x.f0], [.int .u32 x.f1, .int .u32 x.f2, .int .u32 x.f3, .int .u32 x.f4, .int .u32 x.f5], rfl, rfl, ⟨[.int .u32 x.f1], [.int .u32 x.f2, .int .u32 x.f3, .int .u32 x.f4, .int .u32 x.f5], rfl, rfl, ⟨[.int .u32 x.f2], [.int .u32 x.f3, .int .u32 x.f4, .int .u32 x.f5], rfl, rfl, ⟨[.int .u32 x.f3], [.int .u32 x.f4, .int .u32 x.f5], rfl, rfl, ⟨[.int .u32 x.f4], [.int .u32 x.f5], rfl, rfl, rfl⟩⟩⟩⟩⟩
def rd_T28 (xs : List S28) (i : Int) : S28 := xs.getD i.toNat z28
theorem at_T28 {w : World} {A : Option Addr} {n : Nat} {xs : List S28} (h : Kd.C k28 w A n xs) (i : Int) (h0 : 0 ≤ i) (h1 : i < n) : ∃ ad , A = some ad ∧ w.cell? (ad.add (i.toNat * 6)) = some (.int .u32 (rd_T28 xs i).f0) ∧ w.cell? ⟨(ad.add (i.toNat * 6)).block, (ad.add (i.toNat * 6)).off + 1, none⟩ = some (.int .u32 (rd_T28 xs i).f1) ∧ w.cell? ⟨(ad.add (i.toNat * 6)).block, (ad.add (i.toNat * 6)).off + 2, none⟩ = some (.int .u32 (rd_T28 xs i).f2) ∧ w.cell? ⟨(ad.add (i.toNat * 6)).block, (ad.add (i.toNat * 6)).off + 3, none⟩ = some (.int .u32 (rd_T28 xs i).f3) ∧ w.cell? ⟨(ad.add (i.toNat * 6)).block, (ad.add (i.toNat * 6)).off + 4, none⟩ = some (.int .u32 (rd_T28 xs i).f4) ∧ w.cell? ⟨(ad.add (i.toNat * 6)).block, (ad.add (i.toNat * 6)).off + 5, none⟩ = some (.int .u32 (rd_T28 xs i).f5) := by
  obtain ⟨ad, c, e, _, hK, hc0⟩ := Kd.C_get h z28 i h0 h1
  have hc : ∀ j u, c[j]? = some u → w.cell? (ad.add (i.toNat * 6 + j)) = some u := hc0
  obtain rfl := k28_open hK
  exact ⟨ad, e, hc 0 _ rfl, by rw [← add_field _ _ 1 (by omega)]; exact hc 1 _ rfl, by rw [← add_field _ _ 2 (by omega)]; exact hc 2 _ rfl, by rw [← add_field _ _ 3 (by omega)]; exact hc 3 _ rfl, by rw [← add_field _ _ 4 (by omega)]; exact hc 4 _ rfl, by rw [← add_field _ _ 5 (by omega)]; exact hc 5 _ rfl⟩

/-! #### struct type 30 -/
structure S30 where
  f0 : Int
  f1 : Int
  f2 : Int
  f3 : Int
  f4 : Int
  f5 : Int
  f6 : S28
def z30 : S30 := ⟨(0 : Int), (0 : Int), (0 : Int), (0 : Int), (0 : Int), (0 : Int), z28⟩
def k30 : Kd S30 := Kd.iso (Kd.pair (Kd.int .i64) (Kd.pair (Kd.int .u16) (Kd.pair (Kd.int .u16) (Kd.pair (Kd.int .u32) (Kd.pair (Kd.int .u64) (Kd.pair (Kd.int .i64) k28)))))) (fun x : S30 => (x.f0, x.f1, x.f2, x.f3, x.f4, x.f5, x.f6))
theorem k30_open {w : World} {x : S30} {cs : List Value} (h : k30.K w x cs) : cs = [.int .i64 x.f0, .int .u16 x.f1, .int .u16 x.f2, .int .u32 x.f3, .int .u64 x.f4, .int .i64 x.f5, .int .u32 x.f6.f0, .int .u32 x.f6.f1, .int .u32 x.f6.f2, .int .u32 x.f6.f3, .int .u32 x.f6.f4, .int .u32 x.f6.f5] := by
  obtain ⟨_, _, rfl, rfl, ⟨_, _, rfl, rfl, ⟨_, _, rfl, rfl, ⟨_, _, rfl, rfl, ⟨_, _, rfl, rfl, ⟨_, _, rfl, rfl, s6⟩⟩⟩⟩⟩⟩ := h
  obtain rfl := k28_open s6
  exact rfl
theorem k30_openM {w : World} {base : Nat} {ok : Nat → Prop} {x : S30} {cs : List Value} (h : k30.M w base ok x cs) : cs = [.int .i64 x.f0, .int .u16 x.f1, .int .u16 x.f2, .int .u32 x.f3, .int .u64 x.f4, .int .i64 x.f5, .int .u32 x.f6.f0, .int .u32 x.f6.f1, .int .u32 x.f6.f2, .int .u32 x.f6.f3, .int .u32 x.f6.f4, .int .u32 x.f6.f5] := by
  obtain ⟨_, _, rfl, rfl, ⟨_, _, rfl, rfl, ⟨_, _, rfl, rfl, ⟨_, _, rfl, rfl, ⟨_, _, rfl, rfl, ⟨_, _, rfl, rfl, s6⟩⟩⟩⟩⟩⟩ := h
  obtain rfl := k28_openM s6
  exact rfl
theorem k30_mk (w : World) (x : S30)  : k30.K w x [.int .i64 x.f0, .int .u16 x.f1, .int .u16 x.f2, .int .u32 x.f3, .int .u64 x.f4, .int .i64 x.f5, .int .u32 x.f6.f0, .int .u32 x.f6.f1, .int .u32 x.f6.f2, .int .u32 x.f6.f3, .int .u32 x.f6.f4, .int .u32 x.f6.f5] := ⟨[.int .i64 x.f0], [.int .u16 x.f1, .int .u16 x.f2, .int .u32 x.f3, .int .u64 x.f4, .int .i64 x.f5, .int .u32 x.f6.f0, .int .u32 x.f6.f1, .int .u32 x.f6.f2, .int .u32 x.f6.f3, .int .u32 x.f6.f4, .int .u32 x.f6.f5], rfl, rfl, ⟨[.int .u16 x.f1], [.int .u16 x.f2, .int .u32 x.f3, .int .u64 x.f4, .int .i64 x.f5, .int .u32 x.f6.f0, .int .u32 x.f6.f1, .int .u32 x.f6.f2, .int .u32 x.f6.f3, .int .u32 x.f6.f4, .int .u32 x.f6.f5], rfl, rfl, ⟨[.int .u16 x.f2], [.int .u32 x.f3, .int .u64 x.f4, .int .i64 x.f5, .int .u32 x.f6.f0, .int .u32 x.f6.f1, .int .u32 x.f6.f2, .int .u32 x.f6.f3, .int .u32 x.f6.f4, .int .u32 x.f6.f5], rfl, rfl, ⟨[.int .u32 x.f3], [.int .u64 x.f4, .int .i64 x.f5, .int .u32 x.f6.f0, .int .u32 x.f6.f1, .int .u32 x.f6.f2, .int .u32 x.f6.f3, .int .u32 x.f6.f4, .int .u32 x.f6.f5], rfl, rfl, ⟨[.int .u64 x.f4], [.int .i64 x.f5, .int .u32 x.f6.f0, .int .u32 x.f6.f1, .int .u32 x.f6.f2, .int .u32 x.f6.f3, .int .u32 x.f6.f4, .int .u32 x.f6.f5], rfl, rfl, ⟨[.int .i64 x.f5], [.int .u32 x.f6.f0, .int .u32 x.f6.f1, .int .u32 x.f6.f2, .int .u32 x.f6.f3, .int .u32 x.f6.f4, .int .u32 x.f6.f5], rfl, rfl, (k28_mk w x.f6 )⟩⟩⟩⟩⟩⟩
theorem k30_mkM (w : World) (base : Nat) (ok : Nat → Prop) (x : S30)  : k30.M w base ok x [.int .i64 x.f0, .int .u16 x.f1, .int .u16 x.f2, .int .u32 x.f3, .int .u64 x.f4, .int .i64 x.f5, .int .u32 x.f6.f0, .int .u32 x.f6.f1, .int .u32 x.f6.f2, .int .u32 x.f6.f3, .int .u32 x.f6.f4, .int .u32 x.f6.f5] := ⟨[.int .i64 x.f0], [.int .u16 x.f1, .int .u16 x.f2, .int .u32 x.f3, .int .u64 x.f4, .int .i64 x.f5, .int .u32 x.f6.f0, .int .u32 x.f6.f1, .int .u32 x.f6.f2, .int .u32 x.f6.f3, .int .u32 x.f6.f4, .int .u32 x.f6.f5], rfl, rfl, ⟨[.int .u16 x.f1], [.int .u16 x.f2, .int .u32 x.f3, .int .u64 x.f4, .int .i64 x.f5, .int .u32 x.f6.f0, .int .u32 x.f6.f1, .int .u32 x.f6.f2, .int .u32 x.f6.f3, .int .u32 x.f6.f4, .int .u32 x.f6.f5], rfl, rfl, ⟨[.int .u16 x.f2], [.int .u32 x.f3, .int .u64 x.f4, .int .i64 x.f5, .int .u32 x.f6.f0, .int .u32 x.f6.f1, .int .u32 x.f6.f2, .int .u32 x.f6.f3, .int .u32 x.f6.f4, .int .u32 x.f6.f5], rfl, rfl, ⟨[.int .u32 x.f3], [.int .u64 x.f4, .int .i64 x.f5, .int .u32 x.f6.f0, .int .u32 x.f6.f1, .int .u32 x.f6.f2, .int .u32 x.f6.f3, .int .u32 x.f6.f4, .int .u32 x.f6.f5], rfl, rfl, ⟨[.int .u64 x.f4], [.int .i64 x.f5, .int .u32 x.f6.f0, .int .u32 x.f6.f1, .int .u32 x.f6.f2, .int .u32 x.f6.f3, .int .u32 x.f6.f4, .int .u32 x.f6.f5], rfl, rfl, ⟨[.int .i64 x.f5], [.int .u32 x.f6.f0, .int .u32 x.f6.f1, .int .u32 x.f6.f2, .int .u32 x.f6.f3, .int .u32 x.f6.f4, .int .u32 x.f6.f5], rfl, rfl, (k28_mkM w base ok x.f6 )⟩⟩⟩⟩⟩⟩
def rd_T30 (xs : List S30) (i : Int) : S30 := xs.getD i.toNat z30
theorem at_T30 {w : World} {A : Option Addr} {n : Nat} {xs : List S30} (h : Kd.C k30 w A n xs) (i : Int) (h0 : 0 ≤ i) (h1 : i < n) : ∃ ad , A = some ad ∧ w.cell? (ad.add (i.toNat * 12)) = some (.int .i64 (rd_T30 xs i).f0) ∧ w.cell? ⟨(ad.add (i.toNat * 12)).block, (ad.add (i.toNat * 12)).off + 1, none⟩ = some (.int .u16 (rd_T30 xs i).f1) ∧ w.cell? ⟨(ad.add (i.toNat * 12)).block, (ad.add (i.toNat * 12)).off + 2, none⟩ = some (.int .u16 (rd_T30 xs i).f2) ∧ w.cell? ⟨(ad.add (i.toNat * 12)).block, (ad.add (i.toNat * 12)).off + 3, none⟩ = some (.int .u32 (rd_T30 xs i).f3) ∧ w.cell? ⟨(ad.add (i.toNat * 12)).block, (ad.add (i.toNat * 12)).off + 4, none⟩ = some (.int .u64 (rd_T30 xs i).f4) ∧ w.cell? ⟨(ad.add (i.toNat * 12)).block, (ad.add (i.toNat * 12)).off + 5, none⟩ = some (.int .i64 (rd_T30 xs i).f5) ∧ w.cell? ⟨(ad.add (i.toNat * 12)).block, (ad.add (i.toNat * 12)).off + 6, none⟩ = some (.int .u32 (rd_T30 xs i).f6.f0) ∧ w.cell? ⟨(ad.add (i.toNat * 12)).block, (ad.add (i.toNat * 12)).off + 7, none⟩ = some (.int .u32 (rd_T30 xs i).f6.f1) ∧ w.cell? ⟨(ad.add (i.toNat * 12)).block, (ad.add (i.toNat * 12)).off + 8, none⟩ = some (.int .u32 (rd_T30 xs i).f6.f2) ∧ w.cell? ⟨(ad.add (i.toNat * 12)).block, (ad.add (i.toNat * 12)).off + 9, none⟩ = some (.int .u32 (rd_T30 xs i).f6.f3) ∧ w.cell? ⟨(ad.add (i.toNat * 12)).block, (ad.add (i.toNat * 12)).off + 10, none⟩ = some (.int .u32 (rd_T30 xs i).f6.f4) ∧ w.cell? ⟨(ad.add (i.toNat * 12)).block, (ad.add (i.toNat * 12)).off + 11, none⟩ = some (.int .u32 (rd_T30 xs i).f6.f5) := by
  obtain ⟨ad, c, e, _, hK, hc0⟩ := Kd.C_get h z30 i h0 h1
  have hc : ∀ j u, c[j]? = some u → w.cell? (ad.add (i.toNat * 12 + j)) = some u := hc0
  obtain rfl := k30_open hK
  exact ⟨ad, e, hc 0 _ rfl, by rw [← add_field _ _ 1 (by omega)]; exact hc 1 _ rfl, by rw [← add_field _ _ 2 (by omega)]; exact hc 2 _ rfl, by rw [← add_field _ _ 3 (by omega)]; exact hc 3 _ rfl, by rw [← add_field _ _ 4 (by omega)]; exact hc 4 _ rfl, by rw [← add_field _ _ 5 (by omega)]; exact hc 5 _ rfl, by rw [← add_field _ _ 6 (by omega)]; exact hc 6 _ rfl, by rw [← add_field _ _ 7 (by omega)]; exact hc 7 _ rfl, by rw [← add_field _ _ 8 (by omega)]; exact hc 8 _ rfl, by rw [← add_field _ _ 9 (by omega)]; exact hc 9 _ rfl, by rw [← add_field _ _ 10 (by omega)]; exact hc 10 _ rfl, by rw [← add_field _ _ 11 (by omega)]; exact hc 11 _ rfl⟩

end Go.Proofs.Ytdcdcnnigggdjaa.Q
