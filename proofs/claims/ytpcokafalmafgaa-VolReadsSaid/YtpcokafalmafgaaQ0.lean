/- Functions of the translation as plain Lean functions, and that the translation computes them: printed by this session's driver of the print. -/
import Derived.Test.YtpcokafalmafgaaProg
import Derived.Below
import Derived.Deep.Draws
import Derived.Deep.AppendLies
import Derived.Maps.AppendAt
import Derived.OwnWalk
import Derived.Laws.BytesArg
import Derived.Laws.MakeOwn
import Derived.Laws.OwnMore
import Derived.Deep.OwnRows
import Derived.Tactics
import Derived.Lib.ConvBytes
import Derived.Laws.Slices
import Derived.WalkKit
import Derived.KernelRfl
import Derived.RowKit3
import Derived.Deep.LoopGhost
import Derived.Deep.QuietTactic
import Derived.BigQuiet
import Derived.WideLaws
import Derived.Deep.DeepCutAuto
import Derived.Deep.CutBlock
import Derived.Deep.RegionHeld3
import Derived.Laws.Rows
import Derived.Lib.AppendStr
import Derived.ArgAppend
import Derived.Laws.IdiomCopy
import Derived.OrdersHeld
import Derived.Laws.BitsLemmas
import Derived.RowKit
import Derived.Test.YtpcokafalmafgaaHArr
import Derived.Test.YtpcokafalmafgaaHMake
import Derived.Test.YtpcokafalmafgaaWWords
import Derived.Test.YtpcokafalmafgaaWLast
import Derived.Test.YtpcokafalmafgaaWTab
import Derived.Test.YtpcokafalmafgaaWFour
import Derived.Test.YtpcokafalmafgaaWQPut
import Derived.Test.YtpcokafalmafgaaWApart
import Derived.Test.YtpcokafalmafgaaWArr
import Derived.Test.YtpcokafalmafgaaWZeros
import Derived.Test.YtpcokafalmafgaaWFoot
import Derived.Test.YtpcokafalmafgaaWKept
import Derived.Test.YtpcokafalmafgaaWShare
import Derived.Test.YtpcokafalmafgaaWN
import Derived.Test.YtpcokafalmafgaaWFootNe
import Derived.Test.YtpcokafalmafgaaWAt
import Derived.Test.YtpcokafalmafgaaWEqStruct
import Derived.Test.YtpcokafalmafgaaWRepsOne
import Derived.Test.YtpcokafalmafgaaWInv
import Derived.Test.YtpcokafalmafgaaWInvWords
import Derived.Test.YtpcokafalmafgaaWGuard
import Derived.Test.YtpcokafalmafgaaWNEv
import Derived.Test.YtpcokafalmafgaaWMore
namespace Go.Proofs.Ytpcokafalmafgaa.Q
open Go.Proofs.Ytpcokafalmafgaa.H
open Go.RowKit Go.Proofs.YtpcokafalmafgaaW.PrintWords Go.Proofs.YtpcokafalmafgaaW.PrintLast Go.Proofs.YtpcokafalmafgaaW.PrintMore
attribute [local go_sem] max2_int min2_int max_two min_two max_three min_three max_four min_four   -- for this text's walks alone
set_option linter.unusedVariables false
set_option linter.unusedSimpArgs false



def errW : Option Int → Value
 | none => .nilIface
 | some c => .iface 0 (.int .i64 c)
theorem errW_none : errW none = .nilIface := rfl
theorem errW_some (c : Int) : errW (some c) = .iface 0 (.int .i64 c) := rfl

theorem info5 : (Try.prog.info? 5).map (fun i => (i.zero, i.size, i.bytes)) = some (some (.int .u8 0), 1, 1) := by kernel_rfl
theorem info9 : (Try.prog.info? 9).map (fun i => (i.zero, i.size, i.bytes)) = some (some (.string ⟨#[]⟩), 1, 16) := by kernel_rfl
theorem info42 : (Try.prog.info? 42).map (fun i => (i.zero, i.size, i.bytes)) = some (some (.agg #[(.int .i64 0), (.int .u16 0), (.int .u16 0), (.int .u32 0), (.int .u64 0), (.int .i64 0), (.int .u32 0), (.int .u32 0), (.int .u32 0), (.int .u32 0), (.int .u32 0), (.int .u32 0)]), 12, 56) := by kernel_rfl
-- the values' own types
/-! #### struct type 35 -/
structure S35 where
 f0 : Int
 f1 : Int
 f2 : Int
 f3 : Int
 f4 : ByteArray
/-! #### struct type 40 -/
structure S40 where
 f0 : Int
 f1 : Int
 f2 : Int
 f3 : Int
 f4 : Int
 f5 : Int
def z40 : S40 := ⟨(0 : Int), (0 : Int), (0 : Int), (0 : Int), (0 : Int), (0 : Int)⟩
def k40 : Kd S40 := Kd.iso (Kd.pair (Kd.int .u32) (Kd.pair (Kd.int .u32) (Kd.pair (Kd.int .u32) (Kd.pair (Kd.int .u32) (Kd.pair (Kd.int .u32) (Kd.int .u32)))))) (fun x : S40 => (x.f0, x.f1, x.f2, x.f3, x.f4, x.f5))
theorem k40_open {w : World} {x : S40} {cs : List Value} (h : k40.K w x cs) : cs = [.int .u32 x.f0, .int .u32 x.f1, .int .u32 x.f2, .int .u32 x.f3, .int .u32 x.f4, .int .u32 x.f5] := by
 obtain ⟨_, _, rfl, rfl, ⟨_, _, rfl, rfl, ⟨_, _, rfl, rfl, ⟨_, _, rfl, rfl, ⟨_, _, rfl, rfl, rfl⟩⟩⟩⟩⟩ := h
 exact rfl
theorem k40_mk (w : World) (x : S40)  : k40.K w x [.int .u32 x.f0, .int .u32 x.f1, .int .u32 x.f2, .int .u32 x.f3, .int .u32 x.f4, .int .u32 x.f5] := ⟨[.int .u32 x.f0], [.int .u32 x.f1, .int .u32 x.f2, .int .u32 x.f3, .int .u32 x.f4, .int .u32 x.f5], rfl, rfl, ⟨[.int .u32 x.f1], [.int .u32 x.f2, .int .u32 x.f3, .int .u32 x.f4, .int .u32 x.f5], rfl, rfl, ⟨[.int .u32 x.f2], [.int .u32 x.f3, .int .u32 x.f4, .int .u32 x.f5], rfl, rfl, ⟨[.int .u32 x.f3], [.int .u32 x.f4, .int .u32 x.f5], rfl, rfl, ⟨[.int .u32 x.f4], [.int .u32 x.f5], rfl, rfl, rfl⟩⟩⟩⟩⟩
theorem k40_mkM (w : World) (base : Nat) (ok : Nat → Prop) (x : S40)  : k40.M w base ok x [.int .u32 x.f0, .int .u32 x.f1, .int .u32 x.f2, .int .u32 x.f3, .int .u32 x.f4, .int .u32 x.f5] := ⟨[.int .u32 x.f0], [.int .u32 x.f1, .int .u32 x.f2, .int .u32 x.f3, .int .u32 x.f4, .int .u32 x.f5], rfl, rfl, ⟨[.int .u32 x.f1], [.int .u32 x.f2, .int .u32 x.f3, .int .u32 x.f4, .int .u32 x.f5], rfl, rfl, ⟨[.int .u32 x.f2], [.int .u32 x.f3, .int .u32 x.f4, .int .u32 x.f5], rfl, rfl, ⟨[.int .u32 x.f3], [.int .u32 x.f4, .int .u32 x.f5], rfl, rfl, ⟨[.int .u32 x.f4], [.int .u32 x.f5], rfl, rfl, rfl⟩⟩⟩⟩⟩
/-! #### struct type 42 -/
structure S42 where
 f0 : Int
 f1 : Int
 f2 : Int
 f3 : Int
 f4 : Int
 f5 : Int
 f6 : S40
def z42 : S42 := ⟨(0 : Int), (0 : Int), (0 : Int), (0 : Int), (0 : Int), (0 : Int), z40⟩
def k42 : Kd S42 := Kd.iso (Kd.pair (Kd.int .i64) (Kd.pair (Kd.int .u16) (Kd.pair (Kd.int .u16) (Kd.pair (Kd.int .u32) (Kd.pair (Kd.int .u64) (Kd.pair (Kd.int .i64) k40)))))) (fun x : S42 => (x.f0, x.f1, x.f2, x.f3, x.f4, x.f5, x.f6))
theorem k42_open {w : World} {x : S42} {cs : List Value} (h : k42.K w x cs) : cs = [.int .i64 x.f0, .int .u16 x.f1, .int .u16 x.f2, .int .u32 x.f3, .int .u64 x.f4, .int .i64 x.f5, .int .u32 x.f6.f0, .int .u32 x.f6.f1, .int .u32 x.f6.f2, .int .u32 x.f6.f3, .int .u32 x.f6.f4, .int .u32 x.f6.f5] := by
 obtain ⟨_, _, rfl, rfl, ⟨_, _, rfl, rfl, ⟨_, _, rfl, rfl, ⟨_, _, rfl, rfl, ⟨_, _, rfl, rfl, ⟨_, _, rfl, rfl, s6⟩⟩⟩⟩⟩⟩ := h
 obtain rfl := k40_open s6
 exact rfl
theorem k42_mk (w : World) (x : S42)  : k42.K w x [.int .i64 x.f0, .int .u16 x.f1, .int .u16 x.f2, .int .u32 x.f3, .int .u64 x.f4, .int .i64 x.f5, .int .u32 x.f6.f0, .int .u32 x.f6.f1, .int .u32 x.f6.f2, .int .u32 x.f6.f3, .int .u32 x.f6.f4, .int .u32 x.f6.f5] := ⟨[.int .i64 x.f0], [.int .u16 x.f1, .int .u16 x.f2, .int .u32 x.f3, .int .u64 x.f4, .int .i64 x.f5, .int .u32 x.f6.f0, .int .u32 x.f6.f1, .int .u32 x.f6.f2, .int .u32 x.f6.f3, .int .u32 x.f6.f4, .int .u32 x.f6.f5], rfl, rfl, ⟨[.int .u16 x.f1], [.int .u16 x.f2, .int .u32 x.f3, .int .u64 x.f4, .int .i64 x.f5, .int .u32 x.f6.f0, .int .u32 x.f6.f1, .int .u32 x.f6.f2, .int .u32 x.f6.f3, .int .u32 x.f6.f4, .int .u32 x.f6.f5], rfl, rfl, ⟨[.int .u16 x.f2], [.int .u32 x.f3, .int .u64 x.f4, .int .i64 x.f5, .int .u32 x.f6.f0, .int .u32 x.f6.f1, .int .u32 x.f6.f2, .int .u32 x.f6.f3, .int .u32 x.f6.f4, .int .u32 x.f6.f5], rfl, rfl, ⟨[.int .u32 x.f3], [.int .u64 x.f4, .int .i64 x.f5, .int .u32 x.f6.f0, .int .u32 x.f6.f1, .int .u32 x.f6.f2, .int .u32 x.f6.f3, .int .u32 x.f6.f4, .int .u32 x.f6.f5], rfl, rfl, ⟨[.int .u64 x.f4], [.int .i64 x.f5, .int .u32 x.f6.f0, .int .u32 x.f6.f1, .int .u32 x.f6.f2, .int .u32 x.f6.f3, .int .u32 x.f6.f4, .int .u32 x.f6.f5], rfl, rfl, ⟨[.int .i64 x.f5], [.int .u32 x.f6.f0, .int .u32 x.f6.f1, .int .u32 x.f6.f2, .int .u32 x.f6.f3, .int .u32 x.f6.f4, .int .u32 x.f6.f5], rfl, rfl, (k40_mk w x.f6 )⟩⟩⟩⟩⟩⟩
theorem k42_mkM (w : World) (base : Nat) (ok : Nat → Prop) (x : S42)  : k42.M w base ok x [.int .i64 x.f0, .int .u16 x.f1, .int .u16 x.f2, .int .u32 x.f3, .int .u64 x.f4, .int .i64 x.f5, .int .u32 x.f6.f0, .int .u32 x.f6.f1, .int .u32 x.f6.f2, .int .u32 x.f6.f3, .int .u32 x.f6.f4, .int .u32 x.f6.f5] := ⟨[.int .i64 x.f0], [.int .u16 x.f1, .int .u16 x.f2, .int .u32 x.f3, .int .u64 x.f4, .int .i64 x.f5, .int .u32 x.f6.f0, .int .u32 x.f6.f1, .int .u32 x.f6.f2, .int .u32 x.f6.f3, .int .u32 x.f6.f4, .int .u32 x.f6.f5], rfl, rfl, ⟨[.int .u16 x.f1], [.int .u16 x.f2, .int .u32 x.f3, .int .u64 x.f4, .int .i64 x.f5, .int .u32 x.f6.f0, .int .u32 x.f6.f1, .int .u32 x.f6.f2, .int .u32 x.f6.f3, .int .u32 x.f6.f4, .int .u32 x.f6.f5], rfl, rfl, ⟨[.int .u16 x.f2], [.int .u32 x.f3, .int .u64 x.f4, .int .i64 x.f5, .int .u32 x.f6.f0, .int .u32 x.f6.f1, .int .u32 x.f6.f2, .int .u32 x.f6.f3, .int .u32 x.f6.f4, .int .u32 x.f6.f5], rfl, rfl, ⟨[.int .u32 x.f3], [.int .u64 x.f4, .int .i64 x.f5, .int .u32 x.f6.f0, .int .u32 x.f6.f1, .int .u32 x.f6.f2, .int .u32 x.f6.f3, .int .u32 x.f6.f4, .int .u32 x.f6.f5], rfl, rfl, ⟨[.int .u64 x.f4], [.int .i64 x.f5, .int .u32 x.f6.f0, .int .u32 x.f6.f1, .int .u32 x.f6.f2, .int .u32 x.f6.f3, .int .u32 x.f6.f4, .int .u32 x.f6.f5], rfl, rfl, ⟨[.int .i64 x.f5], [.int .u32 x.f6.f0, .int .u32 x.f6.f1, .int .u32 x.f6.f2, .int .u32 x.f6.f3, .int .u32 x.f6.f4, .int .u32 x.f6.f5], rfl, rfl, (k40_mkM w base ok x.f6 )⟩⟩⟩⟩⟩⟩
def rd_T42 (xs : List S42) (i : Int) : S42 := xs.getD i.toNat z42
theorem at_T42 {w : World} {A : Option Addr} {n : Nat} {xs : List S42} (h : Kd.C k42 w A n xs) (i : Int) (h0 : 0 ≤ i) (h1 : i < n) : ∃ ad , A = some ad ∧ w.cell? (ad.add (i.toNat * 12)) = some (.int .i64 (rd_T42 xs i).f0) ∧ w.cell? ⟨(ad.add (i.toNat * 12)).block, (ad.add (i.toNat * 12)).off + 1, none⟩ = some (.int .u16 (rd_T42 xs i).f1) ∧ w.cell? ⟨(ad.add (i.toNat * 12)).block, (ad.add (i.toNat * 12)).off + 2, none⟩ = some (.int .u16 (rd_T42 xs i).f2) ∧ w.cell? ⟨(ad.add (i.toNat * 12)).block, (ad.add (i.toNat * 12)).off + 3, none⟩ = some (.int .u32 (rd_T42 xs i).f3) ∧ w.cell? ⟨(ad.add (i.toNat * 12)).block, (ad.add (i.toNat * 12)).off + 4, none⟩ = some (.int .u64 (rd_T42 xs i).f4) ∧ w.cell? ⟨(ad.add (i.toNat * 12)).block, (ad.add (i.toNat * 12)).off + 5, none⟩ = some (.int .i64 (rd_T42 xs i).f5) ∧ w.cell? ⟨(ad.add (i.toNat * 12)).block, (ad.add (i.toNat * 12)).off + 6, none⟩ = some (.int .u32 (rd_T42 xs i).f6.f0) ∧ w.cell? ⟨(ad.add (i.toNat * 12)).block, (ad.add (i.toNat * 12)).off + 7, none⟩ = some (.int .u32 (rd_T42 xs i).f6.f1) ∧ w.cell? ⟨(ad.add (i.toNat * 12)).block, (ad.add (i.toNat * 12)).off + 8, none⟩ = some (.int .u32 (rd_T42 xs i).f6.f2) ∧ w.cell? ⟨(ad.add (i.toNat * 12)).block, (ad.add (i.toNat * 12)).off + 9, none⟩ = some (.int .u32 (rd_T42 xs i).f6.f3) ∧ w.cell? ⟨(ad.add (i.toNat * 12)).block, (ad.add (i.toNat * 12)).off + 10, none⟩ = some (.int .u32 (rd_T42 xs i).f6.f4) ∧ w.cell? ⟨(ad.add (i.toNat * 12)).block, (ad.add (i.toNat * 12)).off + 11, none⟩ = some (.int .u32 (rd_T42 xs i).f6.f5) := by
 obtain ⟨ad, c, e, _, hK, hc0⟩ := Kd.C_get h z42 i h0 h1
 have hc : ∀ j u, c[j]? = some u → w.cell? (ad.add (i.toNat * 12 + j)) = some u := hc0
 obtain rfl := k42_open hK
 exact ⟨ad, e, hc 0 _ rfl, by rw [← add_field _ _ 1 (by omega)]; exact hc 1 _ rfl, by rw [← add_field _ _ 2 (by omega)]; exact hc 2 _ rfl, by rw [← add_field _ _ 3 (by omega)]; exact hc 3 _ rfl, by rw [← add_field _ _ 4 (by omega)]; exact hc 4 _ rfl, by rw [← add_field _ _ 5 (by omega)]; exact hc 5 _ rfl, by rw [← add_field _ _ 6 (by omega)]; exact hc 6 _ rfl, by rw [← add_field _ _ 7 (by omega)]; exact hc 7 _ rfl, by rw [← add_field _ _ 8 (by omega)]; exact hc 8 _ rfl, by rw [← add_field _ _ 9 (by omega)]; exact hc 9 _ rfl, by rw [← add_field _ _ 10 (by omega)]; exact hc 10 _ rfl, by rw [← add_field _ _ 11 (by omega)]; exact hc 11 _ rfl⟩

end Go.Proofs.Ytpcokafalmafgaa.Q
