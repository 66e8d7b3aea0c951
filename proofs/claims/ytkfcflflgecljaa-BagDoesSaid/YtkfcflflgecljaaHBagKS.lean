/- Nodes of a bag of string: how they lie; leaf, find. -/
import Derived.Test.YtkfcflflgecljaaHBagB
import Derived.Test.YtkfcflflgecljaaHBagSS
import Derived.Test.YtkfcflflgecljaaHBagSQ
import Derived.Test.YtkfcflflgecljaaHBagSI
set_option linter.unusedVariables false
set_option linter.unusedSimpArgs false
namespace Go.Proofs.Ytkfcflflgecljaa.H
open Go.RowKit Go.Proofs.YtkfcflflgecljaaW.PrintWords Go.Proofs.YtkfcflflgecljaaW.PrintLast
def LS : Lay ByteArray where
  tN := 70
  ty := fun f => match f with | 0 => 2 | 1 => 9 | _ => 66
  ev := Value.string
  one := fun _ => rfl
theorem len0S (n : Nat) (l : List Nat) (h : l.length = n) : ((n : Int) == 0) = l.isEmpty := by
  subst h
  cases l with
  | nil => rfl
  | cons a l => simp; omega
theorem leafS.calls {own : Own} {H : HP ByteArray} (a : Nat) (nd : Nd ByteArray) (w : World) (hH : Heap LS w own H) (ha : H a = some nd) :
    Calls Try.prog 41 #[.pointer (some ⟨a, 0, none⟩)] w fun e w' => e = .returned (.bool nd.cs.isEmpty) ∧ w' = w := by
  obtain ⟨A0, c0, A1, c1, A2, c2, hv⟩ := hH.view ha
  have k2 := hv.k2
  generalize hn : nd.cs.length = n at k2
  have HN := Aside0.mk (len0S n nd.cs hn)
  clear hv hH ha hn
  go_enter Try.func41, Try.ntmps41
  go_wp2
  go_ret
  exact ⟨by rw [← HN.out]; rfl, rfl⟩
theorem findS.calls {own : Own} {H : HP ByteArray} (a : Nat) (nd : Nd ByteArray) (x : Int) (w : World) (hH : Heap LS w own H) (ha : H a = some nd) (hlen : nd.ks.length ≤ 1000) (hs : nd.ks.Pairwise (· < ·)) :
    Calls Try.prog 40 #[.pointer (some ⟨a, 0, none⟩), .int .i64 x] w fun e w' => e = .returned (.tuple #[.int .i64 (nd.ks.countP (· < x) : Nat), .bool (nd.ks.contains x)]) ∧ w' = w := by
  obtain ⟨A0, c0, A1, c1, A2, c2, hv⟩ := hH.view ha
  have k0 := hv.k0
  have hr := hv.r0.row
  generalize hn : nd.ks.length = n at k0 hr hlen
  have hrow : w.ownsRow 0 2 1 (.slice A0 n c0) n (nd.ks.map (.int .i64)) := by
    have := hr
    rw [show (nd.row LS 0).length = n by simp [Nd.row, hn]] at this
    exact this
  have HC := Aside0.mk (Search.calls A0 n c0 nd.ks x w hn hlen hrow hs)
  generalize nd.ks.countP (· < x) = p at HC ⊢
  generalize nd.ks.contains x = q at HC ⊢
  clear hv hH ha hn hr hrow hs hlen
  go_enter Try.func40, Try.ntmps40
  go_wp2_with fail
  refine HC.out.mono ?_
  rintro e w' ⟨rfl, rfl⟩
  go_wp2_with fail
  go_ret2
  exact ⟨rfl, rfl⟩
end Go.Proofs.Ytkfcflflgecljaa.H
