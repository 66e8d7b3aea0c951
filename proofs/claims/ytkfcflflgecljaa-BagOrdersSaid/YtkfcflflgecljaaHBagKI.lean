/- Nodes of a bag of int64: how they lie; leaf, find. -/
import Derived.Test.YtkfcflflgecljaaHBagB
import Derived.Test.YtkfcflflgecljaaHBagSI
import Derived.Test.YtkfcflflgecljaaHBagSP
import Derived.Test.YtkfcflflgecljaaHBagSI
set_option linter.unusedVariables false
set_option linter.unusedSimpArgs false
namespace Go.Proofs.Ytkfcflflgecljaa.H
open Go.RowKit Go.Proofs.YtkfcflflgecljaaW.PrintWords Go.Proofs.YtkfcflflgecljaaW.PrintLast
def LI : Lay Int where
  tN := 58
  ty := fun f => match f with | 0 => 2 | 1 => 2 | _ => 51
  ev := Value.int .i64
  one := fun _ => rfl
theorem len0I (n : Nat) (l : List Nat) (h : l.length = n) : ((n : Int) == 0) = l.isEmpty := by
  subst h
  cases l with
  | nil => rfl
  | cons a l => simp; omega
theorem leafI.calls {own : Own} {H : HP Int} (a : Nat) (nd : Nd Int) (w : World) (hH : Heap LI w own H) (ha : H a = some nd) :
    Calls Try.prog 31 #[.pointer (some ⟨a, 0, none⟩)] w fun e w' => e = .returned (.bool nd.cs.isEmpty) ∧ w' = w := by
  obtain ⟨A0, c0, A1, c1, A2, c2, hv⟩ := hH.view ha
  have k2 := hv.k2
  generalize hn : nd.cs.length = n at k2
  have HN := Aside0.mk (len0I n nd.cs hn)
  clear hv hH ha hn
  go_enter Try.func31, Try.ntmps31
  go_wp2
  go_ret
  exact ⟨by rw [← HN.out]; rfl, rfl⟩
theorem findI.calls {own : Own} {H : HP Int} (a : Nat) (nd : Nd Int) (x : Int) (w : World) (hH : Heap LI w own H) (ha : H a = some nd) (hlen : nd.ks.length ≤ 1000) (hs : nd.ks.Pairwise (· < ·)) :
    Calls Try.prog 30 #[.pointer (some ⟨a, 0, none⟩), .int .i64 x] w fun e w' => e = .returned (.tuple #[.int .i64 (nd.ks.countP (· < x) : Nat), .bool (nd.ks.contains x)]) ∧ w' = w := by
  obtain ⟨A0, c0, A1, c1, A2, c2, hv⟩ := hH.view ha
  have k0 := hv.k0
  have hr := hv.r0.row
  generalize hn : nd.ks.length = n at k0 hr hlen
  have hrow : w.ownsRow 0 2 1 (.slice A0 n c0) n (nd.ks.map (.int .i64)) := by
    have := hr
    rw [show (nd.row LI 0).length = n by simp [Nd.row, hn]] at this
    exact this
  have HC := Aside0.mk (Search.calls A0 n c0 nd.ks x w hn hlen hrow hs)
  generalize nd.ks.countP (· < x) = p at HC ⊢
  generalize nd.ks.contains x = q at HC ⊢
  clear hv hH ha hn hr hrow hs hlen
  go_enter Try.func30, Try.ntmps30
  go_wp2_with fail
  refine HC.out.mono ?_
  rintro e w' ⟨rfl, rfl⟩
  go_wp2_with fail
  go_ret2
  exact ⟨rfl, rfl⟩
end Go.Proofs.Ytkfcflflgecljaa.H
