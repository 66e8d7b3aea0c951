/- strings.Join: the library's contract, over rows. -/
import Derived.Test.YtpcokafalmafgaaQ0
import Derived.Test.YtpcokafalmafgaaHShelfJ
import Derived.Test.YtpcokafalmafgaaWMore
set_option linter.unusedVariables false
namespace Go.Proofs.Ytpcokafalmafgaa.Q
open Go.RowKit Go.Shelf Go.Proofs.Ytpcokafalmafgaa.H Go.Proofs.YtpcokafalmafgaaW.PrintWords Go.Proofs.YtpcokafalmafgaaW.PrintLast Go.Proofs.YtpcokafalmafgaaW.PrintMore

def joinB (l : List ByteArray) (sep : ByteArray) : ByteArray := ⟨(Lib.join (l.map (·.data.toList)) sep.data.toList).toArray⟩
def strings_Join.f (l : List ByteArray) (sep : ByteArray) : Option ByteArray := if l.length ≤ 1000000 ∧ (joinB l sep).size ≤ 1000000000 then some (joinB l sep) else none
theorem strings_Join.calls (A0 : Option Addr) (c0 : Nat) (l0 : List ByteArray) (a1 : ByteArray) (r : ByteArray) (w : World) (hr0 : Kd.C Kd.string w A0 l0.length l0) (hc0 : l0.length ≤ c0) (h : strings_Join.f l0 a1 = some r) :
    Calls Try.prog 39 #[.slice A0 l0.length c0, .string a1] w fun e w' => e = .returned (.string r) ∧ Below w.heap.size w w' := by
  unfold strings_Join.f at h
  split at h
  · rename_i hh
    cases h
    have hlen : (Lib.join (l0.map (·.data.toList)) a1.data.toList).length ≤ 140737488355328 := by
      have : (joinB l0 a1).size = (Lib.join (l0.map (·.data.toList)) a1.data.toList).length := by simp [joinB, ByteArray.size]
      omega
    cases l0 with
    | nil =>
      refine (b_Join_none A0 c0 a1 w).mono ?_
      rintro e w' ⟨rfl, rfl⟩
      exact ⟨rfl, Below.refl _ _⟩
    | cons x xs =>
      obtain ⟨ad, he, hc⟩ := Kd.at_string hr0 0 (by omega) (by simp)
      subst he
      obtain ⟨bk, o, sp⟩ := ad
      cases sp with
      | some s =>
        exfalso
        simp [Addr.add, World.cell?] at hc
        split at hc <;> cases hc
      | none =>
        have hbk : bk < w.heap.size := World.block_lt_of_cell? w _ (by simpa [Addr.add] using hc)
        refine b_Join bk o c0 (x :: xs) a1 w (fun j y hy => ?_) hbk (by omega) hc0 hlen
        obtain ⟨hj, hy⟩ := List.getElem?_eq_some_iff.1 hy
        obtain ⟨ad, he, hc2⟩ := Kd.at_string hr0 (j : Int) (by omega) (by omega)
        cases he
        have hrd : rdOf ByteArray.empty (x :: xs) (j : Int) = y := by
          rw [← hy]; simp [rdOf, List.getD_eq_getElem?_getD, List.getElem?_eq_getElem hj]
        rw [hrd, Int.toNat_natCast] at hc2
        have ha : (⟨bk, o, none⟩ : Addr).add j = ⟨bk, o + j, none⟩ := by unfold Addr.add; split <;> simp_all
        rwa [ha] at hc2
  · cases h
end Go.Proofs.Ytpcokafalmafgaa.Q
