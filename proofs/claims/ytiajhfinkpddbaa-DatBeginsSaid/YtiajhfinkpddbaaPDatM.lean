/- What is moved, in plain words. -/
import Derived.Test.YtiajhfinkpddbaaQ12
import Derived.Test.YtiajhfinkpddbaaPDat
set_option linter.unusedVariables false
namespace Go.Proofs.Ytiajhfinkpddbaa.P
open Go.RowKit Go.Proofs.Ytiajhfinkpddbaa.H Go.Proofs.Ytiajhfinkpddbaa.Q Go.Proofs.YtiajhfinkpddbaaW.PrintWords Go.Proofs.YtiajhfinkpddbaaW.PrintLast Go.Proofs.YtiajhfinkpddbaaW.PrintMore

def moveV (l : List E) (v : Nat) (phys : Int) : List E × Int :=
  if (usedV l v).2 = 0 then withV l v (tr phys (usedV l v).1.f1 (usedV l v).1.f2) else ([], (usedV l v).2)
theorem move_f (l : List E) (v : Nat) (phys : Int) (hv : v < 4294967296) (hl : l.length ≤ 1000000000) : dat_Move.f l (v : Int) phys = some (moveV l v phys) := by
  unfold dat_Move.f moveV
  rw [used_f l v hv hl, Option.bind_some]
  by_cases h : (usedV l v).2 = 0
  · obtain ⟨hr, hlt, hv0, hf, he⟩ := usedV_yes h
    have e : wrap64 (v : Int) = v := IntWalk.wrap64_in _ (by omega)
    rw [if_pos h, if_pos h, e]
    have := with_f l v (tr phys (usedV l v).1.f1 (usedV l v).1.f2) hlt hl
    unfold tr at this ⊢
    rw [this]; rfl
  · rw [if_neg h, if_neg h]
theorem moveV_len (l : List E) (v : Nat) (phys : Int) : (moveV l v phys).1.length ≤ l.length := by
  unfold moveV withV; split
  · split <;> simp
  · simp
end Go.Proofs.Ytiajhfinkpddbaa.P
