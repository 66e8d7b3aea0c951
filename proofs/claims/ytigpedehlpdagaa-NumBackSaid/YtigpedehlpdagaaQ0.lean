/- Functions of the translation as plain Lean functions, and that the translation computes them: printed by this session's driver of the print. -/
import Derived.Test.YtigpedehlpdagaaProg
import Derived.Below
import Derived.Deep.Draws
import Derived.Deep.AppendLies
import Derived.Maps.AppendAt
import Derived.OwnWalk
import Derived.Laws.BytesArg
import Derived.Laws.MakeOwn
import Derived.Laws.OwnMore
import Derived.Deep.OwnRows
import Derived.Tactics
import Derived.Lib.ConvBytes
import Derived.Laws.Slices
import Derived.WalkKit
import Derived.KernelRfl
import Derived.RowKit3
import Derived.Deep.LoopGhost
import Derived.Deep.QuietTactic
import Derived.BigQuiet
import Derived.WideLaws
import Derived.Deep.DeepCutAuto
import Derived.Deep.CutBlock
import Derived.Deep.RegionHeld3
import Derived.Laws.Rows
import Derived.Lib.AppendStr
import Derived.ArgAppend
import Derived.Laws.IdiomCopy
import Derived.OrdersHeld
import Derived.Laws.BitsLemmas
import Derived.RowKit
import Derived.Test.YtigpedehlpdagaaHNum
import Derived.Test.YtigpedehlpdagaaWWords
import Derived.Test.YtigpedehlpdagaaWLast
import Derived.Test.YtigpedehlpdagaaWTab
import Derived.Test.YtigpedehlpdagaaWFour
import Derived.Test.YtigpedehlpdagaaWQPut
import Derived.Test.YtigpedehlpdagaaWApart
import Derived.Test.YtigpedehlpdagaaWArr
import Derived.Test.YtigpedehlpdagaaWZeros
import Derived.Test.YtigpedehlpdagaaWFoot
import Derived.Test.YtigpedehlpdagaaWKept
import Derived.Test.YtigpedehlpdagaaWShare
import Derived.Test.YtigpedehlpdagaaWN
import Derived.Test.YtigpedehlpdagaaWFootNe
import Derived.Test.YtigpedehlpdagaaWAt
import Derived.Test.YtigpedehlpdagaaWEqStruct
import Derived.Test.YtigpedehlpdagaaWRepsOne
import Derived.Test.YtigpedehlpdagaaWInv
import Derived.Test.YtigpedehlpdagaaWInvWords
import Derived.Test.YtigpedehlpdagaaWGuard
import Derived.Test.YtigpedehlpdagaaWNEv
import Derived.Test.YtigpedehlpdagaaWMore
namespace Go.Proofs.Ytigpedehlpdagaa.Q
open Go.Proofs.Ytigpedehlpdagaa.H
open Go.RowKit Go.Proofs.YtigpedehlpdagaaW.PrintWords Go.Proofs.YtigpedehlpdagaaW.PrintLast Go.Proofs.YtigpedehlpdagaaW.PrintMore
attribute [local go_sem] max2_int min2_int max_two min_two max_three min_three max_four min_four   -- for this text's walks alone
set_option linter.unusedVariables false
set_option linter.unusedSimpArgs false



def errW : Option Int → Value
  | none => .nilIface
  | some c => .iface 0 (.int .i64 c)
theorem errW_none : errW none = .nilIface := rfl
theorem errW_some (c : Int) : errW (some c) = .iface 0 (.int .i64 c) := rfl

theorem info5 : (Try.prog.info? 5).map (fun i => (i.zero, i.size, i.bytes)) = some (some (.int .u8 0), 1, 1) := by kernel_rfl
-- the values' own types

end Go.Proofs.Ytigpedehlpdagaa.Q
