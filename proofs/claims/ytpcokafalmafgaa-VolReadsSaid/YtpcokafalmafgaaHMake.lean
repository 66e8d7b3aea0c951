/- A slice that is made with a capacity of its own and no element yet, in the print's words. -/
import Derived.Test.YtpcokafalmafgaaWWords
set_option linter.unusedVariables false
namespace Go.Proofs.Ytpcokafalmafgaa.H
open Go.RowKit Go.Proofs.YtpcokafalmafgaaW.PrintWords Go.Proofs.YtpcokafalmafgaaW.PrintWords.Kd
section
variable {P : Program} {ops : Array Oper} {Q : Exit → Act → World → Prop} {rest : List Oper} {o : Oper} {a : Act} {Kc : Act → World → Prop} {α : Type}
end
end Go.Proofs.Ytpcokafalmafgaa.H
