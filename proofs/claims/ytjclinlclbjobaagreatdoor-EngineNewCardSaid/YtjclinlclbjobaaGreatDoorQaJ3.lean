/- Steps on the way to the card of EngineNew: closed facts of what the law reaches. -/
import Derived.Test.YtjclinlclbjobaaGreatDoorRows
import Derived.Test.YtjclinlclbjobaaGreatDoorQaR2
import Derived.Test.YtjclinlclbjobaaGreatDoorQaP
import Derived.JoinedCond
import Derived.KernelRfl
set_option linter.all false
set_option linter.unusedVariables false
set_option linter.unusedSimpArgs false
set_option linter.unnecessarySimpa false
namespace Go.Proofs.YtjclinlclbjobaaGreatDoor
open Go Go.Proofs Go.Qa.Try
set_option maxRecDepth 100000
theorem k23 : ((Rows.engineNewRow.plainKeys == Tryz.prog.plainKeys)) = true := by kernel_rfl
end Go.Proofs.YtjclinlclbjobaaGreatDoor
