/- Steps on the way to the card of EngineNew: closed facts of what the law reaches, joined. -/
import Derived.Test.YtjclinlclbjobaaGreatDoorRows
import Derived.Test.YtjclinlclbjobaaGreatDoorQaR2
import Derived.Test.YtjclinlclbjobaaGreatDoorQaP
import Derived.JoinedCond
import Derived.KernelRfl
import Derived.Test.YtjclinlclbjobaaGreatDoorQaJ1
import Derived.Test.YtjclinlclbjobaaGreatDoorQaJ2
import Derived.Test.YtjclinlclbjobaaGreatDoorQaJ3
import Derived.Test.YtjclinlclbjobaaGreatDoorQaJ4
import Derived.Test.YtjclinlclbjobaaGreatDoorQaJ5
set_option linter.all false
set_option linter.unusedVariables false
set_option linter.unusedSimpArgs false
set_option linter.unnecessarySimpa false

/- Closed facts of the row. -/
section
namespace Go.Proofs.YtjclinlclbjobaaGreatDoor
open Go Go.Proofs Go.Qa.Try
set_option maxRecDepth 100000
theorem k27 : ((Rows.engineNewRow.lifted == Tryz.prog.liftsFinal)) = true := by kernel_rfl
theorem k28 : ((Tryz.prog.make == some Rows.engineNewRow.make)) = true := by kernel_rfl
end Go.Proofs.YtjclinlclbjobaaGreatDoor
end

/- Closed facts of the row, all. -/
section
namespace Go.Proofs.YtjclinlclbjobaaGreatDoor
open Go Go.Proofs Go.Qa.Try
theorem and_t {a b : Bool} (h : a = true) (k : b = true) : (a && b) = true := by rw [h, k]; rfl
set_option maxRecDepth 100000 in
theorem closed : joinedFacts Tryz.prog 3 Tryz.f3 Rows.engineNewSpec Rows.engineNewRow = true := (and_t (and_t (and_t (and_t (and_t (and_t (and_t (and_t (and_t (and_t (and_t (and_t (and_t (and_t (and_t (and_t (and_t (and_t (and_t (and_t (and_t (and_t (and_t (and_t (and_t (and_t (and_t (and_t (and_t (and_t (and_t k1 laid3) k3) k4) k5) k6) k7) k8) k9) k10) k11) k12) k13) k14) k15) k16) k17) k18) k19) k20) k21) k22) k23) k24) k25) k26) k27) k28) k29) k30) k31) k32)
end Go.Proofs.YtjclinlclbjobaaGreatDoor
end
