/- Steps on the way to the card of EngineNew: the witness that the card asks for. -/
import Derived.Test.YtjclinlclbjobaaGreatDoorQaU
set_option linter.all false
set_option linter.unusedVariables false
set_option linter.unusedSimpArgs false
set_option linter.unnecessarySimpa false
namespace Go.Proofs.YtjclinlclbjobaaGreatDoor
open Go Go.ChangeShapes Go.WideShapes Go.ChangeAt Go.RowKit
set_option maxRecDepth 100000
theorem witLaid (os : Os) : laidMet Tryz.prog Rows.engineNewRow.laid ((laidWorld os).forCall (fun _ _ => 0) ⟨#[], argsW, []⟩).memory :=
  laidMet_of_run' 8 (by kernel_rfl) (by kernel_rfl)
end Go.Proofs.YtjclinlclbjobaaGreatDoor
