/- Steps on the way to the card of EngineNew: the witness that the card asks for. -/
import Derived.Test.YtjclinlclbjobaaGreatDoorQaU
set_option linter.all false
set_option linter.unusedVariables false
set_option linter.unusedSimpArgs false
set_option linter.unnecessarySimpa false

/- A closed fact of the witness. -/
section
namespace Go.Proofs.YtjclinlclbjobaaGreatDoor
open Go Go.ChangeShapes Go.WideShapes Go.ChangeAt Go.RowKit
set_option maxRecDepth 100000
theorem witVars (os : Os) : ((laidWorld os).forCall (fun _ _ => 0) ⟨#[], argsW, []⟩).variablesB Tryz.checked.prog = true := by kernel_rfl
end Go.Proofs.YtjclinlclbjobaaGreatDoor
end

/- A closed fact of the witness. -/
section
namespace Go.Proofs.YtjclinlclbjobaaGreatDoor
open Go Go.ChangeShapes Go.WideShapes Go.ChangeAt Go.RowKit
set_option maxRecDepth 100000
theorem witRest (os : Os) : (((laidWorld os).forCall (fun _ _ => 0) ⟨#[], argsW, []⟩).heap.toList.drop Tryz.checked.prog.globals.size).take ((begin Tryz.checked.prog (fun _ _ => 0) default).world.heap.size - Tryz.checked.prog.globals.size) = (begin Tryz.checked.prog (fun _ _ => 0) default).world.heap.toList.drop Tryz.checked.prog.globals.size := by kernel_rfl
end Go.Proofs.YtjclinlclbjobaaGreatDoor
end

/- A closed fact of the witness. -/
section
namespace Go.Proofs.YtjclinlclbjobaaGreatDoor
open Go Go.ChangeShapes Go.WideShapes Go.ChangeAt Go.RowKit
set_option maxRecDepth 100000
theorem witOk (os : Os) : Input.okWideB Tryz.checked.prog ((laidWorld os).forCall (fun _ _ => 0) ⟨#[], argsW, []⟩) 3 ⟨#[], argsW, []⟩ = true := by kernel_rfl
end Go.Proofs.YtjclinlclbjobaaGreatDoor
end
