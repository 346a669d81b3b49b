/- Steps on the way to the card of EngineNew: closed facts of the card. -/
import Derived.Test.YtjclinlclbjobaaGreatDoorCards
import Derived.SevenTiedAt
import Derived.KernelRfl
set_option linter.all false
set_option linter.unusedVariables false
set_option linter.unusedSimpArgs false
set_option linter.unnecessarySimpa false
namespace Go.Proofs.YtjclinlclbjobaaGreatDoor
open Go
set_option maxRecDepth 100000
theorem cardLooks : false = Tryz.pinned.checked.prog.looks [] := by kernel_rfl
theorem cardW23 : Tryz.prog.wantsStandIn 23 = false := by kernel_rfl
theorem cardW3 : Tryz.prog.wantsStandIn 3 = false := by kernel_rfl
theorem cardW24 : Tryz.prog.wantsStandIn 24 = false := by kernel_rfl
end Go.Proofs.YtjclinlclbjobaaGreatDoor
