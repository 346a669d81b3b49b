/- Steps on the way to the card of EngineNew: a part of the fixed play, run by the kernel. -/
import Derived.Test.YtjclinlclbjobaaGreatDoorQaG
set_option linter.all false
set_option linter.unusedVariables false
set_option linter.unusedSimpArgs false
set_option linter.unnecessarySimpa false
namespace Go.Qa.Try
set_option maxRecDepth 1000000
set_option maxHeartbeats 0
theorem q23 : seqB 68 (cutR c9_0 3) R27 (stL L26 13553 13553 []) R28 L28 15558 13553 [] = true := by decide +kernel
end Go.Qa.Try
