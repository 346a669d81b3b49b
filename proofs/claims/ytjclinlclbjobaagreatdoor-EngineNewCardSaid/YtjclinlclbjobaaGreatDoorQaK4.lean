/- Steps on the way to the card of EngineNew: a part of the fixed play, run by the kernel. -/
import Derived.Test.YtjclinlclbjobaaGreatDoorQaG
set_option linter.all false
set_option linter.unusedVariables false
set_option linter.unusedSimpArgs false
set_option linter.unnecessarySimpa false
namespace Go.Qa.Try
set_option maxRecDepth 1000000
set_option maxHeartbeats 0
theorem q4 : seqB 161 (cutR c15_11 2) R3 (stL L3 3295 10 []) R4 L4 4259 10 [] = true := by decide +kernel
end Go.Qa.Try
