/- Steps on the way to the card of EngineNew: a part of the fixed play, run by the kernel. -/
import Derived.Test.YtjclinlclbjobaaGreatDoorQaG
set_option linter.all false
set_option linter.unusedVariables false
set_option linter.unusedSimpArgs false
set_option linter.unnecessarySimpa false
namespace Go.Qa.Try
set_option maxRecDepth 1000000
set_option maxHeartbeats 0
theorem q5 : opsB 161 (takeO 4 (regOps2 c15_14)) R4 (stL L4 4259 10 []) R5 L5 5657 10 [] = true := by decide +kernel
end Go.Qa.Try
