/- Steps on the way to the card of EngineNew: a part of the fixed play, run by the kernel. -/
import Derived.Test.YtjclinlclbjobaaGreatDoorQaG
set_option linter.all false
set_option linter.unusedVariables false
set_option linter.unusedSimpArgs false
set_option linter.unnecessarySimpa false
namespace Go.Qa.Try
set_option maxRecDepth 1000000
set_option maxHeartbeats 0
theorem q6 : opsB 161 (dropO 4 (regOps2 c15_14)) R5 (stL L5 5657 10 []) R6 L6 7468 10 [] = true := by decide +kernel
theorem q7 : seqB 161 (condOf c15_14) R6 (stL L6 7468 10 []) R7 L7 7468 10 [] = true := by decide +kernel
theorem q8 : opsB 161 (takeO 2 (regOps c15_15)) R7 (stL L7 7468 10 []) R8 L8 7468 10 [] = true := by decide +kernel
theorem q9 : seqB 62 (cutR c8_0 3) R9 (stL L8 7468 7468 []) R10 L10 7472 7468 [] = true := by decide +kernel
theorem q10 : opsB 62 (takeO 4 (regOps c8_4)) R10 (stL L10 7472 7468 []) R11 L11 7472 7468 [] = true := by decide +kernel
end Go.Qa.Try
