/- Steps on the way to the card of EngineNew: a part of the fixed play, run by the kernel. -/
import Derived.Test.YtjclinlclbjobaaGreatDoorQaG
set_option linter.all false
set_option linter.unusedVariables false
set_option linter.unusedSimpArgs false
set_option linter.unnecessarySimpa false
namespace Go.Qa.Try
set_option maxRecDepth 1000000
set_option maxHeartbeats 0
theorem q31 : seqB 68 (cutR c9_0 3) R37 (stL L36 19683 19683 []) R38 L38 21688 19683 [] = true := by decide +kernel
end Go.Qa.Try
