/- Steps on the way to the card of EngineNew: a part of the fixed play, run by the kernel. -/
import Derived.Test.YtjclinlclbjobaaGreatDoorQaG
set_option linter.all false
set_option linter.unusedVariables false
set_option linter.unusedSimpArgs false
set_option linter.unnecessarySimpa false
namespace Go.Qa.Try
set_option maxRecDepth 1000000
set_option maxHeartbeats 0
theorem q12 : endB 68 c9_4 (afOf 9).res R13 (stL L13 9477 7472 []) (.tup [.agg [I 1, I 0, I 0, I 0], I 0]) L14 11103 7472 [] = true := by decide +kernel
theorem q13 : opsB 62 (dropO 5 (regOps c8_4)) Q0 (stL L14 11103 7468 []) R15 L15 11104 7468 [] = true := by decide +kernel
theorem q14 : endB 62 c8_5 (afOf 8).res R15 (stL L15 11104 7468 []) (.tup [.agg [I 1, I 0, I 0, I 0], I 0]) L16 11142 7468 [4246, 7467] = true := by decide +kernel
theorem q15 : opsB 161 (dropO 3 (regOps c15_15)) Q1 (stL L16 11142 10 []) R17 L17 11143 10 [] = true := by decide +kernel
theorem q16 : opsB 161 (takeO 2 (regOps c15_16)) R17 (stL L17 11143 10 []) R18 L18 11143 10 [] = true := by decide +kernel
end Go.Qa.Try
