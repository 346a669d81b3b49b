/- Steps on the way to the card of EngineNew: a part of the fixed play, run by the kernel. -/
import Derived.Test.YtjclinlclbjobaaGreatDoorQaG
set_option linter.all false
set_option linter.unusedVariables false
set_option linter.unusedSimpArgs false
set_option linter.unnecessarySimpa false
namespace Go.Qa.Try
set_option maxRecDepth 1000000
set_option maxHeartbeats 0
theorem q32 : endB 68 c9_4 (afOf 9).res R38 (stL L38 21688 19683 []) (.tup [.agg [I 0, I 0, I 0, I 14], I 0]) L39 22151 19683 [] = true := by decide +kernel
theorem q33 : opsB 62 (dropO 5 (regOps c8_4)) Q5 (stL L39 22151 19678 [4246, 13548]) R40 L40 22152 19678 [4246, 13548] = true := by decide +kernel
theorem q34 : endB 62 c8_5 (afOf 8).res R40 (stL L40 22152 19678 [4246, 13548]) (.tup [.agg [I 0, I 0, I 0, I 14], I 0]) L41 22201 19678 [4246, 13548] = true := by decide +kernel
theorem q35 : opsB 161 (dropO 3 (regOps c15_18)) Q6 (stL L41 22201 10 []) R42 L42 22202 10 [] = true := by decide +kernel
theorem q36 : endB 161 c15_19 af15.res R42 (stL L42 22202 10 []) (.bool true) L43 22203 10 [] = true := by decide +kernel
end Go.Qa.Try
