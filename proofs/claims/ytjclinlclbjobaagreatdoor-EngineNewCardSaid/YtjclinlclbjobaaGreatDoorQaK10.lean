/- Steps on the way to the card of EngineNew: a part of the fixed play, run by the kernel. -/
import Derived.Test.YtjclinlclbjobaaGreatDoorQaG
set_option linter.all false
set_option linter.unusedVariables false
set_option linter.unusedSimpArgs false
set_option linter.unnecessarySimpa false
namespace Go.Qa.Try
set_option maxRecDepth 1000000
set_option maxHeartbeats 0
theorem q18 : endB 66 c17_6 (afOf 17).res R20 (stL L20 12884 11143 []) (I 0) L21 13549 11143 [4246, 4247, 4253, 4258, 7466] = true := by decide +kernel
theorem q19 : opsB 161 (dropO 3 (regOps c15_16)) Q2 (stL L21 13549 10 []) R22 L22 13549 10 [] = true := by decide +kernel
theorem q20 : opsB 161 (takeO 2 (regOps c15_17)) R22 (stL L22 13549 10 []) R23 L23 13549 10 [] = true := by decide +kernel
theorem q21 : seqB 62 (cutR c8_0 3) R24 (stL L23 13549 13549 []) R25 L25 13553 13549 [] = true := by decide +kernel
theorem q22 : opsB 62 (takeO 4 (regOps c8_4)) R25 (stL L25 13553 13549 []) R26 L26 13553 13549 [] = true := by decide +kernel
end Go.Qa.Try
