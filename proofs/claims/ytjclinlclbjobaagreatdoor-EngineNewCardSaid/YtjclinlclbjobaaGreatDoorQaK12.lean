/- Steps on the way to the card of EngineNew: a part of the fixed play, run by the kernel. -/
import Derived.Test.YtjclinlclbjobaaGreatDoorQaG
set_option linter.all false
set_option linter.unusedVariables false
set_option linter.unusedSimpArgs false
set_option linter.unnecessarySimpa false
namespace Go.Qa.Try
set_option maxRecDepth 1000000
set_option maxHeartbeats 0
theorem q24 : endB 68 c9_4 (afOf 9).res R28 (stL L28 15558 13553 []) (.tup [.agg [I 2, I 9, I 0, I 0], I 0]) L29 19627 13553 [] = true := by decide +kernel
theorem q25 : opsB 62 (dropO 5 (regOps c8_4)) Q3 (stL L29 19627 13549 []) R30 L30 19628 13549 [] = true := by decide +kernel
theorem q26 : endB 62 c8_5 (afOf 8).res R30 (stL L30 19628 13549 []) (.tup [.agg [I 2, I 9, I 0, I 0], I 0]) L31 19677 13549 [4246, 13548] = true := by decide +kernel
theorem q27 : opsB 161 (dropO 3 (regOps c15_17)) Q4 (stL L31 19677 10 []) R32 L32 19678 10 [] = true := by decide +kernel
theorem q28 : opsB 161 (takeO 2 (regOps c15_18)) R32 (stL L32 19678 10 []) R33 L33 19678 10 [] = true := by decide +kernel
theorem q29 : seqB 62 (cutR c8_0 3) R34 (stL L33 19678 19678 []) R35 L35 19683 19678 [4246, 13548] = true := by decide +kernel
theorem q30 : opsB 62 (takeO 4 (regOps c8_4)) R35 (stL L35 19683 19678 [4246, 13548]) R36 L36 19683 19678 [4246, 13548] = true := by decide +kernel
end Go.Qa.Try
