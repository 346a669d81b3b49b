/- Steps on the way to the card of EngineNew: closed facts of what the law reaches. -/
import Derived.Test.YtjclinlclbjobaaGreatDoorRows
import Derived.Test.YtjclinlclbjobaaGreatDoorQaR2
import Derived.Test.YtjclinlclbjobaaGreatDoorQaP
import Derived.JoinedCond
import Derived.KernelRfl
set_option linter.all false
set_option linter.unusedVariables false
set_option linter.unusedSimpArgs false
set_option linter.unnecessarySimpa false
namespace Go.Proofs.YtjclinlclbjobaaGreatDoor
open Go Go.Proofs Go.Qa.Try
set_option maxRecDepth 100000
theorem k1 : (Rows.engineNewRow.wf (OpenSpec.ofChange Rows.engineNewSpec)) = true := by kernel_rfl
theorem k4 : (Tryz.f3.params.all (Tryz.prog.readableRec ·)) = true := by kernel_rfl
theorem k5 : (namedTie Tryz.prog Rows.engineNewRow.named Rows.engineNewSpec.vars) = true := by kernel_rfl
theorem k6 : ((Rows.engineNewRow.stops == [])) = true := by kernel_rfl
theorem k7 : ((Tryz.prog.stops == [])) = true := by kernel_rfl
theorem k8 : ((Rows.engineNewRow.knobs == [])) = true := by kernel_rfl
theorem k9 : ((Tryz.prog.stopKnobs == [])) = true := by kernel_rfl
theorem k10 : ((Rows.engineNewRow.inPlace == Tryz.prog.inPlace 3)) = true := by rw [inPlace3]; kernel_rfl
theorem k11 : ((Rows.engineNewRow.unfollowed == Tryz.prog.unfollowed 3)) = true := by rw [unfollowed3]; kernel_rfl
theorem k12 : ((Rows.engineNewRow.recurses == Tryz.prog.recurses 3)) = true := by rw [recurses3]; kernel_rfl
theorem k13 : ((Rows.engineNewRow.named == Tryz.prog.varsNamed 3)) = true := by rw [varsNamed3]; kernel_rfl
theorem k14 : ((Rows.engineNewRow.maps == (Tryz.f3.params.toList ++ Rows.engineNewSpec.plain.varTypes Tryz.prog).any (Tryz.prog.mapsRec ·))) = true := by kernel_rfl
theorem k15 : ((Rows.engineNewRow.ifaces == (Tryz.f3.params.toList ++ Rows.engineNewSpec.plain.varTypes Tryz.prog).any (Tryz.prog.ifacesRec ·))) = true := by kernel_rfl
theorem k16 : ((Rows.engineNewRow.mapsOut == Tryz.prog.mapsAmong Tryz.f3.resultTypes.toList)) = true := by kernel_rfl
theorem k17 : ((Rows.engineNewRow.loops == (Tryz.f3.params.toList ++ Rows.engineNewSpec.plain.varTypes Tryz.prog).any (Tryz.prog.loopsFrom ·))) = true := by kernel_rfl
theorem k18 : ((Rows.engineNewRow.wideKeys == (Tryz.f3.params.toList ++ Rows.engineNewSpec.plain.varTypes Tryz.prog ++ Tryz.f3.resultTypes.toList).any (Tryz.prog.wideKeysFrom ·))) = true := by kernel_rfl
theorem k19 : (Rows.engineNewSpec.vars.all (Tryz.prog.varReadable ·)) = true := by kernel_rfl
theorem k20 : (Tryz.f3.resultTypes.all (fun t => Tryz.prog.readableRec t && decide (t < Tryz.prog.types.size))) = true := by kernel_rfl
theorem k21 : ((Rows.engineNewRow.ifacesOut == Tryz.f3.resultTypes.toList.any (Tryz.prog.ifacesRec ·))) = true := by kernel_rfl
theorem k22 : ((Rows.engineNewRow.loopsOut == Tryz.f3.resultTypes.toList.any (Tryz.prog.loopsFrom ·))) = true := by kernel_rfl
theorem k24 : (Rows.engineNewRow.shortTexts.isNone) = true := by kernel_rfl
theorem k29 : ((Rows.engineNewRow.kinds == (if Rows.engineNewRow.domain.isEmpty then [] else Tryz.f3.params.toList.map fun t => match Tryz.prog.underlying t with | some (.int k) => some k | _ => none))) = true := by kernel_rfl
theorem k30 : ((Rows.engineNewRow.pinned == Rows.engineNewRow.pinnedBy)) = true := by kernel_rfl
theorem k31 : ((Rows.engineNewRow.veiled == (Tryz.f3.params.toList ++ Rows.engineNewSpec.plain.varTypes Tryz.prog ++ Tryz.f3.resultTypes.toList).any (Tryz.prog.veiledRec ·))) = true := by kernel_rfl
theorem k32 : (Rows.engineNewRow.veiledFits Tryz.prog Tryz.f3.params.toList (Tryz.f3.params.toList ++ Rows.engineNewSpec.plain.varTypes Tryz.prog ++ Tryz.f3.resultTypes.toList)) = true := by kernel_rfl
end Go.Proofs.YtjclinlclbjobaaGreatDoor
