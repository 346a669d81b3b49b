/- Steps on the way to the card of EngineNew: closed facts of the program's form. -/
import Derived.Test.YtjclinlclbjobaaGreatDoorProg
import Derived.OpenShut
import Derived.KernelRfl
set_option linter.all false
set_option linter.unusedVariables false
set_option linter.unusedSimpArgs false
set_option linter.unnecessarySimpa false
namespace Go.Qa.Try
open Go.Proofs
set_option maxRecDepth 100000
theorem fine0 : (List.range' 0 60).all (rowFine Tryz.prog) = true := by kernel_rfl
theorem fine1 : (List.range' 60 60).all (rowFine Tryz.prog) = true := by kernel_rfl
theorem fine2 : (List.range' 120 60).all (rowFine Tryz.prog) = true := by kernel_rfl
theorem fine3 : (List.range' 180 60).all (rowFine Tryz.prog) = true := by kernel_rfl
theorem fine4 : (List.range' 240 60).all (rowFine Tryz.prog) = true := by kernel_rfl
theorem fine5 : (List.range' 300 60).all (rowFine Tryz.prog) = true := by kernel_rfl
theorem fine6 : (List.range' 360 60).all (rowFine Tryz.prog) = true := by kernel_rfl
theorem fine7 : (List.range' 420 60).all (rowFine Tryz.prog) = true := by kernel_rfl
theorem fine8 : (List.range' 480 60).all (rowFine Tryz.prog) = true := by kernel_rfl
theorem fine9 : (List.range' 540 60).all (rowFine Tryz.prog) = true := by kernel_rfl
theorem fine10 : (List.range' 600 60).all (rowFine Tryz.prog) = true := by kernel_rfl
theorem fine11 : (List.range' 660 60).all (rowFine Tryz.prog) = true := by kernel_rfl
theorem fine12 : (List.range' 720 60).all (rowFine Tryz.prog) = true := by kernel_rfl
theorem fine13 : (List.range' 780 60).all (rowFine Tryz.prog) = true := by kernel_rfl
theorem fine14 : (List.range' 840 41).all (rowFine Tryz.prog) = true := by kernel_rfl
theorem fineG : Tryz.prog.globals.all (fun g => decide (g.type < Tryz.prog.types.size)) = true := by kernel_rfl
theorem fineF : Tryz.prog.funcs.all (fun f => f.params.all fun t => decide (t < Tryz.prog.types.size)) = true := by kernel_rfl
theorem sizeT : Tryz.prog.types.size = 881 := by kernel_rfl
theorem fine_of {P : Program} {a m i : Nat} (h : (List.range' a m).all (rowFine P) = true) (h1 : a ≤ i) (h2 : i < a + m) : rowFine P i = true :=
  List.all_eq_true.1 h i (List.mem_range'_1.2 ⟨h1, h2⟩)
theorem laid3 : laidOutB Tryz.prog = true := by
  unfold laidOutB
  rw [fineG, fineF, Bool.and_true, Bool.and_true, List.all_eq_true]
  intro i hi
  rw [List.mem_range, sizeT] at hi
  by_cases h0 : i < 60
  · exact fine_of fine0 (by omega) h0
  by_cases h1 : i < 120
  · exact fine_of fine1 (by omega) h1
  by_cases h2 : i < 180
  · exact fine_of fine2 (by omega) h2
  by_cases h3 : i < 240
  · exact fine_of fine3 (by omega) h3
  by_cases h4 : i < 300
  · exact fine_of fine4 (by omega) h4
  by_cases h5 : i < 360
  · exact fine_of fine5 (by omega) h5
  by_cases h6 : i < 420
  · exact fine_of fine6 (by omega) h6
  by_cases h7 : i < 480
  · exact fine_of fine7 (by omega) h7
  by_cases h8 : i < 540
  · exact fine_of fine8 (by omega) h8
  by_cases h9 : i < 600
  · exact fine_of fine9 (by omega) h9
  by_cases h10 : i < 660
  · exact fine_of fine10 (by omega) h10
  by_cases h11 : i < 720
  · exact fine_of fine11 (by omega) h11
  by_cases h12 : i < 780
  · exact fine_of fine12 (by omega) h12
  by_cases h13 : i < 840
  · exact fine_of fine13 (by omega) h13
  exact fine_of fine14 (by omega) hi
end Go.Qa.Try
