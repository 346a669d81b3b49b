/- Steps on the way to the card of EngineNew: the witness that the card asks for, and the lift. -/
import Derived.Test.YtjclinlclbjobaaGreatDoorQaU
import Derived.Test.YtjclinlclbjobaaGreatDoorQaV1
import Derived.Test.YtjclinlclbjobaaGreatDoorQaV2
set_option linter.all false
set_option linter.unusedVariables false
set_option linter.unusedSimpArgs false
set_option linter.unnecessarySimpa false

/- A closed fact of the witness. -/
section
namespace Go.Proofs.YtjclinlclbjobaaGreatDoor
open Go Go.ChangeShapes Go.WideShapes Go.ChangeAt Go.RowKit
set_option maxRecDepth 100000
theorem witReads (os : Os) {H : Type} (enc : TypeId × Value → H) : DataW.whole enc Tryz.prog ((laidWorld os).forCall (fun _ _ => 0) ⟨#[], argsW, []⟩).memory Tryz.f3.params.toList Rows.engineNewSpec.vars false argsW.toList 8 = some ([.agg [.lit (.int .i64 0), .lit (.int .i64 0), .lit (.int .i64 0), .lit (.bool false), .lit (.bool false), .lit (.bool false)], .lit (.int .i64 0), .lit (.int .i64 0), .nil, .lit (.int .i64 0)], [], []) := by kernel_rfl
theorem witSized (os : Os) {H : Type} (enc : TypeId × Value → H) : (OpenSpec.ofChange Rows.engineNewSpec).bare.sizedB enc Tryz.prog Tryz.f3 false ((laidWorld os).forCall (fun _ _ => 0) ⟨#[], argsW, []⟩).memory argsW 8 = true := by kernel_rfl
end Go.Proofs.YtjclinlclbjobaaGreatDoor
end

/- The law lifted to the row's form. -/
section
namespace Go.Proofs.YtjclinlclbjobaaGreatDoor
open Go Go.ChangeShapes Go.WideShapes Go.ChangeAt Go.RowKit

theorem laidH_eq (W : World) : laidMetH Tryz.prog Rows.engineNewRow.laid W = laidMet Tryz.prog Rows.engineNewRow.laid W := by kernel_rfl
theorem metW (os : Os) : laidMetH Tryz.prog Rows.engineNewRow.laid ((laidWorld os).forCall (fun _ _ => 0) ⟨#[], argsW, []⟩).memory := by
  rw [laidH_eq]; exact witLaid os
set_option maxRecDepth 100000 in
theorem lifted (os : Os) (started : os.Started) (H : Type) (enc : TypeId × Value → H) (F : Stop.Interp) :
    ReturnsInHanded {} Tryz.checked os 3 .any ((OpenSpec.ofChange Rows.engineNewSpec).preRow enc Tryz.prog Tryz.f3 Rows.engineNewRow.domain false Rows.engineNewRow.laid) (((OpenSpec.ofChange Rows.engineNewSpec).at F).post enc Tryz.prog Tryz.f3 false true false false) := by
  refine returnsInHanded_of_row (C := Tryz.checked) (s := OpenSpec.ofChange Rows.engineNewSpec) own started (by kernel_rfl) Tryz.func3
    (witness_row_at (enc := enc) (C := Tryz.checked) false (laidWorld os) argsW rfl (witVars os) (witRest os) (witOk os)
      (OpenSpec.preRow_of_cond 8 (witReads os enc) (by kernel_rfl) (fun k hk => by cases hk) (witSized os enc) (metW os))) ?_
  intro W base args ds gs before hval hW _ _ _ hL hS _
  exact Go.Qa.Try.contract rfl (fun _ _ _ _ _ => rfl) W base args ds gs before hval hW (table hL) hS
end Go.Proofs.YtjclinlclbjobaaGreatDoor
end
