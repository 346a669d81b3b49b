/- The card of EngineNew, without any condition: for every input it returns true, and each argument reads behind the call as it read before; what the listed variables hold is tied to the program's text. -/
import Derived.Test.YtjclinlclbjobaaGreatDoorCards
import Derived.SevenTiedAt
import Derived.KernelRfl
import Derived.Test.YtjclinlclbjobaaGreatDoorQaX
import Derived.Test.YtjclinlclbjobaaGreatDoorQaY1
import Derived.Test.YtjclinlclbjobaaGreatDoorQaY2
set_option linter.all false
set_option linter.unusedVariables false
set_option linter.unusedSimpArgs false
set_option linter.unnecessarySimpa false

/- A closed fact of the card. -/
section
namespace Go.Proofs.YtjclinlclbjobaaGreatDoor
open Go
set_option maxRecDepth 100000
theorem cardWf : Rows.engineNewRow.wfByText (OpenSpec.ofChange Rows.engineNewSpec) = true := by kernel_rfl
end Go.Proofs.YtjclinlclbjobaaGreatDoor
end

/- A closed fact of the card. -/
section
namespace Go.Proofs.YtjclinlclbjobaaGreatDoor
open Go
set_option maxRecDepth 100000
theorem cardMain : Tryz.pinned.checked.prog.mainIs = some (true, "632ba679204ab9b6ecb7988d6d4efa48f284f18638363c3bccf4b740540919ac".toList) := by kernel_rfl
end Go.Proofs.YtjclinlclbjobaaGreatDoor
end

/- The card: EngineNew, for every input: it returns true, and each argument reads behind the call as it read before; what the listed variables hold is tied to the program's text. -/
section
namespace Go.Proofs.YtjclinlclbjobaaGreatDoor
open Go Go.ChangeShapes Go.WideShapes Go.ChangeAt Go.RowKit

set_option maxRecDepth 100000 in
theorem plain (f : FuncId) (fn : Func) (hf : Tryz.pinned.checked.prog.funcNamed "quittance/quittancelaw30.EngineNew" = some f) (hfn : Tryz.pinned.checked.prog.funcs[f]? = some fn) :
    false = Tryz.pinned.checked.prog.looks [] ∧ ∀ (j : Nat) t, fn.params[j]? = some t → Tryz.pinned.checked.prog.wantsStandIn t = false := by
  obtain rfl : f = 3 := Option.some.inj (named3.symm.trans hf) |>.symm
  obtain rfl : fn = Tryz.f3 := (Option.some.inj (Tryz.func3.symm.trans hfn)).symm
  refine ⟨cardLooks, fun j t ht => ?_⟩
  rw [Tryz.params3] at ht
  have hm : t ∈ [23, 3, 3, 24, 3] := by
    have := Array.mem_of_getElem? ht
    simpa using this
  simp only [List.mem_cons, List.not_mem_nil, or_false] at hm
  rcases hm with rfl | rfl | rfl | rfl | rfl
  · exact cardW23
  · exact cardW3
  · exact cardW3
  · exact cardW24
  · exact cardW3
set_option maxRecDepth 100000 in
theorem card : Rows.EngineNewCardSaid :=
  Claim7.holds_tied_plain_at .later [] _ _ _ _ said (fun _ h => by cases h) cardWf (fun _ h => by cases h) rowTie rfl ⟨rfl, rfl⟩ cardMain rfl plain cardGoes
end Go.Proofs.YtjclinlclbjobaaGreatDoor
end
