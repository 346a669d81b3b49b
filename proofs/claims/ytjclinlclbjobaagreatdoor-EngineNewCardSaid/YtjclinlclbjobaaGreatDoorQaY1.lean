/- Steps on the way to the card of EngineNew: closed facts of the card. -/
import Derived.Test.YtjclinlclbjobaaGreatDoorCards
import Derived.SevenTiedAt
import Derived.KernelRfl
set_option linter.all false
set_option linter.unusedVariables false
set_option linter.unusedSimpArgs false
set_option linter.unnecessarySimpa false
namespace Go.Proofs.YtjclinlclbjobaaGreatDoor
open Go
set_option maxRecDepth 100000
theorem noGo : Tryz.prog.funcs.toList.any Func.goes = false := by kernel_rfl
theorem goes_none {P : Program} (h : P.funcs.toList.any Func.goes = false) (f : FuncId) : P.goes f = false := by
  have h1 : ∀ fn ∈ P.funcs.toList, ¬ fn.goes = true := List.any_eq_false.1 h
  unfold Program.goes
  have a : ((P.closure f).any fun g => (P.funcs[g]?).any Func.goes) = false := by
    rw [List.any_eq_false]
    intro g _ hg
    cases hx : P.funcs[g]? with
    | none => rw [hx] at hg; cases hg
    | some fn =>
      rw [hx] at hg
      exact h1 fn (by have := Array.mem_of_getElem? hx; simpa using this) hg
  have b : P.funcs.any Func.goes = false := by rw [← Array.any_toList]; exact h
  rw [a, b, Bool.and_false, Bool.or_false]
theorem goesBy_none {P : Program} (h : P.funcs.toList.any Func.goes = false) (c : OpenClaim) (hs : c.start = .entering) : c.goesBy P = false := by
  unfold OpenClaim.goesBy Program.goesAt Program.goesFrom
  rw [hs]
  cases P.funcNamed c.func with
  | none => rfl
  | some f => simp [goes_none h]
theorem cardGoes : false = Rows.engineNewRow.goesBy Tryz.pinned.checked.prog := (goesBy_none noGo Rows.engineNewRow rfl).symm
end Go.Proofs.YtjclinlclbjobaaGreatDoor
