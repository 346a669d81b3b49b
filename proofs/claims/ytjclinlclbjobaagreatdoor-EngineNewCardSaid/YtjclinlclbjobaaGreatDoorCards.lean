/-
  DERIVED. GIVEN WITH THE SEED: THE CARDS: each row of YtjclinlclbjobaaGreatDoorRows.lean that lists a variable, with what it lists TIED to the program's text (the seventh form; the later family's looks); each row that meets fmt, with fmt's text TOLD by the authors' own Lean function (tested against real Go, not proved from fmt's source: count such statements apart). THE CARD IS WHAT COUNTS. Prove the row's statement (the work); the ties are given (YtjclinlclbjobaaGreatDoorTie.lean); close each card by the builder's one call (the guide's Derived/Test/ToyasCard.lean, 'card_holds'). Laid BY PROGRAM, IN A SANDBOX (cutbox-door.mjs). By AI agents, Wed Nov 11 2026. No macro, syntax, notation, axiom, sorry.
-/
import Derived.Test.YtjclinlclbjobaaGreatDoorRows
import GoSem.ClaimSeven
namespace Go.Proofs.YtjclinlclbjobaaGreatDoor
namespace Rows

/-- THE TIED CARD OF 'quittancelaw30.EngineNew'. -/
def engineNewCard : Claim7 := { stood := { row := engineNewRow, standIns := [], harness := (true, "632ba679204ab9b6ecb7988d6d4efa48f284f18638363c3bccf4b740540919ac"), looks := false }, kinds := [], alts := [], laidByText := true, laidKinds := [.data, .data, .data, .pinned, .data], laidTests := true, laidLooks := .later }
def EngineNewCardSaid : Prop := Claim7.holds Tryz.pinned (.plain (OpenSpec.ofChange engineNewSpec)) engineNewCard

/-- THE SECOND FORM's CARD OF 'quittancelaw30.EngineNew'. -/
def engineNewUptoCard : Claim7 := { stood := { row := engineNewUptoRow, standIns := [], harness := (true, "632ba679204ab9b6ecb7988d6d4efa48f284f18638363c3bccf4b740540919ac"), looks := false }, kinds := [], alts := [], laidByText := true, laidKinds := [.data, .data, .data, .pinned, .data], laidTests := true, laidLooks := .later }
def EngineNewUptoCardSaid : Prop := Claim7.holds Tryz.pinned (.plain (OpenSpec.upto engineNewSpec)) engineNewUptoCard
end Rows
end Go.Proofs.YtjclinlclbjobaaGreatDoor
