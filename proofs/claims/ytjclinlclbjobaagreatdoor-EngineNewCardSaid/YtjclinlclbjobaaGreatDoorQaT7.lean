/- Steps on the way to the card of EngineNew: the tie to the program's text, joined. -/
import Derived.Test.YtjclinlclbjobaaGreatDoorRows
import Derived.LaidByTextLater
import Derived.SevenTiedAt
import Derived.Test.YtjclinlclbjobaaGreatDoorQaT6
import Derived.Test.YtjclinlclbjobaaGreatDoorQaT1
import Derived.Test.YtjclinlclbjobaaGreatDoorQaT2
import Derived.Test.YtjclinlclbjobaaGreatDoorQaT3
import Derived.Test.YtjclinlclbjobaaGreatDoorQaT5
import Derived.Test.YtjclinlclbjobaaGreatDoorQaT4
set_option linter.all false
set_option linter.unusedVariables false
set_option linter.unusedSimpArgs false
set_option linter.unnecessarySimpa false

/- No unsafe of its own. -/
section
namespace Go.Proofs.YtjclinlclbjobaaGreatDoor
open Go
set_option maxRecDepth 100000
theorem noUnsafe : Tryz.pinned.checked.prog.headLifts.contains "ownunsafe" = false := by kernel_rfl
end Go.Proofs.YtjclinlclbjobaaGreatDoor
end

/- The list fits. -/
section
namespace Go.Proofs.YtjclinlclbjobaaGreatDoor
open Go
set_option maxRecDepth 100000
theorem listFits : Tryz.pinned.checked.prog.listedFits [("internal/strconv.uint64pow10", Rows.laid_internal_strconv_uint64pow10), ("math/bits.deBruijn32tab", Rows.laid_math_bits_deBruijn32tab), ("math/bits.deBruijn64tab", Rows.laid_math_bits_deBruijn64tab), ("unicode/utf8.first", Rows.laid_unicode_utf8_first), ("unicode/utf8.acceptRanges", Rows.laid_unicode_utf8_acceptRanges)] = true := by
  unfold Program.listedFits
  rw [noUnsafe]
  kernel_rfl
end Go.Proofs.YtjclinlclbjobaaGreatDoor
end

/- The tie, its closed facts laid together. -/
section
namespace Go.Proofs.YtjclinlclbjobaaGreatDoor
open Go
set_option maxRecDepth 100000
theorem myTie : Tryz.prog.laidByTextLater [("internal/strconv.uint64pow10", Rows.laid_internal_strconv_uint64pow10), ("math/bits.deBruijn32tab", Rows.laid_math_bits_deBruijn32tab), ("math/bits.deBruijn64tab", Rows.laid_math_bits_deBruijn64tab), ("unicode/utf8.acceptRanges", Rows.laid_unicode_utf8_acceptRanges)] [.data, .data, .data, .data] true :=
  Program.laidByTextLater_of_run 792 400 8 tie0 tie1 tie2 tie3 tie4 tie5 tie6 tie7 tie8
theorem rowTie : Rows.engineNewRow.laidByTextAt .later Tryz.pinned [.data, .data, .data, .pinned, .data] true :=
  OpenClaim.laidByTextAt_pinned rfl rfl myTie rfl rfl rfl rfl (fun y hy _e => by
    simp only [Rows.engineNewRow, List.zip_cons_cons, List.zip_nil_right, List.mem_cons, List.mem_nil_iff, or_false] at hy
    rcases hy with rfl | rfl | rfl | rfl | rfl
    · cases _e
    · cases _e
    · cases _e
    · exact ⟨pinFits, by kernel_rfl⟩
    · cases _e) listFits
end Go.Proofs.YtjclinlclbjobaaGreatDoor
end
