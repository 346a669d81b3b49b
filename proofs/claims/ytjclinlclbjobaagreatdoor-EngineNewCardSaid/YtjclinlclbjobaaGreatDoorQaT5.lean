/- Steps on the way to the card of EngineNew: the tie to the program's text. -/
import Derived.Test.YtjclinlclbjobaaGreatDoorRows
import Derived.LaidByTextLater
import Derived.SevenTiedAt
set_option linter.all false
set_option linter.unusedVariables false
set_option linter.unusedSimpArgs false
set_option linter.unnecessarySimpa false

/- A closed fact of the tie. -/
section
namespace Go.Proofs.YtjclinlclbjobaaGreatDoor
open Go
set_option maxRecDepth 100000
theorem tie3 : ([("internal/strconv.uint64pow10", Rows.laid_internal_strconv_uint64pow10), ("math/bits.deBruijn32tab", Rows.laid_math_bits_deBruijn32tab), ("math/bits.deBruijn64tab", Rows.laid_math_bits_deBruijn64tab), ("unicode/utf8.acceptRanges", Rows.laid_unicode_utf8_acceptRanges)] : List (String × DataW Unit)).map (fun x => Tryz.prog.kindOfLater x.1) = [LaidKind.data, .data, .data, .data].map some := by kernel_rfl
end Go.Proofs.YtjclinlclbjobaaGreatDoor
end

/- A closed fact of the tie. -/
section
namespace Go.Proofs.YtjclinlclbjobaaGreatDoor
open Go
set_option maxRecDepth 100000
theorem tie5 : varsNamedLaterB Tryz.prog 792 [("internal/strconv.uint64pow10", Rows.laid_internal_strconv_uint64pow10), ("math/bits.deBruijn32tab", Rows.laid_math_bits_deBruijn32tab), ("math/bits.deBruijn64tab", Rows.laid_math_bits_deBruijn64tab), ("unicode/utf8.acceptRanges", Rows.laid_unicode_utf8_acceptRanges)] = true := by kernel_rfl
end Go.Proofs.YtjclinlclbjobaaGreatDoor
end

/- A closed fact of the tie. -/
section
namespace Go.Proofs.YtjclinlclbjobaaGreatDoor
open Go
set_option maxRecDepth 100000
theorem tie6 : ∀ os tape, varsDone Tryz.prog 400 792 os tape = true := fun _ _ => by kernel_rfl
end Go.Proofs.YtjclinlclbjobaaGreatDoor
end

/- A closed fact of the tie. -/
section
namespace Go.Proofs.YtjclinlclbjobaaGreatDoor
open Go
set_option maxRecDepth 100000
theorem tie7 : ∀ os tape, (DataW.laidRun Tryz.prog (varsWorld Tryz.prog 400 792 os tape).memory 8 (([("internal/strconv.uint64pow10", Rows.laid_internal_strconv_uint64pow10), ("math/bits.deBruijn32tab", Rows.laid_math_bits_deBruijn32tab), ("math/bits.deBruijn64tab", Rows.laid_math_bits_deBruijn64tab), ("unicode/utf8.acceptRanges", Rows.laid_unicode_utf8_acceptRanges)] : List (String × DataW Unit)).map (·.1))).map (·.1) = some [("internal/strconv.uint64pow10", Rows.laid_internal_strconv_uint64pow10), ("math/bits.deBruijn32tab", Rows.laid_math_bits_deBruijn32tab), ("math/bits.deBruijn64tab", Rows.laid_math_bits_deBruijn64tab), ("unicode/utf8.acceptRanges", Rows.laid_unicode_utf8_acceptRanges)] := fun _ _ => by kernel_rfl
end Go.Proofs.YtjclinlclbjobaaGreatDoor
end

/- A closed fact of the tie. -/
section
namespace Go.Proofs.YtjclinlclbjobaaGreatDoor
open Go
set_option maxRecDepth 100000
theorem tie8 : ∀ os tape, (DataW.laidRun Tryz.prog (varsWorld Tryz.prog 400 792 os tape).memory 8 (([("internal/strconv.uint64pow10", Rows.laid_internal_strconv_uint64pow10), ("math/bits.deBruijn32tab", Rows.laid_math_bits_deBruijn32tab), ("math/bits.deBruijn64tab", Rows.laid_math_bits_deBruijn64tab), ("unicode/utf8.acceptRanges", Rows.laid_unicode_utf8_acceptRanges)] : List (String × DataW Unit)).map (·.1))).map (fun x => decide x.2.Nodup && laidRowsB Tryz.prog (varsWorld Tryz.prog 400 792 os tape).memory x.2) = some true := fun _ _ => by kernel_rfl
end Go.Proofs.YtjclinlclbjobaaGreatDoor
end
