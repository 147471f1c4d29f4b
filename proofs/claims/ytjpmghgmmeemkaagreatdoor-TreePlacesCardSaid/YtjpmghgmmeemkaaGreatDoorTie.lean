/-
  DERIVED. GIVEN WITH THE SEED: THE PROGRAM's TIES (one call each: nine closed facts by the kernel) AND EACH ROW's TIE, after the 31st guide's Derived/Test/Toyas{Tie, Card}.lean. No idea stands in it: it is a product of the set-up. Laid BY PROGRAM, IN A SANDBOX (cutbox-door.mjs). By AI agents, Wed Nov 11 2026. No macro, syntax, notation, axiom, sorry.
-/
import Derived.Test.YtjpmghgmmeemkaaGreatDoorRows
import Derived.LaidByTextLater
import Derived.SevenTiedAt
import Derived.LaidSub
import Derived.LaidOnce
namespace Go.Proofs.YtjpmghgmmeemkaaGreatDoor
open Go
set_option maxRecDepth 100000
theorem seatTie1 : Tryz.prog.laidByTextLater [("math/bits.deBruijn32tab", Rows.laid_math_bits_deBruijn32tab), ("math/bits.deBruijn64tab", Rows.laid_math_bits_deBruijn64tab), ("internal/strconv.uint64pow10", Rows.laid_internal_strconv_uint64pow10), ("errors.errorType", Rows.laid_errors_errorType), ("unicode.White_Space", Rows.laid_unicode_White_Space), ("strings.asciiSpace", Rows.laid_strings_asciiSpace), ("guise/lex.words", Rows.laid_guise_lex_words)] [.data, .data, .data, .handle, .listed, .data, .data] true :=
  Program.laidByTextLater_by_one 60 8 257 (by kernel_rfl) (by kernel_rfl) (by kernel_rfl) (by kernel_rfl) (by kernel_rfl) (by kernel_rfl) (fun _ _ => by kernel_rfl)
theorem noOwnUnsafe : Tryz.pinned.checked.prog.headLifts.contains "ownunsafe" = false := by kernel_rfl
theorem tie : Tryz.prog.laidByTextLater [("math/bits.deBruijn32tab", Rows.laid_math_bits_deBruijn32tab), ("math/bits.deBruijn64tab", Rows.laid_math_bits_deBruijn64tab), ("internal/strconv.uint64pow10", Rows.laid_internal_strconv_uint64pow10), ("errors.errorType", Rows.laid_errors_errorType), ("unicode.White_Space", Rows.laid_unicode_White_Space), ("strings.asciiSpace", Rows.laid_strings_asciiSpace), ("guise/lex.words", Rows.laid_guise_lex_words)] [.data, .data, .data, .handle, .listed, .data, .data] true :=
  Program.laidByTextLater.sub seatTie1 ["math/bits.deBruijn32tab", "math/bits.deBruijn64tab", "internal/strconv.uint64pow10", "errors.errorType", "unicode.White_Space", "strings.asciiSpace", "guise/lex.words"] (by kernel_rfl) (by kernel_rfl)
theorem treeSames_row_tie : Rows.treeSamesRow.laidByTextAt .later Tryz.pinned [.data, .data, .data, .handle, .listed, .data, .data] true :=
  OpenClaim.laidByTextAt_later rfl rfl tie noOwnUnsafe
theorem treePlaces_row_tie : Rows.treePlacesRow.laidByTextAt .later Tryz.pinned [.data, .data, .data, .handle, .listed, .data, .data] true :=
  OpenClaim.laidByTextAt_later rfl rfl tie noOwnUnsafe
theorem treeAll_row_tie : Rows.treeAllRow.laidByTextAt .later Tryz.pinned [.data, .data, .data, .handle, .listed, .data, .data] true :=
  OpenClaim.laidByTextAt_later rfl rfl tie noOwnUnsafe
theorem treeMore_row_tie : Rows.treeMoreRow.laidByTextAt .later Tryz.pinned [.data, .data, .data, .handle, .listed, .data, .data] true :=
  OpenClaim.laidByTextAt_later rfl rfl tie noOwnUnsafe
theorem treeSamesUpto_row_tie : Rows.treeSamesUptoRow.laidByTextAt .later Tryz.pinned [.data, .data, .data, .handle, .listed, .data, .data] true :=
  OpenClaim.laidByTextAt_later rfl rfl tie noOwnUnsafe
theorem treePlacesUpto_row_tie : Rows.treePlacesUptoRow.laidByTextAt .later Tryz.pinned [.data, .data, .data, .handle, .listed, .data, .data] true :=
  OpenClaim.laidByTextAt_later rfl rfl tie noOwnUnsafe
theorem treeAllUpto_row_tie : Rows.treeAllUptoRow.laidByTextAt .later Tryz.pinned [.data, .data, .data, .handle, .listed, .data, .data] true :=
  OpenClaim.laidByTextAt_later rfl rfl tie noOwnUnsafe
theorem treeMoreUpto_row_tie : Rows.treeMoreUptoRow.laidByTextAt .later Tryz.pinned [.data, .data, .data, .handle, .listed, .data, .data] true :=
  OpenClaim.laidByTextAt_later rfl rfl tie noOwnUnsafe
end Go.Proofs.YtjpmghgmmeemkaaGreatDoor
