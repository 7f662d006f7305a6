/-
  DERIVED. GIVEN WITH THE SEED: THE PROGRAM's TIES (one call each: nine closed facts by the kernel) AND EACH ROW's TIE, after the 31st guide's Derived/Test/Toyas{Tie, Card}.lean. No idea stands in it: it is a product of the set-up. Laid BY PROGRAM, IN A SANDBOX (cutbox-door.mjs). By AI agents, Wed Nov 11 2026. No macro, syntax, notation, axiom, sorry.
-/
import Derived.Test.YtbamfhdgikeneaaDoorRows
import Derived.LaidByTextLater
import Derived.SevenTiedAt
import Derived.LaidSub
import Derived.LaidOnce
namespace Go.Proofs.YtbamfhdgikeneaaDoor
open Go
set_option maxRecDepth 100000
theorem seatTie1 : Tryd.prog.laidByTextLater [("math/bits.deBruijn32tab", Rows.laid_math_bits_deBruijn32tab), ("math/bits.deBruijn64tab", Rows.laid_math_bits_deBruijn64tab), ("internal/strconv.uint64pow10", Rows.laid_internal_strconv_uint64pow10), ("glyphic/api.ErrText", Rows.laid_glyphic_api_ErrText), ("glyphic/api.ErrName", Rows.laid_glyphic_api_ErrName), ("glyphic/api.ErrTwice", Rows.laid_glyphic_api_ErrTwice), ("glyphic/api.ErrPath", Rows.laid_glyphic_api_ErrPath), ("glyphic/api.ErrRange", Rows.laid_glyphic_api_ErrRange), ("glyphic/api.ErrLimit", Rows.laid_glyphic_api_ErrLimit), ("glyphic/api.ErrShort", Rows.laid_glyphic_api_ErrShort), ("glyphic/api.ErrMagic", Rows.laid_glyphic_api_ErrMagic), ("glyphic/api.ErrVarint", Rows.laid_glyphic_api_ErrVarint), ("glyphic/api.ErrCanon", Rows.laid_glyphic_api_ErrCanon), ("glyphic/api.ErrTrail", Rows.laid_glyphic_api_ErrTrail), ("glyphic/api.ErrWidth", Rows.laid_glyphic_api_ErrWidth), ("glyphic/api.ErrBudget", Rows.laid_glyphic_api_ErrBudget)] [.data, .data, .data, .sentinel, .sentinel, .sentinel, .sentinel, .sentinel, .sentinel, .sentinel, .sentinel, .sentinel, .sentinel, .sentinel, .sentinel, .sentinel] true :=
  Program.laidByTextLater_by_one 271 8 65 (by kernel_rfl) (by kernel_rfl) (by kernel_rfl) (by kernel_rfl) (by kernel_rfl) (by kernel_rfl) (fun _ _ => by kernel_rfl)
theorem noOwnUnsafe : Tryd.pinned.checked.prog.headLifts.contains "ownunsafe" = false := by kernel_rfl
theorem tie : Tryd.prog.laidByTextLater [("glyphic/api.ErrText", Rows.laid_glyphic_api_ErrText), ("glyphic/api.ErrName", Rows.laid_glyphic_api_ErrName), ("glyphic/api.ErrTwice", Rows.laid_glyphic_api_ErrTwice), ("glyphic/api.ErrPath", Rows.laid_glyphic_api_ErrPath), ("glyphic/api.ErrRange", Rows.laid_glyphic_api_ErrRange), ("glyphic/api.ErrLimit", Rows.laid_glyphic_api_ErrLimit), ("glyphic/api.ErrShort", Rows.laid_glyphic_api_ErrShort), ("glyphic/api.ErrMagic", Rows.laid_glyphic_api_ErrMagic), ("glyphic/api.ErrVarint", Rows.laid_glyphic_api_ErrVarint), ("glyphic/api.ErrCanon", Rows.laid_glyphic_api_ErrCanon), ("glyphic/api.ErrTrail", Rows.laid_glyphic_api_ErrTrail), ("glyphic/api.ErrWidth", Rows.laid_glyphic_api_ErrWidth), ("glyphic/api.ErrBudget", Rows.laid_glyphic_api_ErrBudget)] [.sentinel, .sentinel, .sentinel, .sentinel, .sentinel, .sentinel, .sentinel, .sentinel, .sentinel, .sentinel, .sentinel, .sentinel, .sentinel] true :=
  Program.laidByTextLater.sub seatTie1 ["glyphic/api.ErrText", "glyphic/api.ErrName", "glyphic/api.ErrTwice", "glyphic/api.ErrPath", "glyphic/api.ErrRange", "glyphic/api.ErrLimit", "glyphic/api.ErrShort", "glyphic/api.ErrMagic", "glyphic/api.ErrVarint", "glyphic/api.ErrCanon", "glyphic/api.ErrTrail", "glyphic/api.ErrWidth", "glyphic/api.ErrBudget"] (by kernel_rfl) (by kernel_rfl)
theorem iconErrors_row_tie : Rows.iconErrorsRow.laidByTextAt .later Tryd.pinned [.sentinel, .sentinel, .sentinel, .sentinel, .sentinel, .sentinel, .sentinel, .sentinel, .sentinel, .sentinel, .sentinel, .sentinel, .sentinel] true :=
  OpenClaim.laidByTextAt_later rfl rfl tie noOwnUnsafe
theorem iconLimits_row_tie : Rows.iconLimitsRow.laidByTextAt .later Tryd.pinned [.sentinel, .sentinel, .sentinel, .sentinel, .sentinel, .sentinel, .sentinel, .sentinel, .sentinel, .sentinel, .sentinel, .sentinel, .sentinel] true :=
  OpenClaim.laidByTextAt_later rfl rfl tie noOwnUnsafe
theorem iconFar_row_tie : Rows.iconFarRow.laidByTextAt .later Tryd.pinned [.sentinel, .sentinel, .sentinel, .sentinel, .sentinel, .sentinel, .sentinel, .sentinel, .sentinel, .sentinel, .sentinel, .sentinel, .sentinel] true :=
  OpenClaim.laidByTextAt_later rfl rfl tie noOwnUnsafe
theorem decodeLimits_row_tie : Rows.decodeLimitsRow.laidByTextAt .later Tryd.pinned [.sentinel, .sentinel, .sentinel, .sentinel, .sentinel, .sentinel, .sentinel, .sentinel, .sentinel, .sentinel, .sentinel, .sentinel, .sentinel] true :=
  OpenClaim.laidByTextAt_later rfl rfl tie noOwnUnsafe
theorem encodeSays_row_tie : Rows.encodeSaysRow.laidByTextAt .later Tryd.pinned [.sentinel, .sentinel, .sentinel, .sentinel, .sentinel, .sentinel, .sentinel, .sentinel, .sentinel, .sentinel, .sentinel, .sentinel, .sentinel] true :=
  OpenClaim.laidByTextAt_later rfl rfl tie noOwnUnsafe
theorem decodeBack_row_tie : Rows.decodeBackRow.laidByTextAt .later Tryd.pinned [.sentinel, .sentinel, .sentinel, .sentinel, .sentinel, .sentinel, .sentinel, .sentinel, .sentinel, .sentinel, .sentinel, .sentinel, .sentinel] true :=
  OpenClaim.laidByTextAt_later rfl rfl tie noOwnUnsafe
theorem decodeOne_row_tie : Rows.decodeOneRow.laidByTextAt .later Tryd.pinned [.sentinel, .sentinel, .sentinel, .sentinel, .sentinel, .sentinel, .sentinel, .sentinel, .sentinel, .sentinel, .sentinel, .sentinel, .sentinel] true :=
  OpenClaim.laidByTextAt_later rfl rfl tie noOwnUnsafe
theorem tie2 : Tryd.prog.laidByTextLater [("glyphic/api.ErrRange", Rows.laid_glyphic_api_ErrRange), ("glyphic/api.ErrLimit", Rows.laid_glyphic_api_ErrLimit), ("glyphic/api.ErrCanon", Rows.laid_glyphic_api_ErrCanon)] [.sentinel, .sentinel, .sentinel] true :=
  Program.laidByTextLater.sub seatTie1 ["glyphic/api.ErrRange", "glyphic/api.ErrLimit", "glyphic/api.ErrCanon"] (by kernel_rfl) (by kernel_rfl)
theorem encodeUnlike_row_tie : Rows.encodeUnlikeRow.laidByTextAt .later Tryd.pinned [.sentinel, .sentinel, .sentinel] true :=
  OpenClaim.laidByTextAt_later rfl rfl tie2 noOwnUnsafe
theorem encodeRuns_row_tie : Rows.encodeRunsRow.laidByTextAt .later Tryd.pinned [.sentinel, .sentinel, .sentinel] true :=
  OpenClaim.laidByTextAt_later rfl rfl tie2 noOwnUnsafe
theorem encodeHeads_row_tie : Rows.encodeHeadsRow.laidByTextAt .later Tryd.pinned [.sentinel, .sentinel, .sentinel] true :=
  OpenClaim.laidByTextAt_later rfl rfl tie2 noOwnUnsafe
theorem encodeShort_row_tie : Rows.encodeShortRow.laidByTextAt .later Tryd.pinned [.sentinel, .sentinel, .sentinel] true :=
  OpenClaim.laidByTextAt_later rfl rfl tie2 noOwnUnsafe
theorem tie3 : Tryd.prog.laidByTextLater [("math/bits.deBruijn32tab", Rows.laid_math_bits_deBruijn32tab), ("math/bits.deBruijn64tab", Rows.laid_math_bits_deBruijn64tab), ("internal/strconv.uint64pow10", Rows.laid_internal_strconv_uint64pow10), ("glyphic/api.ErrText", Rows.laid_glyphic_api_ErrText), ("glyphic/api.ErrName", Rows.laid_glyphic_api_ErrName), ("glyphic/api.ErrTwice", Rows.laid_glyphic_api_ErrTwice), ("glyphic/api.ErrPath", Rows.laid_glyphic_api_ErrPath), ("glyphic/api.ErrRange", Rows.laid_glyphic_api_ErrRange), ("glyphic/api.ErrLimit", Rows.laid_glyphic_api_ErrLimit), ("glyphic/api.ErrShort", Rows.laid_glyphic_api_ErrShort), ("glyphic/api.ErrMagic", Rows.laid_glyphic_api_ErrMagic), ("glyphic/api.ErrVarint", Rows.laid_glyphic_api_ErrVarint), ("glyphic/api.ErrCanon", Rows.laid_glyphic_api_ErrCanon), ("glyphic/api.ErrTrail", Rows.laid_glyphic_api_ErrTrail), ("glyphic/api.ErrWidth", Rows.laid_glyphic_api_ErrWidth), ("glyphic/api.ErrBudget", Rows.laid_glyphic_api_ErrBudget)] [.data, .data, .data, .sentinel, .sentinel, .sentinel, .sentinel, .sentinel, .sentinel, .sentinel, .sentinel, .sentinel, .sentinel, .sentinel, .sentinel, .sentinel] true :=
  Program.laidByTextLater.sub seatTie1 ["math/bits.deBruijn32tab", "math/bits.deBruijn64tab", "internal/strconv.uint64pow10", "glyphic/api.ErrText", "glyphic/api.ErrName", "glyphic/api.ErrTwice", "glyphic/api.ErrPath", "glyphic/api.ErrRange", "glyphic/api.ErrLimit", "glyphic/api.ErrShort", "glyphic/api.ErrMagic", "glyphic/api.ErrVarint", "glyphic/api.ErrCanon", "glyphic/api.ErrTrail", "glyphic/api.ErrWidth", "glyphic/api.ErrBudget"] (by kernel_rfl) (by kernel_rfl)
theorem namesSay_row_tie : Rows.namesSayRow.laidByTextAt .later Tryd.pinned [.data, .data, .data, .sentinel, .sentinel, .sentinel, .sentinel, .sentinel, .sentinel, .sentinel, .sentinel, .sentinel, .sentinel, .sentinel, .sentinel, .sentinel] true :=
  OpenClaim.laidByTextAt_later rfl rfl tie3 noOwnUnsafe
theorem iconErrorsUpto_row_tie : Rows.iconErrorsUptoRow.laidByTextAt .later Tryd.pinned [.sentinel, .sentinel, .sentinel, .sentinel, .sentinel, .sentinel, .sentinel, .sentinel, .sentinel, .sentinel, .sentinel, .sentinel, .sentinel] true :=
  OpenClaim.laidByTextAt_later rfl rfl tie noOwnUnsafe
theorem iconLimitsUpto_row_tie : Rows.iconLimitsUptoRow.laidByTextAt .later Tryd.pinned [.sentinel, .sentinel, .sentinel, .sentinel, .sentinel, .sentinel, .sentinel, .sentinel, .sentinel, .sentinel, .sentinel, .sentinel, .sentinel] true :=
  OpenClaim.laidByTextAt_later rfl rfl tie noOwnUnsafe
theorem iconFarUpto_row_tie : Rows.iconFarUptoRow.laidByTextAt .later Tryd.pinned [.sentinel, .sentinel, .sentinel, .sentinel, .sentinel, .sentinel, .sentinel, .sentinel, .sentinel, .sentinel, .sentinel, .sentinel, .sentinel] true :=
  OpenClaim.laidByTextAt_later rfl rfl tie noOwnUnsafe
theorem decodeLimitsUpto_row_tie : Rows.decodeLimitsUptoRow.laidByTextAt .later Tryd.pinned [.sentinel, .sentinel, .sentinel, .sentinel, .sentinel, .sentinel, .sentinel, .sentinel, .sentinel, .sentinel, .sentinel, .sentinel, .sentinel] true :=
  OpenClaim.laidByTextAt_later rfl rfl tie noOwnUnsafe
theorem encodeSaysUpto_row_tie : Rows.encodeSaysUptoRow.laidByTextAt .later Tryd.pinned [.sentinel, .sentinel, .sentinel, .sentinel, .sentinel, .sentinel, .sentinel, .sentinel, .sentinel, .sentinel, .sentinel, .sentinel, .sentinel] true :=
  OpenClaim.laidByTextAt_later rfl rfl tie noOwnUnsafe
theorem encodeUnlikeUpto_row_tie : Rows.encodeUnlikeUptoRow.laidByTextAt .later Tryd.pinned [.sentinel, .sentinel, .sentinel] true :=
  OpenClaim.laidByTextAt_later rfl rfl tie2 noOwnUnsafe
theorem encodeRunsUpto_row_tie : Rows.encodeRunsUptoRow.laidByTextAt .later Tryd.pinned [.sentinel, .sentinel, .sentinel] true :=
  OpenClaim.laidByTextAt_later rfl rfl tie2 noOwnUnsafe
theorem encodeHeadsUpto_row_tie : Rows.encodeHeadsUptoRow.laidByTextAt .later Tryd.pinned [.sentinel, .sentinel, .sentinel] true :=
  OpenClaim.laidByTextAt_later rfl rfl tie2 noOwnUnsafe
theorem encodeShortUpto_row_tie : Rows.encodeShortUptoRow.laidByTextAt .later Tryd.pinned [.sentinel, .sentinel, .sentinel] true :=
  OpenClaim.laidByTextAt_later rfl rfl tie2 noOwnUnsafe
theorem namesSayUpto_row_tie : Rows.namesSayUptoRow.laidByTextAt .later Tryd.pinned [.data, .data, .data, .sentinel, .sentinel, .sentinel, .sentinel, .sentinel, .sentinel, .sentinel, .sentinel, .sentinel, .sentinel, .sentinel, .sentinel, .sentinel] true :=
  OpenClaim.laidByTextAt_later rfl rfl tie3 noOwnUnsafe
theorem decodeBackUpto_row_tie : Rows.decodeBackUptoRow.laidByTextAt .later Tryd.pinned [.sentinel, .sentinel, .sentinel, .sentinel, .sentinel, .sentinel, .sentinel, .sentinel, .sentinel, .sentinel, .sentinel, .sentinel, .sentinel] true :=
  OpenClaim.laidByTextAt_later rfl rfl tie noOwnUnsafe
theorem decodeOneUpto_row_tie : Rows.decodeOneUptoRow.laidByTextAt .later Tryd.pinned [.sentinel, .sentinel, .sentinel, .sentinel, .sentinel, .sentinel, .sentinel, .sentinel, .sentinel, .sentinel, .sentinel, .sentinel, .sentinel] true :=
  OpenClaim.laidByTextAt_later rfl rfl tie noOwnUnsafe
end Go.Proofs.YtbamfhdgikeneaaDoor
