/-
  NARROWER THAN 'FOR EVERY INPUT', by the rows' own cells (each row's printed sentence says how): IconErrors: laid · IconLimits: laid · IconFar: laid · DecodeLimits: laid · EncodeSays: laid · EncodeUnlike: laid · EncodeRuns: laid · EncodeHeads: laid · EncodeShort: laid · NamesSay: laid · DecodeBack: laid · DecodeOne: laid.
  DERIVED. THE GIVEN ROWS OF THIS SEAT. 12 by the template 'for every input the law returns true; each argument reads behind the call as it read before'; 0 by the template 'total and deterministic' (their statements: YtbamfhdgikeneaaDoorTotals.lean).
  GIVEN WITH THE SEED: the statements are not yours to turn. If you find one false, say at which input.
  Laid BY PROGRAM, IN A SANDBOX (cutbox-rows.mjs): the forced cells as the released guide's own fill.sh prints them over the translation 7b4ec83c0cb6a9a6… (all of the seat's roots in one cut). By AI agents, Wed Nov 11 2026. No macro, syntax, notation, axiom, sorry.
-/
import Derived.Test.YtbamfhdgikeneaaDoorChecked
import GoSem.Claim
import GoSem.ClaimJoined
import GoSem.ClaimMapViews
import Derived.JoinedTies
import Derived.KernelRfl
namespace Go.Proofs.YtbamfhdgikeneaaDoor
/- THE CELL 'sum', in the pinned program and in every row, IS THE sha256 OF THE DUMP (.gsa) THAT YtbamfhdgikeneaaDoorProg.lean LOADS. Nothing in Lean hashes anything: it is a label: what it is worth is what the hold of that sum in a sandbox is worth. -/
noncomputable def Tryd.pinned : Pinned := { name := "ytbamfhdgikeneaadoor", sum := "7b4ec83c0cb6a9a66155f86ba88c5532af63f2e89fd79eaee853de25a7a97dbb", checked := Tryd.checked }
namespace Rows
def none {H : Type} : Left H := { results := [], args := [] }

/- WHAT THE LISTED PACKAGE-LEVEL VARIABLES READ AS WHEN THE CALL BEGINS. Each datum BY PROGRAM (the guide's laid-datum.mjs) off the statement by which the dump's own 'gosem.cut.vars' lays the variable. In a bare row this is a premise. The card (YtbamfhdgikeneaaDoorCards.lean) ties it to the program's text. -/
def laid_glyphic_api_ErrText {H : Type} : DataW H := .iface "*errors.errorString" (.ptr (.agg [.lit (.string [110, 111, 116, 32, 97, 115, 32, 105, 116, 32, 105, 115, 32, 119, 114, 105, 116, 116, 101, 110])]))
def laid_glyphic_api_ErrName {H : Type} : DataW H := .iface "*errors.errorString" (.ptr (.agg [.lit (.string [97, 32, 110, 97, 109, 101, 32, 116, 104, 97, 116, 32, 105, 115, 32, 110, 111, 98, 111, 100, 121, 39, 115])]))
def laid_glyphic_api_ErrTwice {H : Type} : DataW H := .iface "*errors.errorString" (.ptr (.agg [.lit (.string [97, 32, 110, 97, 109, 101, 32, 116, 119, 105, 99, 101])]))
def laid_glyphic_api_ErrPath {H : Type} : DataW H := .iface "*errors.errorString" (.ptr (.agg [.lit (.string [115, 116, 101, 112, 115, 32, 116, 104, 97, 116, 32, 97, 114, 101, 32, 110, 111, 32, 112, 97, 116, 104])]))
def laid_glyphic_api_ErrRange {H : Type} : DataW H := .iface "*errors.errorString" (.ptr (.agg [.lit (.string [97, 32, 110, 117, 109, 98, 101, 114, 32, 111, 117, 116, 32, 111, 102, 32, 105, 116, 115, 32, 114, 97, 110, 103, 101])]))
def laid_glyphic_api_ErrLimit {H : Type} : DataW H := .iface "*errors.errorString" (.ptr (.agg [.lit (.string [109, 111, 114, 101, 32, 116, 104, 97, 110, 32, 109, 97, 121, 32, 98, 101])]))
def laid_glyphic_api_ErrShort {H : Type} : DataW H := .iface "*errors.errorString" (.ptr (.agg [.lit (.string [108, 101, 115, 115, 32, 116, 104, 97, 110, 32, 104, 97, 115, 32, 116, 111, 32, 98, 101])]))
def laid_glyphic_api_ErrMagic {H : Type} : DataW H := .iface "*errors.errorString" (.ptr (.agg [.lit (.string [110, 111, 116, 32, 97, 110, 32, 105, 99, 111, 110])]))
def laid_glyphic_api_ErrVarint {H : Type} : DataW H := .iface "*errors.errorString" (.ptr (.agg [.lit (.string [97, 32, 110, 117, 109, 98, 101, 114, 32, 116, 104, 97, 116, 32, 105, 115, 32, 110, 111, 116, 32, 119, 114, 105, 116, 116, 101, 110, 32, 115, 104, 111, 114, 116, 108, 121])]))
def laid_glyphic_api_ErrCanon {H : Type} : DataW H := .iface "*errors.errorString" (.ptr (.agg [.lit (.string [110, 111, 116, 32, 116, 104, 101, 32, 111, 110, 101, 32, 102, 111, 114, 109])]))
def laid_glyphic_api_ErrTrail {H : Type} : DataW H := .iface "*errors.errorString" (.ptr (.agg [.lit (.string [98, 121, 116, 101, 115, 32, 98, 101, 104, 105, 110, 100, 32, 116, 104, 101, 32, 101, 110, 100])]))
def laid_glyphic_api_ErrWidth {H : Type} : DataW H := .iface "*errors.errorString" (.ptr (.agg [.lit (.string [97, 32, 119, 105, 100, 116, 104, 32, 116, 104, 97, 116, 32, 99, 97, 110, 39, 116, 32, 98, 101])]))
def laid_glyphic_api_ErrBudget {H : Type} : DataW H := .iface "*errors.errorString" (.ptr (.agg [.lit (.string [109, 111, 114, 101, 32, 101, 100, 103, 101, 115, 32, 116, 104, 97, 110, 32, 109, 97, 121, 32, 98, 101])]))
def laid_math_bits_deBruijn32tab {H : Type} : DataW H := .agg [.lit (.int .u8 0), .lit (.int .u8 1), .lit (.int .u8 28), .lit (.int .u8 2), .lit (.int .u8 29), .lit (.int .u8 14), .lit (.int .u8 24), .lit (.int .u8 3), .lit (.int .u8 30), .lit (.int .u8 22), .lit (.int .u8 20), .lit (.int .u8 15), .lit (.int .u8 25), .lit (.int .u8 17), .lit (.int .u8 4), .lit (.int .u8 8), .lit (.int .u8 31), .lit (.int .u8 27), .lit (.int .u8 13), .lit (.int .u8 23), .lit (.int .u8 21), .lit (.int .u8 19), .lit (.int .u8 16), .lit (.int .u8 7), .lit (.int .u8 26), .lit (.int .u8 12), .lit (.int .u8 18), .lit (.int .u8 6), .lit (.int .u8 11), .lit (.int .u8 5), .lit (.int .u8 10), .lit (.int .u8 9)]
def laid_math_bits_deBruijn64tab {H : Type} : DataW H := .agg [.lit (.int .u8 0), .lit (.int .u8 1), .lit (.int .u8 56), .lit (.int .u8 2), .lit (.int .u8 57), .lit (.int .u8 49), .lit (.int .u8 28), .lit (.int .u8 3), .lit (.int .u8 61), .lit (.int .u8 58), .lit (.int .u8 42), .lit (.int .u8 50), .lit (.int .u8 38), .lit (.int .u8 29), .lit (.int .u8 17), .lit (.int .u8 4), .lit (.int .u8 62), .lit (.int .u8 47), .lit (.int .u8 59), .lit (.int .u8 36), .lit (.int .u8 45), .lit (.int .u8 43), .lit (.int .u8 51), .lit (.int .u8 22), .lit (.int .u8 53), .lit (.int .u8 39), .lit (.int .u8 33), .lit (.int .u8 30), .lit (.int .u8 24), .lit (.int .u8 18), .lit (.int .u8 12), .lit (.int .u8 5), .lit (.int .u8 63), .lit (.int .u8 55), .lit (.int .u8 48), .lit (.int .u8 27), .lit (.int .u8 60), .lit (.int .u8 41), .lit (.int .u8 37), .lit (.int .u8 16), .lit (.int .u8 46), .lit (.int .u8 35), .lit (.int .u8 44), .lit (.int .u8 21), .lit (.int .u8 52), .lit (.int .u8 32), .lit (.int .u8 23), .lit (.int .u8 11), .lit (.int .u8 54), .lit (.int .u8 26), .lit (.int .u8 40), .lit (.int .u8 15), .lit (.int .u8 34), .lit (.int .u8 20), .lit (.int .u8 31), .lit (.int .u8 10), .lit (.int .u8 25), .lit (.int .u8 14), .lit (.int .u8 19), .lit (.int .u8 9), .lit (.int .u8 13), .lit (.int .u8 8), .lit (.int .u8 7), .lit (.int .u8 6)]
def laid_internal_strconv_uint64pow10 {H : Type} : DataW H := .agg [.lit (.int .u64 1), .lit (.int .u64 10), .lit (.int .u64 100), .lit (.int .u64 1000), .lit (.int .u64 10000), .lit (.int .u64 100000), .lit (.int .u64 1000000), .lit (.int .u64 10000000), .lit (.int .u64 100000000), .lit (.int .u64 1000000000), .lit (.int .u64 10000000000), .lit (.int .u64 100000000000), .lit (.int .u64 1000000000000), .lit (.int .u64 10000000000000), .lit (.int .u64 100000000000000), .lit (.int .u64 1000000000000000), .lit (.int .u64 10000000000000000), .lit (.int .u64 100000000000000000), .lit (.int .u64 1000000000000000000), .lit (.int .u64 10000000000000000000)]

/-- 'glyphiclaw5.IconErrors': WHATEVER THE INPUT: true; the input reads as it did. -/
def iconErrorsSpec : ChangeSpec := { name := "iconErrors", fn := fun _ => fun
  | [d1, d2] => { results := [.lit (.bool true)], args := [d1, d2] }
  | _ => none }
def iconErrorsRow : OpenClaim := { program := "ytbamfhdgikeneaadoor", sum := "7b4ec83c0cb6a9a66155f86ba88c5532af63f2e89fd79eaee853de25a7a97dbb", func := "glyphic/glyphiclaw5.IconErrors", spec := "iconErrors", named := ["glyphic/api.ErrRange", "glyphic/api.ErrLimit", "glyphic/api.ErrCanon", "glyphic/api.ErrText", "glyphic/api.ErrName", "glyphic/api.ErrTwice", "glyphic/api.ErrPath", "glyphic/api.ErrShort", "glyphic/api.ErrMagic", "glyphic/api.ErrVarint", "glyphic/api.ErrTrail", "glyphic/api.ErrWidth", "glyphic/api.ErrBudget"], apart := false, laid := [("glyphic/api.ErrText", laid_glyphic_api_ErrText), ("glyphic/api.ErrName", laid_glyphic_api_ErrName), ("glyphic/api.ErrTwice", laid_glyphic_api_ErrTwice), ("glyphic/api.ErrPath", laid_glyphic_api_ErrPath), ("glyphic/api.ErrRange", laid_glyphic_api_ErrRange), ("glyphic/api.ErrLimit", laid_glyphic_api_ErrLimit), ("glyphic/api.ErrShort", laid_glyphic_api_ErrShort), ("glyphic/api.ErrMagic", laid_glyphic_api_ErrMagic), ("glyphic/api.ErrVarint", laid_glyphic_api_ErrVarint), ("glyphic/api.ErrCanon", laid_glyphic_api_ErrCanon), ("glyphic/api.ErrTrail", laid_glyphic_api_ErrTrail), ("glyphic/api.ErrWidth", laid_glyphic_api_ErrWidth), ("glyphic/api.ErrBudget", laid_glyphic_api_ErrBudget)] }
def IconErrorsSaid : Prop := iconErrorsRow.holds Tryd.pinned (OpenSpec.ofChange iconErrorsSpec)

/-- ITS FALSE NEIGHBOUR: 'it returns false'. Refute it at one input. -/
def iconErrorsWrong : ChangeSpec := { name := "iconErrors", fn := fun _ => fun
  | [d1, d2] => { results := [.lit (.bool false)], args := [d1, d2] }
  | _ => none }
def IconErrorsWrongFalsely : Prop := iconErrorsRow.holds Tryd.pinned (OpenSpec.ofChange iconErrorsWrong)

/-- 'glyphiclaw5.IconLimits': WHATEVER THE INPUT: true; the input reads as it did. -/
def iconLimitsSpec : ChangeSpec := { name := "iconLimits", fn := fun _ => fun
  | [d1, d2] => { results := [.lit (.bool true)], args := [d1, d2] }
  | _ => none }
def iconLimitsRow : OpenClaim := { program := "ytbamfhdgikeneaadoor", sum := "7b4ec83c0cb6a9a66155f86ba88c5532af63f2e89fd79eaee853de25a7a97dbb", func := "glyphic/glyphiclaw5.IconLimits", spec := "iconLimits", named := ["glyphic/api.ErrRange", "glyphic/api.ErrLimit", "glyphic/api.ErrCanon", "glyphic/api.ErrText", "glyphic/api.ErrName", "glyphic/api.ErrTwice", "glyphic/api.ErrPath", "glyphic/api.ErrShort", "glyphic/api.ErrMagic", "glyphic/api.ErrVarint", "glyphic/api.ErrTrail", "glyphic/api.ErrWidth", "glyphic/api.ErrBudget"], apart := false, laid := [("glyphic/api.ErrText", laid_glyphic_api_ErrText), ("glyphic/api.ErrName", laid_glyphic_api_ErrName), ("glyphic/api.ErrTwice", laid_glyphic_api_ErrTwice), ("glyphic/api.ErrPath", laid_glyphic_api_ErrPath), ("glyphic/api.ErrRange", laid_glyphic_api_ErrRange), ("glyphic/api.ErrLimit", laid_glyphic_api_ErrLimit), ("glyphic/api.ErrShort", laid_glyphic_api_ErrShort), ("glyphic/api.ErrMagic", laid_glyphic_api_ErrMagic), ("glyphic/api.ErrVarint", laid_glyphic_api_ErrVarint), ("glyphic/api.ErrCanon", laid_glyphic_api_ErrCanon), ("glyphic/api.ErrTrail", laid_glyphic_api_ErrTrail), ("glyphic/api.ErrWidth", laid_glyphic_api_ErrWidth), ("glyphic/api.ErrBudget", laid_glyphic_api_ErrBudget)] }
def IconLimitsSaid : Prop := iconLimitsRow.holds Tryd.pinned (OpenSpec.ofChange iconLimitsSpec)

/-- ITS FALSE NEIGHBOUR: 'it returns false'. Refute it at one input. -/
def iconLimitsWrong : ChangeSpec := { name := "iconLimits", fn := fun _ => fun
  | [d1, d2] => { results := [.lit (.bool false)], args := [d1, d2] }
  | _ => none }
def IconLimitsWrongFalsely : Prop := iconLimitsRow.holds Tryd.pinned (OpenSpec.ofChange iconLimitsWrong)

/-- 'glyphiclaw5.IconFar': WHATEVER THE INPUT: true; the input reads as it did. -/
def iconFarSpec : ChangeSpec := { name := "iconFar", fn := fun _ => fun
  | [d1, d2, d3] => { results := [.lit (.bool true)], args := [d1, d2, d3] }
  | _ => none }
def iconFarRow : OpenClaim := { program := "ytbamfhdgikeneaadoor", sum := "7b4ec83c0cb6a9a66155f86ba88c5532af63f2e89fd79eaee853de25a7a97dbb", func := "glyphic/glyphiclaw5.IconFar", spec := "iconFar", named := ["glyphic/api.ErrRange", "glyphic/api.ErrLimit", "glyphic/api.ErrCanon", "glyphic/api.ErrText", "glyphic/api.ErrName", "glyphic/api.ErrTwice", "glyphic/api.ErrPath", "glyphic/api.ErrShort", "glyphic/api.ErrMagic", "glyphic/api.ErrVarint", "glyphic/api.ErrTrail", "glyphic/api.ErrWidth", "glyphic/api.ErrBudget"], apart := false, laid := [("glyphic/api.ErrText", laid_glyphic_api_ErrText), ("glyphic/api.ErrName", laid_glyphic_api_ErrName), ("glyphic/api.ErrTwice", laid_glyphic_api_ErrTwice), ("glyphic/api.ErrPath", laid_glyphic_api_ErrPath), ("glyphic/api.ErrRange", laid_glyphic_api_ErrRange), ("glyphic/api.ErrLimit", laid_glyphic_api_ErrLimit), ("glyphic/api.ErrShort", laid_glyphic_api_ErrShort), ("glyphic/api.ErrMagic", laid_glyphic_api_ErrMagic), ("glyphic/api.ErrVarint", laid_glyphic_api_ErrVarint), ("glyphic/api.ErrCanon", laid_glyphic_api_ErrCanon), ("glyphic/api.ErrTrail", laid_glyphic_api_ErrTrail), ("glyphic/api.ErrWidth", laid_glyphic_api_ErrWidth), ("glyphic/api.ErrBudget", laid_glyphic_api_ErrBudget)] }
def IconFarSaid : Prop := iconFarRow.holds Tryd.pinned (OpenSpec.ofChange iconFarSpec)

/-- ITS FALSE NEIGHBOUR: 'it returns false'. Refute it at one input. -/
def iconFarWrong : ChangeSpec := { name := "iconFar", fn := fun _ => fun
  | [d1, d2, d3] => { results := [.lit (.bool false)], args := [d1, d2, d3] }
  | _ => none }
def IconFarWrongFalsely : Prop := iconFarRow.holds Tryd.pinned (OpenSpec.ofChange iconFarWrong)

/-- 'glyphiclaw7.DecodeLimits': WHATEVER THE INPUT: true; the input reads as it did. -/
def decodeLimitsSpec : ChangeSpec := { name := "decodeLimits", fn := fun _ => fun
  | [d1, d2] => { results := [.lit (.bool true)], args := [d1, d2] }
  | _ => none }
def decodeLimitsRow : OpenClaim := { program := "ytbamfhdgikeneaadoor", sum := "7b4ec83c0cb6a9a66155f86ba88c5532af63f2e89fd79eaee853de25a7a97dbb", func := "glyphic/glyphiclaw7.DecodeLimits", spec := "decodeLimits", unfollowed := true, recurses := true, named := ["glyphic/api.ErrLimit", "glyphic/api.ErrShort", "glyphic/api.ErrMagic", "glyphic/api.ErrCanon", "glyphic/api.ErrTrail", "glyphic/api.ErrRange", "glyphic/api.ErrVarint", "glyphic/api.ErrText", "glyphic/api.ErrName", "glyphic/api.ErrTwice", "glyphic/api.ErrPath", "glyphic/api.ErrWidth", "glyphic/api.ErrBudget"], apart := false, laid := [("glyphic/api.ErrText", laid_glyphic_api_ErrText), ("glyphic/api.ErrName", laid_glyphic_api_ErrName), ("glyphic/api.ErrTwice", laid_glyphic_api_ErrTwice), ("glyphic/api.ErrPath", laid_glyphic_api_ErrPath), ("glyphic/api.ErrRange", laid_glyphic_api_ErrRange), ("glyphic/api.ErrLimit", laid_glyphic_api_ErrLimit), ("glyphic/api.ErrShort", laid_glyphic_api_ErrShort), ("glyphic/api.ErrMagic", laid_glyphic_api_ErrMagic), ("glyphic/api.ErrVarint", laid_glyphic_api_ErrVarint), ("glyphic/api.ErrCanon", laid_glyphic_api_ErrCanon), ("glyphic/api.ErrTrail", laid_glyphic_api_ErrTrail), ("glyphic/api.ErrWidth", laid_glyphic_api_ErrWidth), ("glyphic/api.ErrBudget", laid_glyphic_api_ErrBudget)] }
def DecodeLimitsSaid : Prop := decodeLimitsRow.holds Tryd.pinned (OpenSpec.ofChange decodeLimitsSpec)

/-- ITS FALSE NEIGHBOUR: 'it returns false'. Refute it at one input. -/
def decodeLimitsWrong : ChangeSpec := { name := "decodeLimits", fn := fun _ => fun
  | [d1, d2] => { results := [.lit (.bool false)], args := [d1, d2] }
  | _ => none }
def DecodeLimitsWrongFalsely : Prop := decodeLimitsRow.holds Tryd.pinned (OpenSpec.ofChange decodeLimitsWrong)

/-- 'glyphiclaw6.EncodeSays': WHATEVER THE INPUT: true; the input reads as it did. -/
def encodeSaysSpec : ChangeSpec := { name := "encodeSays", fn := fun _ => fun
  | [d] => { results := [.lit (.bool true)], args := [d] }
  | _ => none }
def encodeSaysRow : OpenClaim := { program := "ytbamfhdgikeneaadoor", sum := "7b4ec83c0cb6a9a66155f86ba88c5532af63f2e89fd79eaee853de25a7a97dbb", func := "glyphic/glyphiclaw6.EncodeSays", spec := "encodeSays", unfollowed := true, recurses := true, named := ["glyphic/api.ErrRange", "glyphic/api.ErrLimit", "glyphic/api.ErrCanon", "glyphic/api.ErrText", "glyphic/api.ErrName", "glyphic/api.ErrTwice", "glyphic/api.ErrPath", "glyphic/api.ErrShort", "glyphic/api.ErrMagic", "glyphic/api.ErrVarint", "glyphic/api.ErrTrail", "glyphic/api.ErrWidth", "glyphic/api.ErrBudget"], apart := false, laid := [("glyphic/api.ErrText", laid_glyphic_api_ErrText), ("glyphic/api.ErrName", laid_glyphic_api_ErrName), ("glyphic/api.ErrTwice", laid_glyphic_api_ErrTwice), ("glyphic/api.ErrPath", laid_glyphic_api_ErrPath), ("glyphic/api.ErrRange", laid_glyphic_api_ErrRange), ("glyphic/api.ErrLimit", laid_glyphic_api_ErrLimit), ("glyphic/api.ErrShort", laid_glyphic_api_ErrShort), ("glyphic/api.ErrMagic", laid_glyphic_api_ErrMagic), ("glyphic/api.ErrVarint", laid_glyphic_api_ErrVarint), ("glyphic/api.ErrCanon", laid_glyphic_api_ErrCanon), ("glyphic/api.ErrTrail", laid_glyphic_api_ErrTrail), ("glyphic/api.ErrWidth", laid_glyphic_api_ErrWidth), ("glyphic/api.ErrBudget", laid_glyphic_api_ErrBudget)] }
def EncodeSaysSaid : Prop := encodeSaysRow.holds Tryd.pinned (OpenSpec.ofChange encodeSaysSpec)

/-- ITS FALSE NEIGHBOUR: 'it returns false'. Refute it at one input. -/
def encodeSaysWrong : ChangeSpec := { name := "encodeSays", fn := fun _ => fun
  | [d] => { results := [.lit (.bool false)], args := [d] }
  | _ => none }
def EncodeSaysWrongFalsely : Prop := encodeSaysRow.holds Tryd.pinned (OpenSpec.ofChange encodeSaysWrong)

/-- 'glyphiclaw6.EncodeUnlike': WHATEVER THE INPUT: true; the input reads as it did. -/
def encodeUnlikeSpec : ChangeSpec := { name := "encodeUnlike", fn := fun _ => fun
  | [d1, d2] => { results := [.lit (.bool true)], args := [d1, d2] }
  | _ => none }
def encodeUnlikeRow : OpenClaim := { program := "ytbamfhdgikeneaadoor", sum := "7b4ec83c0cb6a9a66155f86ba88c5532af63f2e89fd79eaee853de25a7a97dbb", func := "glyphic/glyphiclaw6.EncodeUnlike", spec := "encodeUnlike", unfollowed := true, recurses := true, named := ["glyphic/api.ErrRange", "glyphic/api.ErrLimit", "glyphic/api.ErrCanon"], apart := false, laid := [("glyphic/api.ErrRange", laid_glyphic_api_ErrRange), ("glyphic/api.ErrLimit", laid_glyphic_api_ErrLimit), ("glyphic/api.ErrCanon", laid_glyphic_api_ErrCanon)] }
def EncodeUnlikeSaid : Prop := encodeUnlikeRow.holds Tryd.pinned (OpenSpec.ofChange encodeUnlikeSpec)

/-- ITS FALSE NEIGHBOUR: 'it returns false'. Refute it at one input. -/
def encodeUnlikeWrong : ChangeSpec := { name := "encodeUnlike", fn := fun _ => fun
  | [d1, d2] => { results := [.lit (.bool false)], args := [d1, d2] }
  | _ => none }
def EncodeUnlikeWrongFalsely : Prop := encodeUnlikeRow.holds Tryd.pinned (OpenSpec.ofChange encodeUnlikeWrong)

/-- 'glyphiclaw6.EncodeRuns': WHATEVER THE INPUT: true; the input reads as it did. -/
def encodeRunsSpec : ChangeSpec := { name := "encodeRuns", fn := fun _ => fun
  | [d] => { results := [.lit (.bool true)], args := [d] }
  | _ => none }
def encodeRunsRow : OpenClaim := { program := "ytbamfhdgikeneaadoor", sum := "7b4ec83c0cb6a9a66155f86ba88c5532af63f2e89fd79eaee853de25a7a97dbb", func := "glyphic/glyphiclaw6.EncodeRuns", spec := "encodeRuns", unfollowed := true, recurses := true, named := ["glyphic/api.ErrRange", "glyphic/api.ErrLimit", "glyphic/api.ErrCanon"], apart := false, laid := [("glyphic/api.ErrRange", laid_glyphic_api_ErrRange), ("glyphic/api.ErrLimit", laid_glyphic_api_ErrLimit), ("glyphic/api.ErrCanon", laid_glyphic_api_ErrCanon)] }
def EncodeRunsSaid : Prop := encodeRunsRow.holds Tryd.pinned (OpenSpec.ofChange encodeRunsSpec)

/-- ITS FALSE NEIGHBOUR: 'it returns false'. Refute it at one input. -/
def encodeRunsWrong : ChangeSpec := { name := "encodeRuns", fn := fun _ => fun
  | [d] => { results := [.lit (.bool false)], args := [d] }
  | _ => none }
def EncodeRunsWrongFalsely : Prop := encodeRunsRow.holds Tryd.pinned (OpenSpec.ofChange encodeRunsWrong)

/-- 'glyphiclaw6.EncodeHeads': WHATEVER THE INPUT: true; the input reads as it did. -/
def encodeHeadsSpec : ChangeSpec := { name := "encodeHeads", fn := fun _ => fun
  | [d] => { results := [.lit (.bool true)], args := [d] }
  | _ => none }
def encodeHeadsRow : OpenClaim := { program := "ytbamfhdgikeneaadoor", sum := "7b4ec83c0cb6a9a66155f86ba88c5532af63f2e89fd79eaee853de25a7a97dbb", func := "glyphic/glyphiclaw6.EncodeHeads", spec := "encodeHeads", unfollowed := true, recurses := true, named := ["glyphic/api.ErrRange", "glyphic/api.ErrLimit", "glyphic/api.ErrCanon"], apart := false, laid := [("glyphic/api.ErrRange", laid_glyphic_api_ErrRange), ("glyphic/api.ErrLimit", laid_glyphic_api_ErrLimit), ("glyphic/api.ErrCanon", laid_glyphic_api_ErrCanon)] }
def EncodeHeadsSaid : Prop := encodeHeadsRow.holds Tryd.pinned (OpenSpec.ofChange encodeHeadsSpec)

/-- ITS FALSE NEIGHBOUR: 'it returns false'. Refute it at one input. -/
def encodeHeadsWrong : ChangeSpec := { name := "encodeHeads", fn := fun _ => fun
  | [d] => { results := [.lit (.bool false)], args := [d] }
  | _ => none }
def EncodeHeadsWrongFalsely : Prop := encodeHeadsRow.holds Tryd.pinned (OpenSpec.ofChange encodeHeadsWrong)

/-- 'glyphiclaw6.EncodeShort': WHATEVER THE INPUT: true; the input reads as it did. -/
def encodeShortSpec : ChangeSpec := { name := "encodeShort", fn := fun _ => fun
  | [d1, d2, d3] => { results := [.lit (.bool true)], args := [d1, d2, d3] }
  | _ => none }
def encodeShortRow : OpenClaim := { program := "ytbamfhdgikeneaadoor", sum := "7b4ec83c0cb6a9a66155f86ba88c5532af63f2e89fd79eaee853de25a7a97dbb", func := "glyphic/glyphiclaw6.EncodeShort", spec := "encodeShort", unfollowed := true, recurses := true, named := ["glyphic/api.ErrRange", "glyphic/api.ErrLimit", "glyphic/api.ErrCanon"], apart := false, laid := [("glyphic/api.ErrRange", laid_glyphic_api_ErrRange), ("glyphic/api.ErrLimit", laid_glyphic_api_ErrLimit), ("glyphic/api.ErrCanon", laid_glyphic_api_ErrCanon)] }
def EncodeShortSaid : Prop := encodeShortRow.holds Tryd.pinned (OpenSpec.ofChange encodeShortSpec)

/-- ITS FALSE NEIGHBOUR: 'it returns false'. Refute it at one input. -/
def encodeShortWrong : ChangeSpec := { name := "encodeShort", fn := fun _ => fun
  | [d1, d2, d3] => { results := [.lit (.bool false)], args := [d1, d2, d3] }
  | _ => none }
def EncodeShortWrongFalsely : Prop := encodeShortRow.holds Tryd.pinned (OpenSpec.ofChange encodeShortWrong)

/-- 'glyphiclaw12.NamesSay': WHATEVER THE INPUT: true; the input reads as it did. -/
def namesSaySpec : ChangeSpec := { name := "namesSay", fn := fun _ => fun
  | [d1, d2] => { results := [.lit (.bool true)], args := [d1, d2] }
  | _ => none }
def namesSayRow : OpenClaim := { program := "ytbamfhdgikeneaadoor", sum := "7b4ec83c0cb6a9a66155f86ba88c5532af63f2e89fd79eaee853de25a7a97dbb", func := "glyphic/glyphiclaw12.NamesSay", spec := "namesSay", named := ["glyphic/api.ErrTwice", "glyphic/api.ErrName", "internal/strconv.uint64pow10", "math/bits.deBruijn32tab", "math/bits.deBruijn64tab", "glyphic/api.ErrText", "glyphic/api.ErrPath", "glyphic/api.ErrRange", "glyphic/api.ErrLimit", "glyphic/api.ErrShort", "glyphic/api.ErrMagic", "glyphic/api.ErrVarint", "glyphic/api.ErrCanon", "glyphic/api.ErrTrail", "glyphic/api.ErrWidth", "glyphic/api.ErrBudget"], apart := false, laid := [("math/bits.deBruijn32tab", laid_math_bits_deBruijn32tab), ("math/bits.deBruijn64tab", laid_math_bits_deBruijn64tab), ("internal/strconv.uint64pow10", laid_internal_strconv_uint64pow10), ("glyphic/api.ErrText", laid_glyphic_api_ErrText), ("glyphic/api.ErrName", laid_glyphic_api_ErrName), ("glyphic/api.ErrTwice", laid_glyphic_api_ErrTwice), ("glyphic/api.ErrPath", laid_glyphic_api_ErrPath), ("glyphic/api.ErrRange", laid_glyphic_api_ErrRange), ("glyphic/api.ErrLimit", laid_glyphic_api_ErrLimit), ("glyphic/api.ErrShort", laid_glyphic_api_ErrShort), ("glyphic/api.ErrMagic", laid_glyphic_api_ErrMagic), ("glyphic/api.ErrVarint", laid_glyphic_api_ErrVarint), ("glyphic/api.ErrCanon", laid_glyphic_api_ErrCanon), ("glyphic/api.ErrTrail", laid_glyphic_api_ErrTrail), ("glyphic/api.ErrWidth", laid_glyphic_api_ErrWidth), ("glyphic/api.ErrBudget", laid_glyphic_api_ErrBudget)] }
def NamesSaySaid : Prop := namesSayRow.holds Tryd.pinned (OpenSpec.ofChange namesSaySpec)

/-- ITS FALSE NEIGHBOUR: 'it returns false'. Refute it at one input. -/
def namesSayWrong : ChangeSpec := { name := "namesSay", fn := fun _ => fun
  | [d1, d2] => { results := [.lit (.bool false)], args := [d1, d2] }
  | _ => none }
def NamesSayWrongFalsely : Prop := namesSayRow.holds Tryd.pinned (OpenSpec.ofChange namesSayWrong)

/-- 'glyphiclaw7.DecodeBack': WHATEVER THE INPUT: true; the input reads as it did. -/
def decodeBackSpec : ChangeSpec := { name := "decodeBack", fn := fun _ => fun
  | [d1, d2, d3] => { results := [.lit (.bool true)], args := [d1, d2, d3] }
  | _ => none }
def decodeBackRow : OpenClaim := { program := "ytbamfhdgikeneaadoor", sum := "7b4ec83c0cb6a9a66155f86ba88c5532af63f2e89fd79eaee853de25a7a97dbb", func := "glyphic/glyphiclaw7.DecodeBack", spec := "decodeBack", unfollowed := true, recurses := true, named := ["glyphic/api.ErrLimit", "glyphic/api.ErrShort", "glyphic/api.ErrMagic", "glyphic/api.ErrCanon", "glyphic/api.ErrTrail", "glyphic/api.ErrRange", "glyphic/api.ErrVarint", "glyphic/api.ErrText", "glyphic/api.ErrName", "glyphic/api.ErrTwice", "glyphic/api.ErrPath", "glyphic/api.ErrWidth", "glyphic/api.ErrBudget"], apart := false, laid := [("glyphic/api.ErrText", laid_glyphic_api_ErrText), ("glyphic/api.ErrName", laid_glyphic_api_ErrName), ("glyphic/api.ErrTwice", laid_glyphic_api_ErrTwice), ("glyphic/api.ErrPath", laid_glyphic_api_ErrPath), ("glyphic/api.ErrRange", laid_glyphic_api_ErrRange), ("glyphic/api.ErrLimit", laid_glyphic_api_ErrLimit), ("glyphic/api.ErrShort", laid_glyphic_api_ErrShort), ("glyphic/api.ErrMagic", laid_glyphic_api_ErrMagic), ("glyphic/api.ErrVarint", laid_glyphic_api_ErrVarint), ("glyphic/api.ErrCanon", laid_glyphic_api_ErrCanon), ("glyphic/api.ErrTrail", laid_glyphic_api_ErrTrail), ("glyphic/api.ErrWidth", laid_glyphic_api_ErrWidth), ("glyphic/api.ErrBudget", laid_glyphic_api_ErrBudget)] }
def DecodeBackSaid : Prop := decodeBackRow.holds Tryd.pinned (OpenSpec.ofChange decodeBackSpec)

/-- ITS FALSE NEIGHBOUR: 'it returns false'. Refute it at one input. -/
def decodeBackWrong : ChangeSpec := { name := "decodeBack", fn := fun _ => fun
  | [d1, d2, d3] => { results := [.lit (.bool false)], args := [d1, d2, d3] }
  | _ => none }
def DecodeBackWrongFalsely : Prop := decodeBackRow.holds Tryd.pinned (OpenSpec.ofChange decodeBackWrong)

/-- 'glyphiclaw7.DecodeOne': WHATEVER THE INPUT: true; the input reads as it did. -/
def decodeOneSpec : ChangeSpec := { name := "decodeOne", fn := fun _ => fun
  | [d1, d2] => { results := [.lit (.bool true)], args := [d1, d2] }
  | _ => none }
def decodeOneRow : OpenClaim := { program := "ytbamfhdgikeneaadoor", sum := "7b4ec83c0cb6a9a66155f86ba88c5532af63f2e89fd79eaee853de25a7a97dbb", func := "glyphic/glyphiclaw7.DecodeOne", spec := "decodeOne", unfollowed := true, recurses := true, named := ["glyphic/api.ErrLimit", "glyphic/api.ErrShort", "glyphic/api.ErrMagic", "glyphic/api.ErrCanon", "glyphic/api.ErrTrail", "glyphic/api.ErrRange", "glyphic/api.ErrVarint", "glyphic/api.ErrText", "glyphic/api.ErrName", "glyphic/api.ErrTwice", "glyphic/api.ErrPath", "glyphic/api.ErrWidth", "glyphic/api.ErrBudget"], apart := false, laid := [("glyphic/api.ErrText", laid_glyphic_api_ErrText), ("glyphic/api.ErrName", laid_glyphic_api_ErrName), ("glyphic/api.ErrTwice", laid_glyphic_api_ErrTwice), ("glyphic/api.ErrPath", laid_glyphic_api_ErrPath), ("glyphic/api.ErrRange", laid_glyphic_api_ErrRange), ("glyphic/api.ErrLimit", laid_glyphic_api_ErrLimit), ("glyphic/api.ErrShort", laid_glyphic_api_ErrShort), ("glyphic/api.ErrMagic", laid_glyphic_api_ErrMagic), ("glyphic/api.ErrVarint", laid_glyphic_api_ErrVarint), ("glyphic/api.ErrCanon", laid_glyphic_api_ErrCanon), ("glyphic/api.ErrTrail", laid_glyphic_api_ErrTrail), ("glyphic/api.ErrWidth", laid_glyphic_api_ErrWidth), ("glyphic/api.ErrBudget", laid_glyphic_api_ErrBudget)] }
def DecodeOneSaid : Prop := decodeOneRow.holds Tryd.pinned (OpenSpec.ofChange decodeOneSpec)

/-- ITS FALSE NEIGHBOUR: 'it returns false'. Refute it at one input. -/
def decodeOneWrong : ChangeSpec := { name := "decodeOne", fn := fun _ => fun
  | [d1, d2] => { results := [.lit (.bool false)], args := [d1, d2] }
  | _ => none }
def DecodeOneWrongFalsely : Prop := decodeOneRow.holds Tryd.pinned (OpenSpec.ofChange decodeOneWrong)

/- THE SECOND FORM. 'bulk': how many values and letters a reading holds, each counted each time it is reached (what is shared counts as often as it is met; a slice's spare places count too). A statement '..UptoSaid' is the law's where the arguments, and the package variables that the reading takes, are together of bulk at most 1048576: NARROWER than '..Said'. Prove '..Said' where nothing that the law and all that it calls make is longer than what came in: it says more and counts as full. Else prove '..UptoSaid'. A law counts once. -/
mutual
def uptoBulk {H : Type} : DataW H → Nat
  | .lit (.string bytes) => bytes.length + 1
  | .lit _ => 1
  | .nil => 1
  | .ptr d => uptoBulk d + 1
  | .slice elems spare => uptoBulkAll elems + uptoBulkAll spare + 1
  | .agg parts => uptoBulkAll parts + 1
  | .iface _ d => uptoBulk d + 1
  | .map entries => uptoBulkEntries entries + 1
  | .held _ => 1
def uptoBulkAll {H : Type} : List (DataW H) → Nat
  | [] => 0
  | d :: r => uptoBulk d + uptoBulkAll r
def uptoBulkEntries {H : Type} : List (Lit × DataW H) → Nat
  | [] => 0
  | x :: r => uptoBulkEntry x + uptoBulkEntries r
def uptoBulkEntry {H : Type} : Lit × DataW H → Nat
  | (.string bytes, d) => bytes.length + uptoBulk d + 1
  | (_, d) => uptoBulk d + 1
 end
def uptoSmall : (H : Type) → List (DataW H) → Bool := fun _ ds => decide (uptoBulkAll ds ≤ 1048576)
def OpenSpec.upto (s : _root_.Go.ChangeSpec) : _root_.Go.OpenSpec := { _root_.Go.OpenSpec.ofChange s with cond := some uptoSmall }

/-- 'glyphiclaw5.IconErrors', WHERE WHAT IT READS IS OF BULK AT MOST 1048576: true; the input reads as it did. -/
def iconErrorsUptoRow : OpenClaim := { program := "ytbamfhdgikeneaadoor", sum := "7b4ec83c0cb6a9a66155f86ba88c5532af63f2e89fd79eaee853de25a7a97dbb", func := "glyphic/glyphiclaw5.IconErrors", spec := "iconErrors", named := ["glyphic/api.ErrRange", "glyphic/api.ErrLimit", "glyphic/api.ErrCanon", "glyphic/api.ErrText", "glyphic/api.ErrName", "glyphic/api.ErrTwice", "glyphic/api.ErrPath", "glyphic/api.ErrShort", "glyphic/api.ErrMagic", "glyphic/api.ErrVarint", "glyphic/api.ErrTrail", "glyphic/api.ErrWidth", "glyphic/api.ErrBudget"], apart := false, laid := [("glyphic/api.ErrText", laid_glyphic_api_ErrText), ("glyphic/api.ErrName", laid_glyphic_api_ErrName), ("glyphic/api.ErrTwice", laid_glyphic_api_ErrTwice), ("glyphic/api.ErrPath", laid_glyphic_api_ErrPath), ("glyphic/api.ErrRange", laid_glyphic_api_ErrRange), ("glyphic/api.ErrLimit", laid_glyphic_api_ErrLimit), ("glyphic/api.ErrShort", laid_glyphic_api_ErrShort), ("glyphic/api.ErrMagic", laid_glyphic_api_ErrMagic), ("glyphic/api.ErrVarint", laid_glyphic_api_ErrVarint), ("glyphic/api.ErrCanon", laid_glyphic_api_ErrCanon), ("glyphic/api.ErrTrail", laid_glyphic_api_ErrTrail), ("glyphic/api.ErrWidth", laid_glyphic_api_ErrWidth), ("glyphic/api.ErrBudget", laid_glyphic_api_ErrBudget)], narrowed := true }
def IconErrorsUptoSaid : Prop := iconErrorsUptoRow.holds Tryd.pinned (OpenSpec.upto iconErrorsSpec)

/-- 'glyphiclaw5.IconLimits', WHERE WHAT IT READS IS OF BULK AT MOST 1048576: true; the input reads as it did. -/
def iconLimitsUptoRow : OpenClaim := { program := "ytbamfhdgikeneaadoor", sum := "7b4ec83c0cb6a9a66155f86ba88c5532af63f2e89fd79eaee853de25a7a97dbb", func := "glyphic/glyphiclaw5.IconLimits", spec := "iconLimits", named := ["glyphic/api.ErrRange", "glyphic/api.ErrLimit", "glyphic/api.ErrCanon", "glyphic/api.ErrText", "glyphic/api.ErrName", "glyphic/api.ErrTwice", "glyphic/api.ErrPath", "glyphic/api.ErrShort", "glyphic/api.ErrMagic", "glyphic/api.ErrVarint", "glyphic/api.ErrTrail", "glyphic/api.ErrWidth", "glyphic/api.ErrBudget"], apart := false, laid := [("glyphic/api.ErrText", laid_glyphic_api_ErrText), ("glyphic/api.ErrName", laid_glyphic_api_ErrName), ("glyphic/api.ErrTwice", laid_glyphic_api_ErrTwice), ("glyphic/api.ErrPath", laid_glyphic_api_ErrPath), ("glyphic/api.ErrRange", laid_glyphic_api_ErrRange), ("glyphic/api.ErrLimit", laid_glyphic_api_ErrLimit), ("glyphic/api.ErrShort", laid_glyphic_api_ErrShort), ("glyphic/api.ErrMagic", laid_glyphic_api_ErrMagic), ("glyphic/api.ErrVarint", laid_glyphic_api_ErrVarint), ("glyphic/api.ErrCanon", laid_glyphic_api_ErrCanon), ("glyphic/api.ErrTrail", laid_glyphic_api_ErrTrail), ("glyphic/api.ErrWidth", laid_glyphic_api_ErrWidth), ("glyphic/api.ErrBudget", laid_glyphic_api_ErrBudget)], narrowed := true }
def IconLimitsUptoSaid : Prop := iconLimitsUptoRow.holds Tryd.pinned (OpenSpec.upto iconLimitsSpec)

/-- 'glyphiclaw5.IconFar', WHERE WHAT IT READS IS OF BULK AT MOST 1048576: true; the input reads as it did. -/
def iconFarUptoRow : OpenClaim := { program := "ytbamfhdgikeneaadoor", sum := "7b4ec83c0cb6a9a66155f86ba88c5532af63f2e89fd79eaee853de25a7a97dbb", func := "glyphic/glyphiclaw5.IconFar", spec := "iconFar", named := ["glyphic/api.ErrRange", "glyphic/api.ErrLimit", "glyphic/api.ErrCanon", "glyphic/api.ErrText", "glyphic/api.ErrName", "glyphic/api.ErrTwice", "glyphic/api.ErrPath", "glyphic/api.ErrShort", "glyphic/api.ErrMagic", "glyphic/api.ErrVarint", "glyphic/api.ErrTrail", "glyphic/api.ErrWidth", "glyphic/api.ErrBudget"], apart := false, laid := [("glyphic/api.ErrText", laid_glyphic_api_ErrText), ("glyphic/api.ErrName", laid_glyphic_api_ErrName), ("glyphic/api.ErrTwice", laid_glyphic_api_ErrTwice), ("glyphic/api.ErrPath", laid_glyphic_api_ErrPath), ("glyphic/api.ErrRange", laid_glyphic_api_ErrRange), ("glyphic/api.ErrLimit", laid_glyphic_api_ErrLimit), ("glyphic/api.ErrShort", laid_glyphic_api_ErrShort), ("glyphic/api.ErrMagic", laid_glyphic_api_ErrMagic), ("glyphic/api.ErrVarint", laid_glyphic_api_ErrVarint), ("glyphic/api.ErrCanon", laid_glyphic_api_ErrCanon), ("glyphic/api.ErrTrail", laid_glyphic_api_ErrTrail), ("glyphic/api.ErrWidth", laid_glyphic_api_ErrWidth), ("glyphic/api.ErrBudget", laid_glyphic_api_ErrBudget)], narrowed := true }
def IconFarUptoSaid : Prop := iconFarUptoRow.holds Tryd.pinned (OpenSpec.upto iconFarSpec)

/-- 'glyphiclaw7.DecodeLimits', WHERE WHAT IT READS IS OF BULK AT MOST 1048576: true; the input reads as it did. -/
def decodeLimitsUptoRow : OpenClaim := { program := "ytbamfhdgikeneaadoor", sum := "7b4ec83c0cb6a9a66155f86ba88c5532af63f2e89fd79eaee853de25a7a97dbb", func := "glyphic/glyphiclaw7.DecodeLimits", spec := "decodeLimits", unfollowed := true, recurses := true, named := ["glyphic/api.ErrLimit", "glyphic/api.ErrShort", "glyphic/api.ErrMagic", "glyphic/api.ErrCanon", "glyphic/api.ErrTrail", "glyphic/api.ErrRange", "glyphic/api.ErrVarint", "glyphic/api.ErrText", "glyphic/api.ErrName", "glyphic/api.ErrTwice", "glyphic/api.ErrPath", "glyphic/api.ErrWidth", "glyphic/api.ErrBudget"], apart := false, laid := [("glyphic/api.ErrText", laid_glyphic_api_ErrText), ("glyphic/api.ErrName", laid_glyphic_api_ErrName), ("glyphic/api.ErrTwice", laid_glyphic_api_ErrTwice), ("glyphic/api.ErrPath", laid_glyphic_api_ErrPath), ("glyphic/api.ErrRange", laid_glyphic_api_ErrRange), ("glyphic/api.ErrLimit", laid_glyphic_api_ErrLimit), ("glyphic/api.ErrShort", laid_glyphic_api_ErrShort), ("glyphic/api.ErrMagic", laid_glyphic_api_ErrMagic), ("glyphic/api.ErrVarint", laid_glyphic_api_ErrVarint), ("glyphic/api.ErrCanon", laid_glyphic_api_ErrCanon), ("glyphic/api.ErrTrail", laid_glyphic_api_ErrTrail), ("glyphic/api.ErrWidth", laid_glyphic_api_ErrWidth), ("glyphic/api.ErrBudget", laid_glyphic_api_ErrBudget)], narrowed := true }
def DecodeLimitsUptoSaid : Prop := decodeLimitsUptoRow.holds Tryd.pinned (OpenSpec.upto decodeLimitsSpec)

/-- 'glyphiclaw6.EncodeSays', WHERE WHAT IT READS IS OF BULK AT MOST 1048576: true; the input reads as it did. -/
def encodeSaysUptoRow : OpenClaim := { program := "ytbamfhdgikeneaadoor", sum := "7b4ec83c0cb6a9a66155f86ba88c5532af63f2e89fd79eaee853de25a7a97dbb", func := "glyphic/glyphiclaw6.EncodeSays", spec := "encodeSays", unfollowed := true, recurses := true, named := ["glyphic/api.ErrRange", "glyphic/api.ErrLimit", "glyphic/api.ErrCanon", "glyphic/api.ErrText", "glyphic/api.ErrName", "glyphic/api.ErrTwice", "glyphic/api.ErrPath", "glyphic/api.ErrShort", "glyphic/api.ErrMagic", "glyphic/api.ErrVarint", "glyphic/api.ErrTrail", "glyphic/api.ErrWidth", "glyphic/api.ErrBudget"], apart := false, laid := [("glyphic/api.ErrText", laid_glyphic_api_ErrText), ("glyphic/api.ErrName", laid_glyphic_api_ErrName), ("glyphic/api.ErrTwice", laid_glyphic_api_ErrTwice), ("glyphic/api.ErrPath", laid_glyphic_api_ErrPath), ("glyphic/api.ErrRange", laid_glyphic_api_ErrRange), ("glyphic/api.ErrLimit", laid_glyphic_api_ErrLimit), ("glyphic/api.ErrShort", laid_glyphic_api_ErrShort), ("glyphic/api.ErrMagic", laid_glyphic_api_ErrMagic), ("glyphic/api.ErrVarint", laid_glyphic_api_ErrVarint), ("glyphic/api.ErrCanon", laid_glyphic_api_ErrCanon), ("glyphic/api.ErrTrail", laid_glyphic_api_ErrTrail), ("glyphic/api.ErrWidth", laid_glyphic_api_ErrWidth), ("glyphic/api.ErrBudget", laid_glyphic_api_ErrBudget)], narrowed := true }
def EncodeSaysUptoSaid : Prop := encodeSaysUptoRow.holds Tryd.pinned (OpenSpec.upto encodeSaysSpec)

/-- 'glyphiclaw6.EncodeUnlike', WHERE WHAT IT READS IS OF BULK AT MOST 1048576: true; the input reads as it did. -/
def encodeUnlikeUptoRow : OpenClaim := { program := "ytbamfhdgikeneaadoor", sum := "7b4ec83c0cb6a9a66155f86ba88c5532af63f2e89fd79eaee853de25a7a97dbb", func := "glyphic/glyphiclaw6.EncodeUnlike", spec := "encodeUnlike", unfollowed := true, recurses := true, named := ["glyphic/api.ErrRange", "glyphic/api.ErrLimit", "glyphic/api.ErrCanon"], apart := false, laid := [("glyphic/api.ErrRange", laid_glyphic_api_ErrRange), ("glyphic/api.ErrLimit", laid_glyphic_api_ErrLimit), ("glyphic/api.ErrCanon", laid_glyphic_api_ErrCanon)], narrowed := true }
def EncodeUnlikeUptoSaid : Prop := encodeUnlikeUptoRow.holds Tryd.pinned (OpenSpec.upto encodeUnlikeSpec)

/-- 'glyphiclaw6.EncodeRuns', WHERE WHAT IT READS IS OF BULK AT MOST 1048576: true; the input reads as it did. -/
def encodeRunsUptoRow : OpenClaim := { program := "ytbamfhdgikeneaadoor", sum := "7b4ec83c0cb6a9a66155f86ba88c5532af63f2e89fd79eaee853de25a7a97dbb", func := "glyphic/glyphiclaw6.EncodeRuns", spec := "encodeRuns", unfollowed := true, recurses := true, named := ["glyphic/api.ErrRange", "glyphic/api.ErrLimit", "glyphic/api.ErrCanon"], apart := false, laid := [("glyphic/api.ErrRange", laid_glyphic_api_ErrRange), ("glyphic/api.ErrLimit", laid_glyphic_api_ErrLimit), ("glyphic/api.ErrCanon", laid_glyphic_api_ErrCanon)], narrowed := true }
def EncodeRunsUptoSaid : Prop := encodeRunsUptoRow.holds Tryd.pinned (OpenSpec.upto encodeRunsSpec)

/-- 'glyphiclaw6.EncodeHeads', WHERE WHAT IT READS IS OF BULK AT MOST 1048576: true; the input reads as it did. -/
def encodeHeadsUptoRow : OpenClaim := { program := "ytbamfhdgikeneaadoor", sum := "7b4ec83c0cb6a9a66155f86ba88c5532af63f2e89fd79eaee853de25a7a97dbb", func := "glyphic/glyphiclaw6.EncodeHeads", spec := "encodeHeads", unfollowed := true, recurses := true, named := ["glyphic/api.ErrRange", "glyphic/api.ErrLimit", "glyphic/api.ErrCanon"], apart := false, laid := [("glyphic/api.ErrRange", laid_glyphic_api_ErrRange), ("glyphic/api.ErrLimit", laid_glyphic_api_ErrLimit), ("glyphic/api.ErrCanon", laid_glyphic_api_ErrCanon)], narrowed := true }
def EncodeHeadsUptoSaid : Prop := encodeHeadsUptoRow.holds Tryd.pinned (OpenSpec.upto encodeHeadsSpec)

/-- 'glyphiclaw6.EncodeShort', WHERE WHAT IT READS IS OF BULK AT MOST 1048576: true; the input reads as it did. -/
def encodeShortUptoRow : OpenClaim := { program := "ytbamfhdgikeneaadoor", sum := "7b4ec83c0cb6a9a66155f86ba88c5532af63f2e89fd79eaee853de25a7a97dbb", func := "glyphic/glyphiclaw6.EncodeShort", spec := "encodeShort", unfollowed := true, recurses := true, named := ["glyphic/api.ErrRange", "glyphic/api.ErrLimit", "glyphic/api.ErrCanon"], apart := false, laid := [("glyphic/api.ErrRange", laid_glyphic_api_ErrRange), ("glyphic/api.ErrLimit", laid_glyphic_api_ErrLimit), ("glyphic/api.ErrCanon", laid_glyphic_api_ErrCanon)], narrowed := true }
def EncodeShortUptoSaid : Prop := encodeShortUptoRow.holds Tryd.pinned (OpenSpec.upto encodeShortSpec)

/-- 'glyphiclaw12.NamesSay', WHERE WHAT IT READS IS OF BULK AT MOST 1048576: true; the input reads as it did. -/
def namesSayUptoRow : OpenClaim := { program := "ytbamfhdgikeneaadoor", sum := "7b4ec83c0cb6a9a66155f86ba88c5532af63f2e89fd79eaee853de25a7a97dbb", func := "glyphic/glyphiclaw12.NamesSay", spec := "namesSay", named := ["glyphic/api.ErrTwice", "glyphic/api.ErrName", "internal/strconv.uint64pow10", "math/bits.deBruijn32tab", "math/bits.deBruijn64tab", "glyphic/api.ErrText", "glyphic/api.ErrPath", "glyphic/api.ErrRange", "glyphic/api.ErrLimit", "glyphic/api.ErrShort", "glyphic/api.ErrMagic", "glyphic/api.ErrVarint", "glyphic/api.ErrCanon", "glyphic/api.ErrTrail", "glyphic/api.ErrWidth", "glyphic/api.ErrBudget"], apart := false, laid := [("math/bits.deBruijn32tab", laid_math_bits_deBruijn32tab), ("math/bits.deBruijn64tab", laid_math_bits_deBruijn64tab), ("internal/strconv.uint64pow10", laid_internal_strconv_uint64pow10), ("glyphic/api.ErrText", laid_glyphic_api_ErrText), ("glyphic/api.ErrName", laid_glyphic_api_ErrName), ("glyphic/api.ErrTwice", laid_glyphic_api_ErrTwice), ("glyphic/api.ErrPath", laid_glyphic_api_ErrPath), ("glyphic/api.ErrRange", laid_glyphic_api_ErrRange), ("glyphic/api.ErrLimit", laid_glyphic_api_ErrLimit), ("glyphic/api.ErrShort", laid_glyphic_api_ErrShort), ("glyphic/api.ErrMagic", laid_glyphic_api_ErrMagic), ("glyphic/api.ErrVarint", laid_glyphic_api_ErrVarint), ("glyphic/api.ErrCanon", laid_glyphic_api_ErrCanon), ("glyphic/api.ErrTrail", laid_glyphic_api_ErrTrail), ("glyphic/api.ErrWidth", laid_glyphic_api_ErrWidth), ("glyphic/api.ErrBudget", laid_glyphic_api_ErrBudget)], narrowed := true }
def NamesSayUptoSaid : Prop := namesSayUptoRow.holds Tryd.pinned (OpenSpec.upto namesSaySpec)

/-- 'glyphiclaw7.DecodeBack', WHERE WHAT IT READS IS OF BULK AT MOST 1048576: true; the input reads as it did. -/
def decodeBackUptoRow : OpenClaim := { program := "ytbamfhdgikeneaadoor", sum := "7b4ec83c0cb6a9a66155f86ba88c5532af63f2e89fd79eaee853de25a7a97dbb", func := "glyphic/glyphiclaw7.DecodeBack", spec := "decodeBack", unfollowed := true, recurses := true, named := ["glyphic/api.ErrLimit", "glyphic/api.ErrShort", "glyphic/api.ErrMagic", "glyphic/api.ErrCanon", "glyphic/api.ErrTrail", "glyphic/api.ErrRange", "glyphic/api.ErrVarint", "glyphic/api.ErrText", "glyphic/api.ErrName", "glyphic/api.ErrTwice", "glyphic/api.ErrPath", "glyphic/api.ErrWidth", "glyphic/api.ErrBudget"], apart := false, laid := [("glyphic/api.ErrText", laid_glyphic_api_ErrText), ("glyphic/api.ErrName", laid_glyphic_api_ErrName), ("glyphic/api.ErrTwice", laid_glyphic_api_ErrTwice), ("glyphic/api.ErrPath", laid_glyphic_api_ErrPath), ("glyphic/api.ErrRange", laid_glyphic_api_ErrRange), ("glyphic/api.ErrLimit", laid_glyphic_api_ErrLimit), ("glyphic/api.ErrShort", laid_glyphic_api_ErrShort), ("glyphic/api.ErrMagic", laid_glyphic_api_ErrMagic), ("glyphic/api.ErrVarint", laid_glyphic_api_ErrVarint), ("glyphic/api.ErrCanon", laid_glyphic_api_ErrCanon), ("glyphic/api.ErrTrail", laid_glyphic_api_ErrTrail), ("glyphic/api.ErrWidth", laid_glyphic_api_ErrWidth), ("glyphic/api.ErrBudget", laid_glyphic_api_ErrBudget)], narrowed := true }
def DecodeBackUptoSaid : Prop := decodeBackUptoRow.holds Tryd.pinned (OpenSpec.upto decodeBackSpec)

/-- 'glyphiclaw7.DecodeOne', WHERE WHAT IT READS IS OF BULK AT MOST 1048576: true; the input reads as it did. -/
def decodeOneUptoRow : OpenClaim := { program := "ytbamfhdgikeneaadoor", sum := "7b4ec83c0cb6a9a66155f86ba88c5532af63f2e89fd79eaee853de25a7a97dbb", func := "glyphic/glyphiclaw7.DecodeOne", spec := "decodeOne", unfollowed := true, recurses := true, named := ["glyphic/api.ErrLimit", "glyphic/api.ErrShort", "glyphic/api.ErrMagic", "glyphic/api.ErrCanon", "glyphic/api.ErrTrail", "glyphic/api.ErrRange", "glyphic/api.ErrVarint", "glyphic/api.ErrText", "glyphic/api.ErrName", "glyphic/api.ErrTwice", "glyphic/api.ErrPath", "glyphic/api.ErrWidth", "glyphic/api.ErrBudget"], apart := false, laid := [("glyphic/api.ErrText", laid_glyphic_api_ErrText), ("glyphic/api.ErrName", laid_glyphic_api_ErrName), ("glyphic/api.ErrTwice", laid_glyphic_api_ErrTwice), ("glyphic/api.ErrPath", laid_glyphic_api_ErrPath), ("glyphic/api.ErrRange", laid_glyphic_api_ErrRange), ("glyphic/api.ErrLimit", laid_glyphic_api_ErrLimit), ("glyphic/api.ErrShort", laid_glyphic_api_ErrShort), ("glyphic/api.ErrMagic", laid_glyphic_api_ErrMagic), ("glyphic/api.ErrVarint", laid_glyphic_api_ErrVarint), ("glyphic/api.ErrCanon", laid_glyphic_api_ErrCanon), ("glyphic/api.ErrTrail", laid_glyphic_api_ErrTrail), ("glyphic/api.ErrWidth", laid_glyphic_api_ErrWidth), ("glyphic/api.ErrBudget", laid_glyphic_api_ErrBudget)], narrowed := true }
def DecodeOneUptoSaid : Prop := decodeOneUptoRow.holds Tryd.pinned (OpenSpec.upto decodeOneSpec)

end Rows
end Go.Proofs.YtbamfhdgikeneaaDoor
