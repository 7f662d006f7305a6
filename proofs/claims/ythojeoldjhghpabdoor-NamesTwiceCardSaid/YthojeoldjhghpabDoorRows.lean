/-
  NARROWER THAN 'FOR EVERY INPUT', by the rows' own cells (each row's printed sentence says how): ColorBack: laid · ColorWrong: laid · ColorSays: laid · WireOne: laid · WireRows: laid · WireBack: laid · NamesFind: laid · NamesTwice: laid.
  DERIVED. THE GIVEN ROWS OF THIS SEAT. 8 by the template 'for every input the law returns true; each argument reads behind the call as it read before'; 0 by the template 'total and deterministic' (their statements: YthojeoldjhghpabDoorTotals.lean).
  GIVEN WITH THE SEED: the statements are not yours to turn. If you find one false, say at which input.
  Laid BY PROGRAM, IN A SANDBOX (cutbox-rows.mjs): the forced cells as the released guide's own fill.sh prints them over the translation fb6a72d2fd06f3c7… (all of the seat's roots in one cut). By AI agents, Wed Nov 11 2026. No macro, syntax, notation, axiom, sorry.
-/
import Derived.Test.YthojeoldjhghpabDoorChecked
import GoSem.Claim
import GoSem.ClaimJoined
import GoSem.ClaimMapViews
import Derived.JoinedTies
import Derived.KernelRfl
namespace Go.Proofs.YthojeoldjhghpabDoor
/- THE CELL 'sum', in the pinned program and in every row, IS THE sha256 OF THE DUMP (.gsa) THAT YthojeoldjhghpabDoorProg.lean LOADS. Nothing in Lean hashes anything: it is a label: what it is worth is what the hold of that sum in a sandbox is worth. -/
noncomputable def Tryd.pinned : Pinned := { name := "ythojeoldjhghpabdoor", sum := "fb6a72d2fd06f3c78aabbd80f547f94b0bfa9b32679c411bbc4529a1c05883a9", checked := Tryd.checked }
namespace Rows
def none {H : Type} : Left H := { results := [], args := [] }

/- WHAT THE LISTED PACKAGE-LEVEL VARIABLES READ AS WHEN THE CALL BEGINS. Each datum BY PROGRAM (the guide's laid-datum.mjs) off the statement by which the dump's own 'gosem.cut.vars' lays the variable. In a bare row this is a premise. The card (YthojeoldjhghpabDoorCards.lean) ties it to the program's text. -/
def laid_glyphic_api_ErrText {H : Type} : DataW H := .iface "*errors.errorString" (.ptr (.agg [.lit (.string [110, 111, 116, 32, 97, 115, 32, 105, 116, 32, 105, 115, 32, 119, 114, 105, 116, 116, 101, 110])]))
def laid_glyphic_api_ErrName {H : Type} : DataW H := .iface "*errors.errorString" (.ptr (.agg [.lit (.string [97, 32, 110, 97, 109, 101, 32, 116, 104, 97, 116, 32, 105, 115, 32, 110, 111, 98, 111, 100, 121, 39, 115])]))
def laid_glyphic_api_ErrTwice {H : Type} : DataW H := .iface "*errors.errorString" (.ptr (.agg [.lit (.string [97, 32, 110, 97, 109, 101, 32, 116, 119, 105, 99, 101])]))
def laid_glyphic_api_ErrPath {H : Type} : DataW H := .iface "*errors.errorString" (.ptr (.agg [.lit (.string [115, 116, 101, 112, 115, 32, 116, 104, 97, 116, 32, 97, 114, 101, 32, 110, 111, 32, 112, 97, 116, 104])]))
def laid_glyphic_api_ErrRange {H : Type} : DataW H := .iface "*errors.errorString" (.ptr (.agg [.lit (.string [97, 32, 110, 117, 109, 98, 101, 114, 32, 111, 117, 116, 32, 111, 102, 32, 105, 116, 115, 32, 114, 97, 110, 103, 101])]))
def laid_glyphic_api_ErrLimit {H : Type} : DataW H := .iface "*errors.errorString" (.ptr (.agg [.lit (.string [109, 111, 114, 101, 32, 116, 104, 97, 110, 32, 109, 97, 121, 32, 98, 101])]))
def laid_glyphic_api_ErrShort {H : Type} : DataW H := .iface "*errors.errorString" (.ptr (.agg [.lit (.string [108, 101, 115, 115, 32, 116, 104, 97, 110, 32, 104, 97, 115, 32, 116, 111, 32, 98, 101])]))
def laid_glyphic_api_ErrMagic {H : Type} : DataW H := .iface "*errors.errorString" (.ptr (.agg [.lit (.string [110, 111, 116, 32, 97, 110, 32, 105, 99, 111, 110])]))
def laid_glyphic_api_ErrVarint {H : Type} : DataW H := .iface "*errors.errorString" (.ptr (.agg [.lit (.string [97, 32, 110, 117, 109, 98, 101, 114, 32, 116, 104, 97, 116, 32, 105, 115, 32, 110, 111, 116, 32, 119, 114, 105, 116, 116, 101, 110, 32, 115, 104, 111, 114, 116, 108, 121])]))
def laid_glyphic_api_ErrCanon {H : Type} : DataW H := .iface "*errors.errorString" (.ptr (.agg [.lit (.string [110, 111, 116, 32, 116, 104, 101, 32, 111, 110, 101, 32, 102, 111, 114, 109])]))
def laid_glyphic_api_ErrTrail {H : Type} : DataW H := .iface "*errors.errorString" (.ptr (.agg [.lit (.string [98, 121, 116, 101, 115, 32, 98, 101, 104, 105, 110, 100, 32, 116, 104, 101, 32, 101, 110, 100])]))
def laid_glyphic_api_ErrWidth {H : Type} : DataW H := .iface "*errors.errorString" (.ptr (.agg [.lit (.string [97, 32, 119, 105, 100, 116, 104, 32, 116, 104, 97, 116, 32, 99, 97, 110, 39, 116, 32, 98, 101])]))
def laid_glyphic_api_ErrBudget {H : Type} : DataW H := .iface "*errors.errorString" (.ptr (.agg [.lit (.string [109, 111, 114, 101, 32, 101, 100, 103, 101, 115, 32, 116, 104, 97, 110, 32, 109, 97, 121, 32, 98, 101])]))

/-- 'glyphiclaw3.ColorBack': WHATEVER THE INPUT: true; the input reads as it did. -/
def colorBackSpec : ChangeSpec := { name := "colorBack", fn := fun _ => fun
  | [d1, d2, d3] => { results := [.lit (.bool true)], args := [d1, d2, d3] }
  | _ => none }
def colorBackRow : OpenClaim := { program := "ythojeoldjhghpabdoor", sum := "fb6a72d2fd06f3c78aabbd80f547f94b0bfa9b32679c411bbc4529a1c05883a9", func := "glyphic/glyphiclaw3.ColorBack", spec := "colorBack", inPlace := ["internal/bytealg.IndexByteString"], named := ["glyphic/api.ErrText"], apart := false, laid := [("glyphic/api.ErrText", laid_glyphic_api_ErrText)] }
def ColorBackSaid : Prop := colorBackRow.holds Tryd.pinned (OpenSpec.ofChange colorBackSpec)

/-- ITS FALSE NEIGHBOUR: 'it returns false'. Refute it at one input. -/
def colorBackWrong : ChangeSpec := { name := "colorBack", fn := fun _ => fun
  | [d1, d2, d3] => { results := [.lit (.bool false)], args := [d1, d2, d3] }
  | _ => none }
def ColorBackWrongFalsely : Prop := colorBackRow.holds Tryd.pinned (OpenSpec.ofChange colorBackWrong)

/-- 'glyphiclaw3.ColorWrong': WHATEVER THE INPUT: true; the input reads as it did. -/
def colorWrongSpec : ChangeSpec := { name := "colorWrong", fn := fun _ => fun
  | [d] => { results := [.lit (.bool true)], args := [d] }
  | _ => none }
def colorWrongRow : OpenClaim := { program := "ythojeoldjhghpabdoor", sum := "fb6a72d2fd06f3c78aabbd80f547f94b0bfa9b32679c411bbc4529a1c05883a9", func := "glyphic/glyphiclaw3.ColorWrong", spec := "colorWrong", inPlace := ["internal/bytealg.IndexByteString"], named := ["glyphic/api.ErrText"], apart := false, laid := [("glyphic/api.ErrText", laid_glyphic_api_ErrText)] }
def ColorWrongSaid : Prop := colorWrongRow.holds Tryd.pinned (OpenSpec.ofChange colorWrongSpec)

/-- ITS FALSE NEIGHBOUR: 'it returns false'. Refute it at one input. -/
def colorWrongWrong : ChangeSpec := { name := "colorWrong", fn := fun _ => fun
  | [d] => { results := [.lit (.bool false)], args := [d] }
  | _ => none }
def ColorWrongWrongFalsely : Prop := colorWrongRow.holds Tryd.pinned (OpenSpec.ofChange colorWrongWrong)

/-- 'glyphiclaw3.ColorSays': WHATEVER THE INPUT: true; the input reads as it did. -/
def colorSaysSpec : ChangeSpec := { name := "colorSays", fn := fun _ => fun
  | [d1, d2] => { results := [.lit (.bool true)], args := [d1, d2] }
  | _ => none }
def colorSaysRow : OpenClaim := { program := "ythojeoldjhghpabdoor", sum := "fb6a72d2fd06f3c78aabbd80f547f94b0bfa9b32679c411bbc4529a1c05883a9", func := "glyphic/glyphiclaw3.ColorSays", spec := "colorSays", inPlace := ["internal/bytealg.IndexByteString"], named := ["glyphic/api.ErrText", "glyphic/api.ErrName", "glyphic/api.ErrTwice", "glyphic/api.ErrPath", "glyphic/api.ErrRange", "glyphic/api.ErrLimit", "glyphic/api.ErrShort", "glyphic/api.ErrMagic", "glyphic/api.ErrVarint", "glyphic/api.ErrCanon", "glyphic/api.ErrTrail", "glyphic/api.ErrWidth", "glyphic/api.ErrBudget"], apart := false, laid := [("glyphic/api.ErrText", laid_glyphic_api_ErrText), ("glyphic/api.ErrName", laid_glyphic_api_ErrName), ("glyphic/api.ErrTwice", laid_glyphic_api_ErrTwice), ("glyphic/api.ErrPath", laid_glyphic_api_ErrPath), ("glyphic/api.ErrRange", laid_glyphic_api_ErrRange), ("glyphic/api.ErrLimit", laid_glyphic_api_ErrLimit), ("glyphic/api.ErrShort", laid_glyphic_api_ErrShort), ("glyphic/api.ErrMagic", laid_glyphic_api_ErrMagic), ("glyphic/api.ErrVarint", laid_glyphic_api_ErrVarint), ("glyphic/api.ErrCanon", laid_glyphic_api_ErrCanon), ("glyphic/api.ErrTrail", laid_glyphic_api_ErrTrail), ("glyphic/api.ErrWidth", laid_glyphic_api_ErrWidth), ("glyphic/api.ErrBudget", laid_glyphic_api_ErrBudget)] }
def ColorSaysSaid : Prop := colorSaysRow.holds Tryd.pinned (OpenSpec.ofChange colorSaysSpec)

/-- ITS FALSE NEIGHBOUR: 'it returns false'. Refute it at one input. -/
def colorSaysWrong : ChangeSpec := { name := "colorSays", fn := fun _ => fun
  | [d1, d2] => { results := [.lit (.bool false)], args := [d1, d2] }
  | _ => none }
def ColorSaysWrongFalsely : Prop := colorSaysRow.holds Tryd.pinned (OpenSpec.ofChange colorSaysWrong)

/-- 'glyphiclaw2.WireOne': WHATEVER THE INPUT: true; the input reads as it did. -/
def wireOneSpec : ChangeSpec := { name := "wireOne", fn := fun _ => fun
  | [d1, d2] => { results := [.lit (.bool true)], args := [d1, d2] }
  | _ => none }
def wireOneRow : OpenClaim := { program := "ythojeoldjhghpabdoor", sum := "fb6a72d2fd06f3c78aabbd80f547f94b0bfa9b32679c411bbc4529a1c05883a9", func := "glyphic/glyphiclaw2.WireOne", spec := "wireOne", named := ["glyphic/api.ErrShort", "glyphic/api.ErrVarint", "glyphic/api.ErrText", "glyphic/api.ErrName", "glyphic/api.ErrTwice", "glyphic/api.ErrPath", "glyphic/api.ErrRange", "glyphic/api.ErrLimit", "glyphic/api.ErrMagic", "glyphic/api.ErrCanon", "glyphic/api.ErrTrail", "glyphic/api.ErrWidth", "glyphic/api.ErrBudget"], apart := false, laid := [("glyphic/api.ErrText", laid_glyphic_api_ErrText), ("glyphic/api.ErrName", laid_glyphic_api_ErrName), ("glyphic/api.ErrTwice", laid_glyphic_api_ErrTwice), ("glyphic/api.ErrPath", laid_glyphic_api_ErrPath), ("glyphic/api.ErrRange", laid_glyphic_api_ErrRange), ("glyphic/api.ErrLimit", laid_glyphic_api_ErrLimit), ("glyphic/api.ErrShort", laid_glyphic_api_ErrShort), ("glyphic/api.ErrMagic", laid_glyphic_api_ErrMagic), ("glyphic/api.ErrVarint", laid_glyphic_api_ErrVarint), ("glyphic/api.ErrCanon", laid_glyphic_api_ErrCanon), ("glyphic/api.ErrTrail", laid_glyphic_api_ErrTrail), ("glyphic/api.ErrWidth", laid_glyphic_api_ErrWidth), ("glyphic/api.ErrBudget", laid_glyphic_api_ErrBudget)] }
def WireOneSaid : Prop := wireOneRow.holds Tryd.pinned (OpenSpec.ofChange wireOneSpec)

/-- ITS FALSE NEIGHBOUR: 'it returns false'. Refute it at one input. -/
def wireOneWrong : ChangeSpec := { name := "wireOne", fn := fun _ => fun
  | [d1, d2] => { results := [.lit (.bool false)], args := [d1, d2] }
  | _ => none }
def WireOneWrongFalsely : Prop := wireOneRow.holds Tryd.pinned (OpenSpec.ofChange wireOneWrong)

/-- 'glyphiclaw2.WireRows': WHATEVER THE INPUT: true; the input reads as it did. -/
def wireRowsSpec : ChangeSpec := { name := "wireRows", fn := fun _ => fun
  | [d1, d2] => { results := [.lit (.bool true)], args := [d1, d2] }
  | _ => none }
def wireRowsRow : OpenClaim := { program := "ythojeoldjhghpabdoor", sum := "fb6a72d2fd06f3c78aabbd80f547f94b0bfa9b32679c411bbc4529a1c05883a9", func := "glyphic/glyphiclaw2.WireRows", spec := "wireRows", named := ["glyphic/api.ErrShort", "glyphic/api.ErrVarint", "glyphic/api.ErrText", "glyphic/api.ErrName", "glyphic/api.ErrTwice", "glyphic/api.ErrPath", "glyphic/api.ErrRange", "glyphic/api.ErrLimit", "glyphic/api.ErrMagic", "glyphic/api.ErrCanon", "glyphic/api.ErrTrail", "glyphic/api.ErrWidth", "glyphic/api.ErrBudget"], apart := false, laid := [("glyphic/api.ErrText", laid_glyphic_api_ErrText), ("glyphic/api.ErrName", laid_glyphic_api_ErrName), ("glyphic/api.ErrTwice", laid_glyphic_api_ErrTwice), ("glyphic/api.ErrPath", laid_glyphic_api_ErrPath), ("glyphic/api.ErrRange", laid_glyphic_api_ErrRange), ("glyphic/api.ErrLimit", laid_glyphic_api_ErrLimit), ("glyphic/api.ErrShort", laid_glyphic_api_ErrShort), ("glyphic/api.ErrMagic", laid_glyphic_api_ErrMagic), ("glyphic/api.ErrVarint", laid_glyphic_api_ErrVarint), ("glyphic/api.ErrCanon", laid_glyphic_api_ErrCanon), ("glyphic/api.ErrTrail", laid_glyphic_api_ErrTrail), ("glyphic/api.ErrWidth", laid_glyphic_api_ErrWidth), ("glyphic/api.ErrBudget", laid_glyphic_api_ErrBudget)] }
def WireRowsSaid : Prop := wireRowsRow.holds Tryd.pinned (OpenSpec.ofChange wireRowsSpec)

/-- ITS FALSE NEIGHBOUR: 'it returns false'. Refute it at one input. -/
def wireRowsWrong : ChangeSpec := { name := "wireRows", fn := fun _ => fun
  | [d1, d2] => { results := [.lit (.bool false)], args := [d1, d2] }
  | _ => none }
def WireRowsWrongFalsely : Prop := wireRowsRow.holds Tryd.pinned (OpenSpec.ofChange wireRowsWrong)

/-- 'glyphiclaw2.WireBack': WHATEVER THE INPUT: true; the input reads as it did. -/
def wireBackSpec : ChangeSpec := { name := "wireBack", fn := fun _ => fun
  | [d1, d2, d3, d4] => { results := [.lit (.bool true)], args := [d1, d2, d3, d4] }
  | _ => none }
def wireBackRow : OpenClaim := { program := "ythojeoldjhghpabdoor", sum := "fb6a72d2fd06f3c78aabbd80f547f94b0bfa9b32679c411bbc4529a1c05883a9", func := "glyphic/glyphiclaw2.WireBack", spec := "wireBack", named := ["glyphic/api.ErrShort", "glyphic/api.ErrVarint", "glyphic/api.ErrText", "glyphic/api.ErrName", "glyphic/api.ErrTwice", "glyphic/api.ErrPath", "glyphic/api.ErrRange", "glyphic/api.ErrLimit", "glyphic/api.ErrMagic", "glyphic/api.ErrCanon", "glyphic/api.ErrTrail", "glyphic/api.ErrWidth", "glyphic/api.ErrBudget"], apart := false, laid := [("glyphic/api.ErrText", laid_glyphic_api_ErrText), ("glyphic/api.ErrName", laid_glyphic_api_ErrName), ("glyphic/api.ErrTwice", laid_glyphic_api_ErrTwice), ("glyphic/api.ErrPath", laid_glyphic_api_ErrPath), ("glyphic/api.ErrRange", laid_glyphic_api_ErrRange), ("glyphic/api.ErrLimit", laid_glyphic_api_ErrLimit), ("glyphic/api.ErrShort", laid_glyphic_api_ErrShort), ("glyphic/api.ErrMagic", laid_glyphic_api_ErrMagic), ("glyphic/api.ErrVarint", laid_glyphic_api_ErrVarint), ("glyphic/api.ErrCanon", laid_glyphic_api_ErrCanon), ("glyphic/api.ErrTrail", laid_glyphic_api_ErrTrail), ("glyphic/api.ErrWidth", laid_glyphic_api_ErrWidth), ("glyphic/api.ErrBudget", laid_glyphic_api_ErrBudget)] }
def WireBackSaid : Prop := wireBackRow.holds Tryd.pinned (OpenSpec.ofChange wireBackSpec)

/-- ITS FALSE NEIGHBOUR: 'it returns false'. Refute it at one input. -/
def wireBackWrong : ChangeSpec := { name := "wireBack", fn := fun _ => fun
  | [d1, d2, d3, d4] => { results := [.lit (.bool false)], args := [d1, d2, d3, d4] }
  | _ => none }
def WireBackWrongFalsely : Prop := wireBackRow.holds Tryd.pinned (OpenSpec.ofChange wireBackWrong)

/-- 'glyphiclaw12.NamesFind': WHATEVER THE INPUT: true; the input reads as it did. -/
def namesFindSpec : ChangeSpec := { name := "namesFind", fn := fun _ => fun
  | [d1, d2, d3, d4, d5] => { results := [.lit (.bool true)], args := [d1, d2, d3, d4, d5] }
  | _ => none }
def namesFindRow : OpenClaim := { program := "ythojeoldjhghpabdoor", sum := "fb6a72d2fd06f3c78aabbd80f547f94b0bfa9b32679c411bbc4529a1c05883a9", func := "glyphic/glyphiclaw12.NamesFind", spec := "namesFind", named := ["glyphic/api.ErrTwice", "glyphic/api.ErrName", "glyphic/api.ErrText", "glyphic/api.ErrPath", "glyphic/api.ErrRange", "glyphic/api.ErrLimit", "glyphic/api.ErrShort", "glyphic/api.ErrMagic", "glyphic/api.ErrVarint", "glyphic/api.ErrCanon", "glyphic/api.ErrTrail", "glyphic/api.ErrWidth", "glyphic/api.ErrBudget"], apart := false, laid := [("glyphic/api.ErrText", laid_glyphic_api_ErrText), ("glyphic/api.ErrName", laid_glyphic_api_ErrName), ("glyphic/api.ErrTwice", laid_glyphic_api_ErrTwice), ("glyphic/api.ErrPath", laid_glyphic_api_ErrPath), ("glyphic/api.ErrRange", laid_glyphic_api_ErrRange), ("glyphic/api.ErrLimit", laid_glyphic_api_ErrLimit), ("glyphic/api.ErrShort", laid_glyphic_api_ErrShort), ("glyphic/api.ErrMagic", laid_glyphic_api_ErrMagic), ("glyphic/api.ErrVarint", laid_glyphic_api_ErrVarint), ("glyphic/api.ErrCanon", laid_glyphic_api_ErrCanon), ("glyphic/api.ErrTrail", laid_glyphic_api_ErrTrail), ("glyphic/api.ErrWidth", laid_glyphic_api_ErrWidth), ("glyphic/api.ErrBudget", laid_glyphic_api_ErrBudget)] }
def NamesFindSaid : Prop := namesFindRow.holds Tryd.pinned (OpenSpec.ofChange namesFindSpec)

/-- ITS FALSE NEIGHBOUR: 'it returns false'. Refute it at one input. -/
def namesFindWrong : ChangeSpec := { name := "namesFind", fn := fun _ => fun
  | [d1, d2, d3, d4, d5] => { results := [.lit (.bool false)], args := [d1, d2, d3, d4, d5] }
  | _ => none }
def NamesFindWrongFalsely : Prop := namesFindRow.holds Tryd.pinned (OpenSpec.ofChange namesFindWrong)

/-- 'glyphiclaw12.NamesTwice': WHATEVER THE INPUT: true; the input reads as it did. -/
def namesTwiceSpec : ChangeSpec := { name := "namesTwice", fn := fun _ => fun
  | [d1, d2] => { results := [.lit (.bool true)], args := [d1, d2] }
  | _ => none }
def namesTwiceRow : OpenClaim := { program := "ythojeoldjhghpabdoor", sum := "fb6a72d2fd06f3c78aabbd80f547f94b0bfa9b32679c411bbc4529a1c05883a9", func := "glyphic/glyphiclaw12.NamesTwice", spec := "namesTwice", named := ["glyphic/api.ErrTwice", "glyphic/api.ErrName", "glyphic/api.ErrText", "glyphic/api.ErrPath", "glyphic/api.ErrRange", "glyphic/api.ErrLimit", "glyphic/api.ErrShort", "glyphic/api.ErrMagic", "glyphic/api.ErrVarint", "glyphic/api.ErrCanon", "glyphic/api.ErrTrail", "glyphic/api.ErrWidth", "glyphic/api.ErrBudget"], apart := false, laid := [("glyphic/api.ErrText", laid_glyphic_api_ErrText), ("glyphic/api.ErrName", laid_glyphic_api_ErrName), ("glyphic/api.ErrTwice", laid_glyphic_api_ErrTwice), ("glyphic/api.ErrPath", laid_glyphic_api_ErrPath), ("glyphic/api.ErrRange", laid_glyphic_api_ErrRange), ("glyphic/api.ErrLimit", laid_glyphic_api_ErrLimit), ("glyphic/api.ErrShort", laid_glyphic_api_ErrShort), ("glyphic/api.ErrMagic", laid_glyphic_api_ErrMagic), ("glyphic/api.ErrVarint", laid_glyphic_api_ErrVarint), ("glyphic/api.ErrCanon", laid_glyphic_api_ErrCanon), ("glyphic/api.ErrTrail", laid_glyphic_api_ErrTrail), ("glyphic/api.ErrWidth", laid_glyphic_api_ErrWidth), ("glyphic/api.ErrBudget", laid_glyphic_api_ErrBudget)] }
def NamesTwiceSaid : Prop := namesTwiceRow.holds Tryd.pinned (OpenSpec.ofChange namesTwiceSpec)

/-- ITS FALSE NEIGHBOUR: 'it returns false'. Refute it at one input. -/
def namesTwiceWrong : ChangeSpec := { name := "namesTwice", fn := fun _ => fun
  | [d1, d2] => { results := [.lit (.bool false)], args := [d1, d2] }
  | _ => none }
def NamesTwiceWrongFalsely : Prop := namesTwiceRow.holds Tryd.pinned (OpenSpec.ofChange namesTwiceWrong)

/- THE SECOND FORM. 'bulk': how many values and letters a reading holds, each counted each time it is reached (what is shared counts as often as it is met; a slice's spare places count too). A statement '..UptoSaid' is the law's where the arguments, and the package variables that the reading takes, are together of bulk at most 1048576: NARROWER than '..Said'. Prove '..Said' where nothing that the law and all that it calls make is longer than what came in: it says more and counts as full. Else prove '..UptoSaid'. A law counts once. -/
mutual
def uptoBulk {H : Type} : DataW H → Nat
  | .lit (.string bytes) => bytes.length + 1
  | .lit _ => 1
  | .nil => 1
  | .ptr d => uptoBulk d + 1
  | .slice elems spare => uptoBulkAll elems + uptoBulkAll spare + 1
  | .agg parts => uptoBulkAll parts + 1
  | .iface _ d => uptoBulk d + 1
  | .map entries => uptoBulkEntries entries + 1
  | .held _ => 1
def uptoBulkAll {H : Type} : List (DataW H) → Nat
  | [] => 0
  | d :: r => uptoBulk d + uptoBulkAll r
def uptoBulkEntries {H : Type} : List (Lit × DataW H) → Nat
  | [] => 0
  | x :: r => uptoBulkEntry x + uptoBulkEntries r
def uptoBulkEntry {H : Type} : Lit × DataW H → Nat
  | (.string bytes, d) => bytes.length + uptoBulk d + 1
  | (_, d) => uptoBulk d + 1
 end
def uptoSmall : (H : Type) → List (DataW H) → Bool := fun _ ds => decide (uptoBulkAll ds ≤ 1048576)
def OpenSpec.upto (s : _root_.Go.ChangeSpec) : _root_.Go.OpenSpec := { _root_.Go.OpenSpec.ofChange s with cond := some uptoSmall }

/-- 'glyphiclaw3.ColorBack', WHERE WHAT IT READS IS OF BULK AT MOST 1048576: true; the input reads as it did. -/
def colorBackUptoRow : OpenClaim := { program := "ythojeoldjhghpabdoor", sum := "fb6a72d2fd06f3c78aabbd80f547f94b0bfa9b32679c411bbc4529a1c05883a9", func := "glyphic/glyphiclaw3.ColorBack", spec := "colorBack", inPlace := ["internal/bytealg.IndexByteString"], named := ["glyphic/api.ErrText"], apart := false, laid := [("glyphic/api.ErrText", laid_glyphic_api_ErrText)], narrowed := true }
def ColorBackUptoSaid : Prop := colorBackUptoRow.holds Tryd.pinned (OpenSpec.upto colorBackSpec)

/-- 'glyphiclaw3.ColorWrong', WHERE WHAT IT READS IS OF BULK AT MOST 1048576: true; the input reads as it did. -/
def colorWrongUptoRow : OpenClaim := { program := "ythojeoldjhghpabdoor", sum := "fb6a72d2fd06f3c78aabbd80f547f94b0bfa9b32679c411bbc4529a1c05883a9", func := "glyphic/glyphiclaw3.ColorWrong", spec := "colorWrong", inPlace := ["internal/bytealg.IndexByteString"], named := ["glyphic/api.ErrText"], apart := false, laid := [("glyphic/api.ErrText", laid_glyphic_api_ErrText)], narrowed := true }
def ColorWrongUptoSaid : Prop := colorWrongUptoRow.holds Tryd.pinned (OpenSpec.upto colorWrongSpec)

/-- 'glyphiclaw3.ColorSays', WHERE WHAT IT READS IS OF BULK AT MOST 1048576: true; the input reads as it did. -/
def colorSaysUptoRow : OpenClaim := { program := "ythojeoldjhghpabdoor", sum := "fb6a72d2fd06f3c78aabbd80f547f94b0bfa9b32679c411bbc4529a1c05883a9", func := "glyphic/glyphiclaw3.ColorSays", spec := "colorSays", inPlace := ["internal/bytealg.IndexByteString"], named := ["glyphic/api.ErrText", "glyphic/api.ErrName", "glyphic/api.ErrTwice", "glyphic/api.ErrPath", "glyphic/api.ErrRange", "glyphic/api.ErrLimit", "glyphic/api.ErrShort", "glyphic/api.ErrMagic", "glyphic/api.ErrVarint", "glyphic/api.ErrCanon", "glyphic/api.ErrTrail", "glyphic/api.ErrWidth", "glyphic/api.ErrBudget"], apart := false, laid := [("glyphic/api.ErrText", laid_glyphic_api_ErrText), ("glyphic/api.ErrName", laid_glyphic_api_ErrName), ("glyphic/api.ErrTwice", laid_glyphic_api_ErrTwice), ("glyphic/api.ErrPath", laid_glyphic_api_ErrPath), ("glyphic/api.ErrRange", laid_glyphic_api_ErrRange), ("glyphic/api.ErrLimit", laid_glyphic_api_ErrLimit), ("glyphic/api.ErrShort", laid_glyphic_api_ErrShort), ("glyphic/api.ErrMagic", laid_glyphic_api_ErrMagic), ("glyphic/api.ErrVarint", laid_glyphic_api_ErrVarint), ("glyphic/api.ErrCanon", laid_glyphic_api_ErrCanon), ("glyphic/api.ErrTrail", laid_glyphic_api_ErrTrail), ("glyphic/api.ErrWidth", laid_glyphic_api_ErrWidth), ("glyphic/api.ErrBudget", laid_glyphic_api_ErrBudget)], narrowed := true }
def ColorSaysUptoSaid : Prop := colorSaysUptoRow.holds Tryd.pinned (OpenSpec.upto colorSaysSpec)

/-- 'glyphiclaw2.WireOne', WHERE WHAT IT READS IS OF BULK AT MOST 1048576: true; the input reads as it did. -/
def wireOneUptoRow : OpenClaim := { program := "ythojeoldjhghpabdoor", sum := "fb6a72d2fd06f3c78aabbd80f547f94b0bfa9b32679c411bbc4529a1c05883a9", func := "glyphic/glyphiclaw2.WireOne", spec := "wireOne", named := ["glyphic/api.ErrShort", "glyphic/api.ErrVarint", "glyphic/api.ErrText", "glyphic/api.ErrName", "glyphic/api.ErrTwice", "glyphic/api.ErrPath", "glyphic/api.ErrRange", "glyphic/api.ErrLimit", "glyphic/api.ErrMagic", "glyphic/api.ErrCanon", "glyphic/api.ErrTrail", "glyphic/api.ErrWidth", "glyphic/api.ErrBudget"], apart := false, laid := [("glyphic/api.ErrText", laid_glyphic_api_ErrText), ("glyphic/api.ErrName", laid_glyphic_api_ErrName), ("glyphic/api.ErrTwice", laid_glyphic_api_ErrTwice), ("glyphic/api.ErrPath", laid_glyphic_api_ErrPath), ("glyphic/api.ErrRange", laid_glyphic_api_ErrRange), ("glyphic/api.ErrLimit", laid_glyphic_api_ErrLimit), ("glyphic/api.ErrShort", laid_glyphic_api_ErrShort), ("glyphic/api.ErrMagic", laid_glyphic_api_ErrMagic), ("glyphic/api.ErrVarint", laid_glyphic_api_ErrVarint), ("glyphic/api.ErrCanon", laid_glyphic_api_ErrCanon), ("glyphic/api.ErrTrail", laid_glyphic_api_ErrTrail), ("glyphic/api.ErrWidth", laid_glyphic_api_ErrWidth), ("glyphic/api.ErrBudget", laid_glyphic_api_ErrBudget)], narrowed := true }
def WireOneUptoSaid : Prop := wireOneUptoRow.holds Tryd.pinned (OpenSpec.upto wireOneSpec)

/-- 'glyphiclaw2.WireRows', WHERE WHAT IT READS IS OF BULK AT MOST 1048576: true; the input reads as it did. -/
def wireRowsUptoRow : OpenClaim := { program := "ythojeoldjhghpabdoor", sum := "fb6a72d2fd06f3c78aabbd80f547f94b0bfa9b32679c411bbc4529a1c05883a9", func := "glyphic/glyphiclaw2.WireRows", spec := "wireRows", named := ["glyphic/api.ErrShort", "glyphic/api.ErrVarint", "glyphic/api.ErrText", "glyphic/api.ErrName", "glyphic/api.ErrTwice", "glyphic/api.ErrPath", "glyphic/api.ErrRange", "glyphic/api.ErrLimit", "glyphic/api.ErrMagic", "glyphic/api.ErrCanon", "glyphic/api.ErrTrail", "glyphic/api.ErrWidth", "glyphic/api.ErrBudget"], apart := false, laid := [("glyphic/api.ErrText", laid_glyphic_api_ErrText), ("glyphic/api.ErrName", laid_glyphic_api_ErrName), ("glyphic/api.ErrTwice", laid_glyphic_api_ErrTwice), ("glyphic/api.ErrPath", laid_glyphic_api_ErrPath), ("glyphic/api.ErrRange", laid_glyphic_api_ErrRange), ("glyphic/api.ErrLimit", laid_glyphic_api_ErrLimit), ("glyphic/api.ErrShort", laid_glyphic_api_ErrShort), ("glyphic/api.ErrMagic", laid_glyphic_api_ErrMagic), ("glyphic/api.ErrVarint", laid_glyphic_api_ErrVarint), ("glyphic/api.ErrCanon", laid_glyphic_api_ErrCanon), ("glyphic/api.ErrTrail", laid_glyphic_api_ErrTrail), ("glyphic/api.ErrWidth", laid_glyphic_api_ErrWidth), ("glyphic/api.ErrBudget", laid_glyphic_api_ErrBudget)], narrowed := true }
def WireRowsUptoSaid : Prop := wireRowsUptoRow.holds Tryd.pinned (OpenSpec.upto wireRowsSpec)

/-- 'glyphiclaw2.WireBack', WHERE WHAT IT READS IS OF BULK AT MOST 1048576: true; the input reads as it did. -/
def wireBackUptoRow : OpenClaim := { program := "ythojeoldjhghpabdoor", sum := "fb6a72d2fd06f3c78aabbd80f547f94b0bfa9b32679c411bbc4529a1c05883a9", func := "glyphic/glyphiclaw2.WireBack", spec := "wireBack", named := ["glyphic/api.ErrShort", "glyphic/api.ErrVarint", "glyphic/api.ErrText", "glyphic/api.ErrName", "glyphic/api.ErrTwice", "glyphic/api.ErrPath", "glyphic/api.ErrRange", "glyphic/api.ErrLimit", "glyphic/api.ErrMagic", "glyphic/api.ErrCanon", "glyphic/api.ErrTrail", "glyphic/api.ErrWidth", "glyphic/api.ErrBudget"], apart := false, laid := [("glyphic/api.ErrText", laid_glyphic_api_ErrText), ("glyphic/api.ErrName", laid_glyphic_api_ErrName), ("glyphic/api.ErrTwice", laid_glyphic_api_ErrTwice), ("glyphic/api.ErrPath", laid_glyphic_api_ErrPath), ("glyphic/api.ErrRange", laid_glyphic_api_ErrRange), ("glyphic/api.ErrLimit", laid_glyphic_api_ErrLimit), ("glyphic/api.ErrShort", laid_glyphic_api_ErrShort), ("glyphic/api.ErrMagic", laid_glyphic_api_ErrMagic), ("glyphic/api.ErrVarint", laid_glyphic_api_ErrVarint), ("glyphic/api.ErrCanon", laid_glyphic_api_ErrCanon), ("glyphic/api.ErrTrail", laid_glyphic_api_ErrTrail), ("glyphic/api.ErrWidth", laid_glyphic_api_ErrWidth), ("glyphic/api.ErrBudget", laid_glyphic_api_ErrBudget)], narrowed := true }
def WireBackUptoSaid : Prop := wireBackUptoRow.holds Tryd.pinned (OpenSpec.upto wireBackSpec)

/-- 'glyphiclaw12.NamesFind', WHERE WHAT IT READS IS OF BULK AT MOST 1048576: true; the input reads as it did. -/
def namesFindUptoRow : OpenClaim := { program := "ythojeoldjhghpabdoor", sum := "fb6a72d2fd06f3c78aabbd80f547f94b0bfa9b32679c411bbc4529a1c05883a9", func := "glyphic/glyphiclaw12.NamesFind", spec := "namesFind", named := ["glyphic/api.ErrTwice", "glyphic/api.ErrName", "glyphic/api.ErrText", "glyphic/api.ErrPath", "glyphic/api.ErrRange", "glyphic/api.ErrLimit", "glyphic/api.ErrShort", "glyphic/api.ErrMagic", "glyphic/api.ErrVarint", "glyphic/api.ErrCanon", "glyphic/api.ErrTrail", "glyphic/api.ErrWidth", "glyphic/api.ErrBudget"], apart := false, laid := [("glyphic/api.ErrText", laid_glyphic_api_ErrText), ("glyphic/api.ErrName", laid_glyphic_api_ErrName), ("glyphic/api.ErrTwice", laid_glyphic_api_ErrTwice), ("glyphic/api.ErrPath", laid_glyphic_api_ErrPath), ("glyphic/api.ErrRange", laid_glyphic_api_ErrRange), ("glyphic/api.ErrLimit", laid_glyphic_api_ErrLimit), ("glyphic/api.ErrShort", laid_glyphic_api_ErrShort), ("glyphic/api.ErrMagic", laid_glyphic_api_ErrMagic), ("glyphic/api.ErrVarint", laid_glyphic_api_ErrVarint), ("glyphic/api.ErrCanon", laid_glyphic_api_ErrCanon), ("glyphic/api.ErrTrail", laid_glyphic_api_ErrTrail), ("glyphic/api.ErrWidth", laid_glyphic_api_ErrWidth), ("glyphic/api.ErrBudget", laid_glyphic_api_ErrBudget)], narrowed := true }
def NamesFindUptoSaid : Prop := namesFindUptoRow.holds Tryd.pinned (OpenSpec.upto namesFindSpec)

/-- 'glyphiclaw12.NamesTwice', WHERE WHAT IT READS IS OF BULK AT MOST 1048576: true; the input reads as it did. -/
def namesTwiceUptoRow : OpenClaim := { program := "ythojeoldjhghpabdoor", sum := "fb6a72d2fd06f3c78aabbd80f547f94b0bfa9b32679c411bbc4529a1c05883a9", func := "glyphic/glyphiclaw12.NamesTwice", spec := "namesTwice", named := ["glyphic/api.ErrTwice", "glyphic/api.ErrName", "glyphic/api.ErrText", "glyphic/api.ErrPath", "glyphic/api.ErrRange", "glyphic/api.ErrLimit", "glyphic/api.ErrShort", "glyphic/api.ErrMagic", "glyphic/api.ErrVarint", "glyphic/api.ErrCanon", "glyphic/api.ErrTrail", "glyphic/api.ErrWidth", "glyphic/api.ErrBudget"], apart := false, laid := [("glyphic/api.ErrText", laid_glyphic_api_ErrText), ("glyphic/api.ErrName", laid_glyphic_api_ErrName), ("glyphic/api.ErrTwice", laid_glyphic_api_ErrTwice), ("glyphic/api.ErrPath", laid_glyphic_api_ErrPath), ("glyphic/api.ErrRange", laid_glyphic_api_ErrRange), ("glyphic/api.ErrLimit", laid_glyphic_api_ErrLimit), ("glyphic/api.ErrShort", laid_glyphic_api_ErrShort), ("glyphic/api.ErrMagic", laid_glyphic_api_ErrMagic), ("glyphic/api.ErrVarint", laid_glyphic_api_ErrVarint), ("glyphic/api.ErrCanon", laid_glyphic_api_ErrCanon), ("glyphic/api.ErrTrail", laid_glyphic_api_ErrTrail), ("glyphic/api.ErrWidth", laid_glyphic_api_ErrWidth), ("glyphic/api.ErrBudget", laid_glyphic_api_ErrBudget)], narrowed := true }
def NamesTwiceUptoSaid : Prop := namesTwiceUptoRow.holds Tryd.pinned (OpenSpec.upto namesTwiceSpec)

end Rows
end Go.Proofs.YthojeoldjhghpabDoor
