/-
  No cell of these rows narrows 'for every input' (looked for: loops, veiled, ifaces, maps, wideKeys, modest, calm, conditions, laid).
  DERIVED. THE GIVEN ROWS OF THIS SEAT. 10 by the template 'for every input the law returns true; each argument reads behind the call as it read before'; 0 by the template 'total and deterministic' (their statements: YthojeoldjhghpaaTotals.lean).
  GIVEN WITH THE SEED: the statements are not yours to turn. If you find one false, say at which input.
  Laid BY PROGRAM, IN A SANDBOX (cutbox-rows.mjs): the forced cells as the released guide's own fill.sh prints them over the translation cc6fbff45e519152… (all of the seat's roots in one cut). By AI agents, Wed Nov 11 2026. No macro, syntax, notation, axiom, sorry.
-/
import Derived.Test.YthojeoldjhghpaaChecked
import GoSem.Claim
import GoSem.ClaimJoined
import GoSem.ClaimMapViews
import Derived.JoinedTies
import Derived.KernelRfl
namespace Go.Proofs.Ythojeoldjhghpaa
/- THE CELL 'sum', in the pinned program and in every row, IS THE sha256 OF THE DUMP (.gsa) THAT YthojeoldjhghpaaProg.lean LOADS. Nothing in Lean hashes anything: it is a label: what it is worth is what the hold of that sum in a sandbox is worth. -/
noncomputable def Try.pinned : Pinned := { name := "ythojeoldjhghpaa", sum := "cc6fbff45e519152cb9ae74c9b4577c52825fd1968f438d1a3ce62bee5e36483", checked := Try.checked }
namespace Rows
def none {H : Type} : Left H := { results := [], args := [] }

/-- 'glyphiclaw3.ColorUnlike': WHATEVER THE INPUT: true; the input reads as it did. -/
def colorUnlikeSpec : ChangeSpec := { name := "colorUnlike", fn := fun _ => fun
  | [d1, d2] => { results := [.lit (.bool true)], args := [d1, d2] }
  | _ => none }
def colorUnlikeRow : OpenClaim := { program := "ythojeoldjhghpaa", sum := "cc6fbff45e519152cb9ae74c9b4577c52825fd1968f438d1a3ce62bee5e36483", func := "glyphic/glyphiclaw3.ColorUnlike", spec := "colorUnlike", apart := false }
def ColorUnlikeSaid : Prop := colorUnlikeRow.holds Try.pinned (OpenSpec.ofChange colorUnlikeSpec)

/-- ITS FALSE NEIGHBOUR: 'it returns false'. Refute it at one input. -/
def colorUnlikeWrong : ChangeSpec := { name := "colorUnlike", fn := fun _ => fun
  | [d1, d2] => { results := [.lit (.bool false)], args := [d1, d2] }
  | _ => none }
def ColorUnlikeWrongFalsely : Prop := colorUnlikeRow.holds Try.pinned (OpenSpec.ofChange colorUnlikeWrong)

/-- 'glyphiclaw2.WireSizes': WHATEVER THE INPUT: true; the input reads as it did. -/
def wireSizesSpec : ChangeSpec := { name := "wireSizes", fn := fun _ => fun
  | [d1, d2] => { results := [.lit (.bool true)], args := [d1, d2] }
  | _ => none }
def wireSizesRow : OpenClaim := { program := "ythojeoldjhghpaa", sum := "cc6fbff45e519152cb9ae74c9b4577c52825fd1968f438d1a3ce62bee5e36483", func := "glyphic/glyphiclaw2.WireSizes", spec := "wireSizes", apart := false }
def WireSizesSaid : Prop := wireSizesRow.holds Try.pinned (OpenSpec.ofChange wireSizesSpec)

/-- ITS FALSE NEIGHBOUR: 'it returns false'. Refute it at one input. -/
def wireSizesWrong : ChangeSpec := { name := "wireSizes", fn := fun _ => fun
  | [d1, d2] => { results := [.lit (.bool false)], args := [d1, d2] }
  | _ => none }
def WireSizesWrongFalsely : Prop := wireSizesRow.holds Try.pinned (OpenSpec.ofChange wireSizesWrong)

/-- 'glyphiclaw22.WindSays': WHATEVER THE INPUT: true; the input reads as it did. -/
def windSaysSpec : ChangeSpec := { name := "windSays", fn := fun _ => fun
  | [d1, d2, d3, d4] => { results := [.lit (.bool true)], args := [d1, d2, d3, d4] }
  | _ => none }
def windSaysRow : OpenClaim := { program := "ythojeoldjhghpaa", sum := "cc6fbff45e519152cb9ae74c9b4577c52825fd1968f438d1a3ce62bee5e36483", func := "glyphic/glyphiclaw22.WindSays", spec := "windSays", apart := false }
def WindSaysSaid : Prop := windSaysRow.holds Try.pinned (OpenSpec.ofChange windSaysSpec)

/-- ITS FALSE NEIGHBOUR: 'it returns false'. Refute it at one input. -/
def windSaysWrong : ChangeSpec := { name := "windSays", fn := fun _ => fun
  | [d1, d2, d3, d4] => { results := [.lit (.bool false)], args := [d1, d2, d3, d4] }
  | _ => none }
def WindSaysWrongFalsely : Prop := windSaysRow.holds Try.pinned (OpenSpec.ofChange windSaysWrong)

/-- 'glyphiclaw22.WindSquares': WHATEVER THE INPUT: true; the input reads as it did. -/
def windSquaresSpec : ChangeSpec := { name := "windSquares", fn := fun _ => fun
  | [d1, d2, d3, d4] => { results := [.lit (.bool true)], args := [d1, d2, d3, d4] }
  | _ => none }
def windSquaresRow : OpenClaim := { program := "ythojeoldjhghpaa", sum := "cc6fbff45e519152cb9ae74c9b4577c52825fd1968f438d1a3ce62bee5e36483", func := "glyphic/glyphiclaw22.WindSquares", spec := "windSquares", apart := false }
def WindSquaresSaid : Prop := windSquaresRow.holds Try.pinned (OpenSpec.ofChange windSquaresSpec)

/-- ITS FALSE NEIGHBOUR: 'it returns false'. Refute it at one input. -/
def windSquaresWrong : ChangeSpec := { name := "windSquares", fn := fun _ => fun
  | [d1, d2, d3, d4] => { results := [.lit (.bool false)], args := [d1, d2, d3, d4] }
  | _ => none }
def WindSquaresWrongFalsely : Prop := windSquaresRow.holds Try.pinned (OpenSpec.ofChange windSquaresWrong)

/-- 'glyphiclaw22.WindMoves': WHATEVER THE INPUT: true; the input reads as it did. -/
def windMovesSpec : ChangeSpec := { name := "windMoves", fn := fun _ => fun
  | [d1, d2, d3] => { results := [.lit (.bool true)], args := [d1, d2, d3] }
  | _ => none }
def windMovesRow : OpenClaim := { program := "ythojeoldjhghpaa", sum := "cc6fbff45e519152cb9ae74c9b4577c52825fd1968f438d1a3ce62bee5e36483", func := "glyphic/glyphiclaw22.WindMoves", spec := "windMoves", apart := false }
def WindMovesSaid : Prop := windMovesRow.holds Try.pinned (OpenSpec.ofChange windMovesSpec)

/-- ITS FALSE NEIGHBOUR: 'it returns false'. Refute it at one input. -/
def windMovesWrong : ChangeSpec := { name := "windMoves", fn := fun _ => fun
  | [d1, d2, d3] => { results := [.lit (.bool false)], args := [d1, d2, d3] }
  | _ => none }
def WindMovesWrongFalsely : Prop := windMovesRow.holds Try.pinned (OpenSpec.ofChange windMovesWrong)

/-- 'glyphiclaw22.WindSplits': WHATEVER THE INPUT: true; the input reads as it did. -/
def windSplitsSpec : ChangeSpec := { name := "windSplits", fn := fun _ => fun
  | [d1, d2, d3, d4, d5] => { results := [.lit (.bool true)], args := [d1, d2, d3, d4, d5] }
  | _ => none }
def windSplitsRow : OpenClaim := { program := "ythojeoldjhghpaa", sum := "cc6fbff45e519152cb9ae74c9b4577c52825fd1968f438d1a3ce62bee5e36483", func := "glyphic/glyphiclaw22.WindSplits", spec := "windSplits", apart := false }
def WindSplitsSaid : Prop := windSplitsRow.holds Try.pinned (OpenSpec.ofChange windSplitsSpec)

/-- ITS FALSE NEIGHBOUR: 'it returns false'. Refute it at one input. -/
def windSplitsWrong : ChangeSpec := { name := "windSplits", fn := fun _ => fun
  | [d1, d2, d3, d4, d5] => { results := [.lit (.bool false)], args := [d1, d2, d3, d4, d5] }
  | _ => none }
def WindSplitsWrongFalsely : Prop := windSplitsRow.holds Try.pinned (OpenSpec.ofChange windSplitsWrong)

/-- 'glyphiclaw16.PaletteApart': WHATEVER THE INPUT: true; the input reads as it did. -/
def paletteApartSpec : ChangeSpec := { name := "paletteApart", fn := fun _ => fun
  | [d1, d2, d3] => { results := [.lit (.bool true)], args := [d1, d2, d3] }
  | _ => none }
def paletteApartRow : OpenClaim := { program := "ythojeoldjhghpaa", sum := "cc6fbff45e519152cb9ae74c9b4577c52825fd1968f438d1a3ce62bee5e36483", func := "glyphic/glyphiclaw16.PaletteApart", spec := "paletteApart", apart := false }
def PaletteApartSaid : Prop := paletteApartRow.holds Try.pinned (OpenSpec.ofChange paletteApartSpec)

/-- ITS FALSE NEIGHBOUR: 'it returns false'. Refute it at one input. -/
def paletteApartWrong : ChangeSpec := { name := "paletteApart", fn := fun _ => fun
  | [d1, d2, d3] => { results := [.lit (.bool false)], args := [d1, d2, d3] }
  | _ => none }
def PaletteApartWrongFalsely : Prop := paletteApartRow.holds Try.pinned (OpenSpec.ofChange paletteApartWrong)

/-- 'glyphiclaw16.PalettePlays': WHATEVER THE INPUT: true; the input reads as it did. -/
def palettePlaysSpec : ChangeSpec := { name := "palettePlays", fn := fun _ => fun
  | [d1, d2] => { results := [.lit (.bool true)], args := [d1, d2] }
  | _ => none }
def palettePlaysRow : OpenClaim := { program := "ythojeoldjhghpaa", sum := "cc6fbff45e519152cb9ae74c9b4577c52825fd1968f438d1a3ce62bee5e36483", func := "glyphic/glyphiclaw16.PalettePlays", spec := "palettePlays", apart := false }
def PalettePlaysSaid : Prop := palettePlaysRow.holds Try.pinned (OpenSpec.ofChange palettePlaysSpec)

/-- ITS FALSE NEIGHBOUR: 'it returns false'. Refute it at one input. -/
def palettePlaysWrong : ChangeSpec := { name := "palettePlays", fn := fun _ => fun
  | [d1, d2] => { results := [.lit (.bool false)], args := [d1, d2] }
  | _ => none }
def PalettePlaysWrongFalsely : Prop := palettePlaysRow.holds Try.pinned (OpenSpec.ofChange palettePlaysWrong)

/-- 'glyphiclaw16.PaletteMost': WHATEVER THE INPUT: true; the input reads as it did. -/
def paletteMostSpec : ChangeSpec := { name := "paletteMost", fn := fun _ => fun
  | [d1, d2] => { results := [.lit (.bool true)], args := [d1, d2] }
  | _ => none }
def paletteMostRow : OpenClaim := { program := "ythojeoldjhghpaa", sum := "cc6fbff45e519152cb9ae74c9b4577c52825fd1968f438d1a3ce62bee5e36483", func := "glyphic/glyphiclaw16.PaletteMost", spec := "paletteMost", apart := false }
def PaletteMostSaid : Prop := paletteMostRow.holds Try.pinned (OpenSpec.ofChange paletteMostSpec)

/-- ITS FALSE NEIGHBOUR: 'it returns false'. Refute it at one input. -/
def paletteMostWrong : ChangeSpec := { name := "paletteMost", fn := fun _ => fun
  | [d1, d2] => { results := [.lit (.bool false)], args := [d1, d2] }
  | _ => none }
def PaletteMostWrongFalsely : Prop := paletteMostRow.holds Try.pinned (OpenSpec.ofChange paletteMostWrong)

/-- 'glyphiclaw16.PaletteOrder': WHATEVER THE INPUT: true; the input reads as it did. -/
def paletteOrderSpec : ChangeSpec := { name := "paletteOrder", fn := fun _ => fun
  | [d] => { results := [.lit (.bool true)], args := [d] }
  | _ => none }
def paletteOrderRow : OpenClaim := { program := "ythojeoldjhghpaa", sum := "cc6fbff45e519152cb9ae74c9b4577c52825fd1968f438d1a3ce62bee5e36483", func := "glyphic/glyphiclaw16.PaletteOrder", spec := "paletteOrder", apart := false }
def PaletteOrderSaid : Prop := paletteOrderRow.holds Try.pinned (OpenSpec.ofChange paletteOrderSpec)

/-- ITS FALSE NEIGHBOUR: 'it returns false'. Refute it at one input. -/
def paletteOrderWrong : ChangeSpec := { name := "paletteOrder", fn := fun _ => fun
  | [d] => { results := [.lit (.bool false)], args := [d] }
  | _ => none }
def PaletteOrderWrongFalsely : Prop := paletteOrderRow.holds Try.pinned (OpenSpec.ofChange paletteOrderWrong)

/- THE SECOND FORM. 'bulk': how many values and letters a reading holds, each counted each time it is reached (what is shared counts as often as it is met; a slice's spare places count too). A statement '..UptoSaid' is the law's where the arguments, and the package variables that the reading takes, are together of bulk at most 1048576: NARROWER than '..Said'. Prove '..Said' where nothing that the law and all that it calls make is longer than what came in: it says more and counts as full. Else prove '..UptoSaid'. A law counts once. -/
mutual
def uptoBulk {H : Type} : DataW H → Nat
  | .lit (.string bytes) => bytes.length + 1
  | .lit _ => 1
  | .nil => 1
  | .ptr d => uptoBulk d + 1
  | .slice elems spare => uptoBulkAll elems + uptoBulkAll spare + 1
  | .agg parts => uptoBulkAll parts + 1
  | .iface _ d => uptoBulk d + 1
  | .map entries => uptoBulkEntries entries + 1
  | .held _ => 1
def uptoBulkAll {H : Type} : List (DataW H) → Nat
  | [] => 0
  | d :: r => uptoBulk d + uptoBulkAll r
def uptoBulkEntries {H : Type} : List (Lit × DataW H) → Nat
  | [] => 0
  | x :: r => uptoBulkEntry x + uptoBulkEntries r
def uptoBulkEntry {H : Type} : Lit × DataW H → Nat
  | (.string bytes, d) => bytes.length + uptoBulk d + 1
  | (_, d) => uptoBulk d + 1
 end
def uptoSmall : (H : Type) → List (DataW H) → Bool := fun _ ds => decide (uptoBulkAll ds ≤ 1048576)
def OpenSpec.upto (s : _root_.Go.ChangeSpec) : _root_.Go.OpenSpec := { _root_.Go.OpenSpec.ofChange s with cond := some uptoSmall }

/-- 'glyphiclaw3.ColorUnlike', WHERE WHAT IT READS IS OF BULK AT MOST 1048576: true; the input reads as it did. -/
def colorUnlikeUptoRow : OpenClaim := { program := "ythojeoldjhghpaa", sum := "cc6fbff45e519152cb9ae74c9b4577c52825fd1968f438d1a3ce62bee5e36483", func := "glyphic/glyphiclaw3.ColorUnlike", spec := "colorUnlike", apart := false, narrowed := true }
def ColorUnlikeUptoSaid : Prop := colorUnlikeUptoRow.holds Try.pinned (OpenSpec.upto colorUnlikeSpec)

/-- 'glyphiclaw2.WireSizes', WHERE WHAT IT READS IS OF BULK AT MOST 1048576: true; the input reads as it did. -/
def wireSizesUptoRow : OpenClaim := { program := "ythojeoldjhghpaa", sum := "cc6fbff45e519152cb9ae74c9b4577c52825fd1968f438d1a3ce62bee5e36483", func := "glyphic/glyphiclaw2.WireSizes", spec := "wireSizes", apart := false, narrowed := true }
def WireSizesUptoSaid : Prop := wireSizesUptoRow.holds Try.pinned (OpenSpec.upto wireSizesSpec)

/-- 'glyphiclaw22.WindSays', WHERE WHAT IT READS IS OF BULK AT MOST 1048576: true; the input reads as it did. -/
def windSaysUptoRow : OpenClaim := { program := "ythojeoldjhghpaa", sum := "cc6fbff45e519152cb9ae74c9b4577c52825fd1968f438d1a3ce62bee5e36483", func := "glyphic/glyphiclaw22.WindSays", spec := "windSays", apart := false, narrowed := true }
def WindSaysUptoSaid : Prop := windSaysUptoRow.holds Try.pinned (OpenSpec.upto windSaysSpec)

/-- 'glyphiclaw22.WindSquares', WHERE WHAT IT READS IS OF BULK AT MOST 1048576: true; the input reads as it did. -/
def windSquaresUptoRow : OpenClaim := { program := "ythojeoldjhghpaa", sum := "cc6fbff45e519152cb9ae74c9b4577c52825fd1968f438d1a3ce62bee5e36483", func := "glyphic/glyphiclaw22.WindSquares", spec := "windSquares", apart := false, narrowed := true }
def WindSquaresUptoSaid : Prop := windSquaresUptoRow.holds Try.pinned (OpenSpec.upto windSquaresSpec)

/-- 'glyphiclaw22.WindMoves', WHERE WHAT IT READS IS OF BULK AT MOST 1048576: true; the input reads as it did. -/
def windMovesUptoRow : OpenClaim := { program := "ythojeoldjhghpaa", sum := "cc6fbff45e519152cb9ae74c9b4577c52825fd1968f438d1a3ce62bee5e36483", func := "glyphic/glyphiclaw22.WindMoves", spec := "windMoves", apart := false, narrowed := true }
def WindMovesUptoSaid : Prop := windMovesUptoRow.holds Try.pinned (OpenSpec.upto windMovesSpec)

/-- 'glyphiclaw22.WindSplits', WHERE WHAT IT READS IS OF BULK AT MOST 1048576: true; the input reads as it did. -/
def windSplitsUptoRow : OpenClaim := { program := "ythojeoldjhghpaa", sum := "cc6fbff45e519152cb9ae74c9b4577c52825fd1968f438d1a3ce62bee5e36483", func := "glyphic/glyphiclaw22.WindSplits", spec := "windSplits", apart := false, narrowed := true }
def WindSplitsUptoSaid : Prop := windSplitsUptoRow.holds Try.pinned (OpenSpec.upto windSplitsSpec)

/-- 'glyphiclaw16.PaletteApart', WHERE WHAT IT READS IS OF BULK AT MOST 1048576: true; the input reads as it did. -/
def paletteApartUptoRow : OpenClaim := { program := "ythojeoldjhghpaa", sum := "cc6fbff45e519152cb9ae74c9b4577c52825fd1968f438d1a3ce62bee5e36483", func := "glyphic/glyphiclaw16.PaletteApart", spec := "paletteApart", apart := false, narrowed := true }
def PaletteApartUptoSaid : Prop := paletteApartUptoRow.holds Try.pinned (OpenSpec.upto paletteApartSpec)

/-- 'glyphiclaw16.PalettePlays', WHERE WHAT IT READS IS OF BULK AT MOST 1048576: true; the input reads as it did. -/
def palettePlaysUptoRow : OpenClaim := { program := "ythojeoldjhghpaa", sum := "cc6fbff45e519152cb9ae74c9b4577c52825fd1968f438d1a3ce62bee5e36483", func := "glyphic/glyphiclaw16.PalettePlays", spec := "palettePlays", apart := false, narrowed := true }
def PalettePlaysUptoSaid : Prop := palettePlaysUptoRow.holds Try.pinned (OpenSpec.upto palettePlaysSpec)

/-- 'glyphiclaw16.PaletteMost', WHERE WHAT IT READS IS OF BULK AT MOST 1048576: true; the input reads as it did. -/
def paletteMostUptoRow : OpenClaim := { program := "ythojeoldjhghpaa", sum := "cc6fbff45e519152cb9ae74c9b4577c52825fd1968f438d1a3ce62bee5e36483", func := "glyphic/glyphiclaw16.PaletteMost", spec := "paletteMost", apart := false, narrowed := true }
def PaletteMostUptoSaid : Prop := paletteMostUptoRow.holds Try.pinned (OpenSpec.upto paletteMostSpec)

/-- 'glyphiclaw16.PaletteOrder', WHERE WHAT IT READS IS OF BULK AT MOST 1048576: true; the input reads as it did. -/
def paletteOrderUptoRow : OpenClaim := { program := "ythojeoldjhghpaa", sum := "cc6fbff45e519152cb9ae74c9b4577c52825fd1968f438d1a3ce62bee5e36483", func := "glyphic/glyphiclaw16.PaletteOrder", spec := "paletteOrder", apart := false, narrowed := true }
def PaletteOrderUptoSaid : Prop := paletteOrderUptoRow.holds Try.pinned (OpenSpec.upto paletteOrderSpec)

end Rows
end Go.Proofs.Ythojeoldjhghpaa
