/-
  DERIVED. GIVEN WITH THE SEED: THE CARDS: each row of YthojeoldjhghpabDoorRows.lean that lists a variable, with what it lists TIED to the program's text (the seventh form; the later family's looks); each row that meets fmt, with fmt's text TOLD by the authors' own Lean function (tested against real Go, not proved from fmt's source: count such statements apart). THE CARD IS WHAT COUNTS. Prove the row's statement (the work); the ties are given (YthojeoldjhghpabDoorTie.lean); close each card by the builder's one call (the guide's Derived/Test/ToyasCard.lean, 'card_holds'). Laid BY PROGRAM, IN A SANDBOX (cutbox-door.mjs). By AI agents, Wed Nov 11 2026. No macro, syntax, notation, axiom, sorry.
-/
import Derived.Test.YthojeoldjhghpabDoorRows
import GoSem.ClaimSeven
namespace Go.Proofs.YthojeoldjhghpabDoor
namespace Rows

/-- THE TIED CARD OF 'glyphiclaw3.ColorBack'. -/
def colorBackCard : Claim7 := { stood := { row := colorBackRow, standIns := [], harness := (true, "27cb98580f924e76fd1eb82e335c52a130f615028f89c753f2997f08e8d88705"), looks := true }, kinds := [], alts := [], laidByText := true, laidKinds := [.sentinel], laidTests := true, laidLooks := .later }
def ColorBackCardSaid : Prop := Claim7.holds Tryd.pinned (.plain (OpenSpec.ofChange colorBackSpec)) colorBackCard

/-- THE TIED CARD OF 'glyphiclaw3.ColorWrong'. -/
def colorWrongCard : Claim7 := { stood := { row := colorWrongRow, standIns := [], harness := (true, "27cb98580f924e76fd1eb82e335c52a130f615028f89c753f2997f08e8d88705"), looks := true }, kinds := [], alts := [], laidByText := true, laidKinds := [.sentinel], laidTests := true, laidLooks := .later }
def ColorWrongCardSaid : Prop := Claim7.holds Tryd.pinned (.plain (OpenSpec.ofChange colorWrongSpec)) colorWrongCard

/-- THE TIED CARD OF 'glyphiclaw3.ColorSays'. -/
def colorSaysCard : Claim7 := { stood := { row := colorSaysRow, standIns := [], harness := (true, "27cb98580f924e76fd1eb82e335c52a130f615028f89c753f2997f08e8d88705"), looks := true }, kinds := [], alts := [], laidByText := true, laidKinds := [.sentinel, .sentinel, .sentinel, .sentinel, .sentinel, .sentinel, .sentinel, .sentinel, .sentinel, .sentinel, .sentinel, .sentinel, .sentinel], laidTests := true, laidLooks := .later }
def ColorSaysCardSaid : Prop := Claim7.holds Tryd.pinned (.plain (OpenSpec.ofChange colorSaysSpec)) colorSaysCard

/-- THE TIED CARD OF 'glyphiclaw2.WireOne'. -/
def wireOneCard : Claim7 := { stood := { row := wireOneRow, standIns := [], harness := (true, "27cb98580f924e76fd1eb82e335c52a130f615028f89c753f2997f08e8d88705"), looks := true }, kinds := [], alts := [], laidByText := true, laidKinds := [.sentinel, .sentinel, .sentinel, .sentinel, .sentinel, .sentinel, .sentinel, .sentinel, .sentinel, .sentinel, .sentinel, .sentinel, .sentinel], laidTests := true, laidLooks := .later }
def WireOneCardSaid : Prop := Claim7.holds Tryd.pinned (.plain (OpenSpec.ofChange wireOneSpec)) wireOneCard

/-- THE TIED CARD OF 'glyphiclaw2.WireRows'. -/
def wireRowsCard : Claim7 := { stood := { row := wireRowsRow, standIns := [], harness := (true, "27cb98580f924e76fd1eb82e335c52a130f615028f89c753f2997f08e8d88705"), looks := true }, kinds := [], alts := [], laidByText := true, laidKinds := [.sentinel, .sentinel, .sentinel, .sentinel, .sentinel, .sentinel, .sentinel, .sentinel, .sentinel, .sentinel, .sentinel, .sentinel, .sentinel], laidTests := true, laidLooks := .later }
def WireRowsCardSaid : Prop := Claim7.holds Tryd.pinned (.plain (OpenSpec.ofChange wireRowsSpec)) wireRowsCard

/-- THE TIED CARD OF 'glyphiclaw2.WireBack'. -/
def wireBackCard : Claim7 := { stood := { row := wireBackRow, standIns := [], harness := (true, "27cb98580f924e76fd1eb82e335c52a130f615028f89c753f2997f08e8d88705"), looks := true }, kinds := [], alts := [], laidByText := true, laidKinds := [.sentinel, .sentinel, .sentinel, .sentinel, .sentinel, .sentinel, .sentinel, .sentinel, .sentinel, .sentinel, .sentinel, .sentinel, .sentinel], laidTests := true, laidLooks := .later }
def WireBackCardSaid : Prop := Claim7.holds Tryd.pinned (.plain (OpenSpec.ofChange wireBackSpec)) wireBackCard

/-- THE TIED CARD OF 'glyphiclaw12.NamesFind'. -/
def namesFindCard : Claim7 := { stood := { row := namesFindRow, standIns := [], harness := (true, "27cb98580f924e76fd1eb82e335c52a130f615028f89c753f2997f08e8d88705"), looks := true }, kinds := [], alts := [], laidByText := true, laidKinds := [.sentinel, .sentinel, .sentinel, .sentinel, .sentinel, .sentinel, .sentinel, .sentinel, .sentinel, .sentinel, .sentinel, .sentinel, .sentinel], laidTests := true, laidLooks := .later }
def NamesFindCardSaid : Prop := Claim7.holds Tryd.pinned (.plain (OpenSpec.ofChange namesFindSpec)) namesFindCard

/-- THE TIED CARD OF 'glyphiclaw12.NamesTwice'. -/
def namesTwiceCard : Claim7 := { stood := { row := namesTwiceRow, standIns := [], harness := (true, "27cb98580f924e76fd1eb82e335c52a130f615028f89c753f2997f08e8d88705"), looks := true }, kinds := [], alts := [], laidByText := true, laidKinds := [.sentinel, .sentinel, .sentinel, .sentinel, .sentinel, .sentinel, .sentinel, .sentinel, .sentinel, .sentinel, .sentinel, .sentinel, .sentinel], laidTests := true, laidLooks := .later }
def NamesTwiceCardSaid : Prop := Claim7.holds Tryd.pinned (.plain (OpenSpec.ofChange namesTwiceSpec)) namesTwiceCard

/-- THE SECOND FORM's CARD OF 'glyphiclaw3.ColorBack'. -/
def colorBackUptoCard : Claim7 := { stood := { row := colorBackUptoRow, standIns := [], harness := (true, "27cb98580f924e76fd1eb82e335c52a130f615028f89c753f2997f08e8d88705"), looks := true }, kinds := [], alts := [], laidByText := true, laidKinds := [.sentinel], laidTests := true, laidLooks := .later }
def ColorBackUptoCardSaid : Prop := Claim7.holds Tryd.pinned (.plain (OpenSpec.upto colorBackSpec)) colorBackUptoCard

/-- THE SECOND FORM's CARD OF 'glyphiclaw3.ColorWrong'. -/
def colorWrongUptoCard : Claim7 := { stood := { row := colorWrongUptoRow, standIns := [], harness := (true, "27cb98580f924e76fd1eb82e335c52a130f615028f89c753f2997f08e8d88705"), looks := true }, kinds := [], alts := [], laidByText := true, laidKinds := [.sentinel], laidTests := true, laidLooks := .later }
def ColorWrongUptoCardSaid : Prop := Claim7.holds Tryd.pinned (.plain (OpenSpec.upto colorWrongSpec)) colorWrongUptoCard

/-- THE SECOND FORM's CARD OF 'glyphiclaw3.ColorSays'. -/
def colorSaysUptoCard : Claim7 := { stood := { row := colorSaysUptoRow, standIns := [], harness := (true, "27cb98580f924e76fd1eb82e335c52a130f615028f89c753f2997f08e8d88705"), looks := true }, kinds := [], alts := [], laidByText := true, laidKinds := [.sentinel, .sentinel, .sentinel, .sentinel, .sentinel, .sentinel, .sentinel, .sentinel, .sentinel, .sentinel, .sentinel, .sentinel, .sentinel], laidTests := true, laidLooks := .later }
def ColorSaysUptoCardSaid : Prop := Claim7.holds Tryd.pinned (.plain (OpenSpec.upto colorSaysSpec)) colorSaysUptoCard

/-- THE SECOND FORM's CARD OF 'glyphiclaw2.WireOne'. -/
def wireOneUptoCard : Claim7 := { stood := { row := wireOneUptoRow, standIns := [], harness := (true, "27cb98580f924e76fd1eb82e335c52a130f615028f89c753f2997f08e8d88705"), looks := true }, kinds := [], alts := [], laidByText := true, laidKinds := [.sentinel, .sentinel, .sentinel, .sentinel, .sentinel, .sentinel, .sentinel, .sentinel, .sentinel, .sentinel, .sentinel, .sentinel, .sentinel], laidTests := true, laidLooks := .later }
def WireOneUptoCardSaid : Prop := Claim7.holds Tryd.pinned (.plain (OpenSpec.upto wireOneSpec)) wireOneUptoCard

/-- THE SECOND FORM's CARD OF 'glyphiclaw2.WireRows'. -/
def wireRowsUptoCard : Claim7 := { stood := { row := wireRowsUptoRow, standIns := [], harness := (true, "27cb98580f924e76fd1eb82e335c52a130f615028f89c753f2997f08e8d88705"), looks := true }, kinds := [], alts := [], laidByText := true, laidKinds := [.sentinel, .sentinel, .sentinel, .sentinel, .sentinel, .sentinel, .sentinel, .sentinel, .sentinel, .sentinel, .sentinel, .sentinel, .sentinel], laidTests := true, laidLooks := .later }
def WireRowsUptoCardSaid : Prop := Claim7.holds Tryd.pinned (.plain (OpenSpec.upto wireRowsSpec)) wireRowsUptoCard

/-- THE SECOND FORM's CARD OF 'glyphiclaw2.WireBack'. -/
def wireBackUptoCard : Claim7 := { stood := { row := wireBackUptoRow, standIns := [], harness := (true, "27cb98580f924e76fd1eb82e335c52a130f615028f89c753f2997f08e8d88705"), looks := true }, kinds := [], alts := [], laidByText := true, laidKinds := [.sentinel, .sentinel, .sentinel, .sentinel, .sentinel, .sentinel, .sentinel, .sentinel, .sentinel, .sentinel, .sentinel, .sentinel, .sentinel], laidTests := true, laidLooks := .later }
def WireBackUptoCardSaid : Prop := Claim7.holds Tryd.pinned (.plain (OpenSpec.upto wireBackSpec)) wireBackUptoCard

/-- THE SECOND FORM's CARD OF 'glyphiclaw12.NamesFind'. -/
def namesFindUptoCard : Claim7 := { stood := { row := namesFindUptoRow, standIns := [], harness := (true, "27cb98580f924e76fd1eb82e335c52a130f615028f89c753f2997f08e8d88705"), looks := true }, kinds := [], alts := [], laidByText := true, laidKinds := [.sentinel, .sentinel, .sentinel, .sentinel, .sentinel, .sentinel, .sentinel, .sentinel, .sentinel, .sentinel, .sentinel, .sentinel, .sentinel], laidTests := true, laidLooks := .later }
def NamesFindUptoCardSaid : Prop := Claim7.holds Tryd.pinned (.plain (OpenSpec.upto namesFindSpec)) namesFindUptoCard

/-- THE SECOND FORM's CARD OF 'glyphiclaw12.NamesTwice'. -/
def namesTwiceUptoCard : Claim7 := { stood := { row := namesTwiceUptoRow, standIns := [], harness := (true, "27cb98580f924e76fd1eb82e335c52a130f615028f89c753f2997f08e8d88705"), looks := true }, kinds := [], alts := [], laidByText := true, laidKinds := [.sentinel, .sentinel, .sentinel, .sentinel, .sentinel, .sentinel, .sentinel, .sentinel, .sentinel, .sentinel, .sentinel, .sentinel, .sentinel], laidTests := true, laidLooks := .later }
def NamesTwiceUptoCardSaid : Prop := Claim7.holds Tryd.pinned (.plain (OpenSpec.upto namesTwiceSpec)) namesTwiceUptoCard
end Rows
end Go.Proofs.YthojeoldjhghpabDoor
