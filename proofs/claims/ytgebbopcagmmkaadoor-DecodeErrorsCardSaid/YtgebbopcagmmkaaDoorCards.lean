/-
  DERIVED. GIVEN WITH THE SEED: THE CARDS: each row of YtgebbopcagmmkaaDoorRows.lean that lists a variable, with what it lists TIED to the program's text (the seventh form; the later family's looks); each row that meets fmt, with fmt's text TOLD by the authors' own Lean function (tested against real Go, not proved from fmt's source: count such statements apart). THE CARD IS WHAT COUNTS. Prove the row's statement (the work); the ties are given (YtgebbopcagmmkaaDoorTie.lean); close each card by the builder's one call (the guide's Derived/Test/ToyasCard.lean, 'card_holds'). Laid BY PROGRAM, IN A SANDBOX (cutbox-door.mjs). By AI agents, Wed Nov 11 2026. No macro, syntax, notation, axiom, sorry.
-/
import Derived.Test.YtgebbopcagmmkaaDoorRows
import GoSem.ClaimSeven
namespace Go.Proofs.YtgebbopcagmmkaaDoor
namespace Rows

/-- THE TIED CARD OF 'glyphiclaw7.DecodeErrors'. -/
def decodeErrorsCard : Claim7 := { stood := { row := decodeErrorsRow, standIns := [], harness := (true, "cfbadf800c6a32d8252fc5588d59b17306c9b14a686e4b7db39c120f4b7a4c0a"), looks := true }, kinds := [], alts := [], laidByText := true, laidKinds := [.sentinel, .sentinel, .sentinel, .sentinel, .sentinel, .sentinel, .sentinel, .sentinel, .sentinel, .sentinel, .sentinel, .sentinel, .sentinel], laidTests := true, laidLooks := .later }
def DecodeErrorsCardSaid : Prop := Claim7.holds Tryd.pinned (.plain (OpenSpec.ofChange decodeErrorsSpec)) decodeErrorsCard

/-- THE TIED CARD OF 'glyphiclaw8.WordErrors'. -/
def wordErrorsCard : Claim7 := { stood := { row := wordErrorsRow, standIns := [], harness := (true, "cfbadf800c6a32d8252fc5588d59b17306c9b14a686e4b7db39c120f4b7a4c0a"), looks := true }, kinds := [], alts := [], laidByText := true, laidKinds := [.sentinel, .sentinel, .sentinel, .sentinel, .sentinel, .sentinel, .sentinel, .sentinel, .sentinel, .sentinel, .sentinel, .sentinel, .sentinel, .listed, .data], laidTests := true, laidLooks := .later }
def WordErrorsCardSaid : Prop := Claim7.holds Tryd.pinned (.plain (OpenSpec.ofChange wordErrorsSpec)) wordErrorsCard

/-- THE TIED CARD OF 'glyphiclaw8.WordNames'. -/
def wordNamesCard : Claim7 := { stood := { row := wordNamesRow, standIns := [], harness := (true, "cfbadf800c6a32d8252fc5588d59b17306c9b14a686e4b7db39c120f4b7a4c0a"), looks := true }, kinds := [], alts := [], laidByText := true, laidKinds := [.sentinel, .sentinel, .sentinel, .sentinel, .sentinel, .sentinel, .sentinel, .sentinel, .sentinel, .sentinel, .sentinel, .sentinel, .sentinel, .listed, .data], laidTests := true, laidLooks := .later }
def WordNamesCardSaid : Prop := Claim7.holds Tryd.pinned (.plain (OpenSpec.ofChange wordNamesSpec)) wordNamesCard

/-- THE TIED CARD OF 'glyphiclaw9.NumberWrong'. -/
def numberWrongCard : Claim7 := { stood := { row := numberWrongRow, standIns := [], harness := (true, "cfbadf800c6a32d8252fc5588d59b17306c9b14a686e4b7db39c120f4b7a4c0a"), looks := true }, kinds := [], alts := [], laidByText := true, laidKinds := [.data, .data, .data, .data, .sentinel, .sentinel, .sentinel, .sentinel, .sentinel, .sentinel, .sentinel, .sentinel, .sentinel, .sentinel, .sentinel, .sentinel, .sentinel, .sentinel, .sentinel, .pinned], laidTests := true, laidLooks := .later }
def NumberWrongCardSaid : Prop := Claim7.holds Tryd.pinned (.plain (OpenSpec.ofChange numberWrongSpec)) numberWrongCard

/-- THE TIED CARD OF 'glyphiclaw5.IconLimits'. -/
def iconLimitsCard : Claim7 := { stood := { row := iconLimitsRow, standIns := [], harness := (true, "cfbadf800c6a32d8252fc5588d59b17306c9b14a686e4b7db39c120f4b7a4c0a"), looks := true }, kinds := [], alts := [], laidByText := true, laidKinds := [.sentinel, .sentinel, .sentinel, .sentinel, .sentinel, .sentinel, .sentinel, .sentinel, .sentinel, .sentinel, .sentinel, .sentinel, .sentinel], laidTests := true, laidLooks := .later }
def IconLimitsCardSaid : Prop := Claim7.holds Tryd.pinned (.plain (OpenSpec.ofChange iconLimitsSpec)) iconLimitsCard

/-- THE TIED CARD OF 'glyphiclaw7.DecodeLimits'. -/
def decodeLimitsCard : Claim7 := { stood := { row := decodeLimitsRow, standIns := [], harness := (true, "cfbadf800c6a32d8252fc5588d59b17306c9b14a686e4b7db39c120f4b7a4c0a"), looks := true }, kinds := [], alts := [], laidByText := true, laidKinds := [.sentinel, .sentinel, .sentinel, .sentinel, .sentinel, .sentinel, .sentinel, .sentinel, .sentinel, .sentinel, .sentinel, .sentinel, .sentinel], laidTests := true, laidLooks := .later }
def DecodeLimitsCardSaid : Prop := Claim7.holds Tryd.pinned (.plain (OpenSpec.ofChange decodeLimitsSpec)) decodeLimitsCard

/-- THE SECOND FORM's CARD OF 'glyphiclaw7.DecodeErrors'. -/
def decodeErrorsUptoCard : Claim7 := { stood := { row := decodeErrorsUptoRow, standIns := [], harness := (true, "cfbadf800c6a32d8252fc5588d59b17306c9b14a686e4b7db39c120f4b7a4c0a"), looks := true }, kinds := [], alts := [], laidByText := true, laidKinds := [.sentinel, .sentinel, .sentinel, .sentinel, .sentinel, .sentinel, .sentinel, .sentinel, .sentinel, .sentinel, .sentinel, .sentinel, .sentinel], laidTests := true, laidLooks := .later }
def DecodeErrorsUptoCardSaid : Prop := Claim7.holds Tryd.pinned (.plain (OpenSpec.upto decodeErrorsSpec)) decodeErrorsUptoCard

/-- THE SECOND FORM's CARD OF 'glyphiclaw8.WordErrors'. -/
def wordErrorsUptoCard : Claim7 := { stood := { row := wordErrorsUptoRow, standIns := [], harness := (true, "cfbadf800c6a32d8252fc5588d59b17306c9b14a686e4b7db39c120f4b7a4c0a"), looks := true }, kinds := [], alts := [], laidByText := true, laidKinds := [.sentinel, .sentinel, .sentinel, .sentinel, .sentinel, .sentinel, .sentinel, .sentinel, .sentinel, .sentinel, .sentinel, .sentinel, .sentinel, .listed, .data], laidTests := true, laidLooks := .later }
def WordErrorsUptoCardSaid : Prop := Claim7.holds Tryd.pinned (.plain (OpenSpec.upto wordErrorsSpec)) wordErrorsUptoCard

/-- THE SECOND FORM's CARD OF 'glyphiclaw8.WordNames'. -/
def wordNamesUptoCard : Claim7 := { stood := { row := wordNamesUptoRow, standIns := [], harness := (true, "cfbadf800c6a32d8252fc5588d59b17306c9b14a686e4b7db39c120f4b7a4c0a"), looks := true }, kinds := [], alts := [], laidByText := true, laidKinds := [.sentinel, .sentinel, .sentinel, .sentinel, .sentinel, .sentinel, .sentinel, .sentinel, .sentinel, .sentinel, .sentinel, .sentinel, .sentinel, .listed, .data], laidTests := true, laidLooks := .later }
def WordNamesUptoCardSaid : Prop := Claim7.holds Tryd.pinned (.plain (OpenSpec.upto wordNamesSpec)) wordNamesUptoCard

/-- THE SECOND FORM's CARD OF 'glyphiclaw9.NumberWrong'. -/
def numberWrongUptoCard : Claim7 := { stood := { row := numberWrongUptoRow, standIns := [], harness := (true, "cfbadf800c6a32d8252fc5588d59b17306c9b14a686e4b7db39c120f4b7a4c0a"), looks := true }, kinds := [], alts := [], laidByText := true, laidKinds := [.data, .data, .data, .data, .sentinel, .sentinel, .sentinel, .sentinel, .sentinel, .sentinel, .sentinel, .sentinel, .sentinel, .sentinel, .sentinel, .sentinel, .sentinel, .sentinel, .sentinel, .pinned], laidTests := true, laidLooks := .later }
def NumberWrongUptoCardSaid : Prop := Claim7.holds Tryd.pinned (.plain (OpenSpec.upto numberWrongSpec)) numberWrongUptoCard

/-- THE SECOND FORM's CARD OF 'glyphiclaw5.IconLimits'. -/
def iconLimitsUptoCard : Claim7 := { stood := { row := iconLimitsUptoRow, standIns := [], harness := (true, "cfbadf800c6a32d8252fc5588d59b17306c9b14a686e4b7db39c120f4b7a4c0a"), looks := true }, kinds := [], alts := [], laidByText := true, laidKinds := [.sentinel, .sentinel, .sentinel, .sentinel, .sentinel, .sentinel, .sentinel, .sentinel, .sentinel, .sentinel, .sentinel, .sentinel, .sentinel], laidTests := true, laidLooks := .later }
def IconLimitsUptoCardSaid : Prop := Claim7.holds Tryd.pinned (.plain (OpenSpec.upto iconLimitsSpec)) iconLimitsUptoCard

/-- THE SECOND FORM's CARD OF 'glyphiclaw7.DecodeLimits'. -/
def decodeLimitsUptoCard : Claim7 := { stood := { row := decodeLimitsUptoRow, standIns := [], harness := (true, "cfbadf800c6a32d8252fc5588d59b17306c9b14a686e4b7db39c120f4b7a4c0a"), looks := true }, kinds := [], alts := [], laidByText := true, laidKinds := [.sentinel, .sentinel, .sentinel, .sentinel, .sentinel, .sentinel, .sentinel, .sentinel, .sentinel, .sentinel, .sentinel, .sentinel, .sentinel], laidTests := true, laidLooks := .later }
def DecodeLimitsUptoCardSaid : Prop := Claim7.holds Tryd.pinned (.plain (OpenSpec.upto decodeLimitsSpec)) decodeLimitsUptoCard
end Rows
end Go.Proofs.YtgebbopcagmmkaaDoor
