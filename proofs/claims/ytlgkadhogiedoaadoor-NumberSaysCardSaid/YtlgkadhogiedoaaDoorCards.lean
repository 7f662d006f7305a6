/-
  DERIVED. GIVEN WITH THE SEED: THE CARDS: each row of YtlgkadhogiedoaaDoorRows.lean that lists a variable, with what it lists TIED to the program's text (the seventh form; the later family's looks); each row that meets fmt, with fmt's text TOLD by the authors' own Lean function (tested against real Go, not proved from fmt's source: count such statements apart). THE CARD IS WHAT COUNTS. Prove the row's statement (the work); the ties are given (YtlgkadhogiedoaaDoorTie.lean); close each card by the builder's one call (the guide's Derived/Test/ToyasCard.lean, 'card_holds'). Laid BY PROGRAM, IN A SANDBOX (cutbox-door.mjs). By AI agents, Wed Nov 11 2026. No macro, syntax, notation, axiom, sorry.
-/
import Derived.Test.YtlgkadhogiedoaaDoorRows
import GoSem.ClaimSeven
namespace Go.Proofs.YtlgkadhogiedoaaDoor
namespace Rows

/-- THE TIED CARD OF 'glyphiclaw9.NumberSays'. -/
def numberSaysCard : Claim7 := { stood := { row := numberSaysRow, standIns := [], harness := (true, "96448139849bc8aac708955e6d2fd9360411ffe875ceae259970ba19916fdf3d"), looks := true }, kinds := [], alts := [], laidByText := true, laidKinds := [.data, .data, .data, .data, .sentinel, .sentinel, .sentinel, .sentinel, .sentinel, .sentinel, .sentinel, .sentinel, .sentinel, .sentinel, .sentinel, .sentinel, .sentinel, .sentinel, .sentinel, .pinned], laidTests := true, laidLooks := .later }
def NumberSaysCardSaid : Prop := Claim7.holds Tryd.pinned (.plain (OpenSpec.ofChange numberSaysSpec)) numberSaysCard

/-- THE TIED CARD OF 'glyphiclaw8.WordSays'. -/
def wordSaysCard : Claim7 := { stood := { row := wordSaysRow, standIns := [], harness := (true, "96448139849bc8aac708955e6d2fd9360411ffe875ceae259970ba19916fdf3d"), looks := true }, kinds := [], alts := [], laidByText := true, laidKinds := [.data, .data, .data, .sentinel, .sentinel, .sentinel, .sentinel, .sentinel, .sentinel, .sentinel, .sentinel, .sentinel, .sentinel, .sentinel, .sentinel, .sentinel, .listed, .data], laidTests := true, laidLooks := .later }
def WordSaysCardSaid : Prop := Claim7.holds Tryd.pinned (.plain (OpenSpec.ofChange wordSaysSpec)) wordSaysCard

/-- THE TIED CARD OF 'glyphiclaw12.NamesSay'. -/
def namesSayCard : Claim7 := { stood := { row := namesSayRow, standIns := [], harness := (true, "96448139849bc8aac708955e6d2fd9360411ffe875ceae259970ba19916fdf3d"), looks := true }, kinds := [], alts := [], laidByText := true, laidKinds := [.data, .data, .data, .sentinel, .sentinel, .sentinel, .sentinel, .sentinel, .sentinel, .sentinel, .sentinel, .sentinel, .sentinel, .sentinel, .sentinel, .sentinel], laidTests := true, laidLooks := .later }
def NamesSayCardSaid : Prop := Claim7.holds Tryd.pinned (.plain (OpenSpec.ofChange namesSaySpec)) namesSayCard

/-- THE TIED CARD OF 'glyphiclaw6.EncodeSays'. -/
def encodeSaysCard : Claim7 := { stood := { row := encodeSaysRow, standIns := [], harness := (true, "96448139849bc8aac708955e6d2fd9360411ffe875ceae259970ba19916fdf3d"), looks := true }, kinds := [], alts := [], laidByText := true, laidKinds := [.sentinel, .sentinel, .sentinel, .sentinel, .sentinel, .sentinel, .sentinel, .sentinel, .sentinel, .sentinel, .sentinel, .sentinel, .sentinel], laidTests := true, laidLooks := .later }
def EncodeSaysCardSaid : Prop := Claim7.holds Tryd.pinned (.plain (OpenSpec.ofChange encodeSaysSpec)) encodeSaysCard

/-- THE TIED CARD OF 'glyphiclaw7.DecodeOne'. -/
def decodeOneCard : Claim7 := { stood := { row := decodeOneRow, standIns := [], harness := (true, "96448139849bc8aac708955e6d2fd9360411ffe875ceae259970ba19916fdf3d"), looks := true }, kinds := [], alts := [], laidByText := true, laidKinds := [.sentinel, .sentinel, .sentinel, .sentinel, .sentinel, .sentinel, .sentinel, .sentinel, .sentinel, .sentinel, .sentinel, .sentinel, .sentinel], laidTests := true, laidLooks := .later }
def DecodeOneCardSaid : Prop := Claim7.holds Tryd.pinned (.plain (OpenSpec.ofChange decodeOneSpec)) decodeOneCard

/-- THE SECOND FORM's CARD OF 'glyphiclaw9.NumberSays'. -/
def numberSaysUptoCard : Claim7 := { stood := { row := numberSaysUptoRow, standIns := [], harness := (true, "96448139849bc8aac708955e6d2fd9360411ffe875ceae259970ba19916fdf3d"), looks := true }, kinds := [], alts := [], laidByText := true, laidKinds := [.data, .data, .data, .data, .sentinel, .sentinel, .sentinel, .sentinel, .sentinel, .sentinel, .sentinel, .sentinel, .sentinel, .sentinel, .sentinel, .sentinel, .sentinel, .sentinel, .sentinel, .pinned], laidTests := true, laidLooks := .later }
def NumberSaysUptoCardSaid : Prop := Claim7.holds Tryd.pinned (.plain (OpenSpec.upto numberSaysSpec)) numberSaysUptoCard

/-- THE SECOND FORM's CARD OF 'glyphiclaw8.WordSays'. -/
def wordSaysUptoCard : Claim7 := { stood := { row := wordSaysUptoRow, standIns := [], harness := (true, "96448139849bc8aac708955e6d2fd9360411ffe875ceae259970ba19916fdf3d"), looks := true }, kinds := [], alts := [], laidByText := true, laidKinds := [.data, .data, .data, .sentinel, .sentinel, .sentinel, .sentinel, .sentinel, .sentinel, .sentinel, .sentinel, .sentinel, .sentinel, .sentinel, .sentinel, .sentinel, .listed, .data], laidTests := true, laidLooks := .later }
def WordSaysUptoCardSaid : Prop := Claim7.holds Tryd.pinned (.plain (OpenSpec.upto wordSaysSpec)) wordSaysUptoCard

/-- THE SECOND FORM's CARD OF 'glyphiclaw12.NamesSay'. -/
def namesSayUptoCard : Claim7 := { stood := { row := namesSayUptoRow, standIns := [], harness := (true, "96448139849bc8aac708955e6d2fd9360411ffe875ceae259970ba19916fdf3d"), looks := true }, kinds := [], alts := [], laidByText := true, laidKinds := [.data, .data, .data, .sentinel, .sentinel, .sentinel, .sentinel, .sentinel, .sentinel, .sentinel, .sentinel, .sentinel, .sentinel, .sentinel, .sentinel, .sentinel], laidTests := true, laidLooks := .later }
def NamesSayUptoCardSaid : Prop := Claim7.holds Tryd.pinned (.plain (OpenSpec.upto namesSaySpec)) namesSayUptoCard

/-- THE SECOND FORM's CARD OF 'glyphiclaw6.EncodeSays'. -/
def encodeSaysUptoCard : Claim7 := { stood := { row := encodeSaysUptoRow, standIns := [], harness := (true, "96448139849bc8aac708955e6d2fd9360411ffe875ceae259970ba19916fdf3d"), looks := true }, kinds := [], alts := [], laidByText := true, laidKinds := [.sentinel, .sentinel, .sentinel, .sentinel, .sentinel, .sentinel, .sentinel, .sentinel, .sentinel, .sentinel, .sentinel, .sentinel, .sentinel], laidTests := true, laidLooks := .later }
def EncodeSaysUptoCardSaid : Prop := Claim7.holds Tryd.pinned (.plain (OpenSpec.upto encodeSaysSpec)) encodeSaysUptoCard

/-- THE SECOND FORM's CARD OF 'glyphiclaw7.DecodeOne'. -/
def decodeOneUptoCard : Claim7 := { stood := { row := decodeOneUptoRow, standIns := [], harness := (true, "96448139849bc8aac708955e6d2fd9360411ffe875ceae259970ba19916fdf3d"), looks := true }, kinds := [], alts := [], laidByText := true, laidKinds := [.sentinel, .sentinel, .sentinel, .sentinel, .sentinel, .sentinel, .sentinel, .sentinel, .sentinel, .sentinel, .sentinel, .sentinel, .sentinel], laidTests := true, laidLooks := .later }
def DecodeOneUptoCardSaid : Prop := Claim7.holds Tryd.pinned (.plain (OpenSpec.upto decodeOneSpec)) decodeOneUptoCard
end Rows
end Go.Proofs.YtlgkadhogiedoaaDoor
