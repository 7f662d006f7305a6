/-
  DERIVED. GIVEN WITH THE SEED: THE CARDS: each row of YtpobcoodmhhpaaaDoorRows.lean that lists a variable, with what it lists TIED to the program's text (the seventh form; the later family's looks); each row that meets fmt, with fmt's text TOLD by the authors' own Lean function (tested against real Go, not proved from fmt's source: count such statements apart). THE CARD IS WHAT COUNTS. Prove the row's statement (the work); the ties are given (YtpobcoodmhhpaaaDoorTie.lean); close each card by the builder's one call (the guide's Derived/Test/ToyasCard.lean, 'card_holds'). Laid BY PROGRAM, IN A SANDBOX (cutbox-door.mjs). By AI agents, Wed Nov 11 2026. No macro, syntax, notation, axiom, sorry.
-/
import Derived.Test.YtpobcoodmhhpaaaDoorRows
import GoSem.ClaimSeven
namespace Go.Proofs.YtpobcoodmhhpaaaDoor
namespace Rows

/-- THE TIED CARD OF 'glyphiclaw8.WordRows'. -/
def wordRowsCard : Claim7 := { stood := { row := wordRowsRow, standIns := [], harness := (true, "663a72f386526b381305e4642627f2cfa9267a9bc7fa2801866390db917929bd"), looks := true }, kinds := [], alts := [], laidByText := true, laidKinds := [.sentinel, .sentinel, .listed, .data], laidTests := true, laidLooks := .later }
def WordRowsCardSaid : Prop := Claim7.holds Tryd.pinned (.plain (OpenSpec.ofChange wordRowsSpec)) wordRowsCard

/-- THE TIED CARD OF 'glyphiclaw8.WordErrors'. -/
def wordErrorsCard : Claim7 := { stood := { row := wordErrorsRow, standIns := [], harness := (true, "663a72f386526b381305e4642627f2cfa9267a9bc7fa2801866390db917929bd"), looks := true }, kinds := [], alts := [], laidByText := true, laidKinds := [.sentinel, .sentinel, .sentinel, .sentinel, .sentinel, .sentinel, .sentinel, .sentinel, .sentinel, .sentinel, .sentinel, .sentinel, .sentinel, .listed, .data], laidTests := true, laidLooks := .later }
def WordErrorsCardSaid : Prop := Claim7.holds Tryd.pinned (.plain (OpenSpec.ofChange wordErrorsSpec)) wordErrorsCard

/-- THE TIED CARD OF 'glyphiclaw8.WordNames'. -/
def wordNamesCard : Claim7 := { stood := { row := wordNamesRow, standIns := [], harness := (true, "663a72f386526b381305e4642627f2cfa9267a9bc7fa2801866390db917929bd"), looks := true }, kinds := [], alts := [], laidByText := true, laidKinds := [.sentinel, .sentinel, .sentinel, .sentinel, .sentinel, .sentinel, .sentinel, .sentinel, .sentinel, .sentinel, .sentinel, .sentinel, .sentinel, .listed, .data], laidTests := true, laidLooks := .later }
def WordNamesCardSaid : Prop := Claim7.holds Tryd.pinned (.plain (OpenSpec.ofChange wordNamesSpec)) wordNamesCard

/-- THE TIED CARD OF 'glyphiclaw8.WordSays'. -/
def wordSaysCard : Claim7 := { stood := { row := wordSaysRow, standIns := [], harness := (true, "663a72f386526b381305e4642627f2cfa9267a9bc7fa2801866390db917929bd"), looks := true }, kinds := [], alts := [], laidByText := true, laidKinds := [.data, .data, .data, .sentinel, .sentinel, .sentinel, .sentinel, .sentinel, .sentinel, .sentinel, .sentinel, .sentinel, .sentinel, .sentinel, .sentinel, .sentinel, .listed, .data], laidTests := true, laidLooks := .later }
def WordSaysCardSaid : Prop := Claim7.holds Tryd.pinned (.plain (OpenSpec.ofChange wordSaysSpec)) wordSaysCard

/-- THE TIED CARD OF 'glyphiclaw9.NumberSays'. -/
def numberSaysCard : Claim7 := { stood := { row := numberSaysRow, standIns := [], harness := (true, "663a72f386526b381305e4642627f2cfa9267a9bc7fa2801866390db917929bd"), looks := true }, kinds := [], alts := [], laidByText := true, laidKinds := [.data, .data, .data, .data, .sentinel, .sentinel, .sentinel, .sentinel, .sentinel, .sentinel, .sentinel, .sentinel, .sentinel, .sentinel, .sentinel, .sentinel, .sentinel, .sentinel, .sentinel, .pinned], laidTests := true, laidLooks := .later }
def NumberSaysCardSaid : Prop := Claim7.holds Tryd.pinned (.plain (OpenSpec.ofChange numberSaysSpec)) numberSaysCard

/-- THE TIED CARD OF 'glyphiclaw9.NumberBack'. -/
def numberBackCard : Claim7 := { stood := { row := numberBackRow, standIns := [], harness := (true, "663a72f386526b381305e4642627f2cfa9267a9bc7fa2801866390db917929bd"), looks := true }, kinds := [], alts := [], laidByText := true, laidKinds := [.data, .data, .data, .data, .sentinel, .sentinel, .sentinel, .pinned], laidTests := true, laidLooks := .later }
def NumberBackCardSaid : Prop := Claim7.holds Tryd.pinned (.plain (OpenSpec.ofChange numberBackSpec)) numberBackCard

/-- THE TIED CARD OF 'glyphiclaw9.NumberParts'. -/
def numberPartsCard : Claim7 := { stood := { row := numberPartsRow, standIns := [], harness := (true, "663a72f386526b381305e4642627f2cfa9267a9bc7fa2801866390db917929bd"), looks := true }, kinds := [], alts := [], laidByText := true, laidKinds := [.data, .data, .data, .data, .sentinel, .sentinel, .sentinel, .pinned], laidTests := true, laidLooks := .later }
def NumberPartsCardSaid : Prop := Claim7.holds Tryd.pinned (.plain (OpenSpec.ofChange numberPartsSpec)) numberPartsCard

/-- THE TIED CARD OF 'glyphiclaw9.NumberWrong'. -/
def numberWrongCard : Claim7 := { stood := { row := numberWrongRow, standIns := [], harness := (true, "663a72f386526b381305e4642627f2cfa9267a9bc7fa2801866390db917929bd"), looks := true }, kinds := [], alts := [], laidByText := true, laidKinds := [.data, .data, .data, .data, .sentinel, .sentinel, .sentinel, .sentinel, .sentinel, .sentinel, .sentinel, .sentinel, .sentinel, .sentinel, .sentinel, .sentinel, .sentinel, .sentinel, .sentinel, .pinned], laidTests := true, laidLooks := .later }
def NumberWrongCardSaid : Prop := Claim7.holds Tryd.pinned (.plain (OpenSpec.ofChange numberWrongSpec)) numberWrongCard

/-- THE SECOND FORM's CARD OF 'glyphiclaw8.WordRows'. -/
def wordRowsUptoCard : Claim7 := { stood := { row := wordRowsUptoRow, standIns := [], harness := (true, "663a72f386526b381305e4642627f2cfa9267a9bc7fa2801866390db917929bd"), looks := true }, kinds := [], alts := [], laidByText := true, laidKinds := [.sentinel, .sentinel, .listed, .data], laidTests := true, laidLooks := .later }
def WordRowsUptoCardSaid : Prop := Claim7.holds Tryd.pinned (.plain (OpenSpec.upto wordRowsSpec)) wordRowsUptoCard

/-- THE SECOND FORM's CARD OF 'glyphiclaw8.WordErrors'. -/
def wordErrorsUptoCard : Claim7 := { stood := { row := wordErrorsUptoRow, standIns := [], harness := (true, "663a72f386526b381305e4642627f2cfa9267a9bc7fa2801866390db917929bd"), looks := true }, kinds := [], alts := [], laidByText := true, laidKinds := [.sentinel, .sentinel, .sentinel, .sentinel, .sentinel, .sentinel, .sentinel, .sentinel, .sentinel, .sentinel, .sentinel, .sentinel, .sentinel, .listed, .data], laidTests := true, laidLooks := .later }
def WordErrorsUptoCardSaid : Prop := Claim7.holds Tryd.pinned (.plain (OpenSpec.upto wordErrorsSpec)) wordErrorsUptoCard

/-- THE SECOND FORM's CARD OF 'glyphiclaw8.WordNames'. -/
def wordNamesUptoCard : Claim7 := { stood := { row := wordNamesUptoRow, standIns := [], harness := (true, "663a72f386526b381305e4642627f2cfa9267a9bc7fa2801866390db917929bd"), looks := true }, kinds := [], alts := [], laidByText := true, laidKinds := [.sentinel, .sentinel, .sentinel, .sentinel, .sentinel, .sentinel, .sentinel, .sentinel, .sentinel, .sentinel, .sentinel, .sentinel, .sentinel, .listed, .data], laidTests := true, laidLooks := .later }
def WordNamesUptoCardSaid : Prop := Claim7.holds Tryd.pinned (.plain (OpenSpec.upto wordNamesSpec)) wordNamesUptoCard

/-- THE SECOND FORM's CARD OF 'glyphiclaw8.WordSays'. -/
def wordSaysUptoCard : Claim7 := { stood := { row := wordSaysUptoRow, standIns := [], harness := (true, "663a72f386526b381305e4642627f2cfa9267a9bc7fa2801866390db917929bd"), looks := true }, kinds := [], alts := [], laidByText := true, laidKinds := [.data, .data, .data, .sentinel, .sentinel, .sentinel, .sentinel, .sentinel, .sentinel, .sentinel, .sentinel, .sentinel, .sentinel, .sentinel, .sentinel, .sentinel, .listed, .data], laidTests := true, laidLooks := .later }
def WordSaysUptoCardSaid : Prop := Claim7.holds Tryd.pinned (.plain (OpenSpec.upto wordSaysSpec)) wordSaysUptoCard

/-- THE SECOND FORM's CARD OF 'glyphiclaw9.NumberSays'. -/
def numberSaysUptoCard : Claim7 := { stood := { row := numberSaysUptoRow, standIns := [], harness := (true, "663a72f386526b381305e4642627f2cfa9267a9bc7fa2801866390db917929bd"), looks := true }, kinds := [], alts := [], laidByText := true, laidKinds := [.data, .data, .data, .data, .sentinel, .sentinel, .sentinel, .sentinel, .sentinel, .sentinel, .sentinel, .sentinel, .sentinel, .sentinel, .sentinel, .sentinel, .sentinel, .sentinel, .sentinel, .pinned], laidTests := true, laidLooks := .later }
def NumberSaysUptoCardSaid : Prop := Claim7.holds Tryd.pinned (.plain (OpenSpec.upto numberSaysSpec)) numberSaysUptoCard

/-- THE SECOND FORM's CARD OF 'glyphiclaw9.NumberBack'. -/
def numberBackUptoCard : Claim7 := { stood := { row := numberBackUptoRow, standIns := [], harness := (true, "663a72f386526b381305e4642627f2cfa9267a9bc7fa2801866390db917929bd"), looks := true }, kinds := [], alts := [], laidByText := true, laidKinds := [.data, .data, .data, .data, .sentinel, .sentinel, .sentinel, .pinned], laidTests := true, laidLooks := .later }
def NumberBackUptoCardSaid : Prop := Claim7.holds Tryd.pinned (.plain (OpenSpec.upto numberBackSpec)) numberBackUptoCard

/-- THE SECOND FORM's CARD OF 'glyphiclaw9.NumberParts'. -/
def numberPartsUptoCard : Claim7 := { stood := { row := numberPartsUptoRow, standIns := [], harness := (true, "663a72f386526b381305e4642627f2cfa9267a9bc7fa2801866390db917929bd"), looks := true }, kinds := [], alts := [], laidByText := true, laidKinds := [.data, .data, .data, .data, .sentinel, .sentinel, .sentinel, .pinned], laidTests := true, laidLooks := .later }
def NumberPartsUptoCardSaid : Prop := Claim7.holds Tryd.pinned (.plain (OpenSpec.upto numberPartsSpec)) numberPartsUptoCard

/-- THE SECOND FORM's CARD OF 'glyphiclaw9.NumberWrong'. -/
def numberWrongUptoCard : Claim7 := { stood := { row := numberWrongUptoRow, standIns := [], harness := (true, "663a72f386526b381305e4642627f2cfa9267a9bc7fa2801866390db917929bd"), looks := true }, kinds := [], alts := [], laidByText := true, laidKinds := [.data, .data, .data, .data, .sentinel, .sentinel, .sentinel, .sentinel, .sentinel, .sentinel, .sentinel, .sentinel, .sentinel, .sentinel, .sentinel, .sentinel, .sentinel, .sentinel, .sentinel, .pinned], laidTests := true, laidLooks := .later }
def NumberWrongUptoCardSaid : Prop := Claim7.holds Tryd.pinned (.plain (OpenSpec.upto numberWrongSpec)) numberWrongUptoCard
end Rows
end Go.Proofs.YtpobcoodmhhpaaaDoor
