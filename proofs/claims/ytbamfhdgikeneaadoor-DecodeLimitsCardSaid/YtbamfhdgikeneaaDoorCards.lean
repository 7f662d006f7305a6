/-
  DERIVED. GIVEN WITH THE SEED: THE CARDS: each row of YtbamfhdgikeneaaDoorRows.lean that lists a variable, with what it lists TIED to the program's text (the seventh form; the later family's looks); each row that meets fmt, with fmt's text TOLD by the authors' own Lean function (tested against real Go, not proved from fmt's source: count such statements apart). THE CARD IS WHAT COUNTS. Prove the row's statement (the work); the ties are given (YtbamfhdgikeneaaDoorTie.lean); close each card by the builder's one call (the guide's Derived/Test/ToyasCard.lean, 'card_holds'). Laid BY PROGRAM, IN A SANDBOX (cutbox-door.mjs). By AI agents, Wed Nov 11 2026. No macro, syntax, notation, axiom, sorry.
-/
import Derived.Test.YtbamfhdgikeneaaDoorRows
import GoSem.ClaimSeven
namespace Go.Proofs.YtbamfhdgikeneaaDoor
namespace Rows

/-- THE TIED CARD OF 'glyphiclaw5.IconErrors'. -/
def iconErrorsCard : Claim7 := { stood := { row := iconErrorsRow, standIns := [], harness := (true, "7ffa218908aebd7c33a04c0312ddd5e93b19fcaf924b61509f45d553a31a81b8"), looks := true }, kinds := [], alts := [], laidByText := true, laidKinds := [.sentinel, .sentinel, .sentinel, .sentinel, .sentinel, .sentinel, .sentinel, .sentinel, .sentinel, .sentinel, .sentinel, .sentinel, .sentinel], laidTests := true, laidLooks := .later }
def IconErrorsCardSaid : Prop := Claim7.holds Tryd.pinned (.plain (OpenSpec.ofChange iconErrorsSpec)) iconErrorsCard

/-- THE TIED CARD OF 'glyphiclaw5.IconLimits'. -/
def iconLimitsCard : Claim7 := { stood := { row := iconLimitsRow, standIns := [], harness := (true, "7ffa218908aebd7c33a04c0312ddd5e93b19fcaf924b61509f45d553a31a81b8"), looks := true }, kinds := [], alts := [], laidByText := true, laidKinds := [.sentinel, .sentinel, .sentinel, .sentinel, .sentinel, .sentinel, .sentinel, .sentinel, .sentinel, .sentinel, .sentinel, .sentinel, .sentinel], laidTests := true, laidLooks := .later }
def IconLimitsCardSaid : Prop := Claim7.holds Tryd.pinned (.plain (OpenSpec.ofChange iconLimitsSpec)) iconLimitsCard

/-- THE TIED CARD OF 'glyphiclaw5.IconFar'. -/
def iconFarCard : Claim7 := { stood := { row := iconFarRow, standIns := [], harness := (true, "7ffa218908aebd7c33a04c0312ddd5e93b19fcaf924b61509f45d553a31a81b8"), looks := true }, kinds := [], alts := [], laidByText := true, laidKinds := [.sentinel, .sentinel, .sentinel, .sentinel, .sentinel, .sentinel, .sentinel, .sentinel, .sentinel, .sentinel, .sentinel, .sentinel, .sentinel], laidTests := true, laidLooks := .later }
def IconFarCardSaid : Prop := Claim7.holds Tryd.pinned (.plain (OpenSpec.ofChange iconFarSpec)) iconFarCard

/-- THE TIED CARD OF 'glyphiclaw7.DecodeLimits'. -/
def decodeLimitsCard : Claim7 := { stood := { row := decodeLimitsRow, standIns := [], harness := (true, "7ffa218908aebd7c33a04c0312ddd5e93b19fcaf924b61509f45d553a31a81b8"), looks := true }, kinds := [], alts := [], laidByText := true, laidKinds := [.sentinel, .sentinel, .sentinel, .sentinel, .sentinel, .sentinel, .sentinel, .sentinel, .sentinel, .sentinel, .sentinel, .sentinel, .sentinel], laidTests := true, laidLooks := .later }
def DecodeLimitsCardSaid : Prop := Claim7.holds Tryd.pinned (.plain (OpenSpec.ofChange decodeLimitsSpec)) decodeLimitsCard

/-- THE TIED CARD OF 'glyphiclaw6.EncodeSays'. -/
def encodeSaysCard : Claim7 := { stood := { row := encodeSaysRow, standIns := [], harness := (true, "7ffa218908aebd7c33a04c0312ddd5e93b19fcaf924b61509f45d553a31a81b8"), looks := true }, kinds := [], alts := [], laidByText := true, laidKinds := [.sentinel, .sentinel, .sentinel, .sentinel, .sentinel, .sentinel, .sentinel, .sentinel, .sentinel, .sentinel, .sentinel, .sentinel, .sentinel], laidTests := true, laidLooks := .later }
def EncodeSaysCardSaid : Prop := Claim7.holds Tryd.pinned (.plain (OpenSpec.ofChange encodeSaysSpec)) encodeSaysCard

/-- THE TIED CARD OF 'glyphiclaw6.EncodeUnlike'. -/
def encodeUnlikeCard : Claim7 := { stood := { row := encodeUnlikeRow, standIns := [], harness := (true, "7ffa218908aebd7c33a04c0312ddd5e93b19fcaf924b61509f45d553a31a81b8"), looks := true }, kinds := [], alts := [], laidByText := true, laidKinds := [.sentinel, .sentinel, .sentinel], laidTests := true, laidLooks := .later }
def EncodeUnlikeCardSaid : Prop := Claim7.holds Tryd.pinned (.plain (OpenSpec.ofChange encodeUnlikeSpec)) encodeUnlikeCard

/-- THE TIED CARD OF 'glyphiclaw6.EncodeRuns'. -/
def encodeRunsCard : Claim7 := { stood := { row := encodeRunsRow, standIns := [], harness := (true, "7ffa218908aebd7c33a04c0312ddd5e93b19fcaf924b61509f45d553a31a81b8"), looks := true }, kinds := [], alts := [], laidByText := true, laidKinds := [.sentinel, .sentinel, .sentinel], laidTests := true, laidLooks := .later }
def EncodeRunsCardSaid : Prop := Claim7.holds Tryd.pinned (.plain (OpenSpec.ofChange encodeRunsSpec)) encodeRunsCard

/-- THE TIED CARD OF 'glyphiclaw6.EncodeHeads'. -/
def encodeHeadsCard : Claim7 := { stood := { row := encodeHeadsRow, standIns := [], harness := (true, "7ffa218908aebd7c33a04c0312ddd5e93b19fcaf924b61509f45d553a31a81b8"), looks := true }, kinds := [], alts := [], laidByText := true, laidKinds := [.sentinel, .sentinel, .sentinel], laidTests := true, laidLooks := .later }
def EncodeHeadsCardSaid : Prop := Claim7.holds Tryd.pinned (.plain (OpenSpec.ofChange encodeHeadsSpec)) encodeHeadsCard

/-- THE TIED CARD OF 'glyphiclaw6.EncodeShort'. -/
def encodeShortCard : Claim7 := { stood := { row := encodeShortRow, standIns := [], harness := (true, "7ffa218908aebd7c33a04c0312ddd5e93b19fcaf924b61509f45d553a31a81b8"), looks := true }, kinds := [], alts := [], laidByText := true, laidKinds := [.sentinel, .sentinel, .sentinel], laidTests := true, laidLooks := .later }
def EncodeShortCardSaid : Prop := Claim7.holds Tryd.pinned (.plain (OpenSpec.ofChange encodeShortSpec)) encodeShortCard

/-- THE TIED CARD OF 'glyphiclaw12.NamesSay'. -/
def namesSayCard : Claim7 := { stood := { row := namesSayRow, standIns := [], harness := (true, "7ffa218908aebd7c33a04c0312ddd5e93b19fcaf924b61509f45d553a31a81b8"), looks := true }, kinds := [], alts := [], laidByText := true, laidKinds := [.data, .data, .data, .sentinel, .sentinel, .sentinel, .sentinel, .sentinel, .sentinel, .sentinel, .sentinel, .sentinel, .sentinel, .sentinel, .sentinel, .sentinel], laidTests := true, laidLooks := .later }
def NamesSayCardSaid : Prop := Claim7.holds Tryd.pinned (.plain (OpenSpec.ofChange namesSaySpec)) namesSayCard

/-- THE TIED CARD OF 'glyphiclaw7.DecodeBack'. -/
def decodeBackCard : Claim7 := { stood := { row := decodeBackRow, standIns := [], harness := (true, "7ffa218908aebd7c33a04c0312ddd5e93b19fcaf924b61509f45d553a31a81b8"), looks := true }, kinds := [], alts := [], laidByText := true, laidKinds := [.sentinel, .sentinel, .sentinel, .sentinel, .sentinel, .sentinel, .sentinel, .sentinel, .sentinel, .sentinel, .sentinel, .sentinel, .sentinel], laidTests := true, laidLooks := .later }
def DecodeBackCardSaid : Prop := Claim7.holds Tryd.pinned (.plain (OpenSpec.ofChange decodeBackSpec)) decodeBackCard

/-- THE TIED CARD OF 'glyphiclaw7.DecodeOne'. -/
def decodeOneCard : Claim7 := { stood := { row := decodeOneRow, standIns := [], harness := (true, "7ffa218908aebd7c33a04c0312ddd5e93b19fcaf924b61509f45d553a31a81b8"), looks := true }, kinds := [], alts := [], laidByText := true, laidKinds := [.sentinel, .sentinel, .sentinel, .sentinel, .sentinel, .sentinel, .sentinel, .sentinel, .sentinel, .sentinel, .sentinel, .sentinel, .sentinel], laidTests := true, laidLooks := .later }
def DecodeOneCardSaid : Prop := Claim7.holds Tryd.pinned (.plain (OpenSpec.ofChange decodeOneSpec)) decodeOneCard

/-- THE SECOND FORM's CARD OF 'glyphiclaw5.IconErrors'. -/
def iconErrorsUptoCard : Claim7 := { stood := { row := iconErrorsUptoRow, standIns := [], harness := (true, "7ffa218908aebd7c33a04c0312ddd5e93b19fcaf924b61509f45d553a31a81b8"), looks := true }, kinds := [], alts := [], laidByText := true, laidKinds := [.sentinel, .sentinel, .sentinel, .sentinel, .sentinel, .sentinel, .sentinel, .sentinel, .sentinel, .sentinel, .sentinel, .sentinel, .sentinel], laidTests := true, laidLooks := .later }
def IconErrorsUptoCardSaid : Prop := Claim7.holds Tryd.pinned (.plain (OpenSpec.upto iconErrorsSpec)) iconErrorsUptoCard

/-- THE SECOND FORM's CARD OF 'glyphiclaw5.IconLimits'. -/
def iconLimitsUptoCard : Claim7 := { stood := { row := iconLimitsUptoRow, standIns := [], harness := (true, "7ffa218908aebd7c33a04c0312ddd5e93b19fcaf924b61509f45d553a31a81b8"), looks := true }, kinds := [], alts := [], laidByText := true, laidKinds := [.sentinel, .sentinel, .sentinel, .sentinel, .sentinel, .sentinel, .sentinel, .sentinel, .sentinel, .sentinel, .sentinel, .sentinel, .sentinel], laidTests := true, laidLooks := .later }
def IconLimitsUptoCardSaid : Prop := Claim7.holds Tryd.pinned (.plain (OpenSpec.upto iconLimitsSpec)) iconLimitsUptoCard

/-- THE SECOND FORM's CARD OF 'glyphiclaw5.IconFar'. -/
def iconFarUptoCard : Claim7 := { stood := { row := iconFarUptoRow, standIns := [], harness := (true, "7ffa218908aebd7c33a04c0312ddd5e93b19fcaf924b61509f45d553a31a81b8"), looks := true }, kinds := [], alts := [], laidByText := true, laidKinds := [.sentinel, .sentinel, .sentinel, .sentinel, .sentinel, .sentinel, .sentinel, .sentinel, .sentinel, .sentinel, .sentinel, .sentinel, .sentinel], laidTests := true, laidLooks := .later }
def IconFarUptoCardSaid : Prop := Claim7.holds Tryd.pinned (.plain (OpenSpec.upto iconFarSpec)) iconFarUptoCard

/-- THE SECOND FORM's CARD OF 'glyphiclaw7.DecodeLimits'. -/
def decodeLimitsUptoCard : Claim7 := { stood := { row := decodeLimitsUptoRow, standIns := [], harness := (true, "7ffa218908aebd7c33a04c0312ddd5e93b19fcaf924b61509f45d553a31a81b8"), looks := true }, kinds := [], alts := [], laidByText := true, laidKinds := [.sentinel, .sentinel, .sentinel, .sentinel, .sentinel, .sentinel, .sentinel, .sentinel, .sentinel, .sentinel, .sentinel, .sentinel, .sentinel], laidTests := true, laidLooks := .later }
def DecodeLimitsUptoCardSaid : Prop := Claim7.holds Tryd.pinned (.plain (OpenSpec.upto decodeLimitsSpec)) decodeLimitsUptoCard

/-- THE SECOND FORM's CARD OF 'glyphiclaw6.EncodeSays'. -/
def encodeSaysUptoCard : Claim7 := { stood := { row := encodeSaysUptoRow, standIns := [], harness := (true, "7ffa218908aebd7c33a04c0312ddd5e93b19fcaf924b61509f45d553a31a81b8"), looks := true }, kinds := [], alts := [], laidByText := true, laidKinds := [.sentinel, .sentinel, .sentinel, .sentinel, .sentinel, .sentinel, .sentinel, .sentinel, .sentinel, .sentinel, .sentinel, .sentinel, .sentinel], laidTests := true, laidLooks := .later }
def EncodeSaysUptoCardSaid : Prop := Claim7.holds Tryd.pinned (.plain (OpenSpec.upto encodeSaysSpec)) encodeSaysUptoCard

/-- THE SECOND FORM's CARD OF 'glyphiclaw6.EncodeUnlike'. -/
def encodeUnlikeUptoCard : Claim7 := { stood := { row := encodeUnlikeUptoRow, standIns := [], harness := (true, "7ffa218908aebd7c33a04c0312ddd5e93b19fcaf924b61509f45d553a31a81b8"), looks := true }, kinds := [], alts := [], laidByText := true, laidKinds := [.sentinel, .sentinel, .sentinel], laidTests := true, laidLooks := .later }
def EncodeUnlikeUptoCardSaid : Prop := Claim7.holds Tryd.pinned (.plain (OpenSpec.upto encodeUnlikeSpec)) encodeUnlikeUptoCard

/-- THE SECOND FORM's CARD OF 'glyphiclaw6.EncodeRuns'. -/
def encodeRunsUptoCard : Claim7 := { stood := { row := encodeRunsUptoRow, standIns := [], harness := (true, "7ffa218908aebd7c33a04c0312ddd5e93b19fcaf924b61509f45d553a31a81b8"), looks := true }, kinds := [], alts := [], laidByText := true, laidKinds := [.sentinel, .sentinel, .sentinel], laidTests := true, laidLooks := .later }
def EncodeRunsUptoCardSaid : Prop := Claim7.holds Tryd.pinned (.plain (OpenSpec.upto encodeRunsSpec)) encodeRunsUptoCard

/-- THE SECOND FORM's CARD OF 'glyphiclaw6.EncodeHeads'. -/
def encodeHeadsUptoCard : Claim7 := { stood := { row := encodeHeadsUptoRow, standIns := [], harness := (true, "7ffa218908aebd7c33a04c0312ddd5e93b19fcaf924b61509f45d553a31a81b8"), looks := true }, kinds := [], alts := [], laidByText := true, laidKinds := [.sentinel, .sentinel, .sentinel], laidTests := true, laidLooks := .later }
def EncodeHeadsUptoCardSaid : Prop := Claim7.holds Tryd.pinned (.plain (OpenSpec.upto encodeHeadsSpec)) encodeHeadsUptoCard

/-- THE SECOND FORM's CARD OF 'glyphiclaw6.EncodeShort'. -/
def encodeShortUptoCard : Claim7 := { stood := { row := encodeShortUptoRow, standIns := [], harness := (true, "7ffa218908aebd7c33a04c0312ddd5e93b19fcaf924b61509f45d553a31a81b8"), looks := true }, kinds := [], alts := [], laidByText := true, laidKinds := [.sentinel, .sentinel, .sentinel], laidTests := true, laidLooks := .later }
def EncodeShortUptoCardSaid : Prop := Claim7.holds Tryd.pinned (.plain (OpenSpec.upto encodeShortSpec)) encodeShortUptoCard

/-- THE SECOND FORM's CARD OF 'glyphiclaw12.NamesSay'. -/
def namesSayUptoCard : Claim7 := { stood := { row := namesSayUptoRow, standIns := [], harness := (true, "7ffa218908aebd7c33a04c0312ddd5e93b19fcaf924b61509f45d553a31a81b8"), looks := true }, kinds := [], alts := [], laidByText := true, laidKinds := [.data, .data, .data, .sentinel, .sentinel, .sentinel, .sentinel, .sentinel, .sentinel, .sentinel, .sentinel, .sentinel, .sentinel, .sentinel, .sentinel, .sentinel], laidTests := true, laidLooks := .later }
def NamesSayUptoCardSaid : Prop := Claim7.holds Tryd.pinned (.plain (OpenSpec.upto namesSaySpec)) namesSayUptoCard

/-- THE SECOND FORM's CARD OF 'glyphiclaw7.DecodeBack'. -/
def decodeBackUptoCard : Claim7 := { stood := { row := decodeBackUptoRow, standIns := [], harness := (true, "7ffa218908aebd7c33a04c0312ddd5e93b19fcaf924b61509f45d553a31a81b8"), looks := true }, kinds := [], alts := [], laidByText := true, laidKinds := [.sentinel, .sentinel, .sentinel, .sentinel, .sentinel, .sentinel, .sentinel, .sentinel, .sentinel, .sentinel, .sentinel, .sentinel, .sentinel], laidTests := true, laidLooks := .later }
def DecodeBackUptoCardSaid : Prop := Claim7.holds Tryd.pinned (.plain (OpenSpec.upto decodeBackSpec)) decodeBackUptoCard

/-- THE SECOND FORM's CARD OF 'glyphiclaw7.DecodeOne'. -/
def decodeOneUptoCard : Claim7 := { stood := { row := decodeOneUptoRow, standIns := [], harness := (true, "7ffa218908aebd7c33a04c0312ddd5e93b19fcaf924b61509f45d553a31a81b8"), looks := true }, kinds := [], alts := [], laidByText := true, laidKinds := [.sentinel, .sentinel, .sentinel, .sentinel, .sentinel, .sentinel, .sentinel, .sentinel, .sentinel, .sentinel, .sentinel, .sentinel, .sentinel], laidTests := true, laidLooks := .later }
def DecodeOneUptoCardSaid : Prop := Claim7.holds Tryd.pinned (.plain (OpenSpec.upto decodeOneSpec)) decodeOneUptoCard
end Rows
end Go.Proofs.YtbamfhdgikeneaaDoor
