/-
  DERIVED. GIVEN WITH THE SEED: THE CARDS: each row of YtdhdpidjdadamaaDoorRows.lean that lists a variable, with what it lists TIED to the program's text (the seventh form; the later family's looks); each row that meets fmt, with fmt's text TOLD by the authors' own Lean function (tested against real Go, not proved from fmt's source: count such statements apart). THE CARD IS WHAT COUNTS. Prove the row's statement (the work); the ties are given (YtdhdpidjdadamaaDoorTie.lean); close each card by the builder's one call (the guide's Derived/Test/ToyasCard.lean, 'card_holds'). Laid BY PROGRAM, IN A SANDBOX (cutbox-door.mjs). By AI agents, Wed Nov 11 2026. No macro, syntax, notation, axiom, sorry.
-/
import Derived.Test.YtdhdpidjdadamaaDoorRows
import GoSem.ClaimSeven
namespace Go.Proofs.YtdhdpidjdadamaaDoor
namespace Rows

/-- THE TIED CARD OF 'ndjqlaw10.FlexLimits'. -/
def flexLimitsCard : Claim7 := { stood := { row := flexLimitsRow, standIns := [], harness := (true, "9cf53b08365b41b6402fd9e82afb65aef850108d5a8f5a6189ca019cc0c44fe9"), looks := false }, kinds := [], alts := [], laidByText := true, laidKinds := [.listed, .data], laidTests := true, laidLooks := .later }
def FlexLimitsCardSaid : Prop := Claim7.holds Tryd.pinned (.plain (OpenSpec.ofChange flexLimitsSpec)) flexLimitsCard

/-- THE TIED CARD OF 'ndjqlaw10.FlexOrder'. -/
def flexOrderCard : Claim7 := { stood := { row := flexOrderRow, standIns := [], harness := (true, "9cf53b08365b41b6402fd9e82afb65aef850108d5a8f5a6189ca019cc0c44fe9"), looks := false }, kinds := [], alts := [], laidByText := true, laidKinds := [.listed, .data], laidTests := true, laidLooks := .later }
def FlexOrderCardSaid : Prop := Claim7.holds Tryd.pinned (.plain (OpenSpec.ofChange flexOrderSpec)) flexOrderCard

/-- THE TIED CARD OF 'ndjqlaw10.FlexSpaces'. -/
def flexSpacesCard : Claim7 := { stood := { row := flexSpacesRow, standIns := [], harness := (true, "9cf53b08365b41b6402fd9e82afb65aef850108d5a8f5a6189ca019cc0c44fe9"), looks := false }, kinds := [], alts := [], laidByText := true, laidKinds := [.listed, .data], laidTests := true, laidLooks := .later }
def FlexSpacesCardSaid : Prop := Claim7.holds Tryd.pinned (.plain (OpenSpec.ofChange flexSpacesSpec)) flexSpacesCard

/-- THE TIED CARD OF 'ndjqlaw10.FlexLex'. -/
def flexLexCard : Claim7 := { stood := { row := flexLexRow, standIns := [], harness := (true, "9cf53b08365b41b6402fd9e82afb65aef850108d5a8f5a6189ca019cc0c44fe9"), looks := false }, kinds := [], alts := [], laidByText := true, laidKinds := [.listed, .data], laidTests := true, laidLooks := .later }
def FlexLexCardSaid : Prop := Claim7.holds Tryd.pinned (.plain (OpenSpec.ofChange flexLexSpec)) flexLexCard

/-- THE TIED CARD OF 'ndjqlaw10.FlexNames'. -/
def flexNamesCard : Claim7 := { stood := { row := flexNamesRow, standIns := [], harness := (true, "9cf53b08365b41b6402fd9e82afb65aef850108d5a8f5a6189ca019cc0c44fe9"), looks := false }, kinds := [], alts := [], laidByText := true, laidKinds := [.listed, .data], laidTests := true, laidLooks := .later }
def FlexNamesCardSaid : Prop := Claim7.holds Tryd.pinned (.plain (OpenSpec.ofChange flexNamesSpec)) flexNamesCard

/-- THE SECOND FORM's CARD OF 'ndjqlaw10.FlexLimits'. -/
def flexLimitsUptoCard : Claim7 := { stood := { row := flexLimitsUptoRow, standIns := [], harness := (true, "9cf53b08365b41b6402fd9e82afb65aef850108d5a8f5a6189ca019cc0c44fe9"), looks := false }, kinds := [], alts := [], laidByText := true, laidKinds := [.listed, .data], laidTests := true, laidLooks := .later }
def FlexLimitsUptoCardSaid : Prop := Claim7.holds Tryd.pinned (.plain (OpenSpec.upto flexLimitsSpec)) flexLimitsUptoCard

/-- THE SECOND FORM's CARD OF 'ndjqlaw10.FlexOrder'. -/
def flexOrderUptoCard : Claim7 := { stood := { row := flexOrderUptoRow, standIns := [], harness := (true, "9cf53b08365b41b6402fd9e82afb65aef850108d5a8f5a6189ca019cc0c44fe9"), looks := false }, kinds := [], alts := [], laidByText := true, laidKinds := [.listed, .data], laidTests := true, laidLooks := .later }
def FlexOrderUptoCardSaid : Prop := Claim7.holds Tryd.pinned (.plain (OpenSpec.upto flexOrderSpec)) flexOrderUptoCard

/-- THE SECOND FORM's CARD OF 'ndjqlaw10.FlexSpaces'. -/
def flexSpacesUptoCard : Claim7 := { stood := { row := flexSpacesUptoRow, standIns := [], harness := (true, "9cf53b08365b41b6402fd9e82afb65aef850108d5a8f5a6189ca019cc0c44fe9"), looks := false }, kinds := [], alts := [], laidByText := true, laidKinds := [.listed, .data], laidTests := true, laidLooks := .later }
def FlexSpacesUptoCardSaid : Prop := Claim7.holds Tryd.pinned (.plain (OpenSpec.upto flexSpacesSpec)) flexSpacesUptoCard

/-- THE SECOND FORM's CARD OF 'ndjqlaw10.FlexLex'. -/
def flexLexUptoCard : Claim7 := { stood := { row := flexLexUptoRow, standIns := [], harness := (true, "9cf53b08365b41b6402fd9e82afb65aef850108d5a8f5a6189ca019cc0c44fe9"), looks := false }, kinds := [], alts := [], laidByText := true, laidKinds := [.listed, .data], laidTests := true, laidLooks := .later }
def FlexLexUptoCardSaid : Prop := Claim7.holds Tryd.pinned (.plain (OpenSpec.upto flexLexSpec)) flexLexUptoCard

/-- THE SECOND FORM's CARD OF 'ndjqlaw10.FlexNames'. -/
def flexNamesUptoCard : Claim7 := { stood := { row := flexNamesUptoRow, standIns := [], harness := (true, "9cf53b08365b41b6402fd9e82afb65aef850108d5a8f5a6189ca019cc0c44fe9"), looks := false }, kinds := [], alts := [], laidByText := true, laidKinds := [.listed, .data], laidTests := true, laidLooks := .later }
def FlexNamesUptoCardSaid : Prop := Claim7.holds Tryd.pinned (.plain (OpenSpec.upto flexNamesSpec)) flexNamesUptoCard
end Rows
end Go.Proofs.YtdhdpidjdadamaaDoor
