/-
  DERIVED. GIVEN WITH THE SEED: THE CARDS: each row of YtfclekegoleiaaaDoorRows.lean that lists a variable, with what it lists TIED to the program's text (the seventh form; the later family's looks); each row that meets fmt, with fmt's text TOLD by the authors' own Lean function (tested against real Go, not proved from fmt's source: count such statements apart). THE CARD IS WHAT COUNTS. Prove the row's statement (the work); the ties are given (YtfclekegoleiaaaDoorTie.lean); close each card by the builder's one call (the guide's Derived/Test/ToyasCard.lean, 'card_holds'). Laid BY PROGRAM, IN A SANDBOX (cutbox-door.mjs). By AI agents, Wed Nov 11 2026. No macro, syntax, notation, axiom, sorry.
-/
import Derived.Test.YtfclekegoleiaaaDoorRows
import GoSem.ClaimSeven
namespace Go.Proofs.YtfclekegoleiaaaDoor
namespace Rows

/-- THE TIED CARD OF 'pandectlaw07.AddressUnique'. -/
def addressUniqueCard : Claim7 := { stood := { row := addressUniqueRow, standIns := [], harness := (true, "9e8e16f5b9e0fbeed945a1a3cf09a84259e8ead2676b723602e1bd82c441d380"), looks := false }, kinds := [], alts := [], laidByText := true, laidKinds := [.data, .widerDeep], laidTests := true, laidLooks := .later }
def AddressUniqueCardSaid : Prop := Claim7.holds Tryd.pinned (.plain (OpenSpec.ofChange addressUniqueSpec)) addressUniqueCard

/-- THE TIED CARD OF 'pandectlaw07.AddressExtend'. -/
def addressExtendCard : Claim7 := { stood := { row := addressExtendRow, standIns := [], harness := (true, "9e8e16f5b9e0fbeed945a1a3cf09a84259e8ead2676b723602e1bd82c441d380"), looks := false }, kinds := [], alts := [], laidByText := true, laidKinds := [.data, .widerDeep], laidTests := true, laidLooks := .later }
def AddressExtendCardSaid : Prop := Claim7.holds Tryd.pinned (.plain (OpenSpec.ofChange addressExtendSpec)) addressExtendCard

/-- THE TIED CARD OF 'pandectlaw07.AddressFormat'. -/
def addressFormatCard : Claim7 := { stood := { row := addressFormatRow, standIns := [], harness := (true, "9e8e16f5b9e0fbeed945a1a3cf09a84259e8ead2676b723602e1bd82c441d380"), looks := false }, kinds := [], alts := [], laidByText := true, laidKinds := [.data, .pinned], laidTests := true, laidLooks := .later }
def AddressFormatCardSaid : Prop := Claim7.holds Tryd.pinned (.plain (OpenSpec.ofChange addressFormatSpec)) addressFormatCard

/-- THE TIED CARD OF 'pandectlaw07.AddressParse'. -/
def addressParseCard : Claim7 := { stood := { row := addressParseRow, standIns := [], harness := (true, "9e8e16f5b9e0fbeed945a1a3cf09a84259e8ead2676b723602e1bd82c441d380"), looks := false }, kinds := [], alts := [], laidByText := true, laidKinds := [.data, .pinned], laidTests := true, laidLooks := .later }
def AddressParseCardSaid : Prop := Claim7.holds Tryd.pinned (.plain (OpenSpec.ofChange addressParseSpec)) addressParseCard

/-- THE SECOND FORM's CARD OF 'pandectlaw07.AddressUnique'. -/
def addressUniqueUptoCard : Claim7 := { stood := { row := addressUniqueUptoRow, standIns := [], harness := (true, "9e8e16f5b9e0fbeed945a1a3cf09a84259e8ead2676b723602e1bd82c441d380"), looks := false }, kinds := [], alts := [], laidByText := true, laidKinds := [.data, .widerDeep], laidTests := true, laidLooks := .later }
def AddressUniqueUptoCardSaid : Prop := Claim7.holds Tryd.pinned (.plain (OpenSpec.upto addressUniqueSpec)) addressUniqueUptoCard

/-- THE SECOND FORM's CARD OF 'pandectlaw07.AddressExtend'. -/
def addressExtendUptoCard : Claim7 := { stood := { row := addressExtendUptoRow, standIns := [], harness := (true, "9e8e16f5b9e0fbeed945a1a3cf09a84259e8ead2676b723602e1bd82c441d380"), looks := false }, kinds := [], alts := [], laidByText := true, laidKinds := [.data, .widerDeep], laidTests := true, laidLooks := .later }
def AddressExtendUptoCardSaid : Prop := Claim7.holds Tryd.pinned (.plain (OpenSpec.upto addressExtendSpec)) addressExtendUptoCard

/-- THE SECOND FORM's CARD OF 'pandectlaw07.AddressFormat'. -/
def addressFormatUptoCard : Claim7 := { stood := { row := addressFormatUptoRow, standIns := [], harness := (true, "9e8e16f5b9e0fbeed945a1a3cf09a84259e8ead2676b723602e1bd82c441d380"), looks := false }, kinds := [], alts := [], laidByText := true, laidKinds := [.data, .pinned], laidTests := true, laidLooks := .later }
def AddressFormatUptoCardSaid : Prop := Claim7.holds Tryd.pinned (.plain (OpenSpec.upto addressFormatSpec)) addressFormatUptoCard

/-- THE SECOND FORM's CARD OF 'pandectlaw07.AddressParse'. -/
def addressParseUptoCard : Claim7 := { stood := { row := addressParseUptoRow, standIns := [], harness := (true, "9e8e16f5b9e0fbeed945a1a3cf09a84259e8ead2676b723602e1bd82c441d380"), looks := false }, kinds := [], alts := [], laidByText := true, laidKinds := [.data, .pinned], laidTests := true, laidLooks := .later }
def AddressParseUptoCardSaid : Prop := Claim7.holds Tryd.pinned (.plain (OpenSpec.upto addressParseSpec)) addressParseUptoCard
end Rows
end Go.Proofs.YtfclekegoleiaaaDoor
