/-
  DERIVED. GIVEN WITH THE SEED: THE CARDS: each row of YtdnemlcoeecbjaaDoorRows.lean that lists a variable, with what it lists TIED to the program's text (the seventh form; the later family's looks); each row that meets fmt, with fmt's text TOLD by the authors' own Lean function (tested against real Go, not proved from fmt's source: count such statements apart). THE CARD IS WHAT COUNTS. Prove the row's statement (the work); the ties are given (YtdnemlcoeecbjaaDoorTie.lean); close each card by the builder's one call (the guide's Derived/Test/ToyasCard.lean, 'card_holds'). Laid BY PROGRAM, IN A SANDBOX (cutbox-door.mjs). By AI agents, Wed Nov 11 2026. No macro, syntax, notation, axiom, sorry.
-/
import Derived.Test.YtdnemlcoeecbjaaDoorRows
import GoSem.ClaimSeven
namespace Go.Proofs.YtdnemlcoeecbjaaDoor
namespace Rows

/-- THE TIED CARD OF 'pandectlaw47.DestinationsLookup'. -/
def destinationsLookupCard : Claim7 := { stood := { row := destinationsLookupRow, standIns := [], harness := (true, "b1b6016252456fd99f0fe2ea7f36725cd4cc6f64e18bb9aa5ebd9d02e807cfba"), looks := true }, kinds := [], alts := [], laidByText := true, laidKinds := [.data, .data, .data], laidTests := true, laidLooks := .later }
def DestinationsLookupCardSaid : Prop := Claim7.holds Tryd.pinned (.plain (OpenSpec.ofChange destinationsLookupSpec)) destinationsLookupCard

/-- THE TIED CARD OF 'pandectlaw47.DestinationsInvert'. -/
def destinationsInvertCard : Claim7 := { stood := { row := destinationsInvertRow, standIns := [], harness := (true, "b1b6016252456fd99f0fe2ea7f36725cd4cc6f64e18bb9aa5ebd9d02e807cfba"), looks := true }, kinds := [], alts := [], laidByText := true, laidKinds := [.data, .data, .data], laidTests := true, laidLooks := .later }
def DestinationsInvertCardSaid : Prop := Claim7.holds Tryd.pinned (.plain (OpenSpec.ofChange destinationsInvertSpec)) destinationsInvertCard

/-- THE TIED CARD OF 'pandectlaw47.DestinationsCompose'. -/
def destinationsComposeCard : Claim7 := { stood := { row := destinationsComposeRow, standIns := [], harness := (true, "b1b6016252456fd99f0fe2ea7f36725cd4cc6f64e18bb9aa5ebd9d02e807cfba"), looks := true }, kinds := [], alts := [], laidByText := true, laidKinds := [.data, .data, .data], laidTests := true, laidLooks := .later }
def DestinationsComposeCardSaid : Prop := Claim7.holds Tryd.pinned (.plain (OpenSpec.ofChange destinationsComposeSpec)) destinationsComposeCard

/-- THE TIED CARD OF 'pandectlaw47.DestinationsIdentity'. -/
def destinationsIdentityCard : Claim7 := { stood := { row := destinationsIdentityRow, standIns := [], harness := (true, "b1b6016252456fd99f0fe2ea7f36725cd4cc6f64e18bb9aa5ebd9d02e807cfba"), looks := true }, kinds := [], alts := [], laidByText := true, laidKinds := [.data, .data, .data], laidTests := true, laidLooks := .later }
def DestinationsIdentityCardSaid : Prop := Claim7.holds Tryd.pinned (.plain (OpenSpec.ofChange destinationsIdentitySpec)) destinationsIdentityCard

/-- THE TIED CARD OF 'pandectlaw47.DestinationsNames'. -/
def destinationsNamesCard : Claim7 := { stood := { row := destinationsNamesRow, standIns := [], harness := (true, "b1b6016252456fd99f0fe2ea7f36725cd4cc6f64e18bb9aa5ebd9d02e807cfba"), looks := true }, kinds := [], alts := [], laidByText := true, laidKinds := [.data, .data, .data], laidTests := true, laidLooks := .later }
def DestinationsNamesCardSaid : Prop := Claim7.holds Tryd.pinned (.plain (OpenSpec.ofChange destinationsNamesSpec)) destinationsNamesCard

/-- THE TIED CARD OF 'pandectlaw47.DestinationsParse'. -/
def destinationsParseCard : Claim7 := { stood := { row := destinationsParseRow, standIns := [], harness := (true, "b1b6016252456fd99f0fe2ea7f36725cd4cc6f64e18bb9aa5ebd9d02e807cfba"), looks := true }, kinds := [], alts := [], laidByText := true, laidKinds := [.data, .data, .data, .data, .sentinel, .sentinel, .pinned], laidTests := true, laidLooks := .later }
def DestinationsParseCardSaid : Prop := Claim7.holds Tryd.pinned (.plain (OpenSpec.ofChange destinationsParseSpec)) destinationsParseCard

/-- THE TIED CARD OF 'pandectlaw47.DestinationsFormat'. -/
def destinationsFormatCard : Claim7 := { stood := { row := destinationsFormatRow, standIns := [], harness := (true, "b1b6016252456fd99f0fe2ea7f36725cd4cc6f64e18bb9aa5ebd9d02e807cfba"), looks := true }, kinds := [], alts := [], laidByText := true, laidKinds := [.data, .data, .data, .data, .sentinel, .sentinel, .pinned], laidTests := true, laidLooks := .later }
def DestinationsFormatCardSaid : Prop := Claim7.holds Tryd.pinned (.plain (OpenSpec.ofChange destinationsFormatSpec)) destinationsFormatCard

/-- THE SECOND FORM's CARD OF 'pandectlaw47.DestinationsLookup'. -/
def destinationsLookupUptoCard : Claim7 := { stood := { row := destinationsLookupUptoRow, standIns := [], harness := (true, "b1b6016252456fd99f0fe2ea7f36725cd4cc6f64e18bb9aa5ebd9d02e807cfba"), looks := true }, kinds := [], alts := [], laidByText := true, laidKinds := [.data, .data, .data], laidTests := true, laidLooks := .later }
def DestinationsLookupUptoCardSaid : Prop := Claim7.holds Tryd.pinned (.plain (OpenSpec.upto destinationsLookupSpec)) destinationsLookupUptoCard

/-- THE SECOND FORM's CARD OF 'pandectlaw47.DestinationsInvert'. -/
def destinationsInvertUptoCard : Claim7 := { stood := { row := destinationsInvertUptoRow, standIns := [], harness := (true, "b1b6016252456fd99f0fe2ea7f36725cd4cc6f64e18bb9aa5ebd9d02e807cfba"), looks := true }, kinds := [], alts := [], laidByText := true, laidKinds := [.data, .data, .data], laidTests := true, laidLooks := .later }
def DestinationsInvertUptoCardSaid : Prop := Claim7.holds Tryd.pinned (.plain (OpenSpec.upto destinationsInvertSpec)) destinationsInvertUptoCard

/-- THE SECOND FORM's CARD OF 'pandectlaw47.DestinationsCompose'. -/
def destinationsComposeUptoCard : Claim7 := { stood := { row := destinationsComposeUptoRow, standIns := [], harness := (true, "b1b6016252456fd99f0fe2ea7f36725cd4cc6f64e18bb9aa5ebd9d02e807cfba"), looks := true }, kinds := [], alts := [], laidByText := true, laidKinds := [.data, .data, .data], laidTests := true, laidLooks := .later }
def DestinationsComposeUptoCardSaid : Prop := Claim7.holds Tryd.pinned (.plain (OpenSpec.upto destinationsComposeSpec)) destinationsComposeUptoCard

/-- THE SECOND FORM's CARD OF 'pandectlaw47.DestinationsIdentity'. -/
def destinationsIdentityUptoCard : Claim7 := { stood := { row := destinationsIdentityUptoRow, standIns := [], harness := (true, "b1b6016252456fd99f0fe2ea7f36725cd4cc6f64e18bb9aa5ebd9d02e807cfba"), looks := true }, kinds := [], alts := [], laidByText := true, laidKinds := [.data, .data, .data], laidTests := true, laidLooks := .later }
def DestinationsIdentityUptoCardSaid : Prop := Claim7.holds Tryd.pinned (.plain (OpenSpec.upto destinationsIdentitySpec)) destinationsIdentityUptoCard

/-- THE SECOND FORM's CARD OF 'pandectlaw47.DestinationsNames'. -/
def destinationsNamesUptoCard : Claim7 := { stood := { row := destinationsNamesUptoRow, standIns := [], harness := (true, "b1b6016252456fd99f0fe2ea7f36725cd4cc6f64e18bb9aa5ebd9d02e807cfba"), looks := true }, kinds := [], alts := [], laidByText := true, laidKinds := [.data, .data, .data], laidTests := true, laidLooks := .later }
def DestinationsNamesUptoCardSaid : Prop := Claim7.holds Tryd.pinned (.plain (OpenSpec.upto destinationsNamesSpec)) destinationsNamesUptoCard

/-- THE SECOND FORM's CARD OF 'pandectlaw47.DestinationsParse'. -/
def destinationsParseUptoCard : Claim7 := { stood := { row := destinationsParseUptoRow, standIns := [], harness := (true, "b1b6016252456fd99f0fe2ea7f36725cd4cc6f64e18bb9aa5ebd9d02e807cfba"), looks := true }, kinds := [], alts := [], laidByText := true, laidKinds := [.data, .data, .data, .data, .sentinel, .sentinel, .pinned], laidTests := true, laidLooks := .later }
def DestinationsParseUptoCardSaid : Prop := Claim7.holds Tryd.pinned (.plain (OpenSpec.upto destinationsParseSpec)) destinationsParseUptoCard

/-- THE SECOND FORM's CARD OF 'pandectlaw47.DestinationsFormat'. -/
def destinationsFormatUptoCard : Claim7 := { stood := { row := destinationsFormatUptoRow, standIns := [], harness := (true, "b1b6016252456fd99f0fe2ea7f36725cd4cc6f64e18bb9aa5ebd9d02e807cfba"), looks := true }, kinds := [], alts := [], laidByText := true, laidKinds := [.data, .data, .data, .data, .sentinel, .sentinel, .pinned], laidTests := true, laidLooks := .later }
def DestinationsFormatUptoCardSaid : Prop := Claim7.holds Tryd.pinned (.plain (OpenSpec.upto destinationsFormatSpec)) destinationsFormatUptoCard
end Rows
end Go.Proofs.YtdnemlcoeecbjaaDoor
