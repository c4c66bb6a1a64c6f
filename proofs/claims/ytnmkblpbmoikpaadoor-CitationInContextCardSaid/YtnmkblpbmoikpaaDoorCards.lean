/-
  DERIVED. GIVEN WITH THE SEED: THE CARDS: each row of YtnmkblpbmoikpaaDoorRows.lean that lists a variable, with what it lists TIED to the program's text (the seventh form; the later family's looks); each row that meets fmt, with fmt's text TOLD by the authors' own Lean function (tested against real Go, not proved from fmt's source: count such statements apart). THE CARD IS WHAT COUNTS. Prove the row's statement (the work); the ties are given (YtnmkblpbmoikpaaDoorTie.lean); close each card by the builder's one call (the guide's Derived/Test/ToyasCard.lean, 'card_holds'). Laid BY PROGRAM, IN A SANDBOX (cutbox-door.mjs). By AI agents, Wed Nov 11 2026. No macro, syntax, notation, axiom, sorry.
-/
import Derived.Test.YtnmkblpbmoikpaaDoorRows
import GoSem.ClaimSeven
namespace Go.Proofs.YtnmkblpbmoikpaaDoor
namespace Rows

/-- THE TIED CARD OF 'pandectlaw20.CitationValidates'. -/
def citationValidatesCard : Claim7 := { stood := { row := citationValidatesRow, standIns := [], harness := (true, "ab0f6ceae33cb2098a0e9f4ce22b4c5c35925406d826b2831dce8bcd3604c70f"), looks := false }, kinds := [], alts := [], laidByText := true, laidKinds := [.data, .pinned], laidTests := true, laidLooks := .later }
def CitationValidatesCardSaid : Prop := Claim7.holds Tryd.pinned (.plain (OpenSpec.ofChange citationValidatesSpec)) citationValidatesCard

/-- THE TIED CARD OF 'pandectlaw20.CitationScans'. -/
def citationScansCard : Claim7 := { stood := { row := citationScansRow, standIns := [], harness := (true, "ab0f6ceae33cb2098a0e9f4ce22b4c5c35925406d826b2831dce8bcd3604c70f"), looks := false }, kinds := [], alts := [], laidByText := true, laidKinds := [.data, .pinned], laidTests := true, laidLooks := .later }
def CitationScansCardSaid : Prop := Claim7.holds Tryd.pinned (.plain (OpenSpec.ofChange citationScansSpec)) citationScansCard

/-- THE TIED CARD OF 'pandectlaw20.CitationParses'. -/
def citationParsesCard : Claim7 := { stood := { row := citationParsesRow, standIns := [], harness := (true, "ab0f6ceae33cb2098a0e9f4ce22b4c5c35925406d826b2831dce8bcd3604c70f"), looks := false }, kinds := [], alts := [], laidByText := true, laidKinds := [.data, .pinned], laidTests := true, laidLooks := .later }
def CitationParsesCardSaid : Prop := Claim7.holds Tryd.pinned (.plain (OpenSpec.ofChange citationParsesSpec)) citationParsesCard

/-- THE TIED CARD OF 'pandectlaw20.CitationDisjoint'. -/
def citationDisjointCard : Claim7 := { stood := { row := citationDisjointRow, standIns := [], harness := (true, "ab0f6ceae33cb2098a0e9f4ce22b4c5c35925406d826b2831dce8bcd3604c70f"), looks := false }, kinds := [], alts := [], laidByText := true, laidKinds := [.data, .pinned], laidTests := true, laidLooks := .later }
def CitationDisjointCardSaid : Prop := Claim7.holds Tryd.pinned (.plain (OpenSpec.ofChange citationDisjointSpec)) citationDisjointCard

/-- THE TIED CARD OF 'pandectlaw20.CitationWords'. -/
def citationWordsCard : Claim7 := { stood := { row := citationWordsRow, standIns := [], harness := (true, "ab0f6ceae33cb2098a0e9f4ce22b4c5c35925406d826b2831dce8bcd3604c70f"), looks := false }, kinds := [], alts := [], laidByText := true, laidKinds := [.data, .pinned], laidTests := true, laidLooks := .later }
def CitationWordsCardSaid : Prop := Claim7.holds Tryd.pinned (.plain (OpenSpec.ofChange citationWordsSpec)) citationWordsCard

/-- THE TIED CARD OF 'pandectlaw20.CitationRoundTrip'. -/
def citationRoundTripCard : Claim7 := { stood := { row := citationRoundTripRow, standIns := [], harness := (true, "ab0f6ceae33cb2098a0e9f4ce22b4c5c35925406d826b2831dce8bcd3604c70f"), looks := false }, kinds := [], alts := [], laidByText := true, laidKinds := [.data, .pinned], laidTests := true, laidLooks := .later }
def CitationRoundTripCardSaid : Prop := Claim7.holds Tryd.pinned (.plain (OpenSpec.ofChange citationRoundTripSpec)) citationRoundTripCard

/-- THE TIED CARD OF 'pandectlaw20.CitationInContext'. -/
def citationInContextCard : Claim7 := { stood := { row := citationInContextRow, standIns := [], harness := (true, "ab0f6ceae33cb2098a0e9f4ce22b4c5c35925406d826b2831dce8bcd3604c70f"), looks := false }, kinds := [], alts := [], laidByText := true, laidKinds := [.data, .pinned], laidTests := true, laidLooks := .later }
def CitationInContextCardSaid : Prop := Claim7.holds Tryd.pinned (.plain (OpenSpec.ofChange citationInContextSpec)) citationInContextCard

/-- THE SECOND FORM's CARD OF 'pandectlaw20.CitationValidates'. -/
def citationValidatesUptoCard : Claim7 := { stood := { row := citationValidatesUptoRow, standIns := [], harness := (true, "ab0f6ceae33cb2098a0e9f4ce22b4c5c35925406d826b2831dce8bcd3604c70f"), looks := false }, kinds := [], alts := [], laidByText := true, laidKinds := [.data, .pinned], laidTests := true, laidLooks := .later }
def CitationValidatesUptoCardSaid : Prop := Claim7.holds Tryd.pinned (.plain (OpenSpec.upto citationValidatesSpec)) citationValidatesUptoCard

/-- THE SECOND FORM's CARD OF 'pandectlaw20.CitationScans'. -/
def citationScansUptoCard : Claim7 := { stood := { row := citationScansUptoRow, standIns := [], harness := (true, "ab0f6ceae33cb2098a0e9f4ce22b4c5c35925406d826b2831dce8bcd3604c70f"), looks := false }, kinds := [], alts := [], laidByText := true, laidKinds := [.data, .pinned], laidTests := true, laidLooks := .later }
def CitationScansUptoCardSaid : Prop := Claim7.holds Tryd.pinned (.plain (OpenSpec.upto citationScansSpec)) citationScansUptoCard

/-- THE SECOND FORM's CARD OF 'pandectlaw20.CitationParses'. -/
def citationParsesUptoCard : Claim7 := { stood := { row := citationParsesUptoRow, standIns := [], harness := (true, "ab0f6ceae33cb2098a0e9f4ce22b4c5c35925406d826b2831dce8bcd3604c70f"), looks := false }, kinds := [], alts := [], laidByText := true, laidKinds := [.data, .pinned], laidTests := true, laidLooks := .later }
def CitationParsesUptoCardSaid : Prop := Claim7.holds Tryd.pinned (.plain (OpenSpec.upto citationParsesSpec)) citationParsesUptoCard

/-- THE SECOND FORM's CARD OF 'pandectlaw20.CitationDisjoint'. -/
def citationDisjointUptoCard : Claim7 := { stood := { row := citationDisjointUptoRow, standIns := [], harness := (true, "ab0f6ceae33cb2098a0e9f4ce22b4c5c35925406d826b2831dce8bcd3604c70f"), looks := false }, kinds := [], alts := [], laidByText := true, laidKinds := [.data, .pinned], laidTests := true, laidLooks := .later }
def CitationDisjointUptoCardSaid : Prop := Claim7.holds Tryd.pinned (.plain (OpenSpec.upto citationDisjointSpec)) citationDisjointUptoCard

/-- THE SECOND FORM's CARD OF 'pandectlaw20.CitationWords'. -/
def citationWordsUptoCard : Claim7 := { stood := { row := citationWordsUptoRow, standIns := [], harness := (true, "ab0f6ceae33cb2098a0e9f4ce22b4c5c35925406d826b2831dce8bcd3604c70f"), looks := false }, kinds := [], alts := [], laidByText := true, laidKinds := [.data, .pinned], laidTests := true, laidLooks := .later }
def CitationWordsUptoCardSaid : Prop := Claim7.holds Tryd.pinned (.plain (OpenSpec.upto citationWordsSpec)) citationWordsUptoCard

/-- THE SECOND FORM's CARD OF 'pandectlaw20.CitationRoundTrip'. -/
def citationRoundTripUptoCard : Claim7 := { stood := { row := citationRoundTripUptoRow, standIns := [], harness := (true, "ab0f6ceae33cb2098a0e9f4ce22b4c5c35925406d826b2831dce8bcd3604c70f"), looks := false }, kinds := [], alts := [], laidByText := true, laidKinds := [.data, .pinned], laidTests := true, laidLooks := .later }
def CitationRoundTripUptoCardSaid : Prop := Claim7.holds Tryd.pinned (.plain (OpenSpec.upto citationRoundTripSpec)) citationRoundTripUptoCard

/-- THE SECOND FORM's CARD OF 'pandectlaw20.CitationInContext'. -/
def citationInContextUptoCard : Claim7 := { stood := { row := citationInContextUptoRow, standIns := [], harness := (true, "ab0f6ceae33cb2098a0e9f4ce22b4c5c35925406d826b2831dce8bcd3604c70f"), looks := false }, kinds := [], alts := [], laidByText := true, laidKinds := [.data, .pinned], laidTests := true, laidLooks := .later }
def CitationInContextUptoCardSaid : Prop := Claim7.holds Tryd.pinned (.plain (OpenSpec.upto citationInContextSpec)) citationInContextUptoCard
end Rows
end Go.Proofs.YtnmkblpbmoikpaaDoor
