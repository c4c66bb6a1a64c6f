/-
  DERIVED. GIVEN WITH THE SEED: THE CARDS: each row of YtgicfjjhchohaaaDoorRows.lean that lists a variable, with what it lists TIED to the program's text (the seventh form; the later family's looks); each row that meets fmt, with fmt's text TOLD by the authors' own Lean function (tested against real Go, not proved from fmt's source: count such statements apart). THE CARD IS WHAT COUNTS. Prove the row's statement (the work); the ties are given (YtgicfjjhchohaaaDoorTie.lean); close each card by the builder's one call (the guide's Derived/Test/ToyasCard.lean, 'card_holds'). Laid BY PROGRAM, IN A SANDBOX (cutbox-door.mjs). By AI agents, Wed Nov 11 2026. No macro, syntax, notation, axiom, sorry.
-/
import Derived.Test.YtgicfjjhchohaaaDoorRows
import GoSem.ClaimSeven
namespace Go.Proofs.YtgicfjjhchohaaaDoor
namespace Rows

/-- THE TIED CARD OF 'pandectlaw04.WordseqSplits'. -/
def wordseqSplitsCard : Claim7 := { stood := { row := wordseqSplitsRow, standIns := [], harness := (true, "9129bcfc959fe59ee9b46bbf58cc66b9e4021e04854be1070aed6db9c0f6ed52"), looks := false }, kinds := [], alts := [], laidByText := true, laidKinds := [.data, .pinned], laidTests := true, laidLooks := .later }
def WordseqSplitsCardSaid : Prop := Claim7.holds Tryd.pinned (.plain (OpenSpec.ofChange wordseqSplitsSpec)) wordseqSplitsCard

/-- THE TIED CARD OF 'pandectlaw04.WordseqRoundTrip'. -/
def wordseqRoundTripCard : Claim7 := { stood := { row := wordseqRoundTripRow, standIns := [], harness := (true, "9129bcfc959fe59ee9b46bbf58cc66b9e4021e04854be1070aed6db9c0f6ed52"), looks := false }, kinds := [], alts := [], laidByText := true, laidKinds := [.data, .pinned], laidTests := true, laidLooks := .later }
def WordseqRoundTripCardSaid : Prop := Claim7.holds Tryd.pinned (.plain (OpenSpec.ofChange wordseqRoundTripSpec)) wordseqRoundTripCard

/-- THE SECOND FORM's CARD OF 'pandectlaw04.WordseqSplits'. -/
def wordseqSplitsUptoCard : Claim7 := { stood := { row := wordseqSplitsUptoRow, standIns := [], harness := (true, "9129bcfc959fe59ee9b46bbf58cc66b9e4021e04854be1070aed6db9c0f6ed52"), looks := false }, kinds := [], alts := [], laidByText := true, laidKinds := [.data, .pinned], laidTests := true, laidLooks := .later }
def WordseqSplitsUptoCardSaid : Prop := Claim7.holds Tryd.pinned (.plain (OpenSpec.upto wordseqSplitsSpec)) wordseqSplitsUptoCard

/-- THE SECOND FORM's CARD OF 'pandectlaw04.WordseqRoundTrip'. -/
def wordseqRoundTripUptoCard : Claim7 := { stood := { row := wordseqRoundTripUptoRow, standIns := [], harness := (true, "9129bcfc959fe59ee9b46bbf58cc66b9e4021e04854be1070aed6db9c0f6ed52"), looks := false }, kinds := [], alts := [], laidByText := true, laidKinds := [.data, .pinned], laidTests := true, laidLooks := .later }
def WordseqRoundTripUptoCardSaid : Prop := Claim7.holds Tryd.pinned (.plain (OpenSpec.upto wordseqRoundTripSpec)) wordseqRoundTripUptoCard
end Rows
end Go.Proofs.YtgicfjjhchohaaaDoor
