/-
  DERIVED. GIVEN WITH THE SEED: THE CARDS: each row of YtkobngongonplaaDoorRows.lean that lists a variable, with what it lists TIED to the program's text (the seventh form; the later family's looks); each row that meets fmt, with fmt's text TOLD by the authors' own Lean function (tested against real Go, not proved from fmt's source: count such statements apart). THE CARD IS WHAT COUNTS. Prove the row's statement (the work); the ties are given (YtkobngongonplaaDoorTie.lean); close each card by the builder's one call (the guide's Derived/Test/ToyasCard.lean, 'card_holds'). Laid BY PROGRAM, IN A SANDBOX (cutbox-door.mjs). By AI agents, Wed Nov 11 2026. No macro, syntax, notation, axiom, sorry.
-/
import Derived.Test.YtkobngongonplaaDoorRows
import GoSem.ClaimSeven
namespace Go.Proofs.YtkobngongonplaaDoor
namespace Rows

/-- THE TIED CARD OF 'pandectlaw14.JournalFragments'. -/
def journalFragmentsCard : Claim7 := { stood := { row := journalFragmentsRow, standIns := [], harness := (true, "1ae37b48fe519bd401da6d6a82d16db801d2df6352dd0634dc88feebaddbdb8e"), looks := true }, kinds := [], alts := [], laidByText := true, laidKinds := [.data, .data, .data, .data, .sentinel, .sentinel, .pinned], laidTests := true, laidLooks := .later }
def JournalFragmentsCardSaid : Prop := Claim7.holds Tryd.pinned (.plain (OpenSpec.ofChange journalFragmentsSpec)) journalFragmentsCard

/-- THE TIED CARD OF 'pandectlaw14.JournalReopens'. -/
def journalReopensCard : Claim7 := { stood := { row := journalReopensRow, standIns := [], harness := (true, "1ae37b48fe519bd401da6d6a82d16db801d2df6352dd0634dc88feebaddbdb8e"), looks := true }, kinds := [], alts := [], laidByText := true, laidKinds := [.data, .data, .data, .data, .sentinel, .sentinel, .pinned], laidTests := true, laidLooks := .later }
def JournalReopensCardSaid : Prop := Claim7.holds Tryd.pinned (.plain (OpenSpec.ofChange journalReopensSpec)) journalReopensCard

/-- THE TIED CARD OF 'pandectlaw14.JournalErrors'. -/
def journalErrorsCard : Claim7 := { stood := { row := journalErrorsRow, standIns := [], harness := (true, "1ae37b48fe519bd401da6d6a82d16db801d2df6352dd0634dc88feebaddbdb8e"), looks := true }, kinds := [], alts := [], laidByText := true, laidKinds := [.data, .data, .data, .data, .sentinel, .sentinel, .pinned], laidTests := true, laidLooks := .later }
def JournalErrorsCardSaid : Prop := Claim7.holds Tryd.pinned (.plain (OpenSpec.ofChange journalErrorsSpec)) journalErrorsCard

/-- THE SECOND FORM's CARD OF 'pandectlaw14.JournalFragments'. -/
def journalFragmentsUptoCard : Claim7 := { stood := { row := journalFragmentsUptoRow, standIns := [], harness := (true, "1ae37b48fe519bd401da6d6a82d16db801d2df6352dd0634dc88feebaddbdb8e"), looks := true }, kinds := [], alts := [], laidByText := true, laidKinds := [.data, .data, .data, .data, .sentinel, .sentinel, .pinned], laidTests := true, laidLooks := .later }
def JournalFragmentsUptoCardSaid : Prop := Claim7.holds Tryd.pinned (.plain (OpenSpec.upto journalFragmentsSpec)) journalFragmentsUptoCard

/-- THE SECOND FORM's CARD OF 'pandectlaw14.JournalReopens'. -/
def journalReopensUptoCard : Claim7 := { stood := { row := journalReopensUptoRow, standIns := [], harness := (true, "1ae37b48fe519bd401da6d6a82d16db801d2df6352dd0634dc88feebaddbdb8e"), looks := true }, kinds := [], alts := [], laidByText := true, laidKinds := [.data, .data, .data, .data, .sentinel, .sentinel, .pinned], laidTests := true, laidLooks := .later }
def JournalReopensUptoCardSaid : Prop := Claim7.holds Tryd.pinned (.plain (OpenSpec.upto journalReopensSpec)) journalReopensUptoCard

/-- THE SECOND FORM's CARD OF 'pandectlaw14.JournalErrors'. -/
def journalErrorsUptoCard : Claim7 := { stood := { row := journalErrorsUptoRow, standIns := [], harness := (true, "1ae37b48fe519bd401da6d6a82d16db801d2df6352dd0634dc88feebaddbdb8e"), looks := true }, kinds := [], alts := [], laidByText := true, laidKinds := [.data, .data, .data, .data, .sentinel, .sentinel, .pinned], laidTests := true, laidLooks := .later }
def JournalErrorsUptoCardSaid : Prop := Claim7.holds Tryd.pinned (.plain (OpenSpec.upto journalErrorsSpec)) journalErrorsUptoCard
end Rows
end Go.Proofs.YtkobngongonplaaDoor
