/-
  DERIVED. GIVEN WITH THE SEED: THE CARDS: each row of YtkobngongonplaaGreatDoorRows.lean that lists a variable, with what it lists TIED to the program's text (the seventh form; the later family's looks); each row that meets fmt, with fmt's text TOLD by the authors' own Lean function (tested against real Go, not proved from fmt's source: count such statements apart). THE CARD IS WHAT COUNTS. Prove the row's statement (the work); the ties are given (YtkobngongonplaaGreatDoorTie.lean); close each card by the builder's one call (the guide's Derived/Test/ToyasCard.lean, 'card_holds'). Laid BY PROGRAM, IN A SANDBOX (cutbox-door.mjs). By AI agents, Wed Nov 11 2026. No macro, syntax, notation, axiom, sorry.
-/
import Derived.Test.YtkobngongonplaaGreatDoorRows
import GoSem.ClaimSeven
namespace Go.Proofs.YtkobngongonplaaGreatDoor
namespace Rows

/-- THE TIED CARD OF 'pandectlaw14.JournalSequences'. -/
def journalSequencesCard : Claim7 := { stood := { row := journalSequencesRow, standIns := [], harness := (true, "357080389d8e185a579bace68409e7dd847cc6dc0658c350a823d171f0120ac3"), looks := true }, kinds := [], alts := [], laidByText := true, laidKinds := [.data, .data, .data, .data, .sentinel, .sentinel, .pinned], laidTests := true, laidLooks := .later }
def JournalSequencesCardSaid : Prop := Claim7.holds Tryz.pinned (.plain (OpenSpec.ofChange journalSequencesSpec)) journalSequencesCard

/-- THE TIED CARD OF 'pandectlaw14.JournalCorruption'. -/
def journalCorruptionCard : Claim7 := { stood := { row := journalCorruptionRow, standIns := [], harness := (true, "357080389d8e185a579bace68409e7dd847cc6dc0658c350a823d171f0120ac3"), looks := true }, kinds := [], alts := [], laidByText := true, laidKinds := [.data, .data, .data, .data, .sentinel, .sentinel, .pinned], laidTests := true, laidLooks := .later }
def JournalCorruptionCardSaid : Prop := Claim7.holds Tryz.pinned (.plain (OpenSpec.ofChange journalCorruptionSpec)) journalCorruptionCard

/-- THE SECOND FORM's CARD OF 'pandectlaw14.JournalSequences'. -/
def journalSequencesUptoCard : Claim7 := { stood := { row := journalSequencesUptoRow, standIns := [], harness := (true, "357080389d8e185a579bace68409e7dd847cc6dc0658c350a823d171f0120ac3"), looks := true }, kinds := [], alts := [], laidByText := true, laidKinds := [.data, .data, .data, .data, .sentinel, .sentinel, .pinned], laidTests := true, laidLooks := .later }
def JournalSequencesUptoCardSaid : Prop := Claim7.holds Tryz.pinned (.plain (OpenSpec.upto journalSequencesSpec)) journalSequencesUptoCard

/-- THE SECOND FORM's CARD OF 'pandectlaw14.JournalCorruption'. -/
def journalCorruptionUptoCard : Claim7 := { stood := { row := journalCorruptionUptoRow, standIns := [], harness := (true, "357080389d8e185a579bace68409e7dd847cc6dc0658c350a823d171f0120ac3"), looks := true }, kinds := [], alts := [], laidByText := true, laidKinds := [.data, .data, .data, .data, .sentinel, .sentinel, .pinned], laidTests := true, laidLooks := .later }
def JournalCorruptionUptoCardSaid : Prop := Claim7.holds Tryz.pinned (.plain (OpenSpec.upto journalCorruptionSpec)) journalCorruptionUptoCard
end Rows
end Go.Proofs.YtkobngongonplaaGreatDoor
