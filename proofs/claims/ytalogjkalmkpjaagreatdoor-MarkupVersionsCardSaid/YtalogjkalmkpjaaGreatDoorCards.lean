/-
  DERIVED. GIVEN WITH THE SEED: THE CARDS: each row of YtalogjkalmkpjaaGreatDoorRows.lean that lists a variable, with what it lists TIED to the program's text (the seventh form; the later family's looks); each row that meets fmt, with fmt's text TOLD by the authors' own Lean function (tested against real Go, not proved from fmt's source: count such statements apart). THE CARD IS WHAT COUNTS. Prove the row's statement (the work); the ties are given (YtalogjkalmkpjaaGreatDoorTie.lean); close each card by the builder's one call (the guide's Derived/Test/ToyasCard.lean, 'card_holds'). Laid BY PROGRAM, IN A SANDBOX (cutbox-door.mjs). By AI agents, Wed Nov 11 2026. No macro, syntax, notation, axiom, sorry.
-/
import Derived.Test.YtalogjkalmkpjaaGreatDoorRows
import GoSem.ClaimSeven
namespace Go.Proofs.YtalogjkalmkpjaaGreatDoor
namespace Rows

/-- THE TIED CARD OF 'pandectlaw53.MarkupUnchanged'. -/
def markupUnchangedCard : Claim7 := { stood := { row := markupUnchangedRow, standIns := [], harness := (true, "1d63e972e2f6fe0dfd11df6569bbe20dd266349f466aa752a3f7ce7ee7f7f015"), looks := true }, kinds := [], alts := [], laidByText := true, laidKinds := [.data, .data, .data, .data, .widerDeep, .data, .data], laidTests := true, laidLooks := .later }
def MarkupUnchangedCardSaid : Prop := Claim7.holds Tryz.pinned (.plain (OpenSpec.ofChange markupUnchangedSpec)) markupUnchangedCard

/-- THE TIED CARD OF 'pandectlaw53.MarkupFormat'. -/
def markupFormatCard : Claim7 := { stood := { row := markupFormatRow, standIns := [], harness := (true, "1d63e972e2f6fe0dfd11df6569bbe20dd266349f466aa752a3f7ce7ee7f7f015"), looks := true }, kinds := [], alts := [], laidByText := true, laidKinds := [.data, .data, .data, .data, .sentinel, .sentinel, .data, .data, .data, .pinned], laidTests := true, laidLooks := .later }
def MarkupFormatCardSaid : Prop := Claim7.holds Tryz.pinned (.plain (OpenSpec.ofChange markupFormatSpec)) markupFormatCard

/-- THE TIED CARD OF 'pandectlaw53.MarkupVersions'. -/
def markupVersionsCard : Claim7 := { stood := { row := markupVersionsRow, standIns := [], harness := (true, "1d63e972e2f6fe0dfd11df6569bbe20dd266349f466aa752a3f7ce7ee7f7f015"), looks := true }, kinds := [], alts := [], laidByText := true, laidKinds := [.data, .data, .data, .data, .sentinel, .sentinel, .data, .widerDeep, .data, .data, .pinned], laidTests := true, laidLooks := .later }
def MarkupVersionsCardSaid : Prop := Claim7.holds Tryz.pinned (.plain (OpenSpec.ofChange markupVersionsSpec)) markupVersionsCard

/-- THE SECOND FORM's CARD OF 'pandectlaw53.MarkupUnchanged'. -/
def markupUnchangedUptoCard : Claim7 := { stood := { row := markupUnchangedUptoRow, standIns := [], harness := (true, "1d63e972e2f6fe0dfd11df6569bbe20dd266349f466aa752a3f7ce7ee7f7f015"), looks := true }, kinds := [], alts := [], laidByText := true, laidKinds := [.data, .data, .data, .data, .widerDeep, .data, .data], laidTests := true, laidLooks := .later }
def MarkupUnchangedUptoCardSaid : Prop := Claim7.holds Tryz.pinned (.plain (OpenSpec.upto markupUnchangedSpec)) markupUnchangedUptoCard

/-- THE SECOND FORM's CARD OF 'pandectlaw53.MarkupFormat'. -/
def markupFormatUptoCard : Claim7 := { stood := { row := markupFormatUptoRow, standIns := [], harness := (true, "1d63e972e2f6fe0dfd11df6569bbe20dd266349f466aa752a3f7ce7ee7f7f015"), looks := true }, kinds := [], alts := [], laidByText := true, laidKinds := [.data, .data, .data, .data, .sentinel, .sentinel, .data, .data, .data, .pinned], laidTests := true, laidLooks := .later }
def MarkupFormatUptoCardSaid : Prop := Claim7.holds Tryz.pinned (.plain (OpenSpec.upto markupFormatSpec)) markupFormatUptoCard

/-- THE SECOND FORM's CARD OF 'pandectlaw53.MarkupVersions'. -/
def markupVersionsUptoCard : Claim7 := { stood := { row := markupVersionsUptoRow, standIns := [], harness := (true, "1d63e972e2f6fe0dfd11df6569bbe20dd266349f466aa752a3f7ce7ee7f7f015"), looks := true }, kinds := [], alts := [], laidByText := true, laidKinds := [.data, .data, .data, .data, .sentinel, .sentinel, .data, .widerDeep, .data, .data, .pinned], laidTests := true, laidLooks := .later }
def MarkupVersionsUptoCardSaid : Prop := Claim7.holds Tryz.pinned (.plain (OpenSpec.upto markupVersionsSpec)) markupVersionsUptoCard
end Rows
end Go.Proofs.YtalogjkalmkpjaaGreatDoor
