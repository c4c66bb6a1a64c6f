/-
  DERIVED. GIVEN WITH THE SEED: THE CARDS: each row of YtapobcikfdbjiaaGreatDoorRows.lean that lists a variable, with what it lists TIED to the program's text (the seventh form; the later family's looks); each row that meets fmt, with fmt's text TOLD by the authors' own Lean function (tested against real Go, not proved from fmt's source: count such statements apart). THE CARD IS WHAT COUNTS. Prove the row's statement (the work); the ties are given (YtapobcikfdbjiaaGreatDoorTie.lean); close each card by the builder's one call (the guide's Derived/Test/ToyasCard.lean, 'card_holds'). Laid BY PROGRAM, IN A SANDBOX (cutbox-door.mjs). By AI agents, Wed Nov 11 2026. No macro, syntax, notation, axiom, sorry.
-/
import Derived.Test.YtapobcikfdbjiaaGreatDoorRows
import GoSem.ClaimSeven
namespace Go.Proofs.YtapobcikfdbjiaaGreatDoor
namespace Rows

/-- THE TIED CARD OF 'pandecttop.TopUndo'. -/
def topUndoCard : Claim7 := { stood := { row := topUndoRow, standIns := [], harness := (true, "0107bc8481b0948a94c533b96f27db55f8350f929d4cd06316299f2900beef6d"), looks := false }, kinds := [], alts := [], laidByText := true, laidKinds := [.data, .data, .widerDeep, .funcs, .pinned], laidTests := true, laidLooks := .later }
def TopUndoCardSaid : Prop := Claim7.holds Tryz.pinned (.plain (OpenSpec.ofChange topUndoSpec)) topUndoCard

/-- THE SECOND FORM's CARD OF 'pandecttop.TopUndo'. -/
def topUndoUptoCard : Claim7 := { stood := { row := topUndoUptoRow, standIns := [], harness := (true, "0107bc8481b0948a94c533b96f27db55f8350f929d4cd06316299f2900beef6d"), looks := false }, kinds := [], alts := [], laidByText := true, laidKinds := [.data, .data, .widerDeep, .funcs, .pinned], laidTests := true, laidLooks := .later }
def TopUndoUptoCardSaid : Prop := Claim7.holds Tryz.pinned (.plain (OpenSpec.upto topUndoSpec)) topUndoUptoCard
end Rows
end Go.Proofs.YtapobcikfdbjiaaGreatDoor
