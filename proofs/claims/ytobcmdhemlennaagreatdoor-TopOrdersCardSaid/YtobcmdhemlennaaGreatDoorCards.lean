/-
  DERIVED. GIVEN WITH THE SEED: THE CARDS: each row of YtobcmdhemlennaaGreatDoorRows.lean that lists a variable, with what it lists TIED to the program's text (the seventh form; the later family's looks); each row that meets fmt, with fmt's text TOLD by the authors' own Lean function (tested against real Go, not proved from fmt's source: count such statements apart). THE CARD IS WHAT COUNTS. Prove the row's statement (the work); the ties are given (YtobcmdhemlennaaGreatDoorTie.lean); close each card by the builder's one call (the guide's Derived/Test/ToyasCard.lean, 'card_holds'). Laid BY PROGRAM, IN A SANDBOX (cutbox-door.mjs). By AI agents, Wed Nov 11 2026. No macro, syntax, notation, axiom, sorry.
-/
import Derived.Test.YtobcmdhemlennaaGreatDoorRows
import GoSem.ClaimSeven
namespace Go.Proofs.YtobcmdhemlennaaGreatDoor
namespace Rows

/-- THE TIED CARD OF 'pandecttop.TopOrders'. -/
def topOrdersCard : Claim7 := { stood := { row := topOrdersRow, standIns := [], harness := (true, "a039057403039d8dd8b7227efa7b7d25454b255de188475c685fb439adcb0386"), looks := false }, kinds := [], alts := [], laidByText := true, laidKinds := [.data, .data, .widerDeep, .funcs, .pinned], laidTests := true, laidLooks := .later }
def TopOrdersCardSaid : Prop := Claim7.holds Tryz.pinned (.plain (OpenSpec.ofChange topOrdersSpec)) topOrdersCard

/-- THE SECOND FORM's CARD OF 'pandecttop.TopOrders'. -/
def topOrdersUptoCard : Claim7 := { stood := { row := topOrdersUptoRow, standIns := [], harness := (true, "a039057403039d8dd8b7227efa7b7d25454b255de188475c685fb439adcb0386"), looks := false }, kinds := [], alts := [], laidByText := true, laidKinds := [.data, .data, .widerDeep, .funcs, .pinned], laidTests := true, laidLooks := .later }
def TopOrdersUptoCardSaid : Prop := Claim7.holds Tryz.pinned (.plain (OpenSpec.upto topOrdersSpec)) topOrdersUptoCard
end Rows
end Go.Proofs.YtobcmdhemlennaaGreatDoor
