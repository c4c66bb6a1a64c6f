/-
  DERIVED. GIVEN WITH THE SEED: THE CARDS: each row of YtofaogkcifaioaaDoorRows.lean that lists a variable, with what it lists TIED to the program's text (the seventh form; the later family's looks); each row that meets fmt, with fmt's text TOLD by the authors' own Lean function (tested against real Go, not proved from fmt's source: count such statements apart). THE CARD IS WHAT COUNTS. Prove the row's statement (the work); the ties are given (YtofaogkcifaioaaDoorTie.lean); close each card by the builder's one call (the guide's Derived/Test/ToyasCard.lean, 'card_holds'). Laid BY PROGRAM, IN A SANDBOX (cutbox-door.mjs). By AI agents, Wed Nov 11 2026. No macro, syntax, notation, axiom, sorry.
-/
import Derived.Test.YtofaogkcifaioaaDoorRows
import GoSem.ClaimSeven
namespace Go.Proofs.YtofaogkcifaioaaDoor
namespace Rows

/-- THE TIED CARD OF 'pandectlaw11.PlaintextParseFormat'. -/
def plaintextParseFormatCard : Claim7 := { stood := { row := plaintextParseFormatRow, standIns := [], harness := (true, "95702ae509fca06e0426b64502cb50ae539e970e9c4f19d943c2c972cec9bd4c"), looks := false }, kinds := [], alts := [], laidByText := true, laidKinds := [.data, .data, .widerDeep, .pinned], laidTests := true, laidLooks := .later }
def PlaintextParseFormatCardSaid : Prop := Claim7.holds Tryd.pinned (.plain (OpenSpec.ofChange plaintextParseFormatSpec)) plaintextParseFormatCard

/-- THE SECOND FORM's CARD OF 'pandectlaw11.PlaintextParseFormat'. -/
def plaintextParseFormatUptoCard : Claim7 := { stood := { row := plaintextParseFormatUptoRow, standIns := [], harness := (true, "95702ae509fca06e0426b64502cb50ae539e970e9c4f19d943c2c972cec9bd4c"), looks := false }, kinds := [], alts := [], laidByText := true, laidKinds := [.data, .data, .widerDeep, .pinned], laidTests := true, laidLooks := .later }
def PlaintextParseFormatUptoCardSaid : Prop := Claim7.holds Tryd.pinned (.plain (OpenSpec.upto plaintextParseFormatSpec)) plaintextParseFormatUptoCard
end Rows
end Go.Proofs.YtofaogkcifaioaaDoor
