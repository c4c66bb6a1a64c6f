/-
  DERIVED. GIVEN WITH THE SEED: THE CARDS: each row of YtofaogkcifaioaaGreatDoorRows.lean that lists a variable, with what it lists TIED to the program's text (the seventh form; the later family's looks); each row that meets fmt, with fmt's text TOLD by the authors' own Lean function (tested against real Go, not proved from fmt's source: count such statements apart). THE CARD IS WHAT COUNTS. Prove the row's statement (the work); the ties are given (YtofaogkcifaioaaGreatDoorTie.lean); close each card by the builder's one call (the guide's Derived/Test/ToyasCard.lean, 'card_holds'). Laid BY PROGRAM, IN A SANDBOX (cutbox-door.mjs). By AI agents, Wed Nov 11 2026. No macro, syntax, notation, axiom, sorry.
-/
import Derived.Test.YtofaogkcifaioaaGreatDoorRows
import GoSem.ClaimSeven
namespace Go.Proofs.YtofaogkcifaioaaGreatDoor
namespace Rows

/-- THE TIED CARD OF 'pandectlaw11.PlaintextFormat'. -/
def plaintextFormatCard : Claim7 := { stood := { row := plaintextFormatRow, standIns := [], harness := (true, "d1d5b4cef1d54f68f7422a2090535372afdb530fb41b12aad8ed37bffd4b7116"), looks := false }, kinds := [], alts := [], laidByText := true, laidKinds := [.data, .data, .widerDeep, .pinned], laidTests := true, laidLooks := .later }
def PlaintextFormatCardSaid : Prop := Claim7.holds Tryz.pinned (.plain (OpenSpec.ofChange plaintextFormatSpec)) plaintextFormatCard

/-- THE TIED CARD OF 'pandectlaw11.PlaintextParse'. -/
def plaintextParseCard : Claim7 := { stood := { row := plaintextParseRow, standIns := [], harness := (true, "d1d5b4cef1d54f68f7422a2090535372afdb530fb41b12aad8ed37bffd4b7116"), looks := false }, kinds := [], alts := [], laidByText := true, laidKinds := [.data, .data, .widerDeep, .pinned], laidTests := true, laidLooks := .later }
def PlaintextParseCardSaid : Prop := Claim7.holds Tryz.pinned (.plain (OpenSpec.ofChange plaintextParseSpec)) plaintextParseCard

/-- THE TIED CARD OF 'pandectlaw11.PlaintextFormatLine'. -/
def plaintextFormatLineCard : Claim7 := { stood := { row := plaintextFormatLineRow, standIns := [], harness := (true, "d1d5b4cef1d54f68f7422a2090535372afdb530fb41b12aad8ed37bffd4b7116"), looks := false }, kinds := [], alts := [], laidByText := true, laidKinds := [.data, .data, .widerDeep, .pinned], laidTests := true, laidLooks := .later }
def PlaintextFormatLineCardSaid : Prop := Claim7.holds Tryz.pinned (.plain (OpenSpec.ofChange plaintextFormatLineSpec)) plaintextFormatLineCard

/-- THE TIED CARD OF 'pandectlaw11.PlaintextParseLine'. -/
def plaintextParseLineCard : Claim7 := { stood := { row := plaintextParseLineRow, standIns := [], harness := (true, "d1d5b4cef1d54f68f7422a2090535372afdb530fb41b12aad8ed37bffd4b7116"), looks := false }, kinds := [], alts := [], laidByText := true, laidKinds := [.data, .data, .widerDeep, .pinned], laidTests := true, laidLooks := .later }
def PlaintextParseLineCardSaid : Prop := Claim7.holds Tryz.pinned (.plain (OpenSpec.ofChange plaintextParseLineSpec)) plaintextParseLineCard

/-- THE TIED CARD OF 'pandectlaw11.PlaintextFormatParse'. -/
def plaintextFormatParseCard : Claim7 := { stood := { row := plaintextFormatParseRow, standIns := [], harness := (true, "d1d5b4cef1d54f68f7422a2090535372afdb530fb41b12aad8ed37bffd4b7116"), looks := false }, kinds := [], alts := [], laidByText := true, laidKinds := [.data, .data, .widerDeep, .pinned], laidTests := true, laidLooks := .later }
def PlaintextFormatParseCardSaid : Prop := Claim7.holds Tryz.pinned (.plain (OpenSpec.ofChange plaintextFormatParseSpec)) plaintextFormatParseCard

/-- THE TIED CARD OF 'pandectlaw11.PlaintextIgnoresMarks'. -/
def plaintextIgnoresMarksCard : Claim7 := { stood := { row := plaintextIgnoresMarksRow, standIns := [], harness := (true, "d1d5b4cef1d54f68f7422a2090535372afdb530fb41b12aad8ed37bffd4b7116"), looks := false }, kinds := [], alts := [], laidByText := true, laidKinds := [.data, .data, .widerDeep, .pinned], laidTests := true, laidLooks := .later }
def PlaintextIgnoresMarksCardSaid : Prop := Claim7.holds Tryz.pinned (.plain (OpenSpec.ofChange plaintextIgnoresMarksSpec)) plaintextIgnoresMarksCard

/-- THE SECOND FORM's CARD OF 'pandectlaw11.PlaintextFormat'. -/
def plaintextFormatUptoCard : Claim7 := { stood := { row := plaintextFormatUptoRow, standIns := [], harness := (true, "d1d5b4cef1d54f68f7422a2090535372afdb530fb41b12aad8ed37bffd4b7116"), looks := false }, kinds := [], alts := [], laidByText := true, laidKinds := [.data, .data, .widerDeep, .pinned], laidTests := true, laidLooks := .later }
def PlaintextFormatUptoCardSaid : Prop := Claim7.holds Tryz.pinned (.plain (OpenSpec.upto plaintextFormatSpec)) plaintextFormatUptoCard

/-- THE SECOND FORM's CARD OF 'pandectlaw11.PlaintextParse'. -/
def plaintextParseUptoCard : Claim7 := { stood := { row := plaintextParseUptoRow, standIns := [], harness := (true, "d1d5b4cef1d54f68f7422a2090535372afdb530fb41b12aad8ed37bffd4b7116"), looks := false }, kinds := [], alts := [], laidByText := true, laidKinds := [.data, .data, .widerDeep, .pinned], laidTests := true, laidLooks := .later }
def PlaintextParseUptoCardSaid : Prop := Claim7.holds Tryz.pinned (.plain (OpenSpec.upto plaintextParseSpec)) plaintextParseUptoCard

/-- THE SECOND FORM's CARD OF 'pandectlaw11.PlaintextFormatLine'. -/
def plaintextFormatLineUptoCard : Claim7 := { stood := { row := plaintextFormatLineUptoRow, standIns := [], harness := (true, "d1d5b4cef1d54f68f7422a2090535372afdb530fb41b12aad8ed37bffd4b7116"), looks := false }, kinds := [], alts := [], laidByText := true, laidKinds := [.data, .data, .widerDeep, .pinned], laidTests := true, laidLooks := .later }
def PlaintextFormatLineUptoCardSaid : Prop := Claim7.holds Tryz.pinned (.plain (OpenSpec.upto plaintextFormatLineSpec)) plaintextFormatLineUptoCard

/-- THE SECOND FORM's CARD OF 'pandectlaw11.PlaintextParseLine'. -/
def plaintextParseLineUptoCard : Claim7 := { stood := { row := plaintextParseLineUptoRow, standIns := [], harness := (true, "d1d5b4cef1d54f68f7422a2090535372afdb530fb41b12aad8ed37bffd4b7116"), looks := false }, kinds := [], alts := [], laidByText := true, laidKinds := [.data, .data, .widerDeep, .pinned], laidTests := true, laidLooks := .later }
def PlaintextParseLineUptoCardSaid : Prop := Claim7.holds Tryz.pinned (.plain (OpenSpec.upto plaintextParseLineSpec)) plaintextParseLineUptoCard

/-- THE SECOND FORM's CARD OF 'pandectlaw11.PlaintextFormatParse'. -/
def plaintextFormatParseUptoCard : Claim7 := { stood := { row := plaintextFormatParseUptoRow, standIns := [], harness := (true, "d1d5b4cef1d54f68f7422a2090535372afdb530fb41b12aad8ed37bffd4b7116"), looks := false }, kinds := [], alts := [], laidByText := true, laidKinds := [.data, .data, .widerDeep, .pinned], laidTests := true, laidLooks := .later }
def PlaintextFormatParseUptoCardSaid : Prop := Claim7.holds Tryz.pinned (.plain (OpenSpec.upto plaintextFormatParseSpec)) plaintextFormatParseUptoCard

/-- THE SECOND FORM's CARD OF 'pandectlaw11.PlaintextIgnoresMarks'. -/
def plaintextIgnoresMarksUptoCard : Claim7 := { stood := { row := plaintextIgnoresMarksUptoRow, standIns := [], harness := (true, "d1d5b4cef1d54f68f7422a2090535372afdb530fb41b12aad8ed37bffd4b7116"), looks := false }, kinds := [], alts := [], laidByText := true, laidKinds := [.data, .data, .widerDeep, .pinned], laidTests := true, laidLooks := .later }
def PlaintextIgnoresMarksUptoCardSaid : Prop := Claim7.holds Tryz.pinned (.plain (OpenSpec.upto plaintextIgnoresMarksSpec)) plaintextIgnoresMarksUptoCard
end Rows
end Go.Proofs.YtofaogkcifaioaaGreatDoor
