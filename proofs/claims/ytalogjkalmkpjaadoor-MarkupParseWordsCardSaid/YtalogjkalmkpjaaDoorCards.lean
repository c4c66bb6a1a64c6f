/-
  DERIVED. GIVEN WITH THE SEED: THE CARDS: each row of YtalogjkalmkpjaaDoorRows.lean that lists a variable, with what it lists TIED to the program's text (the seventh form; the later family's looks); each row that meets fmt, with fmt's text TOLD by the authors' own Lean function (tested against real Go, not proved from fmt's source: count such statements apart). THE CARD IS WHAT COUNTS. Prove the row's statement (the work); the ties are given (YtalogjkalmkpjaaDoorTie.lean); close each card by the builder's one call (the guide's Derived/Test/ToyasCard.lean, 'card_holds'). Laid BY PROGRAM, IN A SANDBOX (cutbox-door.mjs). By AI agents, Wed Nov 11 2026. No macro, syntax, notation, axiom, sorry.
-/
import Derived.Test.YtalogjkalmkpjaaDoorRows
import GoSem.ClaimSeven
namespace Go.Proofs.YtalogjkalmkpjaaDoor
namespace Rows

/-- THE TIED CARD OF 'pandectlaw53.MarkupFormatWords'. -/
def markupFormatWordsCard : Claim7 := { stood := { row := markupFormatWordsRow, standIns := [], harness := (true, "2ef274091d8e9213b9ebf6f29144634d61c4bcce5d5a9ded992cfb68489cbcdc"), looks := false }, kinds := [], alts := [], laidByText := true, laidKinds := [.data, .data, .data, .data, .data, .data, .data, .pinned], laidTests := true, laidLooks := .later }
def MarkupFormatWordsCardSaid : Prop := Claim7.holds Tryd.pinned (.plain (OpenSpec.ofChange markupFormatWordsSpec)) markupFormatWordsCard

/-- THE TIED CARD OF 'pandectlaw53.MarkupParseWords'. -/
def markupParseWordsCard : Claim7 := { stood := { row := markupParseWordsRow, standIns := [], harness := (true, "2ef274091d8e9213b9ebf6f29144634d61c4bcce5d5a9ded992cfb68489cbcdc"), looks := false }, kinds := [], alts := [], laidByText := true, laidKinds := [.data, .data, .data, .data, .data, .data, .data, .pinned], laidTests := true, laidLooks := .later }
def MarkupParseWordsCardSaid : Prop := Claim7.holds Tryd.pinned (.plain (OpenSpec.ofChange markupParseWordsSpec)) markupParseWordsCard

/-- THE SECOND FORM's CARD OF 'pandectlaw53.MarkupFormatWords'. -/
def markupFormatWordsUptoCard : Claim7 := { stood := { row := markupFormatWordsUptoRow, standIns := [], harness := (true, "2ef274091d8e9213b9ebf6f29144634d61c4bcce5d5a9ded992cfb68489cbcdc"), looks := false }, kinds := [], alts := [], laidByText := true, laidKinds := [.data, .data, .data, .data, .data, .data, .data, .pinned], laidTests := true, laidLooks := .later }
def MarkupFormatWordsUptoCardSaid : Prop := Claim7.holds Tryd.pinned (.plain (OpenSpec.upto markupFormatWordsSpec)) markupFormatWordsUptoCard

/-- THE SECOND FORM's CARD OF 'pandectlaw53.MarkupParseWords'. -/
def markupParseWordsUptoCard : Claim7 := { stood := { row := markupParseWordsUptoRow, standIns := [], harness := (true, "2ef274091d8e9213b9ebf6f29144634d61c4bcce5d5a9ded992cfb68489cbcdc"), looks := false }, kinds := [], alts := [], laidByText := true, laidKinds := [.data, .data, .data, .data, .data, .data, .data, .pinned], laidTests := true, laidLooks := .later }
def MarkupParseWordsUptoCardSaid : Prop := Claim7.holds Tryd.pinned (.plain (OpenSpec.upto markupParseWordsSpec)) markupParseWordsUptoCard
end Rows
end Go.Proofs.YtalogjkalmkpjaaDoor
