/-
  NARROWER THAN 'FOR EVERY INPUT', by the rows' own cells (each row's printed sentence says how): CitationValidates: laid · CitationScans: laid · CitationParses: laid · CitationDisjoint: laid · CitationWords: laid · CitationRoundTrip: laid · CitationInContext: laid.
  DERIVED. THE GIVEN ROWS OF THIS SEAT. 7 by the template 'for every input the law returns true; each argument reads behind the call as it read before'; 0 by the template 'total and deterministic' (their statements: YtnmkblpbmoikpaaDoorTotals.lean).
  GIVEN WITH THE SEED: the statements are not yours to turn. If you find one false, say at which input.
  Laid BY PROGRAM, IN A SANDBOX (cutbox-rows.mjs): the forced cells as the released guide's own fill.sh prints them over the translation c9562976c7c566bc… (all of the seat's roots in one cut). By AI agents, Wed Nov 11 2026. No macro, syntax, notation, axiom, sorry.
-/
import Derived.Test.YtnmkblpbmoikpaaDoorChecked
import GoSem.PinnedTables
import GoSem.Claim
import GoSem.ClaimJoined
import GoSem.ClaimMapViews
import Derived.JoinedTies
import Derived.KernelRfl
namespace Go.Proofs.YtnmkblpbmoikpaaDoor
/- THE CELL 'sum', in the pinned program and in every row, IS THE sha256 OF THE DUMP (.gsa) THAT YtnmkblpbmoikpaaDoorProg.lean LOADS. Nothing in Lean hashes anything: it is a label: what it is worth is what the hold of that sum in a sandbox is worth. -/
noncomputable def Tryd.pinned : Pinned := { name := "ytnmkblpbmoikpaadoor", sum := "c9562976c7c566bc9855ceb2b660a32713d13a5b69adff3dd9d2cef9fb7ba567", checked := Tryd.checked }
namespace Rows
def none {H : Type} : Left H := { results := [], args := [] }

/- WHAT THE LISTED PACKAGE-LEVEL VARIABLES READ AS WHEN THE CALL BEGINS. Each datum BY PROGRAM (the guide's laid-datum.mjs) off the statement by which the dump's own 'gosem.cut.vars' lays the variable. In a bare row this is a premise. The card (YtnmkblpbmoikpaaDoorCards.lean) ties it to the program's text. -/
def laid_unicode_utf8_acceptRanges {H : Type} : DataW H := .agg [.agg [.lit (.int .u8 128), .lit (.int .u8 191)], .agg [.lit (.int .u8 160), .lit (.int .u8 191)], .agg [.lit (.int .u8 128), .lit (.int .u8 159)], .agg [.lit (.int .u8 144), .lit (.int .u8 191)], .agg [.lit (.int .u8 128), .lit (.int .u8 143)], .agg [.lit (.int .u8 0), .lit (.int .u8 0)], .agg [.lit (.int .u8 0), .lit (.int .u8 0)], .agg [.lit (.int .u8 0), .lit (.int .u8 0)], .agg [.lit (.int .u8 0), .lit (.int .u8 0)], .agg [.lit (.int .u8 0), .lit (.int .u8 0)], .agg [.lit (.int .u8 0), .lit (.int .u8 0)], .agg [.lit (.int .u8 0), .lit (.int .u8 0)], .agg [.lit (.int .u8 0), .lit (.int .u8 0)], .agg [.lit (.int .u8 0), .lit (.int .u8 0)], .agg [.lit (.int .u8 0), .lit (.int .u8 0)], .agg [.lit (.int .u8 0), .lit (.int .u8 0)]]
/-- One of Go's own tables, pinned by name: the form's constant. -/
def laid_unicode_utf8_first : DataW Unit := Go.Pinned.utf8First

/-- 'pandectlaw20.CitationValidates': WHATEVER THE INPUT: true; the input reads as it did. -/
def citationValidatesSpec : ChangeSpec := { name := "citationValidates", fn := fun _ => fun
  | [d] => { results := [.lit (.bool true)], args := [d] }
  | _ => none }
def citationValidatesRow : OpenClaim := { program := "ytnmkblpbmoikpaadoor", sum := "c9562976c7c566bc9855ceb2b660a32713d13a5b69adff3dd9d2cef9fb7ba567", func := "pandect/pandectlaw20.CitationValidates", spec := "citationValidates", inPlace := ["internal/bytealg.IndexByteString", "internal/bytealg.CountString", "internal/bytealg.IndexString", "internal/abi.NoEscape", "internal/bytealg.MakeNoZero"], unfollowed := true, recurses := true, named := ["unicode/utf8.first", "unicode/utf8.acceptRanges", "internal/bytealg.MaxLen"], apart := false, laid := [("unicode/utf8.acceptRanges", laid_unicode_utf8_acceptRanges), ("unicode/utf8.first", laid_unicode_utf8_first)] }
def CitationValidatesSaid : Prop := citationValidatesRow.holds Tryd.pinned (OpenSpec.ofChange citationValidatesSpec)

/-- ITS FALSE NEIGHBOUR: 'it returns false'. Refute it at one input. -/
def citationValidatesWrong : ChangeSpec := { name := "citationValidates", fn := fun _ => fun
  | [d] => { results := [.lit (.bool false)], args := [d] }
  | _ => none }
def CitationValidatesWrongFalsely : Prop := citationValidatesRow.holds Tryd.pinned (OpenSpec.ofChange citationValidatesWrong)

/-- 'pandectlaw20.CitationScans': WHATEVER THE INPUT: true; the input reads as it did. -/
def citationScansSpec : ChangeSpec := { name := "citationScans", fn := fun _ => fun
  | [d] => { results := [.lit (.bool true)], args := [d] }
  | _ => none }
def citationScansRow : OpenClaim := { program := "ytnmkblpbmoikpaadoor", sum := "c9562976c7c566bc9855ceb2b660a32713d13a5b69adff3dd9d2cef9fb7ba567", func := "pandect/pandectlaw20.CitationScans", spec := "citationScans", inPlace := ["internal/bytealg.IndexByteString", "internal/bytealg.CountString", "internal/bytealg.IndexString", "internal/abi.NoEscape", "internal/bytealg.MakeNoZero"], unfollowed := true, recurses := true, named := ["unicode/utf8.first", "unicode/utf8.acceptRanges", "internal/bytealg.MaxLen"], apart := false, laid := [("unicode/utf8.acceptRanges", laid_unicode_utf8_acceptRanges), ("unicode/utf8.first", laid_unicode_utf8_first)] }
def CitationScansSaid : Prop := citationScansRow.holds Tryd.pinned (OpenSpec.ofChange citationScansSpec)

/-- ITS FALSE NEIGHBOUR: 'it returns false'. Refute it at one input. -/
def citationScansWrong : ChangeSpec := { name := "citationScans", fn := fun _ => fun
  | [d] => { results := [.lit (.bool false)], args := [d] }
  | _ => none }
def CitationScansWrongFalsely : Prop := citationScansRow.holds Tryd.pinned (OpenSpec.ofChange citationScansWrong)

/-- 'pandectlaw20.CitationParses': WHATEVER THE INPUT: true; the input reads as it did. -/
def citationParsesSpec : ChangeSpec := { name := "citationParses", fn := fun _ => fun
  | [d] => { results := [.lit (.bool true)], args := [d] }
  | _ => none }
def citationParsesRow : OpenClaim := { program := "ytnmkblpbmoikpaadoor", sum := "c9562976c7c566bc9855ceb2b660a32713d13a5b69adff3dd9d2cef9fb7ba567", func := "pandect/pandectlaw20.CitationParses", spec := "citationParses", inPlace := ["internal/bytealg.IndexByteString", "internal/bytealg.CountString", "internal/bytealg.IndexString", "internal/abi.NoEscape", "internal/bytealg.MakeNoZero"], unfollowed := true, recurses := true, named := ["unicode/utf8.first", "unicode/utf8.acceptRanges", "internal/bytealg.MaxLen"], apart := false, laid := [("unicode/utf8.acceptRanges", laid_unicode_utf8_acceptRanges), ("unicode/utf8.first", laid_unicode_utf8_first)] }
def CitationParsesSaid : Prop := citationParsesRow.holds Tryd.pinned (OpenSpec.ofChange citationParsesSpec)

/-- ITS FALSE NEIGHBOUR: 'it returns false'. Refute it at one input. -/
def citationParsesWrong : ChangeSpec := { name := "citationParses", fn := fun _ => fun
  | [d] => { results := [.lit (.bool false)], args := [d] }
  | _ => none }
def CitationParsesWrongFalsely : Prop := citationParsesRow.holds Tryd.pinned (OpenSpec.ofChange citationParsesWrong)

/-- 'pandectlaw20.CitationDisjoint': WHATEVER THE INPUT: true; the input reads as it did. -/
def citationDisjointSpec : ChangeSpec := { name := "citationDisjoint", fn := fun _ => fun
  | [d] => { results := [.lit (.bool true)], args := [d] }
  | _ => none }
def citationDisjointRow : OpenClaim := { program := "ytnmkblpbmoikpaadoor", sum := "c9562976c7c566bc9855ceb2b660a32713d13a5b69adff3dd9d2cef9fb7ba567", func := "pandect/pandectlaw20.CitationDisjoint", spec := "citationDisjoint", inPlace := ["internal/bytealg.IndexByteString", "internal/bytealg.CountString", "internal/bytealg.IndexString", "internal/abi.NoEscape", "internal/bytealg.MakeNoZero"], unfollowed := true, recurses := true, named := ["unicode/utf8.first", "unicode/utf8.acceptRanges", "internal/bytealg.MaxLen"], apart := false, laid := [("unicode/utf8.acceptRanges", laid_unicode_utf8_acceptRanges), ("unicode/utf8.first", laid_unicode_utf8_first)] }
def CitationDisjointSaid : Prop := citationDisjointRow.holds Tryd.pinned (OpenSpec.ofChange citationDisjointSpec)

/-- ITS FALSE NEIGHBOUR: 'it returns false'. Refute it at one input. -/
def citationDisjointWrong : ChangeSpec := { name := "citationDisjoint", fn := fun _ => fun
  | [d] => { results := [.lit (.bool false)], args := [d] }
  | _ => none }
def CitationDisjointWrongFalsely : Prop := citationDisjointRow.holds Tryd.pinned (OpenSpec.ofChange citationDisjointWrong)

/-- 'pandectlaw20.CitationWords': WHATEVER THE INPUT: true; the input reads as it did. -/
def citationWordsSpec : ChangeSpec := { name := "citationWords", fn := fun _ => fun
  | [d] => { results := [.lit (.bool true)], args := [d] }
  | _ => none }
def citationWordsRow : OpenClaim := { program := "ytnmkblpbmoikpaadoor", sum := "c9562976c7c566bc9855ceb2b660a32713d13a5b69adff3dd9d2cef9fb7ba567", func := "pandect/pandectlaw20.CitationWords", spec := "citationWords", inPlace := ["internal/bytealg.IndexByteString", "internal/bytealg.CountString", "internal/bytealg.IndexString", "internal/abi.NoEscape", "internal/bytealg.MakeNoZero"], unfollowed := true, recurses := true, named := ["unicode/utf8.first", "unicode/utf8.acceptRanges", "internal/bytealg.MaxLen"], apart := false, laid := [("unicode/utf8.acceptRanges", laid_unicode_utf8_acceptRanges), ("unicode/utf8.first", laid_unicode_utf8_first)] }
def CitationWordsSaid : Prop := citationWordsRow.holds Tryd.pinned (OpenSpec.ofChange citationWordsSpec)

/-- ITS FALSE NEIGHBOUR: 'it returns false'. Refute it at one input. -/
def citationWordsWrong : ChangeSpec := { name := "citationWords", fn := fun _ => fun
  | [d] => { results := [.lit (.bool false)], args := [d] }
  | _ => none }
def CitationWordsWrongFalsely : Prop := citationWordsRow.holds Tryd.pinned (OpenSpec.ofChange citationWordsWrong)

/-- 'pandectlaw20.CitationRoundTrip': WHATEVER THE INPUT: true; the input reads as it did. -/
def citationRoundTripSpec : ChangeSpec := { name := "citationRoundTrip", fn := fun _ => fun
  | [d] => { results := [.lit (.bool true)], args := [d] }
  | _ => none }
def citationRoundTripRow : OpenClaim := { program := "ytnmkblpbmoikpaadoor", sum := "c9562976c7c566bc9855ceb2b660a32713d13a5b69adff3dd9d2cef9fb7ba567", func := "pandect/pandectlaw20.CitationRoundTrip", spec := "citationRoundTrip", inPlace := ["internal/bytealg.IndexByteString", "internal/bytealg.CountString", "internal/bytealg.IndexString", "internal/abi.NoEscape", "internal/bytealg.MakeNoZero"], unfollowed := true, recurses := true, named := ["unicode/utf8.first", "unicode/utf8.acceptRanges", "internal/bytealg.MaxLen"], apart := false, laid := [("unicode/utf8.acceptRanges", laid_unicode_utf8_acceptRanges), ("unicode/utf8.first", laid_unicode_utf8_first)] }
def CitationRoundTripSaid : Prop := citationRoundTripRow.holds Tryd.pinned (OpenSpec.ofChange citationRoundTripSpec)

/-- ITS FALSE NEIGHBOUR: 'it returns false'. Refute it at one input. -/
def citationRoundTripWrong : ChangeSpec := { name := "citationRoundTrip", fn := fun _ => fun
  | [d] => { results := [.lit (.bool false)], args := [d] }
  | _ => none }
def CitationRoundTripWrongFalsely : Prop := citationRoundTripRow.holds Tryd.pinned (OpenSpec.ofChange citationRoundTripWrong)

/-- 'pandectlaw20.CitationInContext': WHATEVER THE INPUT: true; the input reads as it did. -/
def citationInContextSpec : ChangeSpec := { name := "citationInContext", fn := fun _ => fun
  | [d1, d2, d3, d4] => { results := [.lit (.bool true)], args := [d1, d2, d3, d4] }
  | _ => none }
def citationInContextRow : OpenClaim := { program := "ytnmkblpbmoikpaadoor", sum := "c9562976c7c566bc9855ceb2b660a32713d13a5b69adff3dd9d2cef9fb7ba567", func := "pandect/pandectlaw20.CitationInContext", spec := "citationInContext", inPlace := ["internal/bytealg.IndexByteString", "internal/bytealg.CountString", "internal/bytealg.IndexString", "internal/abi.NoEscape", "internal/bytealg.MakeNoZero"], unfollowed := true, recurses := true, named := ["unicode/utf8.first", "unicode/utf8.acceptRanges", "internal/bytealg.MaxLen"], apart := false, laid := [("unicode/utf8.acceptRanges", laid_unicode_utf8_acceptRanges), ("unicode/utf8.first", laid_unicode_utf8_first)] }
def CitationInContextSaid : Prop := citationInContextRow.holds Tryd.pinned (OpenSpec.ofChange citationInContextSpec)

/-- ITS FALSE NEIGHBOUR: 'it returns false'. Refute it at one input. -/
def citationInContextWrong : ChangeSpec := { name := "citationInContext", fn := fun _ => fun
  | [d1, d2, d3, d4] => { results := [.lit (.bool false)], args := [d1, d2, d3, d4] }
  | _ => none }
def CitationInContextWrongFalsely : Prop := citationInContextRow.holds Tryd.pinned (OpenSpec.ofChange citationInContextWrong)

/- THE SECOND FORM. 'bulk': how many values and letters a reading holds, each counted each time it is reached (what is shared counts as often as it is met; a slice's spare places count too). A statement '..UptoSaid' is the law's where the arguments, and the package variables that the reading takes, are together of bulk at most 1048576: NARROWER than '..Said'. Prove '..Said' where nothing that the law and all that it calls make is longer than what came in: it says more and counts as full. Else prove '..UptoSaid'. A law counts once. -/
mutual
def uptoBulk {H : Type} : DataW H → Nat
  | .lit (.string bytes) => bytes.length + 1
  | .lit _ => 1
  | .nil => 1
  | .ptr d => uptoBulk d + 1
  | .slice elems spare => uptoBulkAll elems + uptoBulkAll spare + 1
  | .agg parts => uptoBulkAll parts + 1
  | .iface _ d => uptoBulk d + 1
  | .map entries => uptoBulkEntries entries + 1
  | .held _ => 1
def uptoBulkAll {H : Type} : List (DataW H) → Nat
  | [] => 0
  | d :: r => uptoBulk d + uptoBulkAll r
def uptoBulkEntries {H : Type} : List (Lit × DataW H) → Nat
  | [] => 0
  | x :: r => uptoBulkEntry x + uptoBulkEntries r
def uptoBulkEntry {H : Type} : Lit × DataW H → Nat
  | (.string bytes, d) => bytes.length + uptoBulk d + 1
  | (_, d) => uptoBulk d + 1
 end
def uptoSmall : (H : Type) → List (DataW H) → Bool := fun _ ds => decide (uptoBulkAll ds ≤ 1048576)
def OpenSpec.upto (s : _root_.Go.ChangeSpec) : _root_.Go.OpenSpec := { _root_.Go.OpenSpec.ofChange s with cond := some uptoSmall }

/-- 'pandectlaw20.CitationValidates', WHERE WHAT IT READS IS OF BULK AT MOST 1048576: true; the input reads as it did. -/
def citationValidatesUptoRow : OpenClaim := { program := "ytnmkblpbmoikpaadoor", sum := "c9562976c7c566bc9855ceb2b660a32713d13a5b69adff3dd9d2cef9fb7ba567", func := "pandect/pandectlaw20.CitationValidates", spec := "citationValidates", inPlace := ["internal/bytealg.IndexByteString", "internal/bytealg.CountString", "internal/bytealg.IndexString", "internal/abi.NoEscape", "internal/bytealg.MakeNoZero"], unfollowed := true, recurses := true, named := ["unicode/utf8.first", "unicode/utf8.acceptRanges", "internal/bytealg.MaxLen"], apart := false, laid := [("unicode/utf8.acceptRanges", laid_unicode_utf8_acceptRanges), ("unicode/utf8.first", laid_unicode_utf8_first)], narrowed := true }
def CitationValidatesUptoSaid : Prop := citationValidatesUptoRow.holds Tryd.pinned (OpenSpec.upto citationValidatesSpec)

/-- 'pandectlaw20.CitationScans', WHERE WHAT IT READS IS OF BULK AT MOST 1048576: true; the input reads as it did. -/
def citationScansUptoRow : OpenClaim := { program := "ytnmkblpbmoikpaadoor", sum := "c9562976c7c566bc9855ceb2b660a32713d13a5b69adff3dd9d2cef9fb7ba567", func := "pandect/pandectlaw20.CitationScans", spec := "citationScans", inPlace := ["internal/bytealg.IndexByteString", "internal/bytealg.CountString", "internal/bytealg.IndexString", "internal/abi.NoEscape", "internal/bytealg.MakeNoZero"], unfollowed := true, recurses := true, named := ["unicode/utf8.first", "unicode/utf8.acceptRanges", "internal/bytealg.MaxLen"], apart := false, laid := [("unicode/utf8.acceptRanges", laid_unicode_utf8_acceptRanges), ("unicode/utf8.first", laid_unicode_utf8_first)], narrowed := true }
def CitationScansUptoSaid : Prop := citationScansUptoRow.holds Tryd.pinned (OpenSpec.upto citationScansSpec)

/-- 'pandectlaw20.CitationParses', WHERE WHAT IT READS IS OF BULK AT MOST 1048576: true; the input reads as it did. -/
def citationParsesUptoRow : OpenClaim := { program := "ytnmkblpbmoikpaadoor", sum := "c9562976c7c566bc9855ceb2b660a32713d13a5b69adff3dd9d2cef9fb7ba567", func := "pandect/pandectlaw20.CitationParses", spec := "citationParses", inPlace := ["internal/bytealg.IndexByteString", "internal/bytealg.CountString", "internal/bytealg.IndexString", "internal/abi.NoEscape", "internal/bytealg.MakeNoZero"], unfollowed := true, recurses := true, named := ["unicode/utf8.first", "unicode/utf8.acceptRanges", "internal/bytealg.MaxLen"], apart := false, laid := [("unicode/utf8.acceptRanges", laid_unicode_utf8_acceptRanges), ("unicode/utf8.first", laid_unicode_utf8_first)], narrowed := true }
def CitationParsesUptoSaid : Prop := citationParsesUptoRow.holds Tryd.pinned (OpenSpec.upto citationParsesSpec)

/-- 'pandectlaw20.CitationDisjoint', WHERE WHAT IT READS IS OF BULK AT MOST 1048576: true; the input reads as it did. -/
def citationDisjointUptoRow : OpenClaim := { program := "ytnmkblpbmoikpaadoor", sum := "c9562976c7c566bc9855ceb2b660a32713d13a5b69adff3dd9d2cef9fb7ba567", func := "pandect/pandectlaw20.CitationDisjoint", spec := "citationDisjoint", inPlace := ["internal/bytealg.IndexByteString", "internal/bytealg.CountString", "internal/bytealg.IndexString", "internal/abi.NoEscape", "internal/bytealg.MakeNoZero"], unfollowed := true, recurses := true, named := ["unicode/utf8.first", "unicode/utf8.acceptRanges", "internal/bytealg.MaxLen"], apart := false, laid := [("unicode/utf8.acceptRanges", laid_unicode_utf8_acceptRanges), ("unicode/utf8.first", laid_unicode_utf8_first)], narrowed := true }
def CitationDisjointUptoSaid : Prop := citationDisjointUptoRow.holds Tryd.pinned (OpenSpec.upto citationDisjointSpec)

/-- 'pandectlaw20.CitationWords', WHERE WHAT IT READS IS OF BULK AT MOST 1048576: true; the input reads as it did. -/
def citationWordsUptoRow : OpenClaim := { program := "ytnmkblpbmoikpaadoor", sum := "c9562976c7c566bc9855ceb2b660a32713d13a5b69adff3dd9d2cef9fb7ba567", func := "pandect/pandectlaw20.CitationWords", spec := "citationWords", inPlace := ["internal/bytealg.IndexByteString", "internal/bytealg.CountString", "internal/bytealg.IndexString", "internal/abi.NoEscape", "internal/bytealg.MakeNoZero"], unfollowed := true, recurses := true, named := ["unicode/utf8.first", "unicode/utf8.acceptRanges", "internal/bytealg.MaxLen"], apart := false, laid := [("unicode/utf8.acceptRanges", laid_unicode_utf8_acceptRanges), ("unicode/utf8.first", laid_unicode_utf8_first)], narrowed := true }
def CitationWordsUptoSaid : Prop := citationWordsUptoRow.holds Tryd.pinned (OpenSpec.upto citationWordsSpec)

/-- 'pandectlaw20.CitationRoundTrip', WHERE WHAT IT READS IS OF BULK AT MOST 1048576: true; the input reads as it did. -/
def citationRoundTripUptoRow : OpenClaim := { program := "ytnmkblpbmoikpaadoor", sum := "c9562976c7c566bc9855ceb2b660a32713d13a5b69adff3dd9d2cef9fb7ba567", func := "pandect/pandectlaw20.CitationRoundTrip", spec := "citationRoundTrip", inPlace := ["internal/bytealg.IndexByteString", "internal/bytealg.CountString", "internal/bytealg.IndexString", "internal/abi.NoEscape", "internal/bytealg.MakeNoZero"], unfollowed := true, recurses := true, named := ["unicode/utf8.first", "unicode/utf8.acceptRanges", "internal/bytealg.MaxLen"], apart := false, laid := [("unicode/utf8.acceptRanges", laid_unicode_utf8_acceptRanges), ("unicode/utf8.first", laid_unicode_utf8_first)], narrowed := true }
def CitationRoundTripUptoSaid : Prop := citationRoundTripUptoRow.holds Tryd.pinned (OpenSpec.upto citationRoundTripSpec)

/-- 'pandectlaw20.CitationInContext', WHERE WHAT IT READS IS OF BULK AT MOST 1048576: true; the input reads as it did. -/
def citationInContextUptoRow : OpenClaim := { program := "ytnmkblpbmoikpaadoor", sum := "c9562976c7c566bc9855ceb2b660a32713d13a5b69adff3dd9d2cef9fb7ba567", func := "pandect/pandectlaw20.CitationInContext", spec := "citationInContext", inPlace := ["internal/bytealg.IndexByteString", "internal/bytealg.CountString", "internal/bytealg.IndexString", "internal/abi.NoEscape", "internal/bytealg.MakeNoZero"], unfollowed := true, recurses := true, named := ["unicode/utf8.first", "unicode/utf8.acceptRanges", "internal/bytealg.MaxLen"], apart := false, laid := [("unicode/utf8.acceptRanges", laid_unicode_utf8_acceptRanges), ("unicode/utf8.first", laid_unicode_utf8_first)], narrowed := true }
def CitationInContextUptoSaid : Prop := citationInContextUptoRow.holds Tryd.pinned (OpenSpec.upto citationInContextSpec)

end Rows
end Go.Proofs.YtnmkblpbmoikpaaDoor
