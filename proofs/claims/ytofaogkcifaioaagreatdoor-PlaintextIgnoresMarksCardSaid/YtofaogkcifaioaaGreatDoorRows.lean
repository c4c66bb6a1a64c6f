/-
  NARROWER THAN 'FOR EVERY INPUT', by the rows' own cells (each row's printed sentence says how): PlaintextFormat: loops, laid · PlaintextParse: laid · PlaintextFormatLine: loops, laid · PlaintextParseLine: laid · PlaintextFormatParse: loops, laid · PlaintextIgnoresMarks: loops, laid.
  DERIVED. THE GIVEN ROWS OF THIS SEAT. 6 by the template 'for every input the law returns true; each argument reads behind the call as it read before'; 0 by the template 'total and deterministic' (their statements: YtofaogkcifaioaaGreatDoorTotals.lean).
  GIVEN WITH THE SEED: the statements are not yours to turn. If you find one false, say at which input.
  Laid BY PROGRAM, IN A SANDBOX (cutbox-rows.mjs): the forced cells as the released guide's own fill.sh prints them over the translation 189fa5fe29a6a900… (all of the seat's roots in one cut). By AI agents, Wed Nov 11 2026. No macro, syntax, notation, axiom, sorry.
-/
import Derived.Test.YtofaogkcifaioaaGreatDoorChecked
import GoSem.PinnedTables
import GoSem.Claim
import GoSem.ClaimJoined
import GoSem.ClaimMapViews
import Derived.JoinedTies
import Derived.KernelRfl
namespace Go.Proofs.YtofaogkcifaioaaGreatDoor
/- THE CELL 'sum', in the pinned program and in every row, IS THE sha256 OF THE DUMP (.gsa) THAT YtofaogkcifaioaaGreatDoorProg.lean LOADS. Nothing in Lean hashes anything: it is a label: what it is worth is what the hold of that sum in a sandbox is worth. -/
noncomputable def Tryz.pinned : Pinned := { name := "ytofaogkcifaioaagreatdoor", sum := "189fa5fe29a6a900daa90e935c75a6057d46b776fab2df88bc6491b556e0ce9d", checked := Tryz.checked }
namespace Rows
def none {H : Type} : Left H := { results := [], args := [] }

/- WHAT THE LISTED PACKAGE-LEVEL VARIABLES READ AS WHEN THE CALL BEGINS. Each datum BY PROGRAM (the guide's laid-datum.mjs) off the statement by which the dump's own 'gosem.cut.vars' lays the variable. In a bare row this is a premise. The card (YtofaogkcifaioaaGreatDoorCards.lean) ties it to the program's text. -/
def laid_unicode_utf8_acceptRanges {H : Type} : DataW H := .agg [.agg [.lit (.int .u8 128), .lit (.int .u8 191)], .agg [.lit (.int .u8 160), .lit (.int .u8 191)], .agg [.lit (.int .u8 128), .lit (.int .u8 159)], .agg [.lit (.int .u8 144), .lit (.int .u8 191)], .agg [.lit (.int .u8 128), .lit (.int .u8 143)], .agg [.lit (.int .u8 0), .lit (.int .u8 0)], .agg [.lit (.int .u8 0), .lit (.int .u8 0)], .agg [.lit (.int .u8 0), .lit (.int .u8 0)], .agg [.lit (.int .u8 0), .lit (.int .u8 0)], .agg [.lit (.int .u8 0), .lit (.int .u8 0)], .agg [.lit (.int .u8 0), .lit (.int .u8 0)], .agg [.lit (.int .u8 0), .lit (.int .u8 0)], .agg [.lit (.int .u8 0), .lit (.int .u8 0)], .agg [.lit (.int .u8 0), .lit (.int .u8 0)], .agg [.lit (.int .u8 0), .lit (.int .u8 0)], .agg [.lit (.int .u8 0), .lit (.int .u8 0)]]
def laid_pandect_unit_names {H : Type} : DataW H := .agg [.lit (.string [98, 111, 111, 107]), .lit (.string [112, 97, 114, 116]), .lit (.string [115, 101, 99, 116, 105, 111, 110]), .lit (.string [112, 97, 114, 97, 103, 114, 97, 112, 104]), .lit (.string [116, 97, 98, 108, 101]), .lit (.string [114, 111, 119]), .lit (.string [99, 101, 108, 108]), .lit (.string [110, 111, 116, 101])]
def laid_pandect_unit_below {H : Type} : DataW H := .agg [.slice [.lit (.int .i64 1), .lit (.int .i64 2)] [], .slice [.lit (.int .i64 2)] [], .slice [.lit (.int .i64 3), .lit (.int .i64 4), .lit (.int .i64 7)] [], .slice [.lit (.int .i64 3), .lit (.int .i64 4), .lit (.int .i64 7)] [], .slice [.lit (.int .i64 5)] [], .slice [.lit (.int .i64 6)] [], .nil, .nil]
/-- One of Go's own tables, pinned by name: the form's constant. -/
def laid_unicode_utf8_first : DataW Unit := Go.Pinned.utf8First

/-- 'pandectlaw11.PlaintextFormat': WHATEVER THE INPUT: true; the input reads as it did. -/
def plaintextFormatSpec : ChangeSpec := { name := "plaintextFormat", fn := fun _ => fun
  | [d] => { results := [.lit (.bool true)], args := [d] }
  | _ => none }
def plaintextFormatRow : OpenClaim := { program := "ytofaogkcifaioaagreatdoor", sum := "189fa5fe29a6a900daa90e935c75a6057d46b776fab2df88bc6491b556e0ce9d", func := "pandect/pandectlaw11.PlaintextFormat", spec := "plaintextFormat", inPlace := ["internal/abi.NoEscape", "internal/bytealg.MakeNoZero", "internal/bytealg.IndexByteString", "internal/bytealg.IndexString", "internal/bytealg.CountString"], unfollowed := true, recurses := true, named := ["pandect/unit.names", "pandect/unit.below", "internal/bytealg.MaxLen", "unicode/utf8.first", "unicode/utf8.acceptRanges"], loops := true, plainKeys := false, apart := false, laid := [("unicode/utf8.acceptRanges", laid_unicode_utf8_acceptRanges), ("pandect/unit.names", laid_pandect_unit_names), ("pandect/unit.below", laid_pandect_unit_below), ("unicode/utf8.first", laid_unicode_utf8_first)] }
def PlaintextFormatSaid : Prop := plaintextFormatRow.holds Tryz.pinned (OpenSpec.ofChange plaintextFormatSpec)

/-- ITS FALSE NEIGHBOUR: 'it returns false'. Refute it at one input. -/
def plaintextFormatWrong : ChangeSpec := { name := "plaintextFormat", fn := fun _ => fun
  | [d] => { results := [.lit (.bool false)], args := [d] }
  | _ => none }
def PlaintextFormatWrongFalsely : Prop := plaintextFormatRow.holds Tryz.pinned (OpenSpec.ofChange plaintextFormatWrong)

/-- 'pandectlaw11.PlaintextParse': WHATEVER THE INPUT: true; the input reads as it did. -/
def plaintextParseSpec : ChangeSpec := { name := "plaintextParse", fn := fun _ => fun
  | [d] => { results := [.lit (.bool true)], args := [d] }
  | _ => none }
def plaintextParseRow : OpenClaim := { program := "ytofaogkcifaioaagreatdoor", sum := "189fa5fe29a6a900daa90e935c75a6057d46b776fab2df88bc6491b556e0ce9d", func := "pandect/pandectlaw11.PlaintextParse", spec := "plaintextParse", inPlace := ["internal/abi.NoEscape", "internal/bytealg.MakeNoZero", "internal/bytealg.IndexByteString", "internal/bytealg.IndexString", "internal/bytealg.CountString"], unfollowed := true, recurses := true, named := ["pandect/unit.names", "pandect/unit.below", "internal/bytealg.MaxLen", "unicode/utf8.first", "unicode/utf8.acceptRanges"], plainKeys := false, apart := false, laid := [("unicode/utf8.acceptRanges", laid_unicode_utf8_acceptRanges), ("pandect/unit.names", laid_pandect_unit_names), ("pandect/unit.below", laid_pandect_unit_below), ("unicode/utf8.first", laid_unicode_utf8_first)] }
def PlaintextParseSaid : Prop := plaintextParseRow.holds Tryz.pinned (OpenSpec.ofChange plaintextParseSpec)

/-- ITS FALSE NEIGHBOUR: 'it returns false'. Refute it at one input. -/
def plaintextParseWrong : ChangeSpec := { name := "plaintextParse", fn := fun _ => fun
  | [d] => { results := [.lit (.bool false)], args := [d] }
  | _ => none }
def PlaintextParseWrongFalsely : Prop := plaintextParseRow.holds Tryz.pinned (OpenSpec.ofChange plaintextParseWrong)

/-- 'pandectlaw11.PlaintextFormatLine': WHATEVER THE INPUT: true; the input reads as it did. -/
def plaintextFormatLineSpec : ChangeSpec := { name := "plaintextFormatLine", fn := fun _ => fun
  | [d1, d2] => { results := [.lit (.bool true)], args := [d1, d2] }
  | _ => none }
def plaintextFormatLineRow : OpenClaim := { program := "ytofaogkcifaioaagreatdoor", sum := "189fa5fe29a6a900daa90e935c75a6057d46b776fab2df88bc6491b556e0ce9d", func := "pandect/pandectlaw11.PlaintextFormatLine", spec := "plaintextFormatLine", inPlace := ["internal/abi.NoEscape", "internal/bytealg.MakeNoZero", "internal/bytealg.IndexByteString", "internal/bytealg.IndexString", "internal/bytealg.CountString"], unfollowed := true, recurses := true, named := ["pandect/unit.names", "pandect/unit.below", "internal/bytealg.MaxLen", "unicode/utf8.first", "unicode/utf8.acceptRanges"], loops := true, plainKeys := false, apart := false, laid := [("unicode/utf8.acceptRanges", laid_unicode_utf8_acceptRanges), ("pandect/unit.names", laid_pandect_unit_names), ("pandect/unit.below", laid_pandect_unit_below), ("unicode/utf8.first", laid_unicode_utf8_first)] }
def PlaintextFormatLineSaid : Prop := plaintextFormatLineRow.holds Tryz.pinned (OpenSpec.ofChange plaintextFormatLineSpec)

/-- ITS FALSE NEIGHBOUR: 'it returns false'. Refute it at one input. -/
def plaintextFormatLineWrong : ChangeSpec := { name := "plaintextFormatLine", fn := fun _ => fun
  | [d1, d2] => { results := [.lit (.bool false)], args := [d1, d2] }
  | _ => none }
def PlaintextFormatLineWrongFalsely : Prop := plaintextFormatLineRow.holds Tryz.pinned (OpenSpec.ofChange plaintextFormatLineWrong)

/-- 'pandectlaw11.PlaintextParseLine': WHATEVER THE INPUT: true; the input reads as it did. -/
def plaintextParseLineSpec : ChangeSpec := { name := "plaintextParseLine", fn := fun _ => fun
  | [d] => { results := [.lit (.bool true)], args := [d] }
  | _ => none }
def plaintextParseLineRow : OpenClaim := { program := "ytofaogkcifaioaagreatdoor", sum := "189fa5fe29a6a900daa90e935c75a6057d46b776fab2df88bc6491b556e0ce9d", func := "pandect/pandectlaw11.PlaintextParseLine", spec := "plaintextParseLine", inPlace := ["internal/abi.NoEscape", "internal/bytealg.MakeNoZero", "internal/bytealg.IndexByteString", "internal/bytealg.IndexString", "internal/bytealg.CountString"], unfollowed := true, recurses := true, named := ["pandect/unit.names", "pandect/unit.below", "internal/bytealg.MaxLen", "unicode/utf8.first", "unicode/utf8.acceptRanges"], plainKeys := false, apart := false, laid := [("unicode/utf8.acceptRanges", laid_unicode_utf8_acceptRanges), ("pandect/unit.names", laid_pandect_unit_names), ("pandect/unit.below", laid_pandect_unit_below), ("unicode/utf8.first", laid_unicode_utf8_first)] }
def PlaintextParseLineSaid : Prop := plaintextParseLineRow.holds Tryz.pinned (OpenSpec.ofChange plaintextParseLineSpec)

/-- ITS FALSE NEIGHBOUR: 'it returns false'. Refute it at one input. -/
def plaintextParseLineWrong : ChangeSpec := { name := "plaintextParseLine", fn := fun _ => fun
  | [d] => { results := [.lit (.bool false)], args := [d] }
  | _ => none }
def PlaintextParseLineWrongFalsely : Prop := plaintextParseLineRow.holds Tryz.pinned (OpenSpec.ofChange plaintextParseLineWrong)

/-- 'pandectlaw11.PlaintextFormatParse': WHATEVER THE INPUT: true; the input reads as it did. -/
def plaintextFormatParseSpec : ChangeSpec := { name := "plaintextFormatParse", fn := fun _ => fun
  | [d] => { results := [.lit (.bool true)], args := [d] }
  | _ => none }
def plaintextFormatParseRow : OpenClaim := { program := "ytofaogkcifaioaagreatdoor", sum := "189fa5fe29a6a900daa90e935c75a6057d46b776fab2df88bc6491b556e0ce9d", func := "pandect/pandectlaw11.PlaintextFormatParse", spec := "plaintextFormatParse", inPlace := ["internal/abi.NoEscape", "internal/bytealg.MakeNoZero", "internal/bytealg.IndexByteString", "internal/bytealg.IndexString", "internal/bytealg.CountString"], unfollowed := true, recurses := true, named := ["pandect/unit.names", "pandect/unit.below", "internal/bytealg.MaxLen", "unicode/utf8.first", "unicode/utf8.acceptRanges"], loops := true, plainKeys := false, apart := false, laid := [("unicode/utf8.acceptRanges", laid_unicode_utf8_acceptRanges), ("pandect/unit.names", laid_pandect_unit_names), ("pandect/unit.below", laid_pandect_unit_below), ("unicode/utf8.first", laid_unicode_utf8_first)] }
def PlaintextFormatParseSaid : Prop := plaintextFormatParseRow.holds Tryz.pinned (OpenSpec.ofChange plaintextFormatParseSpec)

/-- ITS FALSE NEIGHBOUR: 'it returns false'. Refute it at one input. -/
def plaintextFormatParseWrong : ChangeSpec := { name := "plaintextFormatParse", fn := fun _ => fun
  | [d] => { results := [.lit (.bool false)], args := [d] }
  | _ => none }
def PlaintextFormatParseWrongFalsely : Prop := plaintextFormatParseRow.holds Tryz.pinned (OpenSpec.ofChange plaintextFormatParseWrong)

/-- 'pandectlaw11.PlaintextIgnoresMarks': WHATEVER THE INPUT: true; the input reads as it did. -/
def plaintextIgnoresMarksSpec : ChangeSpec := { name := "plaintextIgnoresMarks", fn := fun _ => fun
  | [d1, d2] => { results := [.lit (.bool true)], args := [d1, d2] }
  | _ => none }
def plaintextIgnoresMarksRow : OpenClaim := { program := "ytofaogkcifaioaagreatdoor", sum := "189fa5fe29a6a900daa90e935c75a6057d46b776fab2df88bc6491b556e0ce9d", func := "pandect/pandectlaw11.PlaintextIgnoresMarks", spec := "plaintextIgnoresMarks", inPlace := ["internal/abi.NoEscape", "internal/bytealg.MakeNoZero", "internal/bytealg.IndexByteString", "internal/bytealg.IndexString", "internal/bytealg.CountString"], unfollowed := true, recurses := true, named := ["pandect/unit.names", "pandect/unit.below", "internal/bytealg.MaxLen", "unicode/utf8.first", "unicode/utf8.acceptRanges"], loops := true, plainKeys := false, apart := false, laid := [("unicode/utf8.acceptRanges", laid_unicode_utf8_acceptRanges), ("pandect/unit.names", laid_pandect_unit_names), ("pandect/unit.below", laid_pandect_unit_below), ("unicode/utf8.first", laid_unicode_utf8_first)] }
def PlaintextIgnoresMarksSaid : Prop := plaintextIgnoresMarksRow.holds Tryz.pinned (OpenSpec.ofChange plaintextIgnoresMarksSpec)

/-- ITS FALSE NEIGHBOUR: 'it returns false'. Refute it at one input. -/
def plaintextIgnoresMarksWrong : ChangeSpec := { name := "plaintextIgnoresMarks", fn := fun _ => fun
  | [d1, d2] => { results := [.lit (.bool false)], args := [d1, d2] }
  | _ => none }
def PlaintextIgnoresMarksWrongFalsely : Prop := plaintextIgnoresMarksRow.holds Tryz.pinned (OpenSpec.ofChange plaintextIgnoresMarksWrong)

/- THE SECOND FORM. 'bulk': how many values and letters a reading holds, each counted each time it is reached (what is shared counts as often as it is met; a slice's spare places count too). A statement '..UptoSaid' is the law's where the arguments, and the package variables that the reading takes, are together of bulk at most 1048576: NARROWER than '..Said'. Prove '..Said' where nothing that the law and all that it calls make is longer than what came in: it says more and counts as full. Else prove '..UptoSaid'. A law counts once. -/
mutual
def uptoBulk {H : Type} : DataW H → Nat
  | .lit (.string bytes) => bytes.length + 1
  | .lit _ => 1
  | .nil => 1
  | .ptr d => uptoBulk d + 1
  | .slice elems spare => uptoBulkAll elems + uptoBulkAll spare + 1
  | .agg parts => uptoBulkAll parts + 1
  | .iface _ d => uptoBulk d + 1
  | .map entries => uptoBulkEntries entries + 1
  | .held _ => 1
def uptoBulkAll {H : Type} : List (DataW H) → Nat
  | [] => 0
  | d :: r => uptoBulk d + uptoBulkAll r
def uptoBulkEntries {H : Type} : List (Lit × DataW H) → Nat
  | [] => 0
  | x :: r => uptoBulkEntry x + uptoBulkEntries r
def uptoBulkEntry {H : Type} : Lit × DataW H → Nat
  | (.string bytes, d) => bytes.length + uptoBulk d + 1
  | (_, d) => uptoBulk d + 1
 end
def uptoSmall : (H : Type) → List (DataW H) → Bool := fun _ ds => decide (uptoBulkAll ds ≤ 1048576)
def OpenSpec.upto (s : _root_.Go.ChangeSpec) : _root_.Go.OpenSpec := { _root_.Go.OpenSpec.ofChange s with cond := some uptoSmall }

/-- 'pandectlaw11.PlaintextFormat', WHERE WHAT IT READS IS OF BULK AT MOST 1048576: true; the input reads as it did. -/
def plaintextFormatUptoRow : OpenClaim := { program := "ytofaogkcifaioaagreatdoor", sum := "189fa5fe29a6a900daa90e935c75a6057d46b776fab2df88bc6491b556e0ce9d", func := "pandect/pandectlaw11.PlaintextFormat", spec := "plaintextFormat", inPlace := ["internal/abi.NoEscape", "internal/bytealg.MakeNoZero", "internal/bytealg.IndexByteString", "internal/bytealg.IndexString", "internal/bytealg.CountString"], unfollowed := true, recurses := true, named := ["pandect/unit.names", "pandect/unit.below", "internal/bytealg.MaxLen", "unicode/utf8.first", "unicode/utf8.acceptRanges"], loops := true, plainKeys := false, apart := false, laid := [("unicode/utf8.acceptRanges", laid_unicode_utf8_acceptRanges), ("pandect/unit.names", laid_pandect_unit_names), ("pandect/unit.below", laid_pandect_unit_below), ("unicode/utf8.first", laid_unicode_utf8_first)], narrowed := true }
def PlaintextFormatUptoSaid : Prop := plaintextFormatUptoRow.holds Tryz.pinned (OpenSpec.upto plaintextFormatSpec)

/-- 'pandectlaw11.PlaintextParse', WHERE WHAT IT READS IS OF BULK AT MOST 1048576: true; the input reads as it did. -/
def plaintextParseUptoRow : OpenClaim := { program := "ytofaogkcifaioaagreatdoor", sum := "189fa5fe29a6a900daa90e935c75a6057d46b776fab2df88bc6491b556e0ce9d", func := "pandect/pandectlaw11.PlaintextParse", spec := "plaintextParse", inPlace := ["internal/abi.NoEscape", "internal/bytealg.MakeNoZero", "internal/bytealg.IndexByteString", "internal/bytealg.IndexString", "internal/bytealg.CountString"], unfollowed := true, recurses := true, named := ["pandect/unit.names", "pandect/unit.below", "internal/bytealg.MaxLen", "unicode/utf8.first", "unicode/utf8.acceptRanges"], plainKeys := false, apart := false, laid := [("unicode/utf8.acceptRanges", laid_unicode_utf8_acceptRanges), ("pandect/unit.names", laid_pandect_unit_names), ("pandect/unit.below", laid_pandect_unit_below), ("unicode/utf8.first", laid_unicode_utf8_first)], narrowed := true }
def PlaintextParseUptoSaid : Prop := plaintextParseUptoRow.holds Tryz.pinned (OpenSpec.upto plaintextParseSpec)

/-- 'pandectlaw11.PlaintextFormatLine', WHERE WHAT IT READS IS OF BULK AT MOST 1048576: true; the input reads as it did. -/
def plaintextFormatLineUptoRow : OpenClaim := { program := "ytofaogkcifaioaagreatdoor", sum := "189fa5fe29a6a900daa90e935c75a6057d46b776fab2df88bc6491b556e0ce9d", func := "pandect/pandectlaw11.PlaintextFormatLine", spec := "plaintextFormatLine", inPlace := ["internal/abi.NoEscape", "internal/bytealg.MakeNoZero", "internal/bytealg.IndexByteString", "internal/bytealg.IndexString", "internal/bytealg.CountString"], unfollowed := true, recurses := true, named := ["pandect/unit.names", "pandect/unit.below", "internal/bytealg.MaxLen", "unicode/utf8.first", "unicode/utf8.acceptRanges"], loops := true, plainKeys := false, apart := false, laid := [("unicode/utf8.acceptRanges", laid_unicode_utf8_acceptRanges), ("pandect/unit.names", laid_pandect_unit_names), ("pandect/unit.below", laid_pandect_unit_below), ("unicode/utf8.first", laid_unicode_utf8_first)], narrowed := true }
def PlaintextFormatLineUptoSaid : Prop := plaintextFormatLineUptoRow.holds Tryz.pinned (OpenSpec.upto plaintextFormatLineSpec)

/-- 'pandectlaw11.PlaintextParseLine', WHERE WHAT IT READS IS OF BULK AT MOST 1048576: true; the input reads as it did. -/
def plaintextParseLineUptoRow : OpenClaim := { program := "ytofaogkcifaioaagreatdoor", sum := "189fa5fe29a6a900daa90e935c75a6057d46b776fab2df88bc6491b556e0ce9d", func := "pandect/pandectlaw11.PlaintextParseLine", spec := "plaintextParseLine", inPlace := ["internal/abi.NoEscape", "internal/bytealg.MakeNoZero", "internal/bytealg.IndexByteString", "internal/bytealg.IndexString", "internal/bytealg.CountString"], unfollowed := true, recurses := true, named := ["pandect/unit.names", "pandect/unit.below", "internal/bytealg.MaxLen", "unicode/utf8.first", "unicode/utf8.acceptRanges"], plainKeys := false, apart := false, laid := [("unicode/utf8.acceptRanges", laid_unicode_utf8_acceptRanges), ("pandect/unit.names", laid_pandect_unit_names), ("pandect/unit.below", laid_pandect_unit_below), ("unicode/utf8.first", laid_unicode_utf8_first)], narrowed := true }
def PlaintextParseLineUptoSaid : Prop := plaintextParseLineUptoRow.holds Tryz.pinned (OpenSpec.upto plaintextParseLineSpec)

/-- 'pandectlaw11.PlaintextFormatParse', WHERE WHAT IT READS IS OF BULK AT MOST 1048576: true; the input reads as it did. -/
def plaintextFormatParseUptoRow : OpenClaim := { program := "ytofaogkcifaioaagreatdoor", sum := "189fa5fe29a6a900daa90e935c75a6057d46b776fab2df88bc6491b556e0ce9d", func := "pandect/pandectlaw11.PlaintextFormatParse", spec := "plaintextFormatParse", inPlace := ["internal/abi.NoEscape", "internal/bytealg.MakeNoZero", "internal/bytealg.IndexByteString", "internal/bytealg.IndexString", "internal/bytealg.CountString"], unfollowed := true, recurses := true, named := ["pandect/unit.names", "pandect/unit.below", "internal/bytealg.MaxLen", "unicode/utf8.first", "unicode/utf8.acceptRanges"], loops := true, plainKeys := false, apart := false, laid := [("unicode/utf8.acceptRanges", laid_unicode_utf8_acceptRanges), ("pandect/unit.names", laid_pandect_unit_names), ("pandect/unit.below", laid_pandect_unit_below), ("unicode/utf8.first", laid_unicode_utf8_first)], narrowed := true }
def PlaintextFormatParseUptoSaid : Prop := plaintextFormatParseUptoRow.holds Tryz.pinned (OpenSpec.upto plaintextFormatParseSpec)

/-- 'pandectlaw11.PlaintextIgnoresMarks', WHERE WHAT IT READS IS OF BULK AT MOST 1048576: true; the input reads as it did. -/
def plaintextIgnoresMarksUptoRow : OpenClaim := { program := "ytofaogkcifaioaagreatdoor", sum := "189fa5fe29a6a900daa90e935c75a6057d46b776fab2df88bc6491b556e0ce9d", func := "pandect/pandectlaw11.PlaintextIgnoresMarks", spec := "plaintextIgnoresMarks", inPlace := ["internal/abi.NoEscape", "internal/bytealg.MakeNoZero", "internal/bytealg.IndexByteString", "internal/bytealg.IndexString", "internal/bytealg.CountString"], unfollowed := true, recurses := true, named := ["pandect/unit.names", "pandect/unit.below", "internal/bytealg.MaxLen", "unicode/utf8.first", "unicode/utf8.acceptRanges"], loops := true, plainKeys := false, apart := false, laid := [("unicode/utf8.acceptRanges", laid_unicode_utf8_acceptRanges), ("pandect/unit.names", laid_pandect_unit_names), ("pandect/unit.below", laid_pandect_unit_below), ("unicode/utf8.first", laid_unicode_utf8_first)], narrowed := true }
def PlaintextIgnoresMarksUptoSaid : Prop := plaintextIgnoresMarksUptoRow.holds Tryz.pinned (OpenSpec.upto plaintextIgnoresMarksSpec)

end Rows
end Go.Proofs.YtofaogkcifaioaaGreatDoor
