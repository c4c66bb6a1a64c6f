/-
  NARROWER THAN 'FOR EVERY INPUT', by the rows' own cells (each row's printed sentence says how): ResolveWordList: loops · ResolveBook: loops.
  DERIVED. THE GIVEN ROWS OF THIS SEAT. 2 by the template 'for every input the law returns true; each argument reads behind the call as it read before'; 0 by the template 'total and deterministic' (their statements: YtlegkjbldofkmaaGreatTotals.lean).
  GIVEN WITH THE SEED: the statements are not yours to turn. If you find one false, say at which input.
  Laid BY PROGRAM, IN A SANDBOX (cutbox-rows.mjs): the forced cells as the released guide's own fill.sh prints them over the translation 45599b4205c58c72… (all of the seat's roots in one cut). By AI agents, Wed Nov 11 2026. No macro, syntax, notation, axiom, sorry.
-/
import Derived.Test.YtlegkjbldofkmaaGreatChecked
import GoSem.Claim
import GoSem.ClaimJoined
import GoSem.ClaimMapViews
import Derived.JoinedTies
import Derived.KernelRfl
namespace Go.Proofs.YtlegkjbldofkmaaGreat
/- THE CELL 'sum', in the pinned program and in every row, IS THE sha256 OF THE DUMP (.gsa) THAT YtlegkjbldofkmaaGreatProg.lean LOADS. Nothing in Lean hashes anything: it is a label: what it is worth is what the hold of that sum in a sandbox is worth. -/
noncomputable def Tryz.pinned : Pinned := { name := "ytlegkjbldofkmaagreat", sum := "45599b4205c58c72b33cf52fbf4a0c9190683f3162fd538f0bbef7a1c6766b3e", checked := Tryz.checked }
namespace Rows
def none {H : Type} : Left H := { results := [], args := [] }

/-- 'pandectlaw41.ResolveWordList': WHATEVER THE INPUT: true; the input reads as it did. -/
def resolveWordListSpec : ChangeSpec := { name := "resolveWordList", fn := fun _ => fun
  | [d1, d2, d3] => { results := [.lit (.bool true)], args := [d1, d2, d3] }
  | _ => none }
def resolveWordListRow : OpenClaim := { program := "ytlegkjbldofkmaagreat", sum := "45599b4205c58c72b33cf52fbf4a0c9190683f3162fd538f0bbef7a1c6766b3e", func := "pandect/pandectlaw41.ResolveWordList", spec := "resolveWordList", inPlace := ["internal/bytealg.IndexByteString"], unfollowed := true, recurses := true, loops := true, apart := false }
def ResolveWordListSaid : Prop := resolveWordListRow.holds Tryz.pinned (OpenSpec.ofChange resolveWordListSpec)

/-- ITS FALSE NEIGHBOUR: 'it returns false'. Refute it at one input. -/
def resolveWordListWrong : ChangeSpec := { name := "resolveWordList", fn := fun _ => fun
  | [d1, d2, d3] => { results := [.lit (.bool false)], args := [d1, d2, d3] }
  | _ => none }
def ResolveWordListWrongFalsely : Prop := resolveWordListRow.holds Tryz.pinned (OpenSpec.ofChange resolveWordListWrong)

/-- 'pandectlaw41.ResolveBook': WHATEVER THE INPUT: true; the input reads as it did. -/
def resolveBookSpec : ChangeSpec := { name := "resolveBook", fn := fun _ => fun
  | [d] => { results := [.lit (.bool true)], args := [d] }
  | _ => none }
def resolveBookRow : OpenClaim := { program := "ytlegkjbldofkmaagreat", sum := "45599b4205c58c72b33cf52fbf4a0c9190683f3162fd538f0bbef7a1c6766b3e", func := "pandect/pandectlaw41.ResolveBook", spec := "resolveBook", inPlace := ["internal/bytealg.IndexByteString"], unfollowed := true, recurses := true, loops := true, apart := false }
def ResolveBookSaid : Prop := resolveBookRow.holds Tryz.pinned (OpenSpec.ofChange resolveBookSpec)

/-- ITS FALSE NEIGHBOUR: 'it returns false'. Refute it at one input. -/
def resolveBookWrong : ChangeSpec := { name := "resolveBook", fn := fun _ => fun
  | [d] => { results := [.lit (.bool false)], args := [d] }
  | _ => none }
def ResolveBookWrongFalsely : Prop := resolveBookRow.holds Tryz.pinned (OpenSpec.ofChange resolveBookWrong)

/- THE SECOND FORM. 'bulk': how many values and letters a reading holds, each counted each time it is reached (what is shared counts as often as it is met; a slice's spare places count too). A statement '..UptoSaid' is the law's where the arguments, and the package variables that the reading takes, are together of bulk at most 1048576: NARROWER than '..Said'. Prove '..Said' where nothing that the law and all that it calls make is longer than what came in: it says more and counts as full. Else prove '..UptoSaid'. A law counts once. -/
mutual
def uptoBulk {H : Type} : DataW H → Nat
  | .lit (.string bytes) => bytes.length + 1
  | .lit _ => 1
  | .nil => 1
  | .ptr d => uptoBulk d + 1
  | .slice elems spare => uptoBulkAll elems + uptoBulkAll spare + 1
  | .agg parts => uptoBulkAll parts + 1
  | .iface _ d => uptoBulk d + 1
  | .map entries => uptoBulkEntries entries + 1
  | .held _ => 1
def uptoBulkAll {H : Type} : List (DataW H) → Nat
  | [] => 0
  | d :: r => uptoBulk d + uptoBulkAll r
def uptoBulkEntries {H : Type} : List (Lit × DataW H) → Nat
  | [] => 0
  | x :: r => uptoBulkEntry x + uptoBulkEntries r
def uptoBulkEntry {H : Type} : Lit × DataW H → Nat
  | (.string bytes, d) => bytes.length + uptoBulk d + 1
  | (_, d) => uptoBulk d + 1
 end
def uptoSmall : (H : Type) → List (DataW H) → Bool := fun _ ds => decide (uptoBulkAll ds ≤ 1048576)
def OpenSpec.upto (s : _root_.Go.ChangeSpec) : _root_.Go.OpenSpec := { _root_.Go.OpenSpec.ofChange s with cond := some uptoSmall }

/-- 'pandectlaw41.ResolveWordList', WHERE WHAT IT READS IS OF BULK AT MOST 1048576: true; the input reads as it did. -/
def resolveWordListUptoRow : OpenClaim := { program := "ytlegkjbldofkmaagreat", sum := "45599b4205c58c72b33cf52fbf4a0c9190683f3162fd538f0bbef7a1c6766b3e", func := "pandect/pandectlaw41.ResolveWordList", spec := "resolveWordList", inPlace := ["internal/bytealg.IndexByteString"], unfollowed := true, recurses := true, loops := true, apart := false, narrowed := true }
def ResolveWordListUptoSaid : Prop := resolveWordListUptoRow.holds Tryz.pinned (OpenSpec.upto resolveWordListSpec)

/-- 'pandectlaw41.ResolveBook', WHERE WHAT IT READS IS OF BULK AT MOST 1048576: true; the input reads as it did. -/
def resolveBookUptoRow : OpenClaim := { program := "ytlegkjbldofkmaagreat", sum := "45599b4205c58c72b33cf52fbf4a0c9190683f3162fd538f0bbef7a1c6766b3e", func := "pandect/pandectlaw41.ResolveBook", spec := "resolveBook", inPlace := ["internal/bytealg.IndexByteString"], unfollowed := true, recurses := true, loops := true, apart := false, narrowed := true }
def ResolveBookUptoSaid : Prop := resolveBookUptoRow.holds Tryz.pinned (OpenSpec.upto resolveBookSpec)

end Rows
end Go.Proofs.YtlegkjbldofkmaaGreat
