/-
  NARROWER THAN 'FOR EVERY INPUT', by the rows' own cells (each row's printed sentence says how): ResolveCitation: loops · ResolveEnclosing: loops · ResolveFullAddress: loops · ResolveRange: loops.
  DERIVED. THE GIVEN ROWS OF THIS SEAT. 4 by the template 'for every input the law returns true; each argument reads behind the call as it read before'; 0 by the template 'total and deterministic' (their statements: YtlegkjbldofkmaaTotals.lean).
  GIVEN WITH THE SEED: the statements are not yours to turn. If you find one false, say at which input.
  Laid BY PROGRAM, IN A SANDBOX (cutbox-rows.mjs): the forced cells as the released guide's own fill.sh prints them over the translation ba95c59db336451a… (all of the seat's roots in one cut). By AI agents, Wed Nov 11 2026. No macro, syntax, notation, axiom, sorry.
-/
import Derived.Test.YtlegkjbldofkmaaChecked
import GoSem.Claim
import GoSem.ClaimJoined
import GoSem.ClaimMapViews
import Derived.JoinedTies
import Derived.KernelRfl
namespace Go.Proofs.Ytlegkjbldofkmaa
/- THE CELL 'sum', in the pinned program and in every row, IS THE sha256 OF THE DUMP (.gsa) THAT YtlegkjbldofkmaaProg.lean LOADS. Nothing in Lean hashes anything: it is a label: what it is worth is what the hold of that sum in a sandbox is worth. -/
noncomputable def Try.pinned : Pinned := { name := "ytlegkjbldofkmaa", sum := "ba95c59db336451a8ec1222aabd4333b61699ed3fe45f59fc2dd4dd75ae89a0a", checked := Try.checked }
namespace Rows
def none {H : Type} : Left H := { results := [], args := [] }

/-- 'pandectlaw41.ResolveCitation': WHATEVER THE INPUT: true; the input reads as it did. -/
def resolveCitationSpec : ChangeSpec := { name := "resolveCitation", fn := fun _ => fun
  | [d1, d2, d3, d4] => { results := [.lit (.bool true)], args := [d1, d2, d3, d4] }
  | _ => none }
def resolveCitationRow : OpenClaim := { program := "ytlegkjbldofkmaa", sum := "ba95c59db336451a8ec1222aabd4333b61699ed3fe45f59fc2dd4dd75ae89a0a", func := "pandect/pandectlaw41.ResolveCitation", spec := "resolveCitation", unfollowed := true, recurses := true, loops := true, apart := false }
def ResolveCitationSaid : Prop := resolveCitationRow.holds Try.pinned (OpenSpec.ofChange resolveCitationSpec)

/-- ITS FALSE NEIGHBOUR: 'it returns false'. Refute it at one input. -/
def resolveCitationWrong : ChangeSpec := { name := "resolveCitation", fn := fun _ => fun
  | [d1, d2, d3, d4] => { results := [.lit (.bool false)], args := [d1, d2, d3, d4] }
  | _ => none }
def ResolveCitationWrongFalsely : Prop := resolveCitationRow.holds Try.pinned (OpenSpec.ofChange resolveCitationWrong)

/-- 'pandectlaw41.ResolveEnclosing': WHATEVER THE INPUT: true; the input reads as it did. -/
def resolveEnclosingSpec : ChangeSpec := { name := "resolveEnclosing", fn := fun _ => fun
  | [d1, d2, d3, d4] => { results := [.lit (.bool true)], args := [d1, d2, d3, d4] }
  | _ => none }
def resolveEnclosingRow : OpenClaim := { program := "ytlegkjbldofkmaa", sum := "ba95c59db336451a8ec1222aabd4333b61699ed3fe45f59fc2dd4dd75ae89a0a", func := "pandect/pandectlaw41.ResolveEnclosing", spec := "resolveEnclosing", unfollowed := true, recurses := true, loops := true, apart := false }
def ResolveEnclosingSaid : Prop := resolveEnclosingRow.holds Try.pinned (OpenSpec.ofChange resolveEnclosingSpec)

/-- ITS FALSE NEIGHBOUR: 'it returns false'. Refute it at one input. -/
def resolveEnclosingWrong : ChangeSpec := { name := "resolveEnclosing", fn := fun _ => fun
  | [d1, d2, d3, d4] => { results := [.lit (.bool false)], args := [d1, d2, d3, d4] }
  | _ => none }
def ResolveEnclosingWrongFalsely : Prop := resolveEnclosingRow.holds Try.pinned (OpenSpec.ofChange resolveEnclosingWrong)

/-- 'pandectlaw41.ResolveFullAddress': WHATEVER THE INPUT: true; the input reads as it did. -/
def resolveFullAddressSpec : ChangeSpec := { name := "resolveFullAddress", fn := fun _ => fun
  | [d1, d2] => { results := [.lit (.bool true)], args := [d1, d2] }
  | _ => none }
def resolveFullAddressRow : OpenClaim := { program := "ytlegkjbldofkmaa", sum := "ba95c59db336451a8ec1222aabd4333b61699ed3fe45f59fc2dd4dd75ae89a0a", func := "pandect/pandectlaw41.ResolveFullAddress", spec := "resolveFullAddress", unfollowed := true, recurses := true, loops := true, apart := false }
def ResolveFullAddressSaid : Prop := resolveFullAddressRow.holds Try.pinned (OpenSpec.ofChange resolveFullAddressSpec)

/-- ITS FALSE NEIGHBOUR: 'it returns false'. Refute it at one input. -/
def resolveFullAddressWrong : ChangeSpec := { name := "resolveFullAddress", fn := fun _ => fun
  | [d1, d2] => { results := [.lit (.bool false)], args := [d1, d2] }
  | _ => none }
def ResolveFullAddressWrongFalsely : Prop := resolveFullAddressRow.holds Try.pinned (OpenSpec.ofChange resolveFullAddressWrong)

/-- 'pandectlaw41.ResolveRange': WHATEVER THE INPUT: true; the input reads as it did. -/
def resolveRangeSpec : ChangeSpec := { name := "resolveRange", fn := fun _ => fun
  | [d1, d2, d3, d4] => { results := [.lit (.bool true)], args := [d1, d2, d3, d4] }
  | _ => none }
def resolveRangeRow : OpenClaim := { program := "ytlegkjbldofkmaa", sum := "ba95c59db336451a8ec1222aabd4333b61699ed3fe45f59fc2dd4dd75ae89a0a", func := "pandect/pandectlaw41.ResolveRange", spec := "resolveRange", unfollowed := true, recurses := true, loops := true, apart := false }
def ResolveRangeSaid : Prop := resolveRangeRow.holds Try.pinned (OpenSpec.ofChange resolveRangeSpec)

/-- ITS FALSE NEIGHBOUR: 'it returns false'. Refute it at one input. -/
def resolveRangeWrong : ChangeSpec := { name := "resolveRange", fn := fun _ => fun
  | [d1, d2, d3, d4] => { results := [.lit (.bool false)], args := [d1, d2, d3, d4] }
  | _ => none }
def ResolveRangeWrongFalsely : Prop := resolveRangeRow.holds Try.pinned (OpenSpec.ofChange resolveRangeWrong)

/- THE SECOND FORM. 'bulk': how many values and letters a reading holds, each counted each time it is reached (what is shared counts as often as it is met; a slice's spare places count too). A statement '..UptoSaid' is the law's where the arguments, and the package variables that the reading takes, are together of bulk at most 1048576: NARROWER than '..Said'. Prove '..Said' where nothing that the law and all that it calls make is longer than what came in: it says more and counts as full. Else prove '..UptoSaid'. A law counts once. -/
mutual
def uptoBulk {H : Type} : DataW H → Nat
  | .lit (.string bytes) => bytes.length + 1
  | .lit _ => 1
  | .nil => 1
  | .ptr d => uptoBulk d + 1
  | .slice elems spare => uptoBulkAll elems + uptoBulkAll spare + 1
  | .agg parts => uptoBulkAll parts + 1
  | .iface _ d => uptoBulk d + 1
  | .map entries => uptoBulkEntries entries + 1
  | .held _ => 1
def uptoBulkAll {H : Type} : List (DataW H) → Nat
  | [] => 0
  | d :: r => uptoBulk d + uptoBulkAll r
def uptoBulkEntries {H : Type} : List (Lit × DataW H) → Nat
  | [] => 0
  | x :: r => uptoBulkEntry x + uptoBulkEntries r
def uptoBulkEntry {H : Type} : Lit × DataW H → Nat
  | (.string bytes, d) => bytes.length + uptoBulk d + 1
  | (_, d) => uptoBulk d + 1
 end
def uptoSmall : (H : Type) → List (DataW H) → Bool := fun _ ds => decide (uptoBulkAll ds ≤ 1048576)
def OpenSpec.upto (s : _root_.Go.ChangeSpec) : _root_.Go.OpenSpec := { _root_.Go.OpenSpec.ofChange s with cond := some uptoSmall }

/-- 'pandectlaw41.ResolveCitation', WHERE WHAT IT READS IS OF BULK AT MOST 1048576: true; the input reads as it did. -/
def resolveCitationUptoRow : OpenClaim := { program := "ytlegkjbldofkmaa", sum := "ba95c59db336451a8ec1222aabd4333b61699ed3fe45f59fc2dd4dd75ae89a0a", func := "pandect/pandectlaw41.ResolveCitation", spec := "resolveCitation", unfollowed := true, recurses := true, loops := true, apart := false, narrowed := true }
def ResolveCitationUptoSaid : Prop := resolveCitationUptoRow.holds Try.pinned (OpenSpec.upto resolveCitationSpec)

/-- 'pandectlaw41.ResolveEnclosing', WHERE WHAT IT READS IS OF BULK AT MOST 1048576: true; the input reads as it did. -/
def resolveEnclosingUptoRow : OpenClaim := { program := "ytlegkjbldofkmaa", sum := "ba95c59db336451a8ec1222aabd4333b61699ed3fe45f59fc2dd4dd75ae89a0a", func := "pandect/pandectlaw41.ResolveEnclosing", spec := "resolveEnclosing", unfollowed := true, recurses := true, loops := true, apart := false, narrowed := true }
def ResolveEnclosingUptoSaid : Prop := resolveEnclosingUptoRow.holds Try.pinned (OpenSpec.upto resolveEnclosingSpec)

/-- 'pandectlaw41.ResolveFullAddress', WHERE WHAT IT READS IS OF BULK AT MOST 1048576: true; the input reads as it did. -/
def resolveFullAddressUptoRow : OpenClaim := { program := "ytlegkjbldofkmaa", sum := "ba95c59db336451a8ec1222aabd4333b61699ed3fe45f59fc2dd4dd75ae89a0a", func := "pandect/pandectlaw41.ResolveFullAddress", spec := "resolveFullAddress", unfollowed := true, recurses := true, loops := true, apart := false, narrowed := true }
def ResolveFullAddressUptoSaid : Prop := resolveFullAddressUptoRow.holds Try.pinned (OpenSpec.upto resolveFullAddressSpec)

/-- 'pandectlaw41.ResolveRange', WHERE WHAT IT READS IS OF BULK AT MOST 1048576: true; the input reads as it did. -/
def resolveRangeUptoRow : OpenClaim := { program := "ytlegkjbldofkmaa", sum := "ba95c59db336451a8ec1222aabd4333b61699ed3fe45f59fc2dd4dd75ae89a0a", func := "pandect/pandectlaw41.ResolveRange", spec := "resolveRange", unfollowed := true, recurses := true, loops := true, apart := false, narrowed := true }
def ResolveRangeUptoSaid : Prop := resolveRangeUptoRow.holds Try.pinned (OpenSpec.upto resolveRangeSpec)

end Rows
end Go.Proofs.Ytlegkjbldofkmaa
