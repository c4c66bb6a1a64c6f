/-
  NARROWER THAN 'FOR EVERY INPUT', by the rows' own cells (each row's printed sentence says how): EquivalenceReflexive: loops · EquivalenceRenamed: loops · EquivalenceDetects: loops · EquivalenceTransitive: loops.
  DERIVED. THE GIVEN ROWS OF THIS SEAT. 4 by the template 'for every input the law returns true; each argument reads behind the call as it read before'; 0 by the template 'total and deterministic' (their statements: YtclepigknhoonaaTotals.lean).
  GIVEN WITH THE SEED: the statements are not yours to turn. If you find one false, say at which input.
  Laid BY PROGRAM, IN A SANDBOX (cutbox-rows.mjs): the forced cells as the released guide's own fill.sh prints them over the translation 8c10b5a8e56414ce… (all of the seat's roots in one cut). By AI agents, Wed Nov 11 2026. No macro, syntax, notation, axiom, sorry.
-/
import Derived.Test.YtclepigknhoonaaChecked
import GoSem.Claim
import GoSem.ClaimJoined
import GoSem.ClaimMapViews
import Derived.JoinedTies
import Derived.KernelRfl
namespace Go.Proofs.Ytclepigknhoonaa
/- THE CELL 'sum', in the pinned program and in every row, IS THE sha256 OF THE DUMP (.gsa) THAT YtclepigknhoonaaProg.lean LOADS. Nothing in Lean hashes anything: it is a label: what it is worth is what the hold of that sum in a sandbox is worth. -/
noncomputable def Try.pinned : Pinned := { name := "ytclepigknhoonaa", sum := "8c10b5a8e56414ce024058fd26d1f7f77b7792d218575635674f3c8c5a5cd623", checked := Try.checked }
namespace Rows
def none {H : Type} : Left H := { results := [], args := [] }

/-- 'pandectlaw48.EquivalenceReflexive': WHATEVER THE INPUT: true; the input reads as it did. -/
def equivalenceReflexiveSpec : ChangeSpec := { name := "equivalenceReflexive", fn := fun _ => fun
  | [d1, d2] => { results := [.lit (.bool true)], args := [d1, d2] }
  | _ => none }
def equivalenceReflexiveRow : OpenClaim := { program := "ytclepigknhoonaa", sum := "8c10b5a8e56414ce024058fd26d1f7f77b7792d218575635674f3c8c5a5cd623", func := "pandect/pandectlaw48.EquivalenceReflexive", spec := "equivalenceReflexive", inPlace := ["internal/bytealg.IndexByteString", "internal/bytealg.IndexString"], unfollowed := true, recurses := true, named := ["internal/bytealg.MaxLen"], loops := true, plainKeys := false, apart := false }
def EquivalenceReflexiveSaid : Prop := equivalenceReflexiveRow.holds Try.pinned (OpenSpec.ofChange equivalenceReflexiveSpec)

/-- ITS FALSE NEIGHBOUR: 'it returns false'. Refute it at one input. -/
def equivalenceReflexiveWrong : ChangeSpec := { name := "equivalenceReflexive", fn := fun _ => fun
  | [d1, d2] => { results := [.lit (.bool false)], args := [d1, d2] }
  | _ => none }
def EquivalenceReflexiveWrongFalsely : Prop := equivalenceReflexiveRow.holds Try.pinned (OpenSpec.ofChange equivalenceReflexiveWrong)

/-- 'pandectlaw48.EquivalenceRenamed': WHATEVER THE INPUT: true; the input reads as it did. -/
def equivalenceRenamedSpec : ChangeSpec := { name := "equivalenceRenamed", fn := fun _ => fun
  | [d1, d2] => { results := [.lit (.bool true)], args := [d1, d2] }
  | _ => none }
def equivalenceRenamedRow : OpenClaim := { program := "ytclepigknhoonaa", sum := "8c10b5a8e56414ce024058fd26d1f7f77b7792d218575635674f3c8c5a5cd623", func := "pandect/pandectlaw48.EquivalenceRenamed", spec := "equivalenceRenamed", inPlace := ["internal/bytealg.IndexByteString", "internal/bytealg.IndexString"], unfollowed := true, recurses := true, named := ["internal/bytealg.MaxLen"], loops := true, plainKeys := false, apart := false }
def EquivalenceRenamedSaid : Prop := equivalenceRenamedRow.holds Try.pinned (OpenSpec.ofChange equivalenceRenamedSpec)

/-- ITS FALSE NEIGHBOUR: 'it returns false'. Refute it at one input. -/
def equivalenceRenamedWrong : ChangeSpec := { name := "equivalenceRenamed", fn := fun _ => fun
  | [d1, d2] => { results := [.lit (.bool false)], args := [d1, d2] }
  | _ => none }
def EquivalenceRenamedWrongFalsely : Prop := equivalenceRenamedRow.holds Try.pinned (OpenSpec.ofChange equivalenceRenamedWrong)

/-- 'pandectlaw48.EquivalenceDetects': WHATEVER THE INPUT: true; the input reads as it did. -/
def equivalenceDetectsSpec : ChangeSpec := { name := "equivalenceDetects", fn := fun _ => fun
  | [d1, d2] => { results := [.lit (.bool true)], args := [d1, d2] }
  | _ => none }
def equivalenceDetectsRow : OpenClaim := { program := "ytclepigknhoonaa", sum := "8c10b5a8e56414ce024058fd26d1f7f77b7792d218575635674f3c8c5a5cd623", func := "pandect/pandectlaw48.EquivalenceDetects", spec := "equivalenceDetects", inPlace := ["internal/bytealg.IndexByteString", "internal/bytealg.IndexString"], unfollowed := true, recurses := true, named := ["internal/bytealg.MaxLen"], loops := true, plainKeys := false, apart := false }
def EquivalenceDetectsSaid : Prop := equivalenceDetectsRow.holds Try.pinned (OpenSpec.ofChange equivalenceDetectsSpec)

/-- ITS FALSE NEIGHBOUR: 'it returns false'. Refute it at one input. -/
def equivalenceDetectsWrong : ChangeSpec := { name := "equivalenceDetects", fn := fun _ => fun
  | [d1, d2] => { results := [.lit (.bool false)], args := [d1, d2] }
  | _ => none }
def EquivalenceDetectsWrongFalsely : Prop := equivalenceDetectsRow.holds Try.pinned (OpenSpec.ofChange equivalenceDetectsWrong)

/-- 'pandectlaw48.EquivalenceTransitive': WHATEVER THE INPUT: true; the input reads as it did. -/
def equivalenceTransitiveSpec : ChangeSpec := { name := "equivalenceTransitive", fn := fun _ => fun
  | [d1, d2, d3, d4, d5] => { results := [.lit (.bool true)], args := [d1, d2, d3, d4, d5] }
  | _ => none }
def equivalenceTransitiveRow : OpenClaim := { program := "ytclepigknhoonaa", sum := "8c10b5a8e56414ce024058fd26d1f7f77b7792d218575635674f3c8c5a5cd623", func := "pandect/pandectlaw48.EquivalenceTransitive", spec := "equivalenceTransitive", inPlace := ["internal/bytealg.IndexByteString", "internal/bytealg.IndexString"], unfollowed := true, recurses := true, named := ["internal/bytealg.MaxLen"], loops := true, plainKeys := false, apart := false }
def EquivalenceTransitiveSaid : Prop := equivalenceTransitiveRow.holds Try.pinned (OpenSpec.ofChange equivalenceTransitiveSpec)

/-- ITS FALSE NEIGHBOUR: 'it returns false'. Refute it at one input. -/
def equivalenceTransitiveWrong : ChangeSpec := { name := "equivalenceTransitive", fn := fun _ => fun
  | [d1, d2, d3, d4, d5] => { results := [.lit (.bool false)], args := [d1, d2, d3, d4, d5] }
  | _ => none }
def EquivalenceTransitiveWrongFalsely : Prop := equivalenceTransitiveRow.holds Try.pinned (OpenSpec.ofChange equivalenceTransitiveWrong)

/- THE SECOND FORM. 'bulk': how many values and letters a reading holds, each counted each time it is reached (what is shared counts as often as it is met; a slice's spare places count too). A statement '..UptoSaid' is the law's where the arguments, and the package variables that the reading takes, are together of bulk at most 1048576: NARROWER than '..Said'. Prove '..Said' where nothing that the law and all that it calls make is longer than what came in: it says more and counts as full. Else prove '..UptoSaid'. A law counts once. -/
mutual
def uptoBulk {H : Type} : DataW H → Nat
  | .lit (.string bytes) => bytes.length + 1
  | .lit _ => 1
  | .nil => 1
  | .ptr d => uptoBulk d + 1
  | .slice elems spare => uptoBulkAll elems + uptoBulkAll spare + 1
  | .agg parts => uptoBulkAll parts + 1
  | .iface _ d => uptoBulk d + 1
  | .map entries => uptoBulkEntries entries + 1
  | .held _ => 1
def uptoBulkAll {H : Type} : List (DataW H) → Nat
  | [] => 0
  | d :: r => uptoBulk d + uptoBulkAll r
def uptoBulkEntries {H : Type} : List (Lit × DataW H) → Nat
  | [] => 0
  | x :: r => uptoBulkEntry x + uptoBulkEntries r
def uptoBulkEntry {H : Type} : Lit × DataW H → Nat
  | (.string bytes, d) => bytes.length + uptoBulk d + 1
  | (_, d) => uptoBulk d + 1
 end
def uptoSmall : (H : Type) → List (DataW H) → Bool := fun _ ds => decide (uptoBulkAll ds ≤ 1048576)
def OpenSpec.upto (s : _root_.Go.ChangeSpec) : _root_.Go.OpenSpec := { _root_.Go.OpenSpec.ofChange s with cond := some uptoSmall }

/-- 'pandectlaw48.EquivalenceReflexive', WHERE WHAT IT READS IS OF BULK AT MOST 1048576: true; the input reads as it did. -/
def equivalenceReflexiveUptoRow : OpenClaim := { program := "ytclepigknhoonaa", sum := "8c10b5a8e56414ce024058fd26d1f7f77b7792d218575635674f3c8c5a5cd623", func := "pandect/pandectlaw48.EquivalenceReflexive", spec := "equivalenceReflexive", inPlace := ["internal/bytealg.IndexByteString", "internal/bytealg.IndexString"], unfollowed := true, recurses := true, named := ["internal/bytealg.MaxLen"], loops := true, plainKeys := false, apart := false, narrowed := true }
def EquivalenceReflexiveUptoSaid : Prop := equivalenceReflexiveUptoRow.holds Try.pinned (OpenSpec.upto equivalenceReflexiveSpec)

/-- 'pandectlaw48.EquivalenceRenamed', WHERE WHAT IT READS IS OF BULK AT MOST 1048576: true; the input reads as it did. -/
def equivalenceRenamedUptoRow : OpenClaim := { program := "ytclepigknhoonaa", sum := "8c10b5a8e56414ce024058fd26d1f7f77b7792d218575635674f3c8c5a5cd623", func := "pandect/pandectlaw48.EquivalenceRenamed", spec := "equivalenceRenamed", inPlace := ["internal/bytealg.IndexByteString", "internal/bytealg.IndexString"], unfollowed := true, recurses := true, named := ["internal/bytealg.MaxLen"], loops := true, plainKeys := false, apart := false, narrowed := true }
def EquivalenceRenamedUptoSaid : Prop := equivalenceRenamedUptoRow.holds Try.pinned (OpenSpec.upto equivalenceRenamedSpec)

/-- 'pandectlaw48.EquivalenceDetects', WHERE WHAT IT READS IS OF BULK AT MOST 1048576: true; the input reads as it did. -/
def equivalenceDetectsUptoRow : OpenClaim := { program := "ytclepigknhoonaa", sum := "8c10b5a8e56414ce024058fd26d1f7f77b7792d218575635674f3c8c5a5cd623", func := "pandect/pandectlaw48.EquivalenceDetects", spec := "equivalenceDetects", inPlace := ["internal/bytealg.IndexByteString", "internal/bytealg.IndexString"], unfollowed := true, recurses := true, named := ["internal/bytealg.MaxLen"], loops := true, plainKeys := false, apart := false, narrowed := true }
def EquivalenceDetectsUptoSaid : Prop := equivalenceDetectsUptoRow.holds Try.pinned (OpenSpec.upto equivalenceDetectsSpec)

/-- 'pandectlaw48.EquivalenceTransitive', WHERE WHAT IT READS IS OF BULK AT MOST 1048576: true; the input reads as it did. -/
def equivalenceTransitiveUptoRow : OpenClaim := { program := "ytclepigknhoonaa", sum := "8c10b5a8e56414ce024058fd26d1f7f77b7792d218575635674f3c8c5a5cd623", func := "pandect/pandectlaw48.EquivalenceTransitive", spec := "equivalenceTransitive", inPlace := ["internal/bytealg.IndexByteString", "internal/bytealg.IndexString"], unfollowed := true, recurses := true, named := ["internal/bytealg.MaxLen"], loops := true, plainKeys := false, apart := false, narrowed := true }
def EquivalenceTransitiveUptoSaid : Prop := equivalenceTransitiveUptoRow.holds Try.pinned (OpenSpec.upto equivalenceTransitiveSpec)

end Rows
end Go.Proofs.Ytclepigknhoonaa
