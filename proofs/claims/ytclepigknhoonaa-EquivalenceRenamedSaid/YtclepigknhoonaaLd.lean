/-
  The rows of these laws, proved: for each law the walk of its code and its plain law, put together. No condition.
-/
import Derived.Test.YtclepigknhoonaaRows
import Derived.Test.YtclepigknhoonaaReadR
import Derived.Test.YtclepigknhoonaaReadS
import Derived.Test.YtclepigknhoonaaWc
import Derived.Test.YtclepigknhoonaaPj
import Derived.Test.YtclepigknhoonaaBn
import Derived.ProofKit
set_option linter.unusedVariables false
set_option linter.unusedSimpArgs false
set_option maxRecDepth 100000
namespace Go.Proofs.Ytclepigknhoonaa
open Go Go.Dec Go.ChangeShapes Go.WideShapes Go.ChangeAt Go.RowKit

theorem Try.nown : ownKnob Try.prog.godebug = none := by kernel_rfl
theorem Try.nlaidOut : laidOutB Try.prog = true := by kernel_rfl
theorem nrd3 (W : World) : Rds Try.prog W 3 (tI .i64) := Rds.int Try.underlying3
theorem nok3 {W : World} {base : Nat} (v : Value) (h : Value.okWide Try.prog W .any base 3 v) : v = mkVal false v.cells.toList := okW_int Try.underlying3 v h
theorem nrd23 (W : World) : Rds Try.prog W 23 tapi_Id := Rds.struct (fun x => (⟨x.1, x.2.1, x.2.2⟩ : api_Id)) (fun _ => rfl) Try.underlying23 (by kernel_rfl) (RdF.cons rfl (by kernel_rfl) rfl (nrd3 W) (RdF.cons rfl (by kernel_rfl) rfl (nrd3 W) (RdF.last rfl (by kernel_rfl) (nrd3 W))))
theorem nok23 {W : World} {base : Nat} (v : Value) (h : Value.okWide Try.prog W .any base 23 v) : v = mkVal true v.cells.toList := okW_struct Try.underlying23 v h
theorem nrd9 (W : World) : Rds Try.prog W 9 tS := Rds.string Try.underlying9
theorem nok9 {W : World} {base : Nat} (v : Value) (h : Value.okWide Try.prog W .any base 9 v) : v = mkVal false v.cells.toList := okW_string Try.underlying9 v h
theorem nrd47 (W : World) : Rds Try.prog W 47 tapi_Mark := Rds.struct (fun x => (⟨x.1, x.2.1, x.2.2⟩ : api_Mark)) (fun _ => rfl) Try.underlying47 (by kernel_rfl) (RdF.cons rfl (by kernel_rfl) rfl (nrd3 W) (RdF.cons rfl (by kernel_rfl) rfl (nrd3 W) (RdF.last rfl (by kernel_rfl) (nrd3 W))))
theorem nok47 {W : World} {base : Nat} (v : Value) (h : Value.okWide Try.prog W .any base 47 v) : v = mkVal true v.cells.toList := okW_struct Try.underlying47 v h
theorem nrd49 (W : World) : Rds Try.prog W 49 tapi_Word := Rds.struct (fun x => (⟨x.1, x.2⟩ : api_Word)) (fun _ => rfl) Try.underlying49 (by kernel_rfl) (RdF.cons rfl (by kernel_rfl) rfl (nrd9 W) (RdF.last rfl (by kernel_rfl) (nrd47 W)))
theorem nok49 {W : World} {base : Nat} (v : Value) (h : Value.okWide Try.prog W .any base 49 v) : v = mkVal true v.cells.toList := okW_struct Try.underlying49 v h
theorem nrd24 (W : World) : Rds Try.prog W 24 (tL tapi_Word) := Rds.slice Try.underlying24 (nrd49 W) (by kernel_rfl) (by decide) (of_decide_eq_true (by kernel_rfl))
theorem nok24 {W : World} {base : Nat} (v : Value) (h : Value.okWide Try.prog W .any base 24 v) : v = mkVal false v.cells.toList := okW_slice Try.underlying24 v h
theorem nrd27 (W : World) : Rds Try.prog W 27 tapi_Unit := Rds.fix rapi_Unit Try.underlying27 (fun k ih => RdU.struct (fun x => (⟨x.1, x.2.1, x.2.2.1, x.2.2.2.1, x.2.2.2.2.1, x.2.2.2.2.2⟩ : api_Unit)) (fun _ => rfl) Try.underlying27 (by kernel_rfl) (RdFU.cons rfl (by kernel_rfl) rfl ((nrd23 W).to k) (RdFU.cons rfl (by kernel_rfl) rfl ((nrd3 W).to k) (RdFU.cons rfl (by kernel_rfl) rfl ((nrd9 W).to k) (RdFU.cons rfl (by kernel_rfl) rfl ((nrd24 W).to k) (RdFU.cons rfl (by kernel_rfl) rfl ((nrd24 W).to k) (RdFU.last rfl (by kernel_rfl) ((RdU.slice Try.underlying25 ih (by kernel_rfl) (by decide) (of_decide_eq_true (by kernel_rfl))).down (Nat.le_succ k)))))))))
theorem nok27 {W : World} {base : Nat} (v : Value) (h : Value.okWide Try.prog W .any base 27 v) : v = mkVal true v.cells.toList := okW_struct Try.underlying27 v h
theorem nrd36 (W : World) : Rds Try.prog W 36 (tL tapi_Id) := Rds.slice Try.underlying36 (nrd23 W) (by kernel_rfl) (by decide) (of_decide_eq_true (by kernel_rfl))
theorem nok36 {W : World} {base : Nat} (v : Value) (h : Value.okWide Try.prog W .any base 36 v) : v = mkVal false v.cells.toList := okW_slice Try.underlying36 v h
theorem nrd44 (W : World) : Rds Try.prog W 44 tapi_Meaning := Rds.struct (fun x => (⟨x.1, x.2.1, x.2.2⟩ : api_Meaning)) (fun _ => rfl) Try.underlying44 (by kernel_rfl) (RdF.cons rfl (by kernel_rfl) rfl (nrd23 W) (RdF.cons rfl (by kernel_rfl) rfl (nrd3 W) (RdF.last rfl (by kernel_rfl) (nrd36 W))))
theorem nok44 {W : World} {base : Nat} (v : Value) (h : Value.okWide Try.prog W .any base 44 v) : v = mkVal true v.cells.toList := okW_struct Try.underlying44 v h
theorem nrd28 (W : World) : Rds Try.prog W 28 (tL tapi_Meaning) := Rds.slice Try.underlying28 (nrd44 W) (by kernel_rfl) (by decide) (of_decide_eq_true (by kernel_rfl))
theorem nok28 {W : World} {base : Nat} (v : Value) (h : Value.okWide Try.prog W .any base 28 v) : v = mkVal false v.cells.toList := okW_slice Try.underlying28 v h

theorem equivalenceRenamed_law (W : World) (base : Nat) (vs : List Value) (hsh : W.ShapedOpen Try.prog) (h : ArgsOk Try.prog W base Try.f4.params.toList vs) : ∃ As rin, All2 As vs (G.top W) ∧ rin.all (G.top W) ∧ NoBlk rin ∧ FSpecR Try.prog 4 As rin (fun _ : Unit => tB.is true) (fun _ => []) := by
  rw [Try.params4] at h
  obtain ⟨v1, vs, x1, rfl, h1, h⟩ := ArgsOk.cons (t := tapi_Unit) h (nrd27 W) nok27
  obtain ⟨v2, vs, x2, rfl, h2, h⟩ := ArgsOk.cons (t := (tL tapi_Meaning)) h (nrd28 W) nok28
  obtain rfl := h.nil
  obtain ⟨n, hm⟩ := renamed_true x1 x2 (mean_len h2)
  have g0 : (GlE 0).holds (G.top W) := (Try.maxlen W hsh).imp fun m h => (top_has h).2
  refine ⟨[tapi_Unit.is x1, (tL tapi_Meaning).is x2], [(700000, GlE 0)], ⟨h1, h2, trivial⟩, fun y hy => ?_, ⟨rfl, trivial⟩, law48_EquivalenceRenamed_spec n x1 x2 true hm⟩
  simp only [List.mem_cons, List.not_mem_nil, or_false] at hy
  rcases hy with rfl
  · exact g0

set_option maxRecDepth 100000 in
theorem equivalenceRenamed_lifted (os : Os) (started : os.Started) (H : Type) (enc : TypeId × Value → H) :
    ReturnsInHanded {} Try.checked os 4 .any (Rows.equivalenceRenamedSpec.pre6 enc Try.prog Try.f4 Rows.equivalenceRenamedRow.domain false) (Rows.equivalenceRenamedSpec.post enc Try.prog Try.f4 false true false false) :=
  lifted_of_law_S (C := Try.checked) Try.nown started (by kernel_rfl) Try.func4
    (ChangeSpec.witness6 (enc := enc) (C := Try.checked) false ⟨#[], #[.agg #[.int .i64 0, .int .i64 0, .int .i64 0, .int .i64 0, .string ⟨#[]⟩, .slice none 0 0, .slice none 0 0, .slice none 0 0], .slice none 0 0], []⟩ 8 (by kernel_rfl) (by kernel_rfl) (by kernel_rfl) (by kernel_rfl))
    Try.nlaidOut (by kernel_rfl) rfl Try.underlying4 rfl
    (fun | [_, _], _ => ⟨rfl, rfl, rfl⟩) equivalenceRenamed_law

theorem equivalenceRenamed_holds : Rows.EquivalenceRenamedSaid :=
  OpenClaim.holds_of_wide 4 Try.f4 rfl rfl rfl rfl rfl rfl rfl ⟨rfl, rfl, rfl, rfl, rfl⟩ rfl rfl rfl rfl rfl (by kernel_rfl) Try.func4 (by kernel_rfl)
    (of_decide_eq_true (by kernel_rfl)) (by unfold Func.isWrapper; first | (rw [if_pos (by decide +kernel)]; kernel_rfl) | (rw [if_neg (by decide +kernel)]; exact ⟨rfl, rfl⟩))
    (fun os started H enc _ => equivalenceRenamed_lifted os started H enc)

end Go.Proofs.Ytclepigknhoonaa
