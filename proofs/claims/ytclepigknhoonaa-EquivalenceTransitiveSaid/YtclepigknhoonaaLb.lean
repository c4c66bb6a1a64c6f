/-
  The rows of these laws, proved: for each law the walk of its code and its plain law, put together. No condition.
-/
import Derived.Test.YtclepigknhoonaaRows
import Derived.Test.YtclepigknhoonaaReadR
import Derived.Test.YtclepigknhoonaaReadS
import Derived.Test.YtclepigknhoonaaWc
import Derived.Test.YtclepigknhoonaaPh
import Derived.Test.YtclepigknhoonaaBn
import Derived.ProofKit
set_option linter.unusedVariables false
set_option linter.unusedSimpArgs false
set_option maxRecDepth 100000
namespace Go.Proofs.Ytclepigknhoonaa
open Go Go.Dec Go.ChangeShapes Go.WideShapes Go.ChangeAt Go.RowKit

theorem Try.town : ownKnob Try.prog.godebug = none := by kernel_rfl
theorem Try.tlaidOut : laidOutB Try.prog = true := by kernel_rfl
theorem trd3 (W : World) : Rds Try.prog W 3 (tI .i64) := Rds.int Try.underlying3
theorem tok3 {W : World} {base : Nat} (v : Value) (h : Value.okWide Try.prog W .any base 3 v) : v = mkVal false v.cells.toList := okW_int Try.underlying3 v h
theorem trd23 (W : World) : Rds Try.prog W 23 tapi_Id := Rds.struct (fun x => (⟨x.1, x.2.1, x.2.2⟩ : api_Id)) (fun _ => rfl) Try.underlying23 (by kernel_rfl) (RdF.cons rfl (by kernel_rfl) rfl (trd3 W) (RdF.cons rfl (by kernel_rfl) rfl (trd3 W) (RdF.last rfl (by kernel_rfl) (trd3 W))))
theorem tok23 {W : World} {base : Nat} (v : Value) (h : Value.okWide Try.prog W .any base 23 v) : v = mkVal true v.cells.toList := okW_struct Try.underlying23 v h
theorem trd9 (W : World) : Rds Try.prog W 9 tS := Rds.string Try.underlying9
theorem tok9 {W : World} {base : Nat} (v : Value) (h : Value.okWide Try.prog W .any base 9 v) : v = mkVal false v.cells.toList := okW_string Try.underlying9 v h
theorem trd47 (W : World) : Rds Try.prog W 47 tapi_Mark := Rds.struct (fun x => (⟨x.1, x.2.1, x.2.2⟩ : api_Mark)) (fun _ => rfl) Try.underlying47 (by kernel_rfl) (RdF.cons rfl (by kernel_rfl) rfl (trd3 W) (RdF.cons rfl (by kernel_rfl) rfl (trd3 W) (RdF.last rfl (by kernel_rfl) (trd3 W))))
theorem tok47 {W : World} {base : Nat} (v : Value) (h : Value.okWide Try.prog W .any base 47 v) : v = mkVal true v.cells.toList := okW_struct Try.underlying47 v h
theorem trd49 (W : World) : Rds Try.prog W 49 tapi_Word := Rds.struct (fun x => (⟨x.1, x.2⟩ : api_Word)) (fun _ => rfl) Try.underlying49 (by kernel_rfl) (RdF.cons rfl (by kernel_rfl) rfl (trd9 W) (RdF.last rfl (by kernel_rfl) (trd47 W)))
theorem tok49 {W : World} {base : Nat} (v : Value) (h : Value.okWide Try.prog W .any base 49 v) : v = mkVal true v.cells.toList := okW_struct Try.underlying49 v h
theorem trd24 (W : World) : Rds Try.prog W 24 (tL tapi_Word) := Rds.slice Try.underlying24 (trd49 W) (by kernel_rfl) (by decide) (of_decide_eq_true (by kernel_rfl))
theorem tok24 {W : World} {base : Nat} (v : Value) (h : Value.okWide Try.prog W .any base 24 v) : v = mkVal false v.cells.toList := okW_slice Try.underlying24 v h
theorem trd27 (W : World) : Rds Try.prog W 27 tapi_Unit := Rds.fix rapi_Unit Try.underlying27 (fun k ih => RdU.struct (fun x => (⟨x.1, x.2.1, x.2.2.1, x.2.2.2.1, x.2.2.2.2.1, x.2.2.2.2.2⟩ : api_Unit)) (fun _ => rfl) Try.underlying27 (by kernel_rfl) (RdFU.cons rfl (by kernel_rfl) rfl ((trd23 W).to k) (RdFU.cons rfl (by kernel_rfl) rfl ((trd3 W).to k) (RdFU.cons rfl (by kernel_rfl) rfl ((trd9 W).to k) (RdFU.cons rfl (by kernel_rfl) rfl ((trd24 W).to k) (RdFU.cons rfl (by kernel_rfl) rfl ((trd24 W).to k) (RdFU.last rfl (by kernel_rfl) ((RdU.slice Try.underlying25 ih (by kernel_rfl) (by decide) (of_decide_eq_true (by kernel_rfl))).down (Nat.le_succ k)))))))))
theorem tok27 {W : World} {base : Nat} (v : Value) (h : Value.okWide Try.prog W .any base 27 v) : v = mkVal true v.cells.toList := okW_struct Try.underlying27 v h
theorem trd56 (W : World) : Rds Try.prog W 56 tapi_Destination := Rds.struct (fun x => (⟨x.1, x.2⟩ : api_Destination)) (fun _ => rfl) Try.underlying56 (by kernel_rfl) (RdF.cons rfl (by kernel_rfl) rfl (trd23 W) (RdF.last rfl (by kernel_rfl) (trd23 W)))
theorem tok56 {W : World} {base : Nat} (v : Value) (h : Value.okWide Try.prog W .any base 56 v) : v = mkVal true v.cells.toList := okW_struct Try.underlying56 v h
theorem trd32 (W : World) : Rds Try.prog W 32 (tL tapi_Destination) := Rds.slice Try.underlying32 (trd56 W) (by kernel_rfl) (by decide) (of_decide_eq_true (by kernel_rfl))
theorem tok32 {W : World} {base : Nat} (v : Value) (h : Value.okWide Try.prog W .any base 32 v) : v = mkVal false v.cells.toList := okW_slice Try.underlying32 v h

theorem equivalenceTransitive_law (W : World) (base : Nat) (vs : List Value) (hsh : W.ShapedOpen Try.prog) (h : ArgsOk Try.prog W base Try.f6.params.toList vs) : ∃ As rin, All2 As vs (G.top W) ∧ rin.all (G.top W) ∧ NoBlk rin ∧ FSpecR Try.prog 6 As rin (fun _ : Unit => tB.is true) (fun _ => []) := by
  rw [Try.params6] at h
  obtain ⟨v1, vs, x1, rfl, h1, h⟩ := ArgsOk.cons (t := tapi_Unit) h (trd27 W) tok27
  obtain ⟨v2, vs, x2, rfl, h2, h⟩ := ArgsOk.cons (t := tapi_Unit) h (trd27 W) tok27
  obtain ⟨v3, vs, x3, rfl, h3, h⟩ := ArgsOk.cons (t := tapi_Unit) h (trd27 W) tok27
  obtain ⟨v4, vs, x4, rfl, h4, h⟩ := ArgsOk.cons (t := (tL tapi_Destination)) h (trd32 W) tok32
  obtain ⟨v5, vs, x5, rfl, h5, h⟩ := ArgsOk.cons (t := (tL tapi_Destination)) h (trd32 W) tok32
  obtain rfl := h.nil
  obtain ⟨n, hm⟩ := transitive_true x1 x2 x3 x4 x5
  have g0 : (GlE 0).holds (G.top W) := (Try.maxlen W hsh).imp fun m h => (top_has h).2
  refine ⟨[tapi_Unit.is x1, tapi_Unit.is x2, tapi_Unit.is x3, (tL tapi_Destination).is x4, (tL tapi_Destination).is x5], [(700000, GlE 0)], ⟨h1, h2, h3, h4, h5, trivial⟩, fun y hy => ?_, ⟨rfl, trivial⟩, law48_EquivalenceTransitive_spec n x1 x2 x3 x4 x5 true hm⟩
  simp only [List.mem_cons, List.not_mem_nil, or_false] at hy
  rcases hy with rfl
  · exact g0

set_option maxRecDepth 100000 in
theorem equivalenceTransitive_lifted (os : Os) (started : os.Started) (H : Type) (enc : TypeId × Value → H) :
    ReturnsInHanded {} Try.checked os 6 .any (Rows.equivalenceTransitiveSpec.pre6 enc Try.prog Try.f6 Rows.equivalenceTransitiveRow.domain false) (Rows.equivalenceTransitiveSpec.post enc Try.prog Try.f6 false true false false) :=
  lifted_of_law_S (C := Try.checked) Try.town started (by kernel_rfl) Try.func6
    (ChangeSpec.witness6 (enc := enc) (C := Try.checked) false ⟨#[], #[.agg #[.int .i64 0, .int .i64 0, .int .i64 0, .int .i64 0, .string ⟨#[]⟩, .slice none 0 0, .slice none 0 0, .slice none 0 0], .agg #[.int .i64 0, .int .i64 0, .int .i64 0, .int .i64 0, .string ⟨#[]⟩, .slice none 0 0, .slice none 0 0, .slice none 0 0], .agg #[.int .i64 0, .int .i64 0, .int .i64 0, .int .i64 0, .string ⟨#[]⟩, .slice none 0 0, .slice none 0 0, .slice none 0 0], .slice none 0 0, .slice none 0 0], []⟩ 8 (by kernel_rfl) (by kernel_rfl) (by kernel_rfl) (by kernel_rfl))
    Try.tlaidOut (by kernel_rfl) rfl Try.underlying4 rfl
    (fun | [_, _, _, _, _], _ => ⟨rfl, rfl, rfl⟩) equivalenceTransitive_law

theorem equivalenceTransitive_holds : Rows.EquivalenceTransitiveSaid :=
  OpenClaim.holds_of_wide 6 Try.f6 rfl rfl rfl rfl rfl rfl rfl ⟨rfl, rfl, rfl, rfl, rfl⟩ rfl rfl rfl rfl rfl (by kernel_rfl) Try.func6 (by kernel_rfl)
    (of_decide_eq_true (by kernel_rfl)) (by unfold Func.isWrapper; first | (rw [if_pos (by decide +kernel)]; kernel_rfl) | (rw [if_neg (by decide +kernel)]; exact ⟨rfl, rfl⟩))
    (fun os started H enc _ => equivalenceTransitive_lifted os started H enc)

end Go.Proofs.Ytclepigknhoonaa
