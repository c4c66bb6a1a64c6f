/-
  The rows of these laws, proved: for each law the walk of its code and its plain law, put together. No condition.
-/
import Derived.Test.YtlegkjbldofkmaaRows
import Derived.Test.YtlegkjbldofkmaaReadR
import Derived.Test.YtlegkjbldofkmaaWd
import Derived.Test.YtlegkjbldofkmaaPf
import Derived.ProofKit
set_option linter.unusedVariables false
set_option linter.unusedSimpArgs false
set_option maxRecDepth 100000
namespace Go.Proofs.Ytlegkjbldofkmaa
open Go Go.Dec Go.ChangeShapes Go.WideShapes Go.ChangeAt Go.RowKit

theorem Try.own : ownKnob Try.prog.godebug = none := by kernel_rfl
theorem Try.laidOut : laidOutB Try.prog = true := by kernel_rfl
theorem rd3 (W : World) : Rds Try.prog W 3 (tI .i64) := Rds.int Try.underlying3
theorem ok3 {W : World} {base : Nat} (v : Value) (h : Value.okWide Try.prog W .any base 3 v) : v = mkVal false v.cells.toList := okW_int Try.underlying3 v h
theorem rd23 (W : World) : Rds Try.prog W 23 tapi_Id := Rds.struct (fun x => (⟨x.1, x.2.1, x.2.2⟩ : api_Id)) (fun _ => rfl) Try.underlying23 (by kernel_rfl) (RdF.cons rfl (by kernel_rfl) rfl (rd3 W) (RdF.cons rfl (by kernel_rfl) rfl (rd3 W) (RdF.last rfl (by kernel_rfl) (rd3 W))))
theorem ok23 {W : World} {base : Nat} (v : Value) (h : Value.okWide Try.prog W .any base 23 v) : v = mkVal true v.cells.toList := okW_struct Try.underlying23 v h
theorem rd9 (W : World) : Rds Try.prog W 9 tS := Rds.string Try.underlying9
theorem ok9 {W : World} {base : Nat} (v : Value) (h : Value.okWide Try.prog W .any base 9 v) : v = mkVal false v.cells.toList := okW_string Try.underlying9 v h
theorem rd98 (W : World) : Rds Try.prog W 98 tapi_Mark := Rds.struct (fun x => (⟨x.1, x.2.1, x.2.2⟩ : api_Mark)) (fun _ => rfl) Try.underlying98 (by kernel_rfl) (RdF.cons rfl (by kernel_rfl) rfl (rd3 W) (RdF.cons rfl (by kernel_rfl) rfl (rd3 W) (RdF.last rfl (by kernel_rfl) (rd3 W))))
theorem ok98 {W : World} {base : Nat} (v : Value) (h : Value.okWide Try.prog W .any base 98 v) : v = mkVal true v.cells.toList := okW_struct Try.underlying98 v h
theorem rd100 (W : World) : Rds Try.prog W 100 tapi_Word := Rds.struct (fun x => (⟨x.1, x.2⟩ : api_Word)) (fun _ => rfl) Try.underlying100 (by kernel_rfl) (RdF.cons rfl (by kernel_rfl) rfl (rd9 W) (RdF.last rfl (by kernel_rfl) (rd98 W)))
theorem ok100 {W : World} {base : Nat} (v : Value) (h : Value.okWide Try.prog W .any base 100 v) : v = mkVal true v.cells.toList := okW_struct Try.underlying100 v h
theorem rd24 (W : World) : Rds Try.prog W 24 (tL tapi_Word) := Rds.slice Try.underlying24 (rd100 W) (by kernel_rfl) (by decide) (of_decide_eq_true (by kernel_rfl))
theorem ok24 {W : World} {base : Nat} (v : Value) (h : Value.okWide Try.prog W .any base 24 v) : v = mkVal false v.cells.toList := okW_slice Try.underlying24 v h
theorem rd27 (W : World) : Rds Try.prog W 27 tapi_Unit := Rds.fix rapi_Unit Try.underlying27 (fun k ih => RdU.struct (fun x => (⟨x.1, x.2.1, x.2.2.1, x.2.2.2.1, x.2.2.2.2.1, x.2.2.2.2.2⟩ : api_Unit)) (fun _ => rfl) Try.underlying27 (by kernel_rfl) (RdFU.cons rfl (by kernel_rfl) rfl ((rd23 W).to k) (RdFU.cons rfl (by kernel_rfl) rfl ((rd3 W).to k) (RdFU.cons rfl (by kernel_rfl) rfl ((rd9 W).to k) (RdFU.cons rfl (by kernel_rfl) rfl ((rd24 W).to k) (RdFU.cons rfl (by kernel_rfl) rfl ((rd24 W).to k) (RdFU.last rfl (by kernel_rfl) ((RdU.slice Try.underlying25 ih (by kernel_rfl) (by decide) (of_decide_eq_true (by kernel_rfl))).down (Nat.le_succ k)))))))))
theorem ok27 {W : World} {base : Nat} (v : Value) (h : Value.okWide Try.prog W .any base 27 v) : v = mkVal true v.cells.toList := okW_struct Try.underlying27 v h
theorem rd55 (W : World) : Rds Try.prog W 55 tapi_Step := Rds.struct (fun x => (⟨x.1, x.2⟩ : api_Step)) (fun _ => rfl) Try.underlying55 (by kernel_rfl) (RdF.cons rfl (by kernel_rfl) rfl (rd3 W) (RdF.last rfl (by kernel_rfl) (rd9 W)))
theorem ok55 {W : World} {base : Nat} (v : Value) (h : Value.okWide Try.prog W .any base 55 v) : v = mkVal true v.cells.toList := okW_struct Try.underlying55 v h
theorem rd28 (W : World) : Rds Try.prog W 28 (tL tapi_Step) := Rds.slice Try.underlying28 (rd55 W) (by kernel_rfl) (by decide) (of_decide_eq_true (by kernel_rfl))
theorem ok28 {W : World} {base : Nat} (v : Value) (h : Value.okWide Try.prog W .any base 28 v) : v = mkVal false v.cells.toList := okW_slice Try.underlying28 v h
theorem rd30 (W : World) : Rds Try.prog W 30 tapi_Cite := Rds.struct (fun x => (⟨x.1, x.2.1, x.2.2.1, x.2.2.2.1, x.2.2.2.2⟩ : api_Cite)) (fun _ => rfl) Try.underlying30 (by kernel_rfl) (RdF.cons rfl (by kernel_rfl) rfl (rd3 W) (RdF.cons rfl (by kernel_rfl) rfl (rd28 W) (RdF.cons rfl (by kernel_rfl) rfl (rd9 W) (RdF.cons rfl (by kernel_rfl) rfl (rd3 W) (RdF.last rfl (by kernel_rfl) (rd3 W))))))
theorem ok30 {W : World} {base : Nat} (v : Value) (h : Value.okWide Try.prog W .any base 30 v) : v = mkVal true v.cells.toList := okW_struct Try.underlying30 v h
theorem rd31 (W : World) : Rds Try.prog W 31 (tL tapi_Id) := Rds.slice Try.underlying31 (rd23 W) (by kernel_rfl) (by decide) (of_decide_eq_true (by kernel_rfl))
theorem ok31 {W : World} {base : Nat} (v : Value) (h : Value.okWide Try.prog W .any base 31 v) : v = mkVal false v.cells.toList := okW_slice Try.underlying31 v h

theorem resolveCitation_law (W : World) (base : Nat) (vs : List Value) (h : ArgsOk Try.prog W base Try.f3.params.toList vs) : ∃ As, All2 As vs (G.top W) ∧ FSpec Try.prog 3 As (tB.is true) := by
  rw [Try.params3] at h
  obtain ⟨v1, vs, x1, rfl, h1, h⟩ := ArgsOk.cons (t := tapi_Unit) h (rd27 W) ok27
  obtain ⟨v2, vs, x2, rfl, h2, h⟩ := ArgsOk.cons (t := tapi_Id) h (rd23 W) ok23
  obtain ⟨v3, vs, x3, rfl, h3, h⟩ := ArgsOk.cons (t := tapi_Cite) h (rd30 W) ok30
  obtain ⟨v4, vs, x4, rfl, h4, h⟩ := ArgsOk.cons (t := (tL tapi_Id)) h (rd31 W) ok31
  obtain rfl := h.nil
  obtain ⟨n, hm⟩ := citation_true x1 x2 x3 x4
  exact ⟨[tapi_Unit.is x1, tapi_Id.is x2, tapi_Cite.is x3, (tL tapi_Id).is x4], ⟨h1, h2, h3, h4, trivial⟩, law41_ResolveCitation_spec n x1 x2 x3 x4 true hm⟩

set_option maxRecDepth 100000 in
theorem resolveCitation_lifted (os : Os) (started : os.Started) (H : Type) (enc : TypeId × Value → H) :
    ReturnsInHanded {} Try.checked os 3 .any (Rows.resolveCitationSpec.pre6 enc Try.prog Try.f3 Rows.resolveCitationRow.domain false) (Rows.resolveCitationSpec.post enc Try.prog Try.f3 false true false false) :=
  lifted_of_law (C := Try.checked) Try.own started (by kernel_rfl) Try.func3
    (ChangeSpec.witness6 (enc := enc) (C := Try.checked) false ⟨#[], #[.agg #[.int .i64 0, .int .i64 0, .int .i64 0, .int .i64 0, .string ⟨#[]⟩, .slice none 0 0, .slice none 0 0, .slice none 0 0], .agg #[.int .i64 0, .int .i64 0, .int .i64 0], .agg #[.int .i64 0, .slice none 0 0, .string ⟨#[]⟩, .int .i64 0, .int .i64 0], .slice none 0 0], []⟩ 8 (by kernel_rfl) (by kernel_rfl) (by kernel_rfl) (by kernel_rfl))
    Try.laidOut (by kernel_rfl) rfl Try.underlying4 rfl
    (fun | [_, _, _, _], _ => ⟨rfl, rfl, rfl⟩) resolveCitation_law

theorem resolveCitation_holds : Rows.ResolveCitationSaid :=
  OpenClaim.holds_of_wide 3 Try.f3 rfl rfl rfl rfl rfl rfl rfl ⟨rfl, rfl, rfl, rfl, rfl⟩ rfl rfl rfl rfl rfl (by kernel_rfl) Try.func3 (by kernel_rfl)
    (of_decide_eq_true (by kernel_rfl)) (by unfold Func.isWrapper; first | (rw [if_pos (by decide +kernel)]; kernel_rfl) | (rw [if_neg (by decide +kernel)]; exact ⟨rfl, rfl⟩))
    (fun os started H enc _ => resolveCitation_lifted os started H enc)

theorem resolveEnclosing_law (W : World) (base : Nat) (vs : List Value) (h : ArgsOk Try.prog W base Try.f4.params.toList vs) : ∃ As, All2 As vs (G.top W) ∧ FSpec Try.prog 4 As (tB.is true) := by
  rw [Try.params4] at h
  obtain ⟨v1, vs, x1, rfl, h1, h⟩ := ArgsOk.cons (t := tapi_Unit) h (rd27 W) ok27
  obtain ⟨v2, vs, x2, rfl, h2, h⟩ := ArgsOk.cons (t := tapi_Id) h (rd23 W) ok23
  obtain ⟨v3, vs, x3, rfl, h3, h⟩ := ArgsOk.cons (t := tapi_Id) h (rd23 W) ok23
  obtain ⟨v4, vs, x4, rfl, h4, h⟩ := ArgsOk.cons (t := (tI .i64)) h (rd3 W) ok3
  obtain rfl := h.nil
  obtain ⟨n, hm⟩ := enclosing_true x1 x2 x3 x4
  exact ⟨[tapi_Unit.is x1, tapi_Id.is x2, tapi_Id.is x3, (tI .i64).is x4], ⟨h1, h2, h3, h4, trivial⟩, law41_ResolveEnclosing_spec n x1 x2 x3 x4 true hm⟩

set_option maxRecDepth 100000 in
theorem resolveEnclosing_lifted (os : Os) (started : os.Started) (H : Type) (enc : TypeId × Value → H) :
    ReturnsInHanded {} Try.checked os 4 .any (Rows.resolveEnclosingSpec.pre6 enc Try.prog Try.f4 Rows.resolveEnclosingRow.domain false) (Rows.resolveEnclosingSpec.post enc Try.prog Try.f4 false true false false) :=
  lifted_of_law (C := Try.checked) Try.own started (by kernel_rfl) Try.func4
    (ChangeSpec.witness6 (enc := enc) (C := Try.checked) false ⟨#[], #[.agg #[.int .i64 0, .int .i64 0, .int .i64 0, .int .i64 0, .string ⟨#[]⟩, .slice none 0 0, .slice none 0 0, .slice none 0 0], .agg #[.int .i64 0, .int .i64 0, .int .i64 0], .agg #[.int .i64 0, .int .i64 0, .int .i64 0], .int .i64 0], []⟩ 8 (by kernel_rfl) (by kernel_rfl) (by kernel_rfl) (by kernel_rfl))
    Try.laidOut (by kernel_rfl) rfl Try.underlying4 rfl
    (fun | [_, _, _, _], _ => ⟨rfl, rfl, rfl⟩) resolveEnclosing_law

theorem resolveEnclosing_holds : Rows.ResolveEnclosingSaid :=
  OpenClaim.holds_of_wide 4 Try.f4 rfl rfl rfl rfl rfl rfl rfl ⟨rfl, rfl, rfl, rfl, rfl⟩ rfl rfl rfl rfl rfl (by kernel_rfl) Try.func4 (by kernel_rfl)
    (of_decide_eq_true (by kernel_rfl)) (by unfold Func.isWrapper; first | (rw [if_pos (by decide +kernel)]; kernel_rfl) | (rw [if_neg (by decide +kernel)]; exact ⟨rfl, rfl⟩))
    (fun os started H enc _ => resolveEnclosing_lifted os started H enc)

end Go.Proofs.Ytlegkjbldofkmaa
