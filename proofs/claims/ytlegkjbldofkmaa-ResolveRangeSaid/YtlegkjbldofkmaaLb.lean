/-
  The rows of these laws, proved: for each law the walk of its code and its plain law, put together. No condition.
-/
import Derived.Test.YtlegkjbldofkmaaRows
import Derived.Test.YtlegkjbldofkmaaReadR
import Derived.Test.YtlegkjbldofkmaaWd
import Derived.Test.YtlegkjbldofkmaaPg
import Derived.ProofKit
set_option linter.unusedVariables false
set_option linter.unusedSimpArgs false
set_option maxRecDepth 100000
namespace Go.Proofs.Ytlegkjbldofkmaa
open Go Go.Dec Go.ChangeShapes Go.WideShapes Go.ChangeAt Go.RowKit

theorem Try.fown : ownKnob Try.prog.godebug = none := by kernel_rfl
theorem Try.flaidOut : laidOutB Try.prog = true := by kernel_rfl
theorem frd3 (W : World) : Rds Try.prog W 3 (tI .i64) := Rds.int Try.underlying3
theorem fok3 {W : World} {base : Nat} (v : Value) (h : Value.okWide Try.prog W .any base 3 v) : v = mkVal false v.cells.toList := okW_int Try.underlying3 v h
theorem frd23 (W : World) : Rds Try.prog W 23 tapi_Id := Rds.struct (fun x => (⟨x.1, x.2.1, x.2.2⟩ : api_Id)) (fun _ => rfl) Try.underlying23 (by kernel_rfl) (RdF.cons rfl (by kernel_rfl) rfl (frd3 W) (RdF.cons rfl (by kernel_rfl) rfl (frd3 W) (RdF.last rfl (by kernel_rfl) (frd3 W))))
theorem fok23 {W : World} {base : Nat} (v : Value) (h : Value.okWide Try.prog W .any base 23 v) : v = mkVal true v.cells.toList := okW_struct Try.underlying23 v h
theorem frd9 (W : World) : Rds Try.prog W 9 tS := Rds.string Try.underlying9
theorem fok9 {W : World} {base : Nat} (v : Value) (h : Value.okWide Try.prog W .any base 9 v) : v = mkVal false v.cells.toList := okW_string Try.underlying9 v h
theorem frd98 (W : World) : Rds Try.prog W 98 tapi_Mark := Rds.struct (fun x => (⟨x.1, x.2.1, x.2.2⟩ : api_Mark)) (fun _ => rfl) Try.underlying98 (by kernel_rfl) (RdF.cons rfl (by kernel_rfl) rfl (frd3 W) (RdF.cons rfl (by kernel_rfl) rfl (frd3 W) (RdF.last rfl (by kernel_rfl) (frd3 W))))
theorem fok98 {W : World} {base : Nat} (v : Value) (h : Value.okWide Try.prog W .any base 98 v) : v = mkVal true v.cells.toList := okW_struct Try.underlying98 v h
theorem frd100 (W : World) : Rds Try.prog W 100 tapi_Word := Rds.struct (fun x => (⟨x.1, x.2⟩ : api_Word)) (fun _ => rfl) Try.underlying100 (by kernel_rfl) (RdF.cons rfl (by kernel_rfl) rfl (frd9 W) (RdF.last rfl (by kernel_rfl) (frd98 W)))
theorem fok100 {W : World} {base : Nat} (v : Value) (h : Value.okWide Try.prog W .any base 100 v) : v = mkVal true v.cells.toList := okW_struct Try.underlying100 v h
theorem frd24 (W : World) : Rds Try.prog W 24 (tL tapi_Word) := Rds.slice Try.underlying24 (frd100 W) (by kernel_rfl) (by decide) (of_decide_eq_true (by kernel_rfl))
theorem fok24 {W : World} {base : Nat} (v : Value) (h : Value.okWide Try.prog W .any base 24 v) : v = mkVal false v.cells.toList := okW_slice Try.underlying24 v h
theorem frd27 (W : World) : Rds Try.prog W 27 tapi_Unit := Rds.fix rapi_Unit Try.underlying27 (fun k ih => RdU.struct (fun x => (⟨x.1, x.2.1, x.2.2.1, x.2.2.2.1, x.2.2.2.2.1, x.2.2.2.2.2⟩ : api_Unit)) (fun _ => rfl) Try.underlying27 (by kernel_rfl) (RdFU.cons rfl (by kernel_rfl) rfl ((frd23 W).to k) (RdFU.cons rfl (by kernel_rfl) rfl ((frd3 W).to k) (RdFU.cons rfl (by kernel_rfl) rfl ((frd9 W).to k) (RdFU.cons rfl (by kernel_rfl) rfl ((frd24 W).to k) (RdFU.cons rfl (by kernel_rfl) rfl ((frd24 W).to k) (RdFU.last rfl (by kernel_rfl) ((RdU.slice Try.underlying25 ih (by kernel_rfl) (by decide) (of_decide_eq_true (by kernel_rfl))).down (Nat.le_succ k)))))))))
theorem fok27 {W : World} {base : Nat} (v : Value) (h : Value.okWide Try.prog W .any base 27 v) : v = mkVal true v.cells.toList := okW_struct Try.underlying27 v h

theorem resolveFullAddress_law (W : World) (base : Nat) (vs : List Value) (h : ArgsOk Try.prog W base Try.f5.params.toList vs) : ∃ As, All2 As vs (G.top W) ∧ FSpec Try.prog 5 As (tB.is true) := by
  rw [Try.params5] at h
  obtain ⟨v1, vs, x1, rfl, h1, h⟩ := ArgsOk.cons (t := tapi_Unit) h (frd27 W) fok27
  obtain ⟨v2, vs, x2, rfl, h2, h⟩ := ArgsOk.cons (t := tapi_Id) h (frd23 W) fok23
  obtain rfl := h.nil
  obtain ⟨n, hm⟩ := fulladdress_true x1 x2
  exact ⟨[tapi_Unit.is x1, tapi_Id.is x2], ⟨h1, h2, trivial⟩, law41_ResolveFullAddress_spec n x1 x2 true hm⟩

set_option maxRecDepth 100000 in
theorem resolveFullAddress_lifted (os : Os) (started : os.Started) (H : Type) (enc : TypeId × Value → H) :
    ReturnsInHanded {} Try.checked os 5 .any (Rows.resolveFullAddressSpec.pre6 enc Try.prog Try.f5 Rows.resolveFullAddressRow.domain false) (Rows.resolveFullAddressSpec.post enc Try.prog Try.f5 false true false false) :=
  lifted_of_law (C := Try.checked) Try.fown started (by kernel_rfl) Try.func5
    (ChangeSpec.witness6 (enc := enc) (C := Try.checked) false ⟨#[], #[.agg #[.int .i64 0, .int .i64 0, .int .i64 0, .int .i64 0, .string ⟨#[]⟩, .slice none 0 0, .slice none 0 0, .slice none 0 0], .agg #[.int .i64 0, .int .i64 0, .int .i64 0]], []⟩ 8 (by kernel_rfl) (by kernel_rfl) (by kernel_rfl) (by kernel_rfl))
    Try.flaidOut (by kernel_rfl) rfl Try.underlying4 rfl
    (fun | [_, _], _ => ⟨rfl, rfl, rfl⟩) resolveFullAddress_law

theorem resolveFullAddress_holds : Rows.ResolveFullAddressSaid :=
  OpenClaim.holds_of_wide 5 Try.f5 rfl rfl rfl rfl rfl rfl rfl ⟨rfl, rfl, rfl, rfl, rfl⟩ rfl rfl rfl rfl rfl (by kernel_rfl) Try.func5 (by kernel_rfl)
    (of_decide_eq_true (by kernel_rfl)) (by unfold Func.isWrapper; first | (rw [if_pos (by decide +kernel)]; kernel_rfl) | (rw [if_neg (by decide +kernel)]; exact ⟨rfl, rfl⟩))
    (fun os started H enc _ => resolveFullAddress_lifted os started H enc)

theorem resolveRange_law (W : World) (base : Nat) (vs : List Value) (h : ArgsOk Try.prog W base Try.f6.params.toList vs) : ∃ As, All2 As vs (G.top W) ∧ FSpec Try.prog 6 As (tB.is true) := by
  rw [Try.params6] at h
  obtain ⟨v1, vs, x1, rfl, h1, h⟩ := ArgsOk.cons (t := tapi_Unit) h (frd27 W) fok27
  obtain ⟨v2, vs, x2, rfl, h2, h⟩ := ArgsOk.cons (t := tapi_Id) h (frd23 W) fok23
  obtain ⟨v3, vs, x3, rfl, h3, h⟩ := ArgsOk.cons (t := (tI .i64)) h (frd3 W) fok3
  obtain ⟨v4, vs, x4, rfl, h4, h⟩ := ArgsOk.cons (t := (tI .i64)) h (frd3 W) fok3
  obtain rfl := h.nil
  obtain ⟨n, hm⟩ := range_true x1 x2 x3 x4
  exact ⟨[tapi_Unit.is x1, tapi_Id.is x2, (tI .i64).is x3, (tI .i64).is x4], ⟨h1, h2, h3, h4, trivial⟩, law41_ResolveRange_spec n x1 x2 x3 x4 true hm⟩

set_option maxRecDepth 100000 in
theorem resolveRange_lifted (os : Os) (started : os.Started) (H : Type) (enc : TypeId × Value → H) :
    ReturnsInHanded {} Try.checked os 6 .any (Rows.resolveRangeSpec.pre6 enc Try.prog Try.f6 Rows.resolveRangeRow.domain false) (Rows.resolveRangeSpec.post enc Try.prog Try.f6 false true false false) :=
  lifted_of_law (C := Try.checked) Try.fown started (by kernel_rfl) Try.func6
    (ChangeSpec.witness6 (enc := enc) (C := Try.checked) false ⟨#[], #[.agg #[.int .i64 0, .int .i64 0, .int .i64 0, .int .i64 0, .string ⟨#[]⟩, .slice none 0 0, .slice none 0 0, .slice none 0 0], .agg #[.int .i64 0, .int .i64 0, .int .i64 0], .int .i64 0, .int .i64 0], []⟩ 8 (by kernel_rfl) (by kernel_rfl) (by kernel_rfl) (by kernel_rfl))
    Try.flaidOut (by kernel_rfl) rfl Try.underlying4 rfl
    (fun | [_, _, _, _], _ => ⟨rfl, rfl, rfl⟩) resolveRange_law

theorem resolveRange_holds : Rows.ResolveRangeSaid :=
  OpenClaim.holds_of_wide 6 Try.f6 rfl rfl rfl rfl rfl rfl rfl ⟨rfl, rfl, rfl, rfl, rfl⟩ rfl rfl rfl rfl rfl (by kernel_rfl) Try.func6 (by kernel_rfl)
    (of_decide_eq_true (by kernel_rfl)) (by unfold Func.isWrapper; first | (rw [if_pos (by decide +kernel)]; kernel_rfl) | (rw [if_neg (by decide +kernel)]; exact ⟨rfl, rfl⟩))
    (fun os started H enc _ => resolveRange_lifted os started H enc)

end Go.Proofs.Ytlegkjbldofkmaa
