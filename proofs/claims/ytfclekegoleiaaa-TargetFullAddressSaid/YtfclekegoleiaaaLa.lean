/-
  The rows of these laws, proved: for each law the walk of its code and its plain law, put together. No condition.
-/
import Derived.Test.YtfclekegoleiaaaRows
import Derived.Test.YtfclekegoleiaaaReadR
import Derived.Test.YtfclekegoleiaaaWd
import Derived.Test.YtfclekegoleiaaaPg
import Derived.ProofKit
set_option linter.unusedVariables false
set_option linter.unusedSimpArgs false
set_option maxRecDepth 100000
namespace Go.Proofs.Ytfclekegoleiaaa
open Go Go.Dec Go.ChangeShapes Go.WideShapes Go.ChangeAt Go.RowKit

theorem Try.bown : ownKnob Try.prog.godebug = none := by kernel_rfl
theorem Try.blaidOut : laidOutB Try.prog = true := by kernel_rfl
theorem brd3 (W : World) : Rds Try.prog W 3 (tI .i64) := Rds.int Try.underlying3
theorem bok3 {W : World} {base : Nat} (v : Value) (h : Value.okWide Try.prog W .any base 3 v) : v = mkVal false v.cells.toList := okW_int Try.underlying3 v h
theorem brd23 (W : World) : Rds Try.prog W 23 tapi_Id := Rds.struct (fun x => (⟨x.1, x.2.1, x.2.2⟩ : api_Id)) (fun _ => rfl) Try.underlying23 (by kernel_rfl) (RdF.cons rfl (by kernel_rfl) rfl (brd3 W) (RdF.cons rfl (by kernel_rfl) rfl (brd3 W) (RdF.last rfl (by kernel_rfl) (brd3 W))))
theorem bok23 {W : World} {base : Nat} (v : Value) (h : Value.okWide Try.prog W .any base 23 v) : v = mkVal true v.cells.toList := okW_struct Try.underlying23 v h
theorem brd9 (W : World) : Rds Try.prog W 9 tS := Rds.string Try.underlying9
theorem bok9 {W : World} {base : Nat} (v : Value) (h : Value.okWide Try.prog W .any base 9 v) : v = mkVal false v.cells.toList := okW_string Try.underlying9 v h
theorem brd109 (W : World) : Rds Try.prog W 109 tapi_Mark := Rds.struct (fun x => (⟨x.1, x.2.1, x.2.2⟩ : api_Mark)) (fun _ => rfl) Try.underlying109 (by kernel_rfl) (RdF.cons rfl (by kernel_rfl) rfl (brd3 W) (RdF.cons rfl (by kernel_rfl) rfl (brd3 W) (RdF.last rfl (by kernel_rfl) (brd3 W))))
theorem bok109 {W : World} {base : Nat} (v : Value) (h : Value.okWide Try.prog W .any base 109 v) : v = mkVal true v.cells.toList := okW_struct Try.underlying109 v h
theorem brd111 (W : World) : Rds Try.prog W 111 tapi_Word := Rds.struct (fun x => (⟨x.1, x.2⟩ : api_Word)) (fun _ => rfl) Try.underlying111 (by kernel_rfl) (RdF.cons rfl (by kernel_rfl) rfl (brd9 W) (RdF.last rfl (by kernel_rfl) (brd109 W)))
theorem bok111 {W : World} {base : Nat} (v : Value) (h : Value.okWide Try.prog W .any base 111 v) : v = mkVal true v.cells.toList := okW_struct Try.underlying111 v h
theorem brd24 (W : World) : Rds Try.prog W 24 (tL tapi_Word) := Rds.slice Try.underlying24 (brd111 W) (by kernel_rfl) (by decide) (of_decide_eq_true (by kernel_rfl))
theorem bok24 {W : World} {base : Nat} (v : Value) (h : Value.okWide Try.prog W .any base 24 v) : v = mkVal false v.cells.toList := okW_slice Try.underlying24 v h
theorem brd27 (W : World) : Rds Try.prog W 27 tapi_Unit := Rds.fix rapi_Unit Try.underlying27 (fun k ih => RdU.struct (fun x => (⟨x.1, x.2.1, x.2.2.1, x.2.2.2.1, x.2.2.2.2.1, x.2.2.2.2.2⟩ : api_Unit)) (fun _ => rfl) Try.underlying27 (by kernel_rfl) (RdFU.cons rfl (by kernel_rfl) rfl ((brd23 W).to k) (RdFU.cons rfl (by kernel_rfl) rfl ((brd3 W).to k) (RdFU.cons rfl (by kernel_rfl) rfl ((brd9 W).to k) (RdFU.cons rfl (by kernel_rfl) rfl ((brd24 W).to k) (RdFU.cons rfl (by kernel_rfl) rfl ((brd24 W).to k) (RdFU.last rfl (by kernel_rfl) ((RdU.slice Try.underlying25 ih (by kernel_rfl) (by decide) (of_decide_eq_true (by kernel_rfl))).down (Nat.le_succ k)))))))))
theorem bok27 {W : World} {base : Nat} (v : Value) (h : Value.okWide Try.prog W .any base 27 v) : v = mkVal true v.cells.toList := okW_struct Try.underlying27 v h
theorem brd63 (W : World) : Rds Try.prog W 63 tapi_Step := Rds.struct (fun x => (⟨x.1, x.2⟩ : api_Step)) (fun _ => rfl) Try.underlying63 (by kernel_rfl) (RdF.cons rfl (by kernel_rfl) rfl (brd3 W) (RdF.last rfl (by kernel_rfl) (brd9 W)))
theorem bok63 {W : World} {base : Nat} (v : Value) (h : Value.okWide Try.prog W .any base 63 v) : v = mkVal true v.cells.toList := okW_struct Try.underlying63 v h
theorem brd28 (W : World) : Rds Try.prog W 28 (tL tapi_Step) := Rds.slice Try.underlying28 (brd63 W) (by kernel_rfl) (by decide) (of_decide_eq_true (by kernel_rfl))
theorem bok28 {W : World} {base : Nat} (v : Value) (h : Value.okWide Try.prog W .any base 28 v) : v = mkVal false v.cells.toList := okW_slice Try.underlying28 v h

theorem targetInsertionPoint_law (W : World) (base : Nat) (vs : List Value) (h : ArgsOk Try.prog W base Try.f3.params.toList vs) : ∃ As, All2 As vs (G.top W) ∧ FSpec Try.prog 3 As (tB.is true) := by
  rw [Try.params3] at h
  obtain ⟨v1, vs, x1, rfl, h1, h⟩ := ArgsOk.cons (t := tapi_Unit) h (brd27 W) bok27
  obtain ⟨v2, vs, x2, rfl, h2, h⟩ := ArgsOk.cons (t := (tL tapi_Step)) h (brd28 W) bok28
  obtain ⟨v3, vs, x3, rfl, h3, h⟩ := ArgsOk.cons (t := (tI .i64)) h (brd3 W) bok3
  obtain rfl := h.nil
  obtain ⟨n, hm⟩ := insertion_true x1 x2 x3
  exact ⟨[tapi_Unit.is x1, (tL tapi_Step).is x2, (tI .i64).is x3], ⟨h1, h2, h3, trivial⟩, law21_TargetInsertionPoint_spec n x1 x2 x3 true hm⟩

set_option maxRecDepth 100000 in
theorem targetInsertionPoint_lifted (os : Os) (started : os.Started) (H : Type) (enc : TypeId × Value → H) :
    ReturnsInHanded {} Try.checked os 3 .any (Rows.targetInsertionPointSpec.pre6 enc Try.prog Try.f3 Rows.targetInsertionPointRow.domain false) (Rows.targetInsertionPointSpec.post enc Try.prog Try.f3 false true false false) :=
  lifted_of_law (C := Try.checked) Try.bown started (by kernel_rfl) Try.func3
    (ChangeSpec.witness6 (enc := enc) (C := Try.checked) false ⟨#[], #[.agg #[.int .i64 0, .int .i64 0, .int .i64 0, .int .i64 0, .string ⟨#[]⟩, .slice none 0 0, .slice none 0 0, .slice none 0 0], .slice none 0 0, .int .i64 0], []⟩ 8 (by kernel_rfl) (by kernel_rfl) (by kernel_rfl) (by kernel_rfl))
    Try.blaidOut (by kernel_rfl) rfl Try.underlying4 rfl
    (fun | [_, _, _], _ => ⟨rfl, rfl, rfl⟩) targetInsertionPoint_law

theorem targetInsertionPoint_holds : Rows.TargetInsertionPointSaid :=
  OpenClaim.holds_of_wide 3 Try.f3 rfl rfl rfl rfl rfl rfl rfl ⟨rfl, rfl, rfl, rfl, rfl⟩ rfl rfl rfl rfl rfl (by kernel_rfl) Try.func3 (by kernel_rfl)
    (of_decide_eq_true (by kernel_rfl)) (by unfold Func.isWrapper; first | (rw [if_pos (by decide +kernel)]; kernel_rfl) | (rw [if_neg (by decide +kernel)]; exact ⟨rfl, rfl⟩))
    (fun os started H enc _ => targetInsertionPoint_lifted os started H enc)
theorem brd32 (W : World) : Rds Try.prog W 32 (tL tS) := Rds.slice Try.underlying32 (brd9 W) (by kernel_rfl) (by decide) (of_decide_eq_true (by kernel_rfl))
theorem bok32 {W : World} {base : Nat} (v : Value) (h : Value.okWide Try.prog W .any base 32 v) : v = mkVal false v.cells.toList := okW_slice Try.underlying32 v h
theorem brd34 (W : World) : Rds Try.prog W 34 tapi_Start := Rds.struct (fun x => (⟨x.1, x.2.1, x.2.2⟩ : api_Start)) (fun _ => rfl) Try.underlying34 (by kernel_rfl) (RdF.cons rfl (by kernel_rfl) rfl (brd3 W) (RdF.cons rfl (by kernel_rfl) rfl (brd3 W) (RdF.last rfl (by kernel_rfl) (brd9 W))))
theorem bok34 {W : World} {base : Nat} (v : Value) (h : Value.okWide Try.prog W .any base 34 v) : v = mkVal true v.cells.toList := okW_struct Try.underlying34 v h
theorem brd37 (W : World) : Rds Try.prog W 37 tapi_Item := Rds.fix rapi_Item Try.underlying37 (fun k ih => RdU.struct (fun x => (⟨x.1, x.2.1, x.2.2.1, x.2.2.2.1, x.2.2.2.2.1, x.2.2.2.2.2.1, x.2.2.2.2.2.2.1, x.2.2.2.2.2.2.2.1, x.2.2.2.2.2.2.2.2.1, x.2.2.2.2.2.2.2.2.2.1, x.2.2.2.2.2.2.2.2.2.2.1, x.2.2.2.2.2.2.2.2.2.2.2.1, x.2.2.2.2.2.2.2.2.2.2.2.2.1, x.2.2.2.2.2.2.2.2.2.2.2.2.2.1, x.2.2.2.2.2.2.2.2.2.2.2.2.2.2.1, x.2.2.2.2.2.2.2.2.2.2.2.2.2.2.2⟩ : api_Item)) (fun _ => rfl) Try.underlying37 (by kernel_rfl) (RdFU.cons rfl (by kernel_rfl) rfl ((brd3 W).to k) (RdFU.cons rfl (by kernel_rfl) rfl ((brd28 W).to k) (RdFU.cons rfl (by kernel_rfl) rfl ((brd28 W).to k) (RdFU.cons rfl (by kernel_rfl) rfl ((brd3 W).to k) (RdFU.cons rfl (by kernel_rfl) rfl ((brd3 W).to k) (RdFU.cons rfl (by kernel_rfl) rfl ((brd27 W).to k) (RdFU.cons rfl (by kernel_rfl) rfl ((brd32 W).to k) (RdFU.cons rfl (by kernel_rfl) rfl ((brd32 W).to k) (RdFU.cons rfl (by kernel_rfl) rfl ((brd9 W).to k) (RdFU.cons rfl (by kernel_rfl) rfl ((brd9 W).to k) (RdFU.cons rfl (by kernel_rfl) rfl ((brd34 W).to k) (RdFU.cons rfl (by kernel_rfl) rfl ((brd3 W).to k) (RdFU.cons rfl (by kernel_rfl) rfl ((brd3 W).to k) (RdFU.cons rfl (by kernel_rfl) rfl ((brd3 W).to k) (RdFU.cons rfl (by kernel_rfl) rfl ((brd9 W).to k) (RdFU.last rfl (by kernel_rfl) ((RdU.slice Try.underlying35 ih (by kernel_rfl) (by decide) (of_decide_eq_true (by kernel_rfl))).down (Nat.le_succ k)))))))))))))))))))
theorem bok37 {W : World} {base : Nat} (v : Value) (h : Value.okWide Try.prog W .any base 37 v) : v = mkVal true v.cells.toList := okW_struct Try.underlying37 v h

theorem targetFind_law (W : World) (base : Nat) (vs : List Value) (h : ArgsOk Try.prog W base Try.f5.params.toList vs) : ∃ As, All2 As vs (G.top W) ∧ FSpec Try.prog 5 As (tB.is true) := by
  rw [Try.params5] at h
  obtain ⟨v1, vs, x1, rfl, h1, h⟩ := ArgsOk.cons (t := tapi_Unit) h (brd27 W) bok27
  obtain ⟨v2, vs, x2, rfl, h2, h⟩ := ArgsOk.cons (t := tapi_Item) h (brd37 W) bok37
  obtain rfl := h.nil
  obtain ⟨n, hm⟩ := find_true x1 x2
  exact ⟨[tapi_Unit.is x1, tapi_Item.is x2], ⟨h1, h2, trivial⟩, law21_TargetFind_spec n x1 x2 true hm⟩

set_option maxRecDepth 100000 in
theorem targetFind_lifted (os : Os) (started : os.Started) (H : Type) (enc : TypeId × Value → H) :
    ReturnsInHanded {} Try.checked os 5 .any (Rows.targetFindSpec.pre6 enc Try.prog Try.f5 Rows.targetFindRow.domain false) (Rows.targetFindSpec.post enc Try.prog Try.f5 false true false false) :=
  lifted_of_law (C := Try.checked) Try.bown started (by kernel_rfl) Try.func5
    (ChangeSpec.witness6 (enc := enc) (C := Try.checked) false ⟨#[], #[.agg #[.int .i64 0, .int .i64 0, .int .i64 0, .int .i64 0, .string ⟨#[]⟩, .slice none 0 0, .slice none 0 0, .slice none 0 0], .agg #[.int .i64 0, .slice none 0 0, .slice none 0 0, .int .i64 0, .int .i64 0, .int .i64 0, .int .i64 0, .int .i64 0, .int .i64 0, .string ⟨#[]⟩, .slice none 0 0, .slice none 0 0, .slice none 0 0, .slice none 0 0, .slice none 0 0, .string ⟨#[]⟩, .string ⟨#[]⟩, .int .i64 0, .int .i64 0, .string ⟨#[]⟩, .int .i64 0, .int .i64 0, .int .i64 0, .string ⟨#[]⟩, .slice none 0 0]], []⟩ 8 (by kernel_rfl) (by kernel_rfl) (by kernel_rfl) (by kernel_rfl))
    Try.blaidOut (by kernel_rfl) rfl Try.underlying4 rfl
    (fun | [_, _], _ => ⟨rfl, rfl, rfl⟩) targetFind_law

theorem targetFind_holds : Rows.TargetFindSaid :=
  OpenClaim.holds_of_wide 5 Try.f5 rfl rfl rfl rfl rfl rfl rfl ⟨rfl, rfl, rfl, rfl, rfl⟩ rfl rfl rfl rfl rfl (by kernel_rfl) Try.func5 (by kernel_rfl)
    (of_decide_eq_true (by kernel_rfl)) (by unfold Func.isWrapper; first | (rw [if_pos (by decide +kernel)]; kernel_rfl) | (rw [if_neg (by decide +kernel)]; exact ⟨rfl, rfl⟩))
    (fun os started H enc _ => targetFind_lifted os started H enc)

theorem targetDestination_law (W : World) (base : Nat) (vs : List Value) (h : ArgsOk Try.prog W base Try.f7.params.toList vs) : ∃ As, All2 As vs (G.top W) ∧ FSpec Try.prog 7 As (tB.is true) := by
  rw [Try.params7] at h
  obtain ⟨v1, vs, x1, rfl, h1, h⟩ := ArgsOk.cons (t := tapi_Unit) h (brd27 W) bok27
  obtain ⟨v2, vs, x2, rfl, h2, h⟩ := ArgsOk.cons (t := tapi_Item) h (brd37 W) bok37
  obtain rfl := h.nil
  obtain ⟨n, hm⟩ := destination_true x1 x2
  exact ⟨[tapi_Unit.is x1, tapi_Item.is x2], ⟨h1, h2, trivial⟩, law21_TargetDestination_spec n x1 x2 true hm⟩

set_option maxRecDepth 100000 in
theorem targetDestination_lifted (os : Os) (started : os.Started) (H : Type) (enc : TypeId × Value → H) :
    ReturnsInHanded {} Try.checked os 7 .any (Rows.targetDestinationSpec.pre6 enc Try.prog Try.f7 Rows.targetDestinationRow.domain false) (Rows.targetDestinationSpec.post enc Try.prog Try.f7 false true false false) :=
  lifted_of_law (C := Try.checked) Try.bown started (by kernel_rfl) Try.func7
    (ChangeSpec.witness6 (enc := enc) (C := Try.checked) false ⟨#[], #[.agg #[.int .i64 0, .int .i64 0, .int .i64 0, .int .i64 0, .string ⟨#[]⟩, .slice none 0 0, .slice none 0 0, .slice none 0 0], .agg #[.int .i64 0, .slice none 0 0, .slice none 0 0, .int .i64 0, .int .i64 0, .int .i64 0, .int .i64 0, .int .i64 0, .int .i64 0, .string ⟨#[]⟩, .slice none 0 0, .slice none 0 0, .slice none 0 0, .slice none 0 0, .slice none 0 0, .string ⟨#[]⟩, .string ⟨#[]⟩, .int .i64 0, .int .i64 0, .string ⟨#[]⟩, .int .i64 0, .int .i64 0, .int .i64 0, .string ⟨#[]⟩, .slice none 0 0]], []⟩ 8 (by kernel_rfl) (by kernel_rfl) (by kernel_rfl) (by kernel_rfl))
    Try.blaidOut (by kernel_rfl) rfl Try.underlying4 rfl
    (fun | [_, _], _ => ⟨rfl, rfl, rfl⟩) targetDestination_law

theorem targetDestination_holds : Rows.TargetDestinationSaid :=
  OpenClaim.holds_of_wide 7 Try.f7 rfl rfl rfl rfl rfl rfl rfl ⟨rfl, rfl, rfl, rfl, rfl⟩ rfl rfl rfl rfl rfl (by kernel_rfl) Try.func7 (by kernel_rfl)
    (of_decide_eq_true (by kernel_rfl)) (by unfold Func.isWrapper; first | (rw [if_pos (by decide +kernel)]; kernel_rfl) | (rw [if_neg (by decide +kernel)]; exact ⟨rfl, rfl⟩))
    (fun os started H enc _ => targetDestination_lifted os started H enc)

theorem targetFullAddress_law (W : World) (base : Nat) (vs : List Value) (h : ArgsOk Try.prog W base Try.f4.params.toList vs) : ∃ As, All2 As vs (G.top W) ∧ FSpec Try.prog 4 As (tB.is true) := by
  rw [Try.params4] at h
  obtain ⟨v1, vs, x1, rfl, h1, h⟩ := ArgsOk.cons (t := tapi_Unit) h (brd27 W) bok27
  obtain rfl := h.nil
  obtain ⟨n, hm⟩ := full_true x1
  exact ⟨[tapi_Unit.is x1], ⟨h1, trivial⟩, law21_TargetFullAddress_spec n x1 true hm⟩

set_option maxRecDepth 100000 in
theorem targetFullAddress_lifted (os : Os) (started : os.Started) (H : Type) (enc : TypeId × Value → H) :
    ReturnsInHanded {} Try.checked os 4 .any (Rows.targetFullAddressSpec.pre6 enc Try.prog Try.f4 Rows.targetFullAddressRow.domain false) (Rows.targetFullAddressSpec.post enc Try.prog Try.f4 false true false false) :=
  lifted_of_law (C := Try.checked) Try.bown started (by kernel_rfl) Try.func4
    (ChangeSpec.witness6 (enc := enc) (C := Try.checked) false ⟨#[], #[.agg #[.int .i64 0, .int .i64 0, .int .i64 0, .int .i64 0, .string ⟨#[]⟩, .slice none 0 0, .slice none 0 0, .slice none 0 0]], []⟩ 8 (by kernel_rfl) (by kernel_rfl) (by kernel_rfl) (by kernel_rfl))
    Try.blaidOut (by kernel_rfl) rfl Try.underlying4 rfl
    (fun | [_], _ => ⟨rfl, rfl, rfl⟩) targetFullAddress_law

theorem targetFullAddress_holds : Rows.TargetFullAddressSaid :=
  OpenClaim.holds_of_wide 4 Try.f4 rfl rfl rfl rfl rfl rfl rfl ⟨rfl, rfl, rfl, rfl, rfl⟩ rfl rfl rfl rfl rfl (by kernel_rfl) Try.func4 (by kernel_rfl)
    (of_decide_eq_true (by kernel_rfl)) (by unfold Func.isWrapper; first | (rw [if_pos (by decide +kernel)]; kernel_rfl) | (rw [if_neg (by decide +kernel)]; exact ⟨rfl, rfl⟩))
    (fun os started H enc _ => targetFullAddress_lifted os started H enc)

end Go.Proofs.Ytfclekegoleiaaa
