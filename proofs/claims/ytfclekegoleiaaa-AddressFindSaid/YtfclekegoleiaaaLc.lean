/-
  The rows of these laws, proved: for each law the walk of its code and its plain law, put together. No condition.
-/
import Derived.Test.YtfclekegoleiaaaRows
import Derived.Test.YtfclekegoleiaaaReadR
import Derived.Test.YtfclekegoleiaaaWe
import Derived.Test.YtfclekegoleiaaaB7
import Derived.ProofKit
set_option linter.unusedVariables false
set_option linter.unusedSimpArgs false
set_option maxRecDepth 100000
namespace Go.Proofs.Ytfclekegoleiaaa
open Go Go.Dec Go.ChangeShapes Go.WideShapes Go.ChangeAt Go.RowKit

theorem Try.cown : ownKnob Try.prog.godebug = none := by kernel_rfl
theorem Try.claidOut : laidOutB Try.prog = true := by kernel_rfl
theorem crd3 (W : World) : Rds Try.prog W 3 (tI .i64) := Rds.int Try.underlying3
theorem cok3 {W : World} {base : Nat} (v : Value) (h : Value.okWide Try.prog W .any base 3 v) : v = mkVal false v.cells.toList := okW_int Try.underlying3 v h
theorem crd23 (W : World) : Rds Try.prog W 23 tapi_Id := Rds.struct (fun x => (⟨x.1, x.2.1, x.2.2⟩ : api_Id)) (fun _ => rfl) Try.underlying23 (by kernel_rfl) (RdF.cons rfl (by kernel_rfl) rfl (crd3 W) (RdF.cons rfl (by kernel_rfl) rfl (crd3 W) (RdF.last rfl (by kernel_rfl) (crd3 W))))
theorem cok23 {W : World} {base : Nat} (v : Value) (h : Value.okWide Try.prog W .any base 23 v) : v = mkVal true v.cells.toList := okW_struct Try.underlying23 v h
theorem crd9 (W : World) : Rds Try.prog W 9 tS := Rds.string Try.underlying9
theorem cok9 {W : World} {base : Nat} (v : Value) (h : Value.okWide Try.prog W .any base 9 v) : v = mkVal false v.cells.toList := okW_string Try.underlying9 v h
theorem crd109 (W : World) : Rds Try.prog W 109 tapi_Mark := Rds.struct (fun x => (⟨x.1, x.2.1, x.2.2⟩ : api_Mark)) (fun _ => rfl) Try.underlying109 (by kernel_rfl) (RdF.cons rfl (by kernel_rfl) rfl (crd3 W) (RdF.cons rfl (by kernel_rfl) rfl (crd3 W) (RdF.last rfl (by kernel_rfl) (crd3 W))))
theorem cok109 {W : World} {base : Nat} (v : Value) (h : Value.okWide Try.prog W .any base 109 v) : v = mkVal true v.cells.toList := okW_struct Try.underlying109 v h
theorem crd111 (W : World) : Rds Try.prog W 111 tapi_Word := Rds.struct (fun x => (⟨x.1, x.2⟩ : api_Word)) (fun _ => rfl) Try.underlying111 (by kernel_rfl) (RdF.cons rfl (by kernel_rfl) rfl (crd9 W) (RdF.last rfl (by kernel_rfl) (crd109 W)))
theorem cok111 {W : World} {base : Nat} (v : Value) (h : Value.okWide Try.prog W .any base 111 v) : v = mkVal true v.cells.toList := okW_struct Try.underlying111 v h
theorem crd24 (W : World) : Rds Try.prog W 24 (tL tapi_Word) := Rds.slice Try.underlying24 (crd111 W) (by kernel_rfl) (by decide) (of_decide_eq_true (by kernel_rfl))
theorem cok24 {W : World} {base : Nat} (v : Value) (h : Value.okWide Try.prog W .any base 24 v) : v = mkVal false v.cells.toList := okW_slice Try.underlying24 v h
theorem crd27 (W : World) : Rds Try.prog W 27 tapi_Unit := Rds.fix rapi_Unit Try.underlying27 (fun k ih => RdU.struct (fun x => (⟨x.1, x.2.1, x.2.2.1, x.2.2.2.1, x.2.2.2.2.1, x.2.2.2.2.2⟩ : api_Unit)) (fun _ => rfl) Try.underlying27 (by kernel_rfl) (RdFU.cons rfl (by kernel_rfl) rfl ((crd23 W).to k) (RdFU.cons rfl (by kernel_rfl) rfl ((crd3 W).to k) (RdFU.cons rfl (by kernel_rfl) rfl ((crd9 W).to k) (RdFU.cons rfl (by kernel_rfl) rfl ((crd24 W).to k) (RdFU.cons rfl (by kernel_rfl) rfl ((crd24 W).to k) (RdFU.last rfl (by kernel_rfl) ((RdU.slice Try.underlying25 ih (by kernel_rfl) (by decide) (of_decide_eq_true (by kernel_rfl))).down (Nat.le_succ k)))))))))
theorem cok27 {W : World} {base : Nat} (v : Value) (h : Value.okWide Try.prog W .any base 27 v) : v = mkVal true v.cells.toList := okW_struct Try.underlying27 v h
theorem crd63 (W : World) : Rds Try.prog W 63 tapi_Step := Rds.struct (fun x => (⟨x.1, x.2⟩ : api_Step)) (fun _ => rfl) Try.underlying63 (by kernel_rfl) (RdF.cons rfl (by kernel_rfl) rfl (crd3 W) (RdF.last rfl (by kernel_rfl) (crd9 W)))
theorem cok63 {W : World} {base : Nat} (v : Value) (h : Value.okWide Try.prog W .any base 63 v) : v = mkVal true v.cells.toList := okW_struct Try.underlying63 v h
theorem crd28 (W : World) : Rds Try.prog W 28 (tL tapi_Step) := Rds.slice Try.underlying28 (crd63 W) (by kernel_rfl) (by decide) (of_decide_eq_true (by kernel_rfl))
theorem cok28 {W : World} {base : Nat} (v : Value) (h : Value.okWide Try.prog W .any base 28 v) : v = mkVal false v.cells.toList := okW_slice Try.underlying28 v h

theorem addressFind_law (W : World) (base : Nat) (vs : List Value) (h : ArgsOk Try.prog W base Try.f6.params.toList vs) : ∃ As, All2 As vs (G.top W) ∧ FSpec Try.prog 6 As (tB.is true) := by
  rw [Try.params6] at h
  obtain ⟨v1, vs, x1, rfl, h1, h⟩ := ArgsOk.cons (t := tapi_Unit) h (crd27 W) cok27
  obtain ⟨v2, vs, x2, rfl, h2, h⟩ := ArgsOk.cons (t := (tL tapi_Step)) h (crd28 W) cok28
  obtain rfl := h.nil
  obtain ⟨n, hm⟩ := address_find_true x1 x2 (big_is h1)
  exact ⟨[tapi_Unit.is x1, (tL tapi_Step).is x2], ⟨h1, h2, trivial⟩, law07_AddressFind_spec n x1 x2 true hm⟩

set_option maxRecDepth 100000 in
theorem addressFind_lifted (os : Os) (started : os.Started) (H : Type) (enc : TypeId × Value → H) :
    ReturnsInHanded {} Try.checked os 6 .any (Rows.addressFindSpec.pre6 enc Try.prog Try.f6 Rows.addressFindRow.domain false) (Rows.addressFindSpec.post enc Try.prog Try.f6 false true false false) :=
  lifted_of_law (C := Try.checked) Try.cown started (by kernel_rfl) Try.func6
    (ChangeSpec.witness6 (enc := enc) (C := Try.checked) false ⟨#[], #[.agg #[.int .i64 0, .int .i64 0, .int .i64 0, .int .i64 0, .string ⟨#[]⟩, .slice none 0 0, .slice none 0 0, .slice none 0 0], .slice none 0 0], []⟩ 8 (by kernel_rfl) (by kernel_rfl) (by kernel_rfl) (by kernel_rfl))
    Try.claidOut (by kernel_rfl) rfl Try.underlying4 rfl
    (fun | [_, _], _ => ⟨rfl, rfl, rfl⟩) addressFind_law

theorem addressFind_holds : Rows.AddressFindSaid :=
  OpenClaim.holds_of_wide 6 Try.f6 rfl rfl rfl rfl rfl rfl rfl ⟨rfl, rfl, rfl, rfl, rfl⟩ rfl rfl rfl rfl rfl (by kernel_rfl) Try.func6 (by kernel_rfl)
    (of_decide_eq_true (by kernel_rfl)) (by unfold Func.isWrapper; first | (rw [if_pos (by decide +kernel)]; kernel_rfl) | (rw [if_neg (by decide +kernel)]; exact ⟨rfl, rfl⟩))
    (fun os started H enc _ => addressFind_lifted os started H enc)

end Go.Proofs.Ytfclekegoleiaaa
