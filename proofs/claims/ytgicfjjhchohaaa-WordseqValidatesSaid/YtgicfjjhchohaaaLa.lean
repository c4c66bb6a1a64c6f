/-
  The rows of these laws, proved: for each law the walk of its code and its plain law, put together. No condition.
-/
import Derived.Test.YtgicfjjhchohaaaRows
import Derived.Test.YtgicfjjhchohaaaReadR
import Derived.Test.YtgicfjjhchohaaaWa
import Derived.Test.YtgicfjjhchohaaaPb
import Derived.ProofKit
set_option linter.unusedVariables false
set_option linter.unusedSimpArgs false
set_option maxRecDepth 100000
namespace Go.Proofs.Ytgicfjjhchohaaa
open Go Go.Dec Go.ChangeShapes Go.WideShapes Go.ChangeAt Go.RowKit

theorem Try.down : ownKnob Try.prog.godebug = none := by kernel_rfl
theorem Try.dlaidOut : laidOutB Try.prog = true := by kernel_rfl
theorem drd9 (W : World) : Rds Try.prog W 9 tS := Rds.string Try.underlying9
theorem dok9 {W : World} {base : Nat} (v : Value) (h : Value.okWide Try.prog W .any base 9 v) : v = mkVal false v.cells.toList := okW_string Try.underlying9 v h
theorem drd22 (W : World) : Rds Try.prog W 22 (tL tS) := Rds.slice Try.underlying22 (drd9 W) (by kernel_rfl) (by decide) (of_decide_eq_true (by kernel_rfl))
theorem dok22 {W : World} {base : Nat} (v : Value) (h : Value.okWide Try.prog W .any base 22 v) : v = mkVal false v.cells.toList := okW_slice Try.underlying22 v h

theorem wordseqValidates_law (W : World) (base : Nat) (vs : List Value) (h : ArgsOk Try.prog W base Try.f8.params.toList vs) : ∃ As, All2 As vs (G.top W) ∧ FSpec Try.prog 8 As (tB.is true) := by
  rw [Try.params8] at h
  obtain ⟨v1, vs, x1, rfl, h1, h⟩ := ArgsOk.cons (t := (tL tS)) h (drd22 W) dok22
  obtain rfl := h.nil
  obtain ⟨n, hm⟩ := validates_true x1
  exact ⟨[(tL tS).is x1], ⟨h1, trivial⟩, law04_WordseqValidates_spec n x1 true hm⟩

set_option maxRecDepth 100000 in
theorem wordseqValidates_lifted (os : Os) (started : os.Started) (H : Type) (enc : TypeId × Value → H) :
    ReturnsInHanded {} Try.checked os 8 .any (Rows.wordseqValidatesSpec.pre6 enc Try.prog Try.f8 Rows.wordseqValidatesRow.domain false) (Rows.wordseqValidatesSpec.post enc Try.prog Try.f8 false true false false) :=
  lifted_of_law (C := Try.checked) Try.down started (by kernel_rfl) Try.func8
    (ChangeSpec.witness6 (enc := enc) (C := Try.checked) false ⟨#[], #[.slice none 0 0], []⟩ 8 (by kernel_rfl) (by kernel_rfl) (by kernel_rfl) (by kernel_rfl))
    Try.dlaidOut (by kernel_rfl) rfl Try.underlying4 rfl
    (fun | [_], _ => ⟨rfl, rfl, rfl⟩) wordseqValidates_law

theorem wordseqValidates_holds : Rows.WordseqValidatesSaid :=
  OpenClaim.holds_of_wide 8 Try.f8 rfl rfl rfl rfl rfl rfl rfl ⟨rfl, rfl, rfl, rfl, rfl⟩ rfl rfl rfl rfl rfl (by kernel_rfl) Try.func8 (by kernel_rfl)
    (of_decide_eq_true (by kernel_rfl)) (by unfold Func.isWrapper; first | (rw [if_pos (by decide +kernel)]; kernel_rfl) | (rw [if_neg (by decide +kernel)]; exact ⟨rfl, rfl⟩))
    (fun os started H enc _ => wordseqValidates_lifted os started H enc)

end Go.Proofs.Ytgicfjjhchohaaa
