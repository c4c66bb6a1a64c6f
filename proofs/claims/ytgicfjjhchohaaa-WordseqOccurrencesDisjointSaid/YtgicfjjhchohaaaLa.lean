/-
  The rows of the searches, proved: the walk of each law and its plain law, put together.
-/
import Derived.Test.YtgicfjjhchohaaaRows
import Derived.Test.YtgicfjjhchohaaaRead
import Derived.Test.YtgicfjjhchohaaaWb
import Derived.Test.YtgicfjjhchohaaaPb
import Derived.ProofKit
set_option linter.unusedVariables false
set_option linter.unusedSimpArgs false
namespace Go.Proofs.Ytgicfjjhchohaaa
open Go Go.Dec Go.ChangeShapes Go.WideShapes Go.ChangeAt Go.RowKit

theorem Try.own : ownKnob Try.prog.godebug = none := by kernel_rfl
theorem Try.laidOut : laidOutB Try.prog = true := by kernel_rfl
theorem rd9 (W : World) : Rds Try.prog W 9 tS := Rds.string Try.underlying9
theorem rd22 (W : World) : Rds Try.prog W 22 (tL tS) := Rds.slice Try.underlying22 (rd9 W) (by kernel_rfl) (by decide) (of_decide_eq_true (by kernel_rfl))
theorem ok22 {W : World} {base : Nat} (v : Value) (h : Value.okWide Try.prog W .any base 22 v) : v = mkVal false v.cells.toList := okW_slice Try.underlying22 v h

theorem finds_law (W : World) (base : Nat) (vs : List Value) (h : ArgsOk Try.prog W base Try.f7.params.toList vs) : ∃ As, All2 As vs (G.top W) ∧ FSpec Try.prog 7 As (tB.is true) := by
  rw [Try.params7] at h
  obtain ⟨v1, vs, x1, rfl, h1, h⟩ := ArgsOk.cons (t := tL tS) h (rd22 W) ok22
  obtain ⟨v2, vs, x2, rfl, h2, h⟩ := ArgsOk.cons (t := tL tS) h (rd22 W) ok22
  obtain rfl := h.nil
  obtain ⟨n, hm⟩ := finds_true x1 x2
  exact ⟨[(tL tS).is x1, (tL tS).is x2], ⟨h1, h2, trivial⟩, law04_WordseqFinds_spec n x1 x2 true hm⟩

set_option maxRecDepth 100000 in
theorem finds_lifted (os : Os) (started : os.Started) (H : Type) (enc : TypeId × Value → H) :
    ReturnsInHanded {} Try.checked os 7 .any (Rows.wordseqFindsSpec.pre6 enc Try.prog Try.f7 Rows.wordseqFindsRow.domain false) (Rows.wordseqFindsSpec.post enc Try.prog Try.f7 false true false false) :=
  lifted_of_law (C := Try.checked) Try.own started (by kernel_rfl) Try.func7
    (ChangeSpec.witness6 (enc := enc) (C := Try.checked) false ⟨#[], #[.slice none 0 0, .slice none 0 0], []⟩ 8 (by kernel_rfl) (by kernel_rfl) (by kernel_rfl) (by kernel_rfl))
    Try.laidOut (by kernel_rfl) rfl Try.underlying4 rfl
    (fun | [_, _], _ => ⟨rfl, rfl, rfl⟩) finds_law

theorem finds_holds : Rows.WordseqFindsSaid :=
  OpenClaim.holds_of_wide 7 Try.f7 rfl rfl rfl rfl rfl rfl rfl ⟨rfl, rfl, rfl, rfl, rfl⟩ rfl rfl rfl rfl rfl (by kernel_rfl) Try.func7 (by kernel_rfl)
    (of_decide_eq_true (by kernel_rfl)) (by unfold Func.isWrapper; first | (rw [if_pos (by decide +kernel)]; kernel_rfl) | (rw [if_neg (by decide +kernel)]; exact ⟨rfl, rfl⟩))
    (fun os started H enc _ => finds_lifted os started H enc)

theorem disjoint_law (W : World) (base : Nat) (vs : List Value) (h : ArgsOk Try.prog W base Try.f3.params.toList vs) : ∃ As, All2 As vs (G.top W) ∧ FSpec Try.prog 3 As (tB.is true) := by
  rw [Try.params3] at h
  obtain ⟨v1, vs, x1, rfl, h1, h⟩ := ArgsOk.cons (t := tL tS) h (rd22 W) ok22
  obtain ⟨v2, vs, x2, rfl, h2, h⟩ := ArgsOk.cons (t := tL tS) h (rd22 W) ok22
  obtain rfl := h.nil
  obtain ⟨n, hm⟩ := disjoint_true x1 x2
  exact ⟨[(tL tS).is x1, (tL tS).is x2], ⟨h1, h2, trivial⟩, law04_WordseqOccurrencesDisjoint_spec n x1 x2 true hm⟩

set_option maxRecDepth 100000 in
theorem disjoint_lifted (os : Os) (started : os.Started) (H : Type) (enc : TypeId × Value → H) :
    ReturnsInHanded {} Try.checked os 3 .any (Rows.wordseqOccurrencesDisjointSpec.pre6 enc Try.prog Try.f3 Rows.wordseqOccurrencesDisjointRow.domain false) (Rows.wordseqOccurrencesDisjointSpec.post enc Try.prog Try.f3 false true false false) :=
  lifted_of_law (C := Try.checked) Try.own started (by kernel_rfl) Try.func3
    (ChangeSpec.witness6 (enc := enc) (C := Try.checked) false ⟨#[], #[.slice none 0 0, .slice none 0 0], []⟩ 8 (by kernel_rfl) (by kernel_rfl) (by kernel_rfl) (by kernel_rfl))
    Try.laidOut (by kernel_rfl) rfl Try.underlying4 rfl
    (fun | [_, _], _ => ⟨rfl, rfl, rfl⟩) disjoint_law

theorem disjoint_holds : Rows.WordseqOccurrencesDisjointSaid :=
  OpenClaim.holds_of_wide 3 Try.f3 rfl rfl rfl rfl rfl rfl rfl ⟨rfl, rfl, rfl, rfl, rfl⟩ rfl rfl rfl rfl rfl (by kernel_rfl) Try.func3 (by kernel_rfl)
    (of_decide_eq_true (by kernel_rfl)) (by unfold Func.isWrapper; first | (rw [if_pos (by decide +kernel)]; kernel_rfl) | (rw [if_neg (by decide +kernel)]; exact ⟨rfl, rfl⟩))
    (fun os started H enc _ => disjoint_lifted os started H enc)

end Go.Proofs.Ytgicfjjhchohaaa
