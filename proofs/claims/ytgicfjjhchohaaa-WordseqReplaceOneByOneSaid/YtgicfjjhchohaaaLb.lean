/-
  The rows of these laws, proved: for each law the walk of its code and its plain law, put together. No condition.
-/
import Derived.Test.YtgicfjjhchohaaaRows
import Derived.Test.YtgicfjjhchohaaaRead
import Derived.Test.YtgicfjjhchohaaaWb
import Derived.Test.YtgicfjjhchohaaaPd
import Derived.ProofKit
set_option linter.unusedVariables false
set_option linter.unusedSimpArgs false
namespace Go.Proofs.Ytgicfjjhchohaaa
open Go Go.Dec Go.ChangeShapes Go.WideShapes Go.ChangeAt Go.RowKit

theorem Try.bown : ownKnob Try.prog.godebug = none := by kernel_rfl
theorem Try.blaidOut : laidOutB Try.prog = true := by kernel_rfl
theorem brd9 (W : World) : Rds Try.prog W 9 tS := Rds.string Try.underlying9
theorem bok9 {W : World} {base : Nat} (v : Value) (h : Value.okWide Try.prog W .any base 9 v) : v = mkVal false v.cells.toList := okW_string Try.underlying9 v h
theorem brd22 (W : World) : Rds Try.prog W 22 (tL tS) := Rds.slice Try.underlying22 (brd9 W) (by kernel_rfl) (by decide) (of_decide_eq_true (by kernel_rfl))
theorem bok22 {W : World} {base : Nat} (v : Value) (h : Value.okWide Try.prog W .any base 22 v) : v = mkVal false v.cells.toList := okW_slice Try.underlying22 v h
theorem brd3 (W : World) : Rds Try.prog W 3 (tI .i64) := Rds.int Try.underlying3
theorem bok3 {W : World} {base : Nat} (v : Value) (h : Value.okWide Try.prog W .any base 3 v) : v = mkVal false v.cells.toList := okW_int Try.underlying3 v h

theorem wordseqReplaces_law (W : World) (base : Nat) (vs : List Value) (h : ArgsOk Try.prog W base Try.f4.params.toList vs) : ∃ As, All2 As vs (G.top W) ∧ FSpec Try.prog 4 As (tB.is true) := by
  rw [Try.params4] at h
  obtain ⟨v1, vs, x1, rfl, h1, h⟩ := ArgsOk.cons (t := (tL tS)) h (brd22 W) bok22
  obtain ⟨v2, vs, x2, rfl, h2, h⟩ := ArgsOk.cons (t := (tL tS)) h (brd22 W) bok22
  obtain ⟨v3, vs, x3, rfl, h3, h⟩ := ArgsOk.cons (t := (tL tS)) h (brd22 W) bok22
  obtain ⟨v4, vs, x4, rfl, h4, h⟩ := ArgsOk.cons (t := (tI .i64)) h (brd3 W) bok3
  obtain rfl := h.nil
  obtain ⟨n, hm⟩ := replaces_true x1 x2 x3 x4
  exact ⟨[(tL tS).is x1, (tL tS).is x2, (tL tS).is x3, (tI .i64).is x4], ⟨h1, h2, h3, h4, trivial⟩, law04_WordseqReplaces_spec n x1 x2 x3 x4 true hm⟩

set_option maxRecDepth 100000 in
theorem wordseqReplaces_lifted (os : Os) (started : os.Started) (H : Type) (enc : TypeId × Value → H) :
    ReturnsInHanded {} Try.checked os 4 .any (Rows.wordseqReplacesSpec.pre6 enc Try.prog Try.f4 Rows.wordseqReplacesRow.domain false) (Rows.wordseqReplacesSpec.post enc Try.prog Try.f4 false true false false) :=
  lifted_of_law (C := Try.checked) Try.bown started (by kernel_rfl) Try.func4
    (ChangeSpec.witness6 (enc := enc) (C := Try.checked) false ⟨#[], #[.slice none 0 0, .slice none 0 0, .slice none 0 0, .int .i64 0], []⟩ 8 (by kernel_rfl) (by kernel_rfl) (by kernel_rfl) (by kernel_rfl))
    Try.blaidOut (by kernel_rfl) rfl Try.underlying4 rfl
    (fun | [_, _, _, _], _ => ⟨rfl, rfl, rfl⟩) wordseqReplaces_law

theorem wordseqReplaces_holds : Rows.WordseqReplacesSaid :=
  OpenClaim.holds_of_wide 4 Try.f4 rfl rfl rfl rfl rfl rfl rfl ⟨rfl, rfl, rfl, rfl, rfl⟩ rfl rfl rfl rfl rfl (by kernel_rfl) Try.func4 (by kernel_rfl)
    (of_decide_eq_true (by kernel_rfl)) (by unfold Func.isWrapper; first | (rw [if_pos (by decide +kernel)]; kernel_rfl) | (rw [if_neg (by decide +kernel)]; exact ⟨rfl, rfl⟩))
    (fun os started H enc _ => wordseqReplaces_lifted os started H enc)

theorem wordseqInserts_law (W : World) (base : Nat) (vs : List Value) (h : ArgsOk Try.prog W base Try.f5.params.toList vs) : ∃ As, All2 As vs (G.top W) ∧ FSpec Try.prog 5 As (tB.is true) := by
  rw [Try.params5] at h
  obtain ⟨v1, vs, x1, rfl, h1, h⟩ := ArgsOk.cons (t := (tL tS)) h (brd22 W) bok22
  obtain ⟨v2, vs, x2, rfl, h2, h⟩ := ArgsOk.cons (t := (tL tS)) h (brd22 W) bok22
  obtain ⟨v3, vs, x3, rfl, h3, h⟩ := ArgsOk.cons (t := (tL tS)) h (brd22 W) bok22
  obtain ⟨v4, vs, x4, rfl, h4, h⟩ := ArgsOk.cons (t := (tI .i64)) h (brd3 W) bok3
  obtain rfl := h.nil
  obtain ⟨n, hm⟩ := inserts_true x1 x2 x3 x4
  exact ⟨[(tL tS).is x1, (tL tS).is x2, (tL tS).is x3, (tI .i64).is x4], ⟨h1, h2, h3, h4, trivial⟩, law04_WordseqInserts_spec n x1 x2 x3 x4 true hm⟩

set_option maxRecDepth 100000 in
theorem wordseqInserts_lifted (os : Os) (started : os.Started) (H : Type) (enc : TypeId × Value → H) :
    ReturnsInHanded {} Try.checked os 5 .any (Rows.wordseqInsertsSpec.pre6 enc Try.prog Try.f5 Rows.wordseqInsertsRow.domain false) (Rows.wordseqInsertsSpec.post enc Try.prog Try.f5 false true false false) :=
  lifted_of_law (C := Try.checked) Try.bown started (by kernel_rfl) Try.func5
    (ChangeSpec.witness6 (enc := enc) (C := Try.checked) false ⟨#[], #[.slice none 0 0, .slice none 0 0, .slice none 0 0, .int .i64 0], []⟩ 8 (by kernel_rfl) (by kernel_rfl) (by kernel_rfl) (by kernel_rfl))
    Try.blaidOut (by kernel_rfl) rfl Try.underlying4 rfl
    (fun | [_, _, _, _], _ => ⟨rfl, rfl, rfl⟩) wordseqInserts_law

theorem wordseqInserts_holds : Rows.WordseqInsertsSaid :=
  OpenClaim.holds_of_wide 5 Try.f5 rfl rfl rfl rfl rfl rfl rfl ⟨rfl, rfl, rfl, rfl, rfl⟩ rfl rfl rfl rfl rfl (by kernel_rfl) Try.func5 (by kernel_rfl)
    (of_decide_eq_true (by kernel_rfl)) (by unfold Func.isWrapper; first | (rw [if_pos (by decide +kernel)]; kernel_rfl) | (rw [if_neg (by decide +kernel)]; exact ⟨rfl, rfl⟩))
    (fun os started H enc _ => wordseqInserts_lifted os started H enc)

theorem wordseqReplaceOneByOne_law (W : World) (base : Nat) (vs : List Value) (h : ArgsOk Try.prog W base Try.f6.params.toList vs) : ∃ As, All2 As vs (G.top W) ∧ FSpec Try.prog 6 As (tB.is true) := by
  rw [Try.params6] at h
  obtain ⟨v1, vs, x1, rfl, h1, h⟩ := ArgsOk.cons (t := (tL tS)) h (brd22 W) bok22
  obtain ⟨v2, vs, x2, rfl, h2, h⟩ := ArgsOk.cons (t := (tL tS)) h (brd22 W) bok22
  obtain ⟨v3, vs, x3, rfl, h3, h⟩ := ArgsOk.cons (t := (tL tS)) h (brd22 W) bok22
  obtain rfl := h.nil
  obtain ⟨n, hm⟩ := onebyone_true x1 x2 x3
  exact ⟨[(tL tS).is x1, (tL tS).is x2, (tL tS).is x3], ⟨h1, h2, h3, trivial⟩, law04_WordseqReplaceOneByOne_spec n x1 x2 x3 true hm⟩

set_option maxRecDepth 100000 in
theorem wordseqReplaceOneByOne_lifted (os : Os) (started : os.Started) (H : Type) (enc : TypeId × Value → H) :
    ReturnsInHanded {} Try.checked os 6 .any (Rows.wordseqReplaceOneByOneSpec.pre6 enc Try.prog Try.f6 Rows.wordseqReplaceOneByOneRow.domain false) (Rows.wordseqReplaceOneByOneSpec.post enc Try.prog Try.f6 false true false false) :=
  lifted_of_law (C := Try.checked) Try.bown started (by kernel_rfl) Try.func6
    (ChangeSpec.witness6 (enc := enc) (C := Try.checked) false ⟨#[], #[.slice none 0 0, .slice none 0 0, .slice none 0 0], []⟩ 8 (by kernel_rfl) (by kernel_rfl) (by kernel_rfl) (by kernel_rfl))
    Try.blaidOut (by kernel_rfl) rfl Try.underlying4 rfl
    (fun | [_, _, _], _ => ⟨rfl, rfl, rfl⟩) wordseqReplaceOneByOne_law

theorem wordseqReplaceOneByOne_holds : Rows.WordseqReplaceOneByOneSaid :=
  OpenClaim.holds_of_wide 6 Try.f6 rfl rfl rfl rfl rfl rfl rfl ⟨rfl, rfl, rfl, rfl, rfl⟩ rfl rfl rfl rfl rfl (by kernel_rfl) Try.func6 (by kernel_rfl)
    (of_decide_eq_true (by kernel_rfl)) (by unfold Func.isWrapper; first | (rw [if_pos (by decide +kernel)]; kernel_rfl) | (rw [if_neg (by decide +kernel)]; exact ⟨rfl, rfl⟩))
    (fun os started H enc _ => wordseqReplaceOneByOne_lifted os started H enc)

end Go.Proofs.Ytgicfjjhchohaaa
