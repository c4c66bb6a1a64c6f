/-
  The rows of these laws, proved: for each law the walk of its code and its plain law, put together. No condition.
-/
import Derived.Test.YtnmkblpbmoikpaaDoorRows
import Derived.Test.YtnmkblpbmoikpaaDoorReadR
import Derived.Test.YtnmkblpbmoikpaaDoorReadG
import Derived.Test.YtnmkblpbmoikpaaDoorTie
import Derived.Test.YtnmkblpbmoikpaaDoorCards
import Derived.SevenTiedAt
import Derived.Lay
import Derived.Test.YtnmkblpbmoikpaaDoorWc
import Derived.Test.YtnmkblpbmoikpaaDoorBn
import Derived.ProofKit
set_option linter.unusedVariables false
set_option linter.unusedSimpArgs false
set_option maxRecDepth 100000
namespace Go.Proofs.YtnmkblpbmoikpaaDoor
open Go Go.Dec Go.ChangeShapes Go.WideShapes Go.ChangeAt Go.RowKit

theorem Tryd.vown : ownKnob Tryd.prog.godebug = none := by kernel_rfl
theorem Tryd.vlaidOut : laidOutB Tryd.prog = true := by kernel_rfl
theorem vrd3 (W : World) : Rds Tryd.prog W 3 (tI .i64) := Rds.int Tryd.underlying3
theorem vok3 {W : World} {base : Nat} (v : Value) (h : Value.okWide Tryd.prog W .any base 3 v) : v = mkVal false v.cells.toList := okW_int Tryd.underlying3 v h
theorem vrd9 (W : World) : Rds Tryd.prog W 9 tS := Rds.string Tryd.underlying9
theorem vok9 {W : World} {base : Nat} (v : Value) (h : Value.okWide Tryd.prog W .any base 9 v) : v = mkVal false v.cells.toList := okW_string Tryd.underlying9 v h
theorem vrd50 (W : World) : Rds Tryd.prog W 50 tapi_Step := Rds.struct (fun x => (⟨x.1, x.2⟩ : api_Step)) (fun _ => rfl) Tryd.underlying50 (by kernel_rfl) (RdF.cons rfl (by kernel_rfl) rfl (vrd3 W) (RdF.last rfl (by kernel_rfl) (vrd9 W)))
theorem vok50 {W : World} {base : Nat} (v : Value) (h : Value.okWide Tryd.prog W .any base 50 v) : v = mkVal true v.cells.toList := okW_struct Tryd.underlying50 v h
theorem vrd22 (W : World) : Rds Tryd.prog W 22 (tL tapi_Step) := Rds.slice Tryd.underlying22 (vrd50 W) (by kernel_rfl) (by decide) (of_decide_eq_true (by kernel_rfl))
theorem vok22 {W : World} {base : Nat} (v : Value) (h : Value.okWide Tryd.prog W .any base 22 v) : v = mkVal false v.cells.toList := okW_slice Tryd.underlying22 v h
theorem vrd24 (W : World) : Rds Tryd.prog W 24 tapi_Cite := Rds.struct (fun x => (⟨x.1, x.2.1, x.2.2.1, x.2.2.2.1, x.2.2.2.2⟩ : api_Cite)) (fun _ => rfl) Tryd.underlying24 (by kernel_rfl) (RdF.cons rfl (by kernel_rfl) rfl (vrd3 W) (RdF.cons rfl (by kernel_rfl) rfl (vrd22 W) (RdF.cons rfl (by kernel_rfl) rfl (vrd9 W) (RdF.cons rfl (by kernel_rfl) rfl (vrd3 W) (RdF.last rfl (by kernel_rfl) (vrd3 W))))))
theorem vok24 {W : World} {base : Nat} (v : Value) (h : Value.okWide Tryd.prog W .any base 24 v) : v = mkVal true v.cells.toList := okW_struct Tryd.underlying24 v h

theorem citationValidates_law (W : World) (base : Nat) (vs : List Value) (hx : ∃ args : Array Value, laidMetH Tryd.prog Rows.citationValidatesRow.laid W) (hsh : W.ShapedOpen Tryd.prog) (h : ArgsOk Tryd.prog W base Tryd.f3.params.toList vs) : ∃ As rin, All2 As vs (G.top W) ∧ rin.all (G.top W) ∧ NoBlk rin ∧ FSpecR Tryd.prog 3 As rin (fun _ : Unit => tB.is true) (fun _ => []) := by
  rw [Tryd.params3] at h
  obtain ⟨v1, vs, x1, rfl, h1, h⟩ := ArgsOk.cons (t := tapi_Cite) h (vrd24 W) vok24
  obtain rfl := h.nil
  obtain ⟨n, hm⟩ := cvalidates_true x1 (fits_is h1)
  obtain ⟨_, hx⟩ := hx
  have g0 : (GlE 0).holds (G.top W) := (Tryd.maxlen W hsh).imp fun m h => (top_has h).2
  refine ⟨[tapi_Cite.is x1], [(700000, GlE 0)], ⟨h1, trivial⟩, fun y hy => ?_, ⟨rfl, trivial⟩, law20_CitationValidates_spec n x1 true hm⟩
  simp only [List.mem_cons, List.not_mem_nil, or_false] at hy
  rcases hy with rfl
  · exact g0

theorem citationValidates_hx (w w' : World) (args : Array Value) (h : w.heap = w'.heap) (k : laidMetH Tryd.prog Rows.citationValidatesRow.laid w) : laidMetH Tryd.prog Rows.citationValidatesRow.laid w' := k.of_heap h
theorem citationValidates_met (os : Os) (args : Array Value) : laidMetH Tryd.prog Rows.citationValidatesRow.laid ((World.laidAll Tryd.prog os Rows.citationValidatesRow.laid).forCall (fun _ _ => 0) ⟨#[], args, []⟩).memory := by
  rw [MakeChecks.laidMetH_plain _ _ _ (by kernel_rfl)]; exact laidMet_laidAll _ (by kernel_rfl) (by kernel_rfl)
set_option maxRecDepth 100000 in
theorem citationValidates_lifted (os : Os) (started : os.Started) (H : Type) (enc : TypeId × Value → H) :
    ReturnsInHanded {} Tryd.checked os 3 .any (fun w args => (Rows.citationValidatesSpec.pre enc Tryd.prog Tryd.f3 Rows.citationValidatesRow.domain false w args ∧ laidMetH Tryd.prog Rows.citationValidatesRow.laid w) ∧ sizedMet enc Tryd.prog Tryd.f3 (OpenSpec.ofChange Rows.citationValidatesSpec) false w args) (Rows.citationValidatesSpec.post enc Tryd.prog Tryd.f3 false true false false) :=
  lifted_of_law_GS (C := Tryd.checked) (X := fun w _ => laidMetH Tryd.prog Rows.citationValidatesRow.laid w) (citationValidates_hx) Tryd.vown started (by kernel_rfl) Tryd.func3
    (ChangeSpec.witness_shaped (enc := enc) (C := Tryd.checked) (os := os) (X := fun w _ => laidMetH Tryd.prog Rows.citationValidatesRow.laid w) false (World.laidAll Tryd.prog os Rows.citationValidatesRow.laid) #[.agg #[.int .i64 0, .slice none 0 0, .string ⟨#[]⟩, .int .i64 0, .int .i64 0]] 8 (World.laidAll_os _ _ _) (World.shaped_of_ZipB (by kernel_rfl) (by kernel_rfl)) (by kernel_rfl) (by kernel_rfl) (by kernel_rfl) (citationValidates_met os _))
    Tryd.vlaidOut (by kernel_rfl) rfl Tryd.underlying4 rfl
    (fun | [_], _ => ⟨rfl, rfl, rfl⟩) citationValidates_law

theorem citationValidates_row_holds : Rows.CitationValidatesSaid :=
  OpenClaim.holds_of_wide 3 Tryd.f3 rfl rfl rfl rfl rfl rfl rfl ⟨rfl, rfl, rfl, rfl, rfl⟩ rfl rfl rfl rfl rfl (by kernel_rfl) Tryd.func3 (by kernel_rfl)
    (of_decide_eq_true (by kernel_rfl)) (by unfold Func.isWrapper; first | (rw [if_pos (by decide +kernel)]; kernel_rfl) | (rw [if_neg (by decide +kernel)]; exact ⟨rfl, rfl⟩))
    (fun os started H enc _ => citationValidates_lifted os started H enc)

theorem citationValidates_holds : Rows.CitationValidatesCardSaid :=
  Claim7.holds_tied_plain_at .later [] [.data, .pinned] true (true, "ab0f6ceae33cb2098a0e9f4ce22b4c5c35925406d826b2831dce8bcd3604c70f") false
    citationValidates_row_holds (fun _ h => by cases h) (by kernel_rfl) (fun _ h => by cases h) citationValidates_row_tie rfl ⟨rfl, rfl⟩ (by kernel_rfl) rfl
    (fun f fn hf hfn => by
      obtain rfl : f = 3 := Option.some.inj ((show Tryd.prog.funcNamed "pandect/pandectlaw20.CitationValidates" = some 3 by kernel_rfl).symm.trans hf) |>.symm
      obtain rfl : fn = Tryd.f3 := (Option.some.inj (Tryd.func3.symm.trans hfn)).symm
      exact ⟨by kernel_rfl, fun j t ht => by
        rw [Tryd.params3] at ht
        have hm : t ∈ [24] := by simpa using Array.mem_of_getElem? ht
        have hall : ([24].all fun u => !Tryd.prog.wantsStandIn u) = true := by kernel_rfl
        exact (show Tryd.prog.wantsStandIn t = false by simpa using List.all_eq_true.1 hall t hm)⟩)
    (by kernel_rfl)

end Go.Proofs.YtnmkblpbmoikpaaDoor
