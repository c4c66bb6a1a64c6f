/-
  The rows of these laws, proved: for each law the walk of its code and its plain law, put together. No condition.
-/
import Derived.Test.YtgicfjjhchohaaaDoorRows
import Derived.Test.YtgicfjjhchohaaaDoorReadR
import Derived.Test.YtgicfjjhchohaaaDoorReadG
import Derived.Test.YtgicfjjhchohaaaDoorTie
import Derived.Test.YtgicfjjhchohaaaDoorCards
import Derived.SevenTiedAt
import Derived.Lay
import Derived.Test.YtgicfjjhchohaaaDoorWa
import Derived.Test.YtgicfjjhchohaaaDoorPc
import Derived.ProofKit
set_option linter.unusedVariables false
set_option linter.unusedSimpArgs false
set_option maxRecDepth 100000
namespace Go.Proofs.YtgicfjjhchohaaaDoor
open Go Go.Dec Go.ChangeShapes Go.WideShapes Go.ChangeAt Go.RowKit

theorem Tryd.sown : ownKnob Tryd.prog.godebug = none := by kernel_rfl
theorem Tryd.slaidOut : laidOutB Tryd.prog = true := by kernel_rfl
theorem srd9 (W : World) : Rds Tryd.prog W 9 tS := Rds.string Tryd.underlying9
theorem sok9 {W : World} {base : Nat} (v : Value) (h : Value.okWide Tryd.prog W .any base 9 v) : v = mkVal false v.cells.toList := okW_string Tryd.underlying9 v h

theorem wordseqSplits_law (W : World) (base : Nat) (vs : List Value) (hx : ∃ args : Array Value, laidMetH Tryd.prog Rows.wordseqSplitsRow.laid W) (hsh : W.ShapedOpen Tryd.prog) (h : ArgsOk Tryd.prog W base Tryd.f3.params.toList vs) : ∃ As rin, All2 As vs (G.top W) ∧ rin.all (G.top W) ∧ NoBlk rin ∧ FSpecR Tryd.prog 3 As rin (fun _ : Unit => tB.is true) (fun _ => []) := by
  rw [Tryd.params3] at h
  obtain ⟨v1, vs, x1, rfl, h1, h⟩ := ArgsOk.cons (t := tS) h (srd9 W) sok9
  obtain rfl := h.nil
  obtain ⟨n, hm⟩ := splits_true x1
  obtain ⟨_, hx⟩ := hx
  have g0 : (GlE 0).holds (G.top W) := (Tryd.maxlen W hsh).imp fun m h => (top_has h).2
  refine ⟨[tS.is x1], [(700000, GlE 0)], ⟨h1, trivial⟩, fun y hy => ?_, ⟨rfl, trivial⟩, law04_WordseqSplits_spec n x1 true hm⟩
  simp only [List.mem_cons, List.not_mem_nil, or_false] at hy
  rcases hy with rfl
  · exact g0

theorem wordseqSplits_hx (w w' : World) (args : Array Value) (h : w.heap = w'.heap) (k : laidMetH Tryd.prog Rows.wordseqSplitsRow.laid w) : laidMetH Tryd.prog Rows.wordseqSplitsRow.laid w' := k.of_heap h
theorem wordseqSplits_met (os : Os) (args : Array Value) : laidMetH Tryd.prog Rows.wordseqSplitsRow.laid ((World.laidAll Tryd.prog os Rows.wordseqSplitsRow.laid).forCall (fun _ _ => 0) ⟨#[], args, []⟩).memory := by
  rw [MakeChecks.laidMetH_plain _ _ _ (by kernel_rfl)]; exact laidMet_laidAll _ (by kernel_rfl) (by kernel_rfl)
set_option maxRecDepth 100000 in
theorem wordseqSplits_lifted (os : Os) (started : os.Started) (H : Type) (enc : TypeId × Value → H) :
    ReturnsInHanded {} Tryd.checked os 3 .any (fun w args => (Rows.wordseqSplitsSpec.pre enc Tryd.prog Tryd.f3 Rows.wordseqSplitsRow.domain false w args ∧ laidMetH Tryd.prog Rows.wordseqSplitsRow.laid w) ∧ sizedMet enc Tryd.prog Tryd.f3 (OpenSpec.ofChange Rows.wordseqSplitsSpec) false w args) (Rows.wordseqSplitsSpec.post enc Tryd.prog Tryd.f3 false true false false) :=
  lifted_of_law_GS (C := Tryd.checked) (X := fun w _ => laidMetH Tryd.prog Rows.wordseqSplitsRow.laid w) (wordseqSplits_hx) Tryd.sown started (by kernel_rfl) Tryd.func3
    (ChangeSpec.witness_shaped (enc := enc) (C := Tryd.checked) (os := os) (X := fun w _ => laidMetH Tryd.prog Rows.wordseqSplitsRow.laid w) false (World.laidAll Tryd.prog os Rows.wordseqSplitsRow.laid) #[.string ⟨#[]⟩] 8 (World.laidAll_os _ _ _) (World.shaped_of_ZipB (by kernel_rfl) (by kernel_rfl)) (by kernel_rfl) (by kernel_rfl) (by kernel_rfl) (wordseqSplits_met os _))
    Tryd.slaidOut (by kernel_rfl) rfl Tryd.underlying4 rfl
    (fun | [_], _ => ⟨rfl, rfl, rfl⟩) wordseqSplits_law

theorem wordseqSplits_row_holds : Rows.WordseqSplitsSaid :=
  OpenClaim.holds_of_wide 3 Tryd.f3 rfl rfl rfl rfl rfl rfl rfl ⟨rfl, rfl, rfl, rfl, rfl⟩ rfl rfl rfl rfl rfl (by kernel_rfl) Tryd.func3 (by kernel_rfl)
    (of_decide_eq_true (by kernel_rfl)) (by unfold Func.isWrapper; first | (rw [if_pos (by decide +kernel)]; kernel_rfl) | (rw [if_neg (by decide +kernel)]; exact ⟨rfl, rfl⟩))
    (fun os started H enc _ => wordseqSplits_lifted os started H enc)

theorem wordseqSplits_holds : Rows.WordseqSplitsCardSaid :=
  Claim7.holds_tied_plain_at .later [] [.data, .pinned] true (true, "9129bcfc959fe59ee9b46bbf58cc66b9e4021e04854be1070aed6db9c0f6ed52") false
    wordseqSplits_row_holds (fun _ h => by cases h) (by kernel_rfl) (fun _ h => by cases h) wordseqSplits_row_tie rfl ⟨rfl, rfl⟩ (by kernel_rfl) rfl
    (fun f fn hf hfn => by
      obtain rfl : f = 3 := Option.some.inj ((show Tryd.prog.funcNamed "pandect/pandectlaw04.WordseqSplits" = some 3 by kernel_rfl).symm.trans hf) |>.symm
      obtain rfl : fn = Tryd.f3 := (Option.some.inj (Tryd.func3.symm.trans hfn)).symm
      exact ⟨by kernel_rfl, fun j t ht => by
        rw [Tryd.params3] at ht
        have hm : t ∈ [9] := by simpa using Array.mem_of_getElem? ht
        have hall : ([9].all fun u => !Tryd.prog.wantsStandIn u) = true := by kernel_rfl
        exact (show Tryd.prog.wantsStandIn t = false by simpa using List.all_eq_true.1 hall t hm)⟩)
    (by kernel_rfl)
theorem srd23 (W : World) : Rds Tryd.prog W 23 (tL tS) := Rds.slice Tryd.underlying23 (srd9 W) (by kernel_rfl) (by decide) (of_decide_eq_true (by kernel_rfl))
theorem sok23 {W : World} {base : Nat} (v : Value) (h : Value.okWide Tryd.prog W .any base 23 v) : v = mkVal false v.cells.toList := okW_slice Tryd.underlying23 v h

theorem wordseqRoundTrip_law (W : World) (base : Nat) (vs : List Value) (hx : ∃ args : Array Value, laidMetH Tryd.prog Rows.wordseqRoundTripRow.laid W) (hsh : W.ShapedOpen Tryd.prog) (h : ArgsOk Tryd.prog W base Tryd.f4.params.toList vs) : ∃ As rin, All2 As vs (G.top W) ∧ rin.all (G.top W) ∧ NoBlk rin ∧ FSpecR Tryd.prog 4 As rin (fun _ : Unit => tB.is true) (fun _ => []) := by
  rw [Tryd.params4] at h
  obtain ⟨v1, vs, x1, rfl, h1, h⟩ := ArgsOk.cons (t := (tL tS)) h (srd23 W) sok23
  obtain rfl := h.nil
  obtain ⟨n, hm⟩ := roundtrip_true x1
  obtain ⟨_, hx⟩ := hx
  have g0 : (GlE 0).holds (G.top W) := (Tryd.maxlen W hsh).imp fun m h => (top_has h).2
  refine ⟨[(tL tS).is x1], [(700000, GlE 0)], ⟨h1, trivial⟩, fun y hy => ?_, ⟨rfl, trivial⟩, law04_WordseqRoundTrip_spec n x1 true hm⟩
  simp only [List.mem_cons, List.not_mem_nil, or_false] at hy
  rcases hy with rfl
  · exact g0

theorem wordseqRoundTrip_hx (w w' : World) (args : Array Value) (h : w.heap = w'.heap) (k : laidMetH Tryd.prog Rows.wordseqRoundTripRow.laid w) : laidMetH Tryd.prog Rows.wordseqRoundTripRow.laid w' := k.of_heap h
theorem wordseqRoundTrip_met (os : Os) (args : Array Value) : laidMetH Tryd.prog Rows.wordseqRoundTripRow.laid ((World.laidAll Tryd.prog os Rows.wordseqRoundTripRow.laid).forCall (fun _ _ => 0) ⟨#[], args, []⟩).memory := by
  rw [MakeChecks.laidMetH_plain _ _ _ (by kernel_rfl)]; exact laidMet_laidAll _ (by kernel_rfl) (by kernel_rfl)
set_option maxRecDepth 100000 in
theorem wordseqRoundTrip_lifted (os : Os) (started : os.Started) (H : Type) (enc : TypeId × Value → H) :
    ReturnsInHanded {} Tryd.checked os 4 .any (fun w args => (Rows.wordseqRoundTripSpec.pre enc Tryd.prog Tryd.f4 Rows.wordseqRoundTripRow.domain false w args ∧ laidMetH Tryd.prog Rows.wordseqRoundTripRow.laid w) ∧ sizedMet enc Tryd.prog Tryd.f4 (OpenSpec.ofChange Rows.wordseqRoundTripSpec) false w args) (Rows.wordseqRoundTripSpec.post enc Tryd.prog Tryd.f4 false true false false) :=
  lifted_of_law_GS (C := Tryd.checked) (X := fun w _ => laidMetH Tryd.prog Rows.wordseqRoundTripRow.laid w) (wordseqRoundTrip_hx) Tryd.sown started (by kernel_rfl) Tryd.func4
    (ChangeSpec.witness_shaped (enc := enc) (C := Tryd.checked) (os := os) (X := fun w _ => laidMetH Tryd.prog Rows.wordseqRoundTripRow.laid w) false (World.laidAll Tryd.prog os Rows.wordseqRoundTripRow.laid) #[.slice none 0 0] 8 (World.laidAll_os _ _ _) (World.shaped_of_ZipB (by kernel_rfl) (by kernel_rfl)) (by kernel_rfl) (by kernel_rfl) (by kernel_rfl) (wordseqRoundTrip_met os _))
    Tryd.slaidOut (by kernel_rfl) rfl Tryd.underlying4 rfl
    (fun | [_], _ => ⟨rfl, rfl, rfl⟩) wordseqRoundTrip_law

theorem wordseqRoundTrip_row_holds : Rows.WordseqRoundTripSaid :=
  OpenClaim.holds_of_wide 4 Tryd.f4 rfl rfl rfl rfl rfl rfl rfl ⟨rfl, rfl, rfl, rfl, rfl⟩ rfl rfl rfl rfl rfl (by kernel_rfl) Tryd.func4 (by kernel_rfl)
    (of_decide_eq_true (by kernel_rfl)) (by unfold Func.isWrapper; first | (rw [if_pos (by decide +kernel)]; kernel_rfl) | (rw [if_neg (by decide +kernel)]; exact ⟨rfl, rfl⟩))
    (fun os started H enc _ => wordseqRoundTrip_lifted os started H enc)

theorem wordseqRoundTrip_holds : Rows.WordseqRoundTripCardSaid :=
  Claim7.holds_tied_plain_at .later [] [.data, .pinned] true (true, "9129bcfc959fe59ee9b46bbf58cc66b9e4021e04854be1070aed6db9c0f6ed52") false
    wordseqRoundTrip_row_holds (fun _ h => by cases h) (by kernel_rfl) (fun _ h => by cases h) wordseqRoundTrip_row_tie rfl ⟨rfl, rfl⟩ (by kernel_rfl) rfl
    (fun f fn hf hfn => by
      obtain rfl : f = 4 := Option.some.inj ((show Tryd.prog.funcNamed "pandect/pandectlaw04.WordseqRoundTrip" = some 4 by kernel_rfl).symm.trans hf) |>.symm
      obtain rfl : fn = Tryd.f4 := (Option.some.inj (Tryd.func4.symm.trans hfn)).symm
      exact ⟨by kernel_rfl, fun j t ht => by
        rw [Tryd.params4] at ht
        have hm : t ∈ [23] := by simpa using Array.mem_of_getElem? ht
        have hall : ([23].all fun u => !Tryd.prog.wantsStandIn u) = true := by kernel_rfl
        exact (show Tryd.prog.wantsStandIn t = false by simpa using List.all_eq_true.1 hall t hm)⟩)
    (by kernel_rfl)

end Go.Proofs.YtgicfjjhchohaaaDoor
