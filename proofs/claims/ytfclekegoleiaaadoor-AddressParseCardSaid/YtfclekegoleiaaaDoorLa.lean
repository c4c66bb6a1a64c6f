/-
  The rows of these laws, proved: for each law the walk of its code and its plain law, put together. No condition.
-/
import Derived.Test.YtfclekegoleiaaaDoorRows
import Derived.Test.YtfclekegoleiaaaDoorReadR
import Derived.Test.YtfclekegoleiaaaDoorReadG
import Derived.Test.YtfclekegoleiaaaDoorTie
import Derived.Test.YtfclekegoleiaaaDoorCards
import Derived.SevenTiedAt
import Derived.Lay
import Derived.Test.YtfclekegoleiaaaDoorWb
import Derived.Test.YtfclekegoleiaaaDoorPb
import Derived.ProofKit
set_option linter.unusedVariables false
set_option linter.unusedSimpArgs false
set_option maxRecDepth 100000
namespace Go.Proofs.YtfclekegoleiaaaDoor
open Go Go.Dec Go.ChangeShapes Go.WideShapes Go.ChangeAt Go.RowKit

theorem Tryd.qown : ownKnob Tryd.prog.godebug = none := by kernel_rfl
theorem Tryd.qlaidOut : laidOutB Tryd.prog = true := by kernel_rfl
theorem qrd3 (W : World) : Rds Tryd.prog W 3 (tI .i64) := Rds.int Tryd.underlying3
theorem qok3 {W : World} {base : Nat} (v : Value) (h : Value.okWide Tryd.prog W .any base 3 v) : v = mkVal false v.cells.toList := okW_int Tryd.underlying3 v h
theorem qrd9 (W : World) : Rds Tryd.prog W 9 tS := Rds.string Tryd.underlying9
theorem qok9 {W : World} {base : Nat} (v : Value) (h : Value.okWide Tryd.prog W .any base 9 v) : v = mkVal false v.cells.toList := okW_string Tryd.underlying9 v h
theorem qrd41 (W : World) : Rds Tryd.prog W 41 tapi_Step := Rds.struct (fun x => (⟨x.1, x.2⟩ : api_Step)) (fun _ => rfl) Tryd.underlying41 (by kernel_rfl) (RdF.cons rfl (by kernel_rfl) rfl (qrd3 W) (RdF.last rfl (by kernel_rfl) (qrd9 W)))
theorem qok41 {W : World} {base : Nat} (v : Value) (h : Value.okWide Tryd.prog W .any base 41 v) : v = mkVal true v.cells.toList := okW_struct Tryd.underlying41 v h
theorem qrd33 (W : World) : Rds Tryd.prog W 33 (tL tapi_Step) := Rds.slice Tryd.underlying33 (qrd41 W) (by kernel_rfl) (by decide) (of_decide_eq_true (by kernel_rfl))
theorem qok33 {W : World} {base : Nat} (v : Value) (h : Value.okWide Tryd.prog W .any base 33 v) : v = mkVal false v.cells.toList := okW_slice Tryd.underlying33 v h

theorem addressFormat_law (W : World) (base : Nat) (vs : List Value) (hx : ∃ args : Array Value, laidMetH Tryd.prog Rows.addressFormatRow.laid W) (hsh : W.ShapedOpen Tryd.prog) (h : ArgsOk Tryd.prog W base Tryd.f5.params.toList vs) : ∃ As rin, All2 As vs (G.top W) ∧ rin.all (G.top W) ∧ NoBlk rin ∧ FSpecR Tryd.prog 5 As rin (fun _ : Unit => tB.is true) (fun _ => []) := by
  rw [Tryd.params5] at h
  obtain ⟨v1, vs, x1, rfl, h1, h⟩ := ArgsOk.cons (t := (tL tapi_Step)) h (qrd33 W) qok33
  obtain rfl := h.nil
  obtain ⟨n, hm⟩ := aformat_true x1
  obtain ⟨_, hx⟩ := hx
  have g2 : (GlE 2).holds (G.top W) := (Tryd.maxlen W hsh).imp fun m h => (top_has h).2
  refine ⟨[(tL tapi_Step).is x1], [(700002, GlE 2)], ⟨h1, trivial⟩, fun y hy => ?_, ⟨rfl, trivial⟩, law07_AddressFormat_spec n x1 true hm⟩
  simp only [List.mem_cons, List.not_mem_nil, or_false] at hy
  rcases hy with rfl
  · exact g2

theorem addressFormat_hx (w w' : World) (args : Array Value) (h : w.heap = w'.heap) (k : laidMetH Tryd.prog Rows.addressFormatRow.laid w) : laidMetH Tryd.prog Rows.addressFormatRow.laid w' := k.of_heap h
theorem addressFormat_met (os : Os) (args : Array Value) : laidMetH Tryd.prog Rows.addressFormatRow.laid ((World.laidAll Tryd.prog os Rows.addressFormatRow.laid).forCall (fun _ _ => 0) ⟨#[], args, []⟩).memory := by
  rw [MakeChecks.laidMetH_plain _ _ _ (by kernel_rfl)]; exact laidMet_laidAll _ (by kernel_rfl) (by kernel_rfl)
set_option maxRecDepth 100000 in
theorem addressFormat_lifted (os : Os) (started : os.Started) (H : Type) (enc : TypeId × Value → H) :
    ReturnsInHanded {} Tryd.checked os 5 .any (fun w args => (Rows.addressFormatSpec.pre enc Tryd.prog Tryd.f5 Rows.addressFormatRow.domain false w args ∧ laidMetH Tryd.prog Rows.addressFormatRow.laid w) ∧ sizedMet enc Tryd.prog Tryd.f5 (OpenSpec.ofChange Rows.addressFormatSpec) false w args) (Rows.addressFormatSpec.post enc Tryd.prog Tryd.f5 false true false false) :=
  lifted_of_law_GS (C := Tryd.checked) (X := fun w _ => laidMetH Tryd.prog Rows.addressFormatRow.laid w) (addressFormat_hx) Tryd.qown started (by kernel_rfl) Tryd.func5
    (ChangeSpec.witness_shaped (enc := enc) (C := Tryd.checked) (os := os) (X := fun w _ => laidMetH Tryd.prog Rows.addressFormatRow.laid w) false (World.laidAll Tryd.prog os Rows.addressFormatRow.laid) #[.slice none 0 0] 8 (World.laidAll_os _ _ _) (World.shaped_of_ZipB (by kernel_rfl) (by kernel_rfl)) (by kernel_rfl) (by kernel_rfl) (by kernel_rfl) (addressFormat_met os _))
    Tryd.qlaidOut (by kernel_rfl) rfl Tryd.underlying4 rfl
    (fun | [_], _ => ⟨rfl, rfl, rfl⟩) addressFormat_law

theorem addressFormat_row_holds : Rows.AddressFormatSaid :=
  OpenClaim.holds_of_wide 5 Tryd.f5 rfl rfl rfl rfl rfl rfl rfl ⟨rfl, rfl, rfl, rfl, rfl⟩ rfl rfl rfl rfl rfl (by kernel_rfl) Tryd.func5 (by kernel_rfl)
    (of_decide_eq_true (by kernel_rfl)) (by unfold Func.isWrapper; first | (rw [if_pos (by decide +kernel)]; kernel_rfl) | (rw [if_neg (by decide +kernel)]; exact ⟨rfl, rfl⟩))
    (fun os started H enc _ => addressFormat_lifted os started H enc)

theorem addressFormat_holds : Rows.AddressFormatCardSaid :=
  Claim7.holds_tied_plain_at .later [] [.data, .pinned] true (true, "9e8e16f5b9e0fbeed945a1a3cf09a84259e8ead2676b723602e1bd82c441d380") false
    addressFormat_row_holds (fun _ h => by cases h) (by kernel_rfl) (fun _ h => by cases h) addressFormat_row_tie rfl ⟨rfl, rfl⟩ (by kernel_rfl) rfl
    (fun f fn hf hfn => by
      obtain rfl : f = 5 := Option.some.inj ((show Tryd.prog.funcNamed "pandect/pandectlaw07.AddressFormat" = some 5 by kernel_rfl).symm.trans hf) |>.symm
      obtain rfl : fn = Tryd.f5 := (Option.some.inj (Tryd.func5.symm.trans hfn)).symm
      exact ⟨by kernel_rfl, fun j t ht => by
        rw [Tryd.params5] at ht
        have hm : t ∈ [33] := by simpa using Array.mem_of_getElem? ht
        have hall : ([33].all fun u => !Tryd.prog.wantsStandIn u) = true := by kernel_rfl
        exact (show Tryd.prog.wantsStandIn t = false by simpa using List.all_eq_true.1 hall t hm)⟩)
    (by kernel_rfl)

theorem addressParse_law (W : World) (base : Nat) (vs : List Value) (hx : ∃ args : Array Value, laidMetH Tryd.prog Rows.addressParseRow.laid W) (hsh : W.ShapedOpen Tryd.prog) (h : ArgsOk Tryd.prog W base Tryd.f6.params.toList vs) : ∃ As rin, All2 As vs (G.top W) ∧ rin.all (G.top W) ∧ NoBlk rin ∧ FSpecR Tryd.prog 6 As rin (fun _ : Unit => tB.is true) (fun _ => []) := by
  rw [Tryd.params6] at h
  obtain ⟨v1, vs, x1, rfl, h1, h⟩ := ArgsOk.cons (t := tS) h (qrd9 W) qok9
  obtain rfl := h.nil
  obtain ⟨n, hm⟩ := aparse_true x1
  obtain ⟨_, hx⟩ := hx
  have g2 : (GlE 2).holds (G.top W) := (Tryd.maxlen W hsh).imp fun m h => (top_has h).2
  refine ⟨[tS.is x1], [(700002, GlE 2)], ⟨h1, trivial⟩, fun y hy => ?_, ⟨rfl, trivial⟩, law07_AddressParse_spec n x1 true hm⟩
  simp only [List.mem_cons, List.not_mem_nil, or_false] at hy
  rcases hy with rfl
  · exact g2

theorem addressParse_hx (w w' : World) (args : Array Value) (h : w.heap = w'.heap) (k : laidMetH Tryd.prog Rows.addressParseRow.laid w) : laidMetH Tryd.prog Rows.addressParseRow.laid w' := k.of_heap h
theorem addressParse_met (os : Os) (args : Array Value) : laidMetH Tryd.prog Rows.addressParseRow.laid ((World.laidAll Tryd.prog os Rows.addressParseRow.laid).forCall (fun _ _ => 0) ⟨#[], args, []⟩).memory := by
  rw [MakeChecks.laidMetH_plain _ _ _ (by kernel_rfl)]; exact laidMet_laidAll _ (by kernel_rfl) (by kernel_rfl)
set_option maxRecDepth 100000 in
theorem addressParse_lifted (os : Os) (started : os.Started) (H : Type) (enc : TypeId × Value → H) :
    ReturnsInHanded {} Tryd.checked os 6 .any (fun w args => (Rows.addressParseSpec.pre enc Tryd.prog Tryd.f6 Rows.addressParseRow.domain false w args ∧ laidMetH Tryd.prog Rows.addressParseRow.laid w) ∧ sizedMet enc Tryd.prog Tryd.f6 (OpenSpec.ofChange Rows.addressParseSpec) false w args) (Rows.addressParseSpec.post enc Tryd.prog Tryd.f6 false true false false) :=
  lifted_of_law_GS (C := Tryd.checked) (X := fun w _ => laidMetH Tryd.prog Rows.addressParseRow.laid w) (addressParse_hx) Tryd.qown started (by kernel_rfl) Tryd.func6
    (ChangeSpec.witness_shaped (enc := enc) (C := Tryd.checked) (os := os) (X := fun w _ => laidMetH Tryd.prog Rows.addressParseRow.laid w) false (World.laidAll Tryd.prog os Rows.addressParseRow.laid) #[.string ⟨#[]⟩] 8 (World.laidAll_os _ _ _) (World.shaped_of_ZipB (by kernel_rfl) (by kernel_rfl)) (by kernel_rfl) (by kernel_rfl) (by kernel_rfl) (addressParse_met os _))
    Tryd.qlaidOut (by kernel_rfl) rfl Tryd.underlying4 rfl
    (fun | [_], _ => ⟨rfl, rfl, rfl⟩) addressParse_law

theorem addressParse_row_holds : Rows.AddressParseSaid :=
  OpenClaim.holds_of_wide 6 Tryd.f6 rfl rfl rfl rfl rfl rfl rfl ⟨rfl, rfl, rfl, rfl, rfl⟩ rfl rfl rfl rfl rfl (by kernel_rfl) Tryd.func6 (by kernel_rfl)
    (of_decide_eq_true (by kernel_rfl)) (by unfold Func.isWrapper; first | (rw [if_pos (by decide +kernel)]; kernel_rfl) | (rw [if_neg (by decide +kernel)]; exact ⟨rfl, rfl⟩))
    (fun os started H enc _ => addressParse_lifted os started H enc)

theorem addressParse_holds : Rows.AddressParseCardSaid :=
  Claim7.holds_tied_plain_at .later [] [.data, .pinned] true (true, "9e8e16f5b9e0fbeed945a1a3cf09a84259e8ead2676b723602e1bd82c441d380") false
    addressParse_row_holds (fun _ h => by cases h) (by kernel_rfl) (fun _ h => by cases h) addressParse_row_tie rfl ⟨rfl, rfl⟩ (by kernel_rfl) rfl
    (fun f fn hf hfn => by
      obtain rfl : f = 6 := Option.some.inj ((show Tryd.prog.funcNamed "pandect/pandectlaw07.AddressParse" = some 6 by kernel_rfl).symm.trans hf) |>.symm
      obtain rfl : fn = Tryd.f6 := (Option.some.inj (Tryd.func6.symm.trans hfn)).symm
      exact ⟨by kernel_rfl, fun j t ht => by
        rw [Tryd.params6] at ht
        have hm : t ∈ [9] := by simpa using Array.mem_of_getElem? ht
        have hall : ([9].all fun u => !Tryd.prog.wantsStandIn u) = true := by kernel_rfl
        exact (show Tryd.prog.wantsStandIn t = false by simpa using List.all_eq_true.1 hall t hm)⟩)
    (by kernel_rfl)

end Go.Proofs.YtfclekegoleiaaaDoor
