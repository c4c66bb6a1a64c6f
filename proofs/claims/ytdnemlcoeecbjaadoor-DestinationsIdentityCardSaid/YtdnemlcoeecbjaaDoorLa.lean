/-
  The rows of these laws, proved: for each law the walk of its code and its plain law, put together. No condition.
-/
import Derived.Test.YtdnemlcoeecbjaaDoorRows
import Derived.Test.YtdnemlcoeecbjaaDoorReadR
import Derived.Test.YtdnemlcoeecbjaaDoorReadL
import Derived.Test.YtdnemlcoeecbjaaDoorTie
import Derived.Test.YtdnemlcoeecbjaaDoorCards
import Derived.SevenTiedAt
import Derived.Test.YtdnemlcoeecbjaaDoorWa
import Derived.Test.YtdnemlcoeecbjaaDoorPb
import Derived.ProofKit
set_option linter.unusedVariables false
set_option linter.unusedSimpArgs false
set_option maxRecDepth 100000
namespace Go.Proofs.YtdnemlcoeecbjaaDoor
open Go Go.Dec Go.ChangeShapes Go.WideShapes Go.ChangeAt Go.RowKit

theorem Tryd.bown : ownKnob Tryd.prog.godebug = none := by kernel_rfl
theorem Tryd.blaidOut : laidOutB Tryd.prog = true := by kernel_rfl
theorem brd3 (W : World) : Rds Tryd.prog W 3 (tI .i64) := Rds.int Tryd.underlying3
theorem bok3 {W : World} {base : Nat} (v : Value) (h : Value.okWide Tryd.prog W .any base 3 v) : v = mkVal false v.cells.toList := okW_int Tryd.underlying3 v h
theorem brd24 (W : World) : Rds Tryd.prog W 24 tapi_Id := Rds.struct (fun x => (⟨x.1, x.2.1, x.2.2⟩ : api_Id)) (fun _ => rfl) Tryd.underlying24 (by kernel_rfl) (RdF.cons rfl (by kernel_rfl) rfl (brd3 W) (RdF.cons rfl (by kernel_rfl) rfl (brd3 W) (RdF.last rfl (by kernel_rfl) (brd3 W))))
theorem bok24 {W : World} {base : Nat} (v : Value) (h : Value.okWide Tryd.prog W .any base 24 v) : v = mkVal true v.cells.toList := okW_struct Tryd.underlying24 v h
theorem brd36 (W : World) : Rds Tryd.prog W 36 tapi_Destination := Rds.struct (fun x => (⟨x.1, x.2⟩ : api_Destination)) (fun _ => rfl) Tryd.underlying36 (by kernel_rfl) (RdF.cons rfl (by kernel_rfl) rfl (brd24 W) (RdF.last rfl (by kernel_rfl) (brd24 W)))
theorem bok36 {W : World} {base : Nat} (v : Value) (h : Value.okWide Tryd.prog W .any base 36 v) : v = mkVal true v.cells.toList := okW_struct Tryd.underlying36 v h
theorem brd22 (W : World) : Rds Tryd.prog W 22 (tL tapi_Destination) := Rds.slice Tryd.underlying22 (brd36 W) (by kernel_rfl) (by decide) (of_decide_eq_true (by kernel_rfl))
theorem bok22 {W : World} {base : Nat} (v : Value) (h : Value.okWide Tryd.prog W .any base 22 v) : v = mkVal false v.cells.toList := okW_slice Tryd.underlying22 v h

theorem destinationsLookup_law (W : World) (base : Nat) (vs : List Value) (h : ArgsOk Tryd.prog W base Tryd.f3.params.toList vs) : ∃ As, All2 As vs (G.top W) ∧ FSpec Tryd.prog 3 As (tB.is true) := by
  rw [Tryd.params3] at h
  obtain ⟨v1, vs, x1, rfl, h1, h⟩ := ArgsOk.cons (t := (tL tapi_Destination)) h (brd22 W) bok22
  obtain ⟨v2, vs, x2, rfl, h2, h⟩ := ArgsOk.cons (t := tapi_Id) h (brd24 W) bok24
  obtain rfl := h.nil
  obtain ⟨n, hm⟩ := lookup_true x1 x2
  exact ⟨[(tL tapi_Destination).is x1, tapi_Id.is x2], ⟨h1, h2, trivial⟩, law47_DestinationsLookup_spec n x1 x2 true hm⟩

theorem destinationsLookup_hx (w w' : World) (args : Array Value) (h : w.heap = w'.heap) (k : laidMetH Tryd.prog Rows.destinationsLookupRow.laid w) : laidMetH Tryd.prog Rows.destinationsLookupRow.laid w' := k.of_heap h
theorem destinationsLookup_met (os : Os) (args : Array Value) : laidMetH Tryd.prog Rows.destinationsLookupRow.laid ((World.doorLaid Tryd.prog 400 os).forCall (fun _ _ => 0) ⟨#[], args, []⟩).memory :=
  laidMetH_of_parts3 (fuel := 8) (laidMet_of_run' 8 (by kernel_rfl) (by kernel_rfl)) (by kernel_rfl) (by kernel_rfl)
set_option maxRecDepth 100000 in
theorem destinationsLookup_lifted (os : Os) (started : os.Started) (H : Type) (enc : TypeId × Value → H) :
    ReturnsInHanded {} Tryd.checked os 3 .any (fun w args => (Rows.destinationsLookupSpec.pre enc Tryd.prog Tryd.f3 Rows.destinationsLookupRow.domain false w args ∧ laidMetH Tryd.prog Rows.destinationsLookupRow.laid w) ∧ sizedMet enc Tryd.prog Tryd.f3 (OpenSpec.ofChange Rows.destinationsLookupSpec) false w args) (Rows.destinationsLookupSpec.post enc Tryd.prog Tryd.f3 false true false false) :=
  lifted_of_law_and (C := Tryd.checked) (X := fun w _ => laidMetH Tryd.prog Rows.destinationsLookupRow.laid w) (destinationsLookup_hx) Tryd.bown started (by kernel_rfl) Tryd.func3
    (ChangeSpec.witness_shaped (enc := enc) (C := Tryd.checked) (os := os) (X := fun w _ => laidMetH Tryd.prog Rows.destinationsLookupRow.laid w) false (World.doorLaid Tryd.prog 400 os) #[.slice none 0 0, .agg #[.int .i64 0, .int .i64 0, .int .i64 0]] 8 rfl (World.shaped_of_RefB (by kernel_rfl) (by kernel_rfl)) (by kernel_rfl) (by kernel_rfl) (by kernel_rfl) (destinationsLookup_met os _))
    Tryd.blaidOut (by kernel_rfl) rfl Tryd.underlying4 rfl
    (fun | [_, _], _ => ⟨rfl, rfl, rfl⟩) destinationsLookup_law

theorem destinationsLookup_row_holds : Rows.DestinationsLookupSaid :=
  OpenClaim.holds_of_wide 3 Tryd.f3 rfl rfl rfl rfl rfl rfl rfl ⟨rfl, rfl, rfl, rfl, rfl⟩ rfl rfl rfl rfl rfl (by kernel_rfl) Tryd.func3 (by kernel_rfl)
    (of_decide_eq_true (by kernel_rfl)) (by unfold Func.isWrapper; first | (rw [if_pos (by decide +kernel)]; kernel_rfl) | (rw [if_neg (by decide +kernel)]; exact ⟨rfl, rfl⟩))
    (fun os started H enc _ => destinationsLookup_lifted os started H enc)

theorem destinationsLookup_holds : Rows.DestinationsLookupCardSaid :=
  Claim7.holds_tied_plain_at .later [] [.data, .data, .data] true (true, "b1b6016252456fd99f0fe2ea7f36725cd4cc6f64e18bb9aa5ebd9d02e807cfba") true
    destinationsLookup_row_holds (fun _ h => by cases h) (by kernel_rfl) (fun _ h => by cases h) destinationsLookup_row_tie rfl ⟨rfl, rfl⟩ (by kernel_rfl) rfl
    (fun f fn hf hfn => by
      obtain rfl : f = 3 := Option.some.inj ((show Tryd.prog.funcNamed "pandect/pandectlaw47.DestinationsLookup" = some 3 by kernel_rfl).symm.trans hf) |>.symm
      obtain rfl : fn = Tryd.f3 := (Option.some.inj (Tryd.func3.symm.trans hfn)).symm
      exact ⟨by kernel_rfl, fun j t ht => by
        rw [Tryd.params3] at ht
        have hm : t ∈ [22, 24] := by simpa using Array.mem_of_getElem? ht
        have hall : ([22, 24].all fun u => !Tryd.prog.wantsStandIn u) = true := by kernel_rfl
        exact (show Tryd.prog.wantsStandIn t = false by simpa using List.all_eq_true.1 hall t hm)⟩)
    (by kernel_rfl)

theorem destinationsInvert_law (W : World) (base : Nat) (vs : List Value) (h : ArgsOk Tryd.prog W base Tryd.f4.params.toList vs) : ∃ As, All2 As vs (G.top W) ∧ FSpec Tryd.prog 4 As (tB.is true) := by
  rw [Tryd.params4] at h
  obtain ⟨v1, vs, x1, rfl, h1, h⟩ := ArgsOk.cons (t := (tL tapi_Destination)) h (brd22 W) bok22
  obtain rfl := h.nil
  obtain ⟨n, hm⟩ := invert_true x1
  exact ⟨[(tL tapi_Destination).is x1], ⟨h1, trivial⟩, law47_DestinationsInvert_spec n x1 true hm⟩

theorem destinationsInvert_hx (w w' : World) (args : Array Value) (h : w.heap = w'.heap) (k : laidMetH Tryd.prog Rows.destinationsInvertRow.laid w) : laidMetH Tryd.prog Rows.destinationsInvertRow.laid w' := k.of_heap h
theorem destinationsInvert_met (os : Os) (args : Array Value) : laidMetH Tryd.prog Rows.destinationsInvertRow.laid ((World.doorLaid Tryd.prog 400 os).forCall (fun _ _ => 0) ⟨#[], args, []⟩).memory :=
  laidMetH_of_parts3 (fuel := 8) (laidMet_of_run' 8 (by kernel_rfl) (by kernel_rfl)) (by kernel_rfl) (by kernel_rfl)
set_option maxRecDepth 100000 in
theorem destinationsInvert_lifted (os : Os) (started : os.Started) (H : Type) (enc : TypeId × Value → H) :
    ReturnsInHanded {} Tryd.checked os 4 .any (fun w args => (Rows.destinationsInvertSpec.pre enc Tryd.prog Tryd.f4 Rows.destinationsInvertRow.domain false w args ∧ laidMetH Tryd.prog Rows.destinationsInvertRow.laid w) ∧ sizedMet enc Tryd.prog Tryd.f4 (OpenSpec.ofChange Rows.destinationsInvertSpec) false w args) (Rows.destinationsInvertSpec.post enc Tryd.prog Tryd.f4 false true false false) :=
  lifted_of_law_and (C := Tryd.checked) (X := fun w _ => laidMetH Tryd.prog Rows.destinationsInvertRow.laid w) (destinationsInvert_hx) Tryd.bown started (by kernel_rfl) Tryd.func4
    (ChangeSpec.witness_shaped (enc := enc) (C := Tryd.checked) (os := os) (X := fun w _ => laidMetH Tryd.prog Rows.destinationsInvertRow.laid w) false (World.doorLaid Tryd.prog 400 os) #[.slice none 0 0] 8 rfl (World.shaped_of_RefB (by kernel_rfl) (by kernel_rfl)) (by kernel_rfl) (by kernel_rfl) (by kernel_rfl) (destinationsInvert_met os _))
    Tryd.blaidOut (by kernel_rfl) rfl Tryd.underlying4 rfl
    (fun | [_], _ => ⟨rfl, rfl, rfl⟩) destinationsInvert_law

theorem destinationsInvert_row_holds : Rows.DestinationsInvertSaid :=
  OpenClaim.holds_of_wide 4 Tryd.f4 rfl rfl rfl rfl rfl rfl rfl ⟨rfl, rfl, rfl, rfl, rfl⟩ rfl rfl rfl rfl rfl (by kernel_rfl) Tryd.func4 (by kernel_rfl)
    (of_decide_eq_true (by kernel_rfl)) (by unfold Func.isWrapper; first | (rw [if_pos (by decide +kernel)]; kernel_rfl) | (rw [if_neg (by decide +kernel)]; exact ⟨rfl, rfl⟩))
    (fun os started H enc _ => destinationsInvert_lifted os started H enc)

theorem destinationsInvert_holds : Rows.DestinationsInvertCardSaid :=
  Claim7.holds_tied_plain_at .later [] [.data, .data, .data] true (true, "b1b6016252456fd99f0fe2ea7f36725cd4cc6f64e18bb9aa5ebd9d02e807cfba") true
    destinationsInvert_row_holds (fun _ h => by cases h) (by kernel_rfl) (fun _ h => by cases h) destinationsInvert_row_tie rfl ⟨rfl, rfl⟩ (by kernel_rfl) rfl
    (fun f fn hf hfn => by
      obtain rfl : f = 4 := Option.some.inj ((show Tryd.prog.funcNamed "pandect/pandectlaw47.DestinationsInvert" = some 4 by kernel_rfl).symm.trans hf) |>.symm
      obtain rfl : fn = Tryd.f4 := (Option.some.inj (Tryd.func4.symm.trans hfn)).symm
      exact ⟨by kernel_rfl, fun j t ht => by
        rw [Tryd.params4] at ht
        have hm : t ∈ [22] := by simpa using Array.mem_of_getElem? ht
        have hall : ([22].all fun u => !Tryd.prog.wantsStandIn u) = true := by kernel_rfl
        exact (show Tryd.prog.wantsStandIn t = false by simpa using List.all_eq_true.1 hall t hm)⟩)
    (by kernel_rfl)

theorem destinationsCompose_law (W : World) (base : Nat) (vs : List Value) (h : ArgsOk Tryd.prog W base Tryd.f5.params.toList vs) : ∃ As, All2 As vs (G.top W) ∧ FSpec Tryd.prog 5 As (tB.is true) := by
  rw [Tryd.params5] at h
  obtain ⟨v1, vs, x1, rfl, h1, h⟩ := ArgsOk.cons (t := (tL tapi_Destination)) h (brd22 W) bok22
  obtain ⟨v2, vs, x2, rfl, h2, h⟩ := ArgsOk.cons (t := (tL tapi_Destination)) h (brd22 W) bok22
  obtain ⟨v3, vs, x3, rfl, h3, h⟩ := ArgsOk.cons (t := tapi_Id) h (brd24 W) bok24
  obtain rfl := h.nil
  obtain ⟨n, hm⟩ := compose_true x1 x2 x3
  exact ⟨[(tL tapi_Destination).is x1, (tL tapi_Destination).is x2, tapi_Id.is x3], ⟨h1, h2, h3, trivial⟩, law47_DestinationsCompose_spec n x1 x2 x3 true hm⟩

theorem destinationsCompose_hx (w w' : World) (args : Array Value) (h : w.heap = w'.heap) (k : laidMetH Tryd.prog Rows.destinationsComposeRow.laid w) : laidMetH Tryd.prog Rows.destinationsComposeRow.laid w' := k.of_heap h
theorem destinationsCompose_met (os : Os) (args : Array Value) : laidMetH Tryd.prog Rows.destinationsComposeRow.laid ((World.doorLaid Tryd.prog 400 os).forCall (fun _ _ => 0) ⟨#[], args, []⟩).memory :=
  laidMetH_of_parts3 (fuel := 8) (laidMet_of_run' 8 (by kernel_rfl) (by kernel_rfl)) (by kernel_rfl) (by kernel_rfl)
set_option maxRecDepth 100000 in
theorem destinationsCompose_lifted (os : Os) (started : os.Started) (H : Type) (enc : TypeId × Value → H) :
    ReturnsInHanded {} Tryd.checked os 5 .any (fun w args => (Rows.destinationsComposeSpec.pre enc Tryd.prog Tryd.f5 Rows.destinationsComposeRow.domain false w args ∧ laidMetH Tryd.prog Rows.destinationsComposeRow.laid w) ∧ sizedMet enc Tryd.prog Tryd.f5 (OpenSpec.ofChange Rows.destinationsComposeSpec) false w args) (Rows.destinationsComposeSpec.post enc Tryd.prog Tryd.f5 false true false false) :=
  lifted_of_law_and (C := Tryd.checked) (X := fun w _ => laidMetH Tryd.prog Rows.destinationsComposeRow.laid w) (destinationsCompose_hx) Tryd.bown started (by kernel_rfl) Tryd.func5
    (ChangeSpec.witness_shaped (enc := enc) (C := Tryd.checked) (os := os) (X := fun w _ => laidMetH Tryd.prog Rows.destinationsComposeRow.laid w) false (World.doorLaid Tryd.prog 400 os) #[.slice none 0 0, .slice none 0 0, .agg #[.int .i64 0, .int .i64 0, .int .i64 0]] 8 rfl (World.shaped_of_RefB (by kernel_rfl) (by kernel_rfl)) (by kernel_rfl) (by kernel_rfl) (by kernel_rfl) (destinationsCompose_met os _))
    Tryd.blaidOut (by kernel_rfl) rfl Tryd.underlying4 rfl
    (fun | [_, _, _], _ => ⟨rfl, rfl, rfl⟩) destinationsCompose_law

theorem destinationsCompose_row_holds : Rows.DestinationsComposeSaid :=
  OpenClaim.holds_of_wide 5 Tryd.f5 rfl rfl rfl rfl rfl rfl rfl ⟨rfl, rfl, rfl, rfl, rfl⟩ rfl rfl rfl rfl rfl (by kernel_rfl) Tryd.func5 (by kernel_rfl)
    (of_decide_eq_true (by kernel_rfl)) (by unfold Func.isWrapper; first | (rw [if_pos (by decide +kernel)]; kernel_rfl) | (rw [if_neg (by decide +kernel)]; exact ⟨rfl, rfl⟩))
    (fun os started H enc _ => destinationsCompose_lifted os started H enc)

theorem destinationsCompose_holds : Rows.DestinationsComposeCardSaid :=
  Claim7.holds_tied_plain_at .later [] [.data, .data, .data] true (true, "b1b6016252456fd99f0fe2ea7f36725cd4cc6f64e18bb9aa5ebd9d02e807cfba") true
    destinationsCompose_row_holds (fun _ h => by cases h) (by kernel_rfl) (fun _ h => by cases h) destinationsCompose_row_tie rfl ⟨rfl, rfl⟩ (by kernel_rfl) rfl
    (fun f fn hf hfn => by
      obtain rfl : f = 5 := Option.some.inj ((show Tryd.prog.funcNamed "pandect/pandectlaw47.DestinationsCompose" = some 5 by kernel_rfl).symm.trans hf) |>.symm
      obtain rfl : fn = Tryd.f5 := (Option.some.inj (Tryd.func5.symm.trans hfn)).symm
      exact ⟨by kernel_rfl, fun j t ht => by
        rw [Tryd.params5] at ht
        have hm : t ∈ [22, 22, 24] := by simpa using Array.mem_of_getElem? ht
        have hall : ([22, 22, 24].all fun u => !Tryd.prog.wantsStandIn u) = true := by kernel_rfl
        exact (show Tryd.prog.wantsStandIn t = false by simpa using List.all_eq_true.1 hall t hm)⟩)
    (by kernel_rfl)

theorem destinationsIdentity_law (W : World) (base : Nat) (vs : List Value) (h : ArgsOk Tryd.prog W base Tryd.f6.params.toList vs) : ∃ As, All2 As vs (G.top W) ∧ FSpec Tryd.prog 6 As (tB.is true) := by
  rw [Tryd.params6] at h
  obtain ⟨v1, vs, x1, rfl, h1, h⟩ := ArgsOk.cons (t := (tL tapi_Destination)) h (brd22 W) bok22
  obtain ⟨v2, vs, x2, rfl, h2, h⟩ := ArgsOk.cons (t := (tL tapi_Destination)) h (brd22 W) bok22
  obtain ⟨v3, vs, x3, rfl, h3, h⟩ := ArgsOk.cons (t := (tL tapi_Destination)) h (brd22 W) bok22
  obtain rfl := h.nil
  obtain ⟨n, hm⟩ := identity_true x1 x2 x3
  exact ⟨[(tL tapi_Destination).is x1, (tL tapi_Destination).is x2, (tL tapi_Destination).is x3], ⟨h1, h2, h3, trivial⟩, law47_DestinationsIdentity_spec n x1 x2 x3 true hm⟩

theorem destinationsIdentity_hx (w w' : World) (args : Array Value) (h : w.heap = w'.heap) (k : laidMetH Tryd.prog Rows.destinationsIdentityRow.laid w) : laidMetH Tryd.prog Rows.destinationsIdentityRow.laid w' := k.of_heap h
theorem destinationsIdentity_met (os : Os) (args : Array Value) : laidMetH Tryd.prog Rows.destinationsIdentityRow.laid ((World.doorLaid Tryd.prog 400 os).forCall (fun _ _ => 0) ⟨#[], args, []⟩).memory :=
  laidMetH_of_parts3 (fuel := 8) (laidMet_of_run' 8 (by kernel_rfl) (by kernel_rfl)) (by kernel_rfl) (by kernel_rfl)
set_option maxRecDepth 100000 in
theorem destinationsIdentity_lifted (os : Os) (started : os.Started) (H : Type) (enc : TypeId × Value → H) :
    ReturnsInHanded {} Tryd.checked os 6 .any (fun w args => (Rows.destinationsIdentitySpec.pre enc Tryd.prog Tryd.f6 Rows.destinationsIdentityRow.domain false w args ∧ laidMetH Tryd.prog Rows.destinationsIdentityRow.laid w) ∧ sizedMet enc Tryd.prog Tryd.f6 (OpenSpec.ofChange Rows.destinationsIdentitySpec) false w args) (Rows.destinationsIdentitySpec.post enc Tryd.prog Tryd.f6 false true false false) :=
  lifted_of_law_and (C := Tryd.checked) (X := fun w _ => laidMetH Tryd.prog Rows.destinationsIdentityRow.laid w) (destinationsIdentity_hx) Tryd.bown started (by kernel_rfl) Tryd.func6
    (ChangeSpec.witness_shaped (enc := enc) (C := Tryd.checked) (os := os) (X := fun w _ => laidMetH Tryd.prog Rows.destinationsIdentityRow.laid w) false (World.doorLaid Tryd.prog 400 os) #[.slice none 0 0, .slice none 0 0, .slice none 0 0] 8 rfl (World.shaped_of_RefB (by kernel_rfl) (by kernel_rfl)) (by kernel_rfl) (by kernel_rfl) (by kernel_rfl) (destinationsIdentity_met os _))
    Tryd.blaidOut (by kernel_rfl) rfl Tryd.underlying4 rfl
    (fun | [_, _, _], _ => ⟨rfl, rfl, rfl⟩) destinationsIdentity_law

theorem destinationsIdentity_row_holds : Rows.DestinationsIdentitySaid :=
  OpenClaim.holds_of_wide 6 Tryd.f6 rfl rfl rfl rfl rfl rfl rfl ⟨rfl, rfl, rfl, rfl, rfl⟩ rfl rfl rfl rfl rfl (by kernel_rfl) Tryd.func6 (by kernel_rfl)
    (of_decide_eq_true (by kernel_rfl)) (by unfold Func.isWrapper; first | (rw [if_pos (by decide +kernel)]; kernel_rfl) | (rw [if_neg (by decide +kernel)]; exact ⟨rfl, rfl⟩))
    (fun os started H enc _ => destinationsIdentity_lifted os started H enc)

theorem destinationsIdentity_holds : Rows.DestinationsIdentityCardSaid :=
  Claim7.holds_tied_plain_at .later [] [.data, .data, .data] true (true, "b1b6016252456fd99f0fe2ea7f36725cd4cc6f64e18bb9aa5ebd9d02e807cfba") true
    destinationsIdentity_row_holds (fun _ h => by cases h) (by kernel_rfl) (fun _ h => by cases h) destinationsIdentity_row_tie rfl ⟨rfl, rfl⟩ (by kernel_rfl) rfl
    (fun f fn hf hfn => by
      obtain rfl : f = 6 := Option.some.inj ((show Tryd.prog.funcNamed "pandect/pandectlaw47.DestinationsIdentity" = some 6 by kernel_rfl).symm.trans hf) |>.symm
      obtain rfl : fn = Tryd.f6 := (Option.some.inj (Tryd.func6.symm.trans hfn)).symm
      exact ⟨by kernel_rfl, fun j t ht => by
        rw [Tryd.params6] at ht
        have hm : t ∈ [22, 22, 22] := by simpa using Array.mem_of_getElem? ht
        have hall : ([22, 22, 22].all fun u => !Tryd.prog.wantsStandIn u) = true := by kernel_rfl
        exact (show Tryd.prog.wantsStandIn t = false by simpa using List.all_eq_true.1 hall t hm)⟩)
    (by kernel_rfl)

end Go.Proofs.YtdnemlcoeecbjaaDoor
