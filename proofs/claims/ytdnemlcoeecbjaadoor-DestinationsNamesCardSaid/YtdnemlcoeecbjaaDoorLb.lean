/-
  The rows of these laws, proved: for each law the walk of its code and its plain law, put together. No condition.
-/
import Derived.Test.YtdnemlcoeecbjaaDoorRows
import Derived.Test.YtdnemlcoeecbjaaDoorReadR
import Derived.Test.YtdnemlcoeecbjaaDoorReadL
import Derived.Test.YtdnemlcoeecbjaaDoorTie
import Derived.Test.YtdnemlcoeecbjaaDoorCards
import Derived.SevenTiedAt
import Derived.Test.YtdnemlcoeecbjaaDoorWb
import Derived.Test.YtdnemlcoeecbjaaDoorPd
import Derived.Test.YtdnemlcoeecbjaaDoorBn
import Derived.ProofKit
set_option linter.unusedVariables false
set_option linter.unusedSimpArgs false
set_option maxRecDepth 100000
namespace Go.Proofs.YtdnemlcoeecbjaaDoor
open Go Go.Dec Go.ChangeShapes Go.WideShapes Go.ChangeAt Go.RowKit

theorem Tryd.cown : ownKnob Tryd.prog.godebug = none := by kernel_rfl
theorem Tryd.claidOut : laidOutB Tryd.prog = true := by kernel_rfl
theorem crd3 (W : World) : Rds Tryd.prog W 3 (tI .i64) := Rds.int Tryd.underlying3
theorem cok3 {W : World} {base : Nat} (v : Value) (h : Value.okWide Tryd.prog W .any base 3 v) : v = mkVal false v.cells.toList := okW_int Tryd.underlying3 v h
theorem crd24 (W : World) : Rds Tryd.prog W 24 tapi_Id := Rds.struct (fun x => (⟨x.1, x.2.1, x.2.2⟩ : api_Id)) (fun _ => rfl) Tryd.underlying24 (by kernel_rfl) (RdF.cons rfl (by kernel_rfl) rfl (crd3 W) (RdF.cons rfl (by kernel_rfl) rfl (crd3 W) (RdF.last rfl (by kernel_rfl) (crd3 W))))
theorem cok24 {W : World} {base : Nat} (v : Value) (h : Value.okWide Tryd.prog W .any base 24 v) : v = mkVal true v.cells.toList := okW_struct Tryd.underlying24 v h
theorem crd9 (W : World) : Rds Tryd.prog W 9 tS := Rds.string Tryd.underlying9
theorem cok9 {W : World} {base : Nat} (v : Value) (h : Value.okWide Tryd.prog W .any base 9 v) : v = mkVal false v.cells.toList := okW_string Tryd.underlying9 v h
theorem crd170 (W : World) : Rds Tryd.prog W 170 tapi_Mark := Rds.struct (fun x => (⟨x.1, x.2.1, x.2.2⟩ : api_Mark)) (fun _ => rfl) Tryd.underlying170 (by kernel_rfl) (RdF.cons rfl (by kernel_rfl) rfl (crd3 W) (RdF.cons rfl (by kernel_rfl) rfl (crd3 W) (RdF.last rfl (by kernel_rfl) (crd3 W))))
theorem cok170 {W : World} {base : Nat} (v : Value) (h : Value.okWide Tryd.prog W .any base 170 v) : v = mkVal true v.cells.toList := okW_struct Tryd.underlying170 v h
theorem crd172 (W : World) : Rds Tryd.prog W 172 tapi_Word := Rds.struct (fun x => (⟨x.1, x.2⟩ : api_Word)) (fun _ => rfl) Tryd.underlying172 (by kernel_rfl) (RdF.cons rfl (by kernel_rfl) rfl (crd9 W) (RdF.last rfl (by kernel_rfl) (crd170 W)))
theorem cok172 {W : World} {base : Nat} (v : Value) (h : Value.okWide Tryd.prog W .any base 172 v) : v = mkVal true v.cells.toList := okW_struct Tryd.underlying172 v h
theorem crd40 (W : World) : Rds Tryd.prog W 40 (tL tapi_Word) := Rds.slice Tryd.underlying40 (crd172 W) (by kernel_rfl) (by decide) (of_decide_eq_true (by kernel_rfl))
theorem cok40 {W : World} {base : Nat} (v : Value) (h : Value.okWide Tryd.prog W .any base 40 v) : v = mkVal false v.cells.toList := okW_slice Tryd.underlying40 v h
theorem crd43 (W : World) : Rds Tryd.prog W 43 tapi_Unit := Rds.fix rapi_Unit Tryd.underlying43 (fun k ih => RdU.struct (fun x => (⟨x.1, x.2.1, x.2.2.1, x.2.2.2.1, x.2.2.2.2.1, x.2.2.2.2.2⟩ : api_Unit)) (fun _ => rfl) Tryd.underlying43 (by kernel_rfl) (RdFU.cons rfl (by kernel_rfl) rfl ((crd24 W).to k) (RdFU.cons rfl (by kernel_rfl) rfl ((crd3 W).to k) (RdFU.cons rfl (by kernel_rfl) rfl ((crd9 W).to k) (RdFU.cons rfl (by kernel_rfl) rfl ((crd40 W).to k) (RdFU.cons rfl (by kernel_rfl) rfl ((crd40 W).to k) (RdFU.last rfl (by kernel_rfl) ((RdU.slice Tryd.underlying41 ih (by kernel_rfl) (by decide) (of_decide_eq_true (by kernel_rfl))).down (Nat.le_succ k)))))))))
theorem cok43 {W : World} {base : Nat} (v : Value) (h : Value.okWide Tryd.prog W .any base 43 v) : v = mkVal true v.cells.toList := okW_struct Tryd.underlying43 v h
theorem crd36 (W : World) : Rds Tryd.prog W 36 tapi_Destination := Rds.struct (fun x => (⟨x.1, x.2⟩ : api_Destination)) (fun _ => rfl) Tryd.underlying36 (by kernel_rfl) (RdF.cons rfl (by kernel_rfl) rfl (crd24 W) (RdF.last rfl (by kernel_rfl) (crd24 W)))
theorem cok36 {W : World} {base : Nat} (v : Value) (h : Value.okWide Tryd.prog W .any base 36 v) : v = mkVal true v.cells.toList := okW_struct Tryd.underlying36 v h
theorem crd22 (W : World) : Rds Tryd.prog W 22 (tL tapi_Destination) := Rds.slice Tryd.underlying22 (crd36 W) (by kernel_rfl) (by decide) (of_decide_eq_true (by kernel_rfl))
theorem cok22 {W : World} {base : Nat} (v : Value) (h : Value.okWide Tryd.prog W .any base 22 v) : v = mkVal false v.cells.toList := okW_slice Tryd.underlying22 v h

theorem destinationsNames_law (W : World) (base : Nat) (vs : List Value) (h : ArgsOk Tryd.prog W base Tryd.f7.params.toList vs) : ∃ As, All2 As vs (G.top W) ∧ FSpec Tryd.prog 7 As (tB.is true) := by
  rw [Tryd.params7] at h
  obtain ⟨v1, vs, x1, rfl, h1, h⟩ := ArgsOk.cons (t := tapi_Unit) h (crd43 W) cok43
  obtain ⟨v2, vs, x2, rfl, h2, h⟩ := ArgsOk.cons (t := tapi_Unit) h (crd43 W) cok43
  obtain ⟨v3, vs, x3, rfl, h3, h⟩ := ArgsOk.cons (t := (tL tapi_Destination)) h (crd22 W) cok22
  obtain rfl := h.nil
  obtain ⟨n, hm⟩ := names_true x1 x2 x3 (big_is h1) (big_is h2)
  exact ⟨[tapi_Unit.is x1, tapi_Unit.is x2, (tL tapi_Destination).is x3], ⟨h1, h2, h3, trivial⟩, law47_DestinationsNames_spec n x1 x2 x3 true hm⟩

theorem destinationsNames_hx (w w' : World) (args : Array Value) (h : w.heap = w'.heap) (k : laidMetH Tryd.prog Rows.destinationsNamesRow.laid w) : laidMetH Tryd.prog Rows.destinationsNamesRow.laid w' := k.of_heap h
theorem destinationsNames_met (os : Os) (args : Array Value) : laidMetH Tryd.prog Rows.destinationsNamesRow.laid ((World.doorLaid Tryd.prog 400 os).forCall (fun _ _ => 0) ⟨#[], args, []⟩).memory :=
  laidMetH_of_parts3 (fuel := 8) (laidMet_of_run' 8 (by kernel_rfl) (by kernel_rfl)) (by kernel_rfl) (by kernel_rfl)
set_option maxRecDepth 100000 in
theorem destinationsNames_lifted (os : Os) (started : os.Started) (H : Type) (enc : TypeId × Value → H) :
    ReturnsInHanded {} Tryd.checked os 7 .any (fun w args => (Rows.destinationsNamesSpec.pre enc Tryd.prog Tryd.f7 Rows.destinationsNamesRow.domain false w args ∧ laidMetH Tryd.prog Rows.destinationsNamesRow.laid w) ∧ sizedMet enc Tryd.prog Tryd.f7 (OpenSpec.ofChange Rows.destinationsNamesSpec) false w args) (Rows.destinationsNamesSpec.post enc Tryd.prog Tryd.f7 false true false false) :=
  lifted_of_law_and (C := Tryd.checked) (X := fun w _ => laidMetH Tryd.prog Rows.destinationsNamesRow.laid w) (destinationsNames_hx) Tryd.cown started (by kernel_rfl) Tryd.func7
    (ChangeSpec.witness_shaped (enc := enc) (C := Tryd.checked) (os := os) (X := fun w _ => laidMetH Tryd.prog Rows.destinationsNamesRow.laid w) false (World.doorLaid Tryd.prog 400 os) #[.agg #[.int .i64 0, .int .i64 0, .int .i64 0, .int .i64 0, .string ⟨#[]⟩, .slice none 0 0, .slice none 0 0, .slice none 0 0], .agg #[.int .i64 0, .int .i64 0, .int .i64 0, .int .i64 0, .string ⟨#[]⟩, .slice none 0 0, .slice none 0 0, .slice none 0 0], .slice none 0 0] 8 rfl (World.shaped_of_RefB (by kernel_rfl) (by kernel_rfl)) (by kernel_rfl) (by kernel_rfl) (by kernel_rfl) (destinationsNames_met os _))
    Tryd.claidOut (by kernel_rfl) rfl Tryd.underlying4 rfl
    (fun | [_, _, _], _ => ⟨rfl, rfl, rfl⟩) destinationsNames_law

theorem destinationsNames_row_holds : Rows.DestinationsNamesSaid :=
  OpenClaim.holds_of_wide 7 Tryd.f7 rfl rfl rfl rfl rfl rfl rfl ⟨rfl, rfl, rfl, rfl, rfl⟩ rfl rfl rfl rfl rfl (by kernel_rfl) Tryd.func7 (by kernel_rfl)
    (of_decide_eq_true (by kernel_rfl)) (by unfold Func.isWrapper; first | (rw [if_pos (by decide +kernel)]; kernel_rfl) | (rw [if_neg (by decide +kernel)]; exact ⟨rfl, rfl⟩))
    (fun os started H enc _ => destinationsNames_lifted os started H enc)

theorem destinationsNames_holds : Rows.DestinationsNamesCardSaid :=
  Claim7.holds_tied_plain_at .later [] [.data, .data, .data] true (true, "b1b6016252456fd99f0fe2ea7f36725cd4cc6f64e18bb9aa5ebd9d02e807cfba") true
    destinationsNames_row_holds (fun _ h => by cases h) (by kernel_rfl) (fun _ h => by cases h) destinationsNames_row_tie rfl ⟨rfl, rfl⟩ (by kernel_rfl) rfl
    (fun f fn hf hfn => by
      obtain rfl : f = 7 := Option.some.inj ((show Tryd.prog.funcNamed "pandect/pandectlaw47.DestinationsNames" = some 7 by kernel_rfl).symm.trans hf) |>.symm
      obtain rfl : fn = Tryd.f7 := (Option.some.inj (Tryd.func7.symm.trans hfn)).symm
      exact ⟨by kernel_rfl, fun j t ht => by
        rw [Tryd.params7] at ht
        have hm : t ∈ [43, 43, 22] := by simpa using Array.mem_of_getElem? ht
        have hall : ([43, 43, 22].all fun u => !Tryd.prog.wantsStandIn u) = true := by kernel_rfl
        exact (show Tryd.prog.wantsStandIn t = false by simpa using List.all_eq_true.1 hall t hm)⟩)
    (by kernel_rfl)

end Go.Proofs.YtdnemlcoeecbjaaDoor
