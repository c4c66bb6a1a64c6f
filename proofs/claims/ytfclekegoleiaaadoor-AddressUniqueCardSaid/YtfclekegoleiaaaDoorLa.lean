/-
  The rows of these laws, proved: for each law the walk of its code and its plain law, put together. No condition.
-/
import Derived.Test.YtfclekegoleiaaaDoorRows
import Derived.Test.YtfclekegoleiaaaDoorReadR
import Derived.Test.YtfclekegoleiaaaDoorReadG
import Derived.Test.YtfclekegoleiaaaDoorTie
import Derived.Test.YtfclekegoleiaaaDoorCards
import Derived.SevenTiedAt
import Derived.Test.YtfclekegoleiaaaDoorWc
import Derived.Test.YtfclekegoleiaaaDoorPe
import Derived.Test.YtfclekegoleiaaaDoorBn
import Derived.ProofKit
set_option linter.unusedVariables false
set_option linter.unusedSimpArgs false
set_option maxRecDepth 100000
namespace Go.Proofs.YtfclekegoleiaaaDoor
open Go Go.Dec Go.ChangeShapes Go.WideShapes Go.ChangeAt Go.RowKit

theorem Tryd.cown : ownKnob Tryd.prog.godebug = none := by kernel_rfl
theorem Tryd.claidOut : laidOutB Tryd.prog = true := by kernel_rfl
theorem crd3 (W : World) : Rds Tryd.prog W 3 (tI .i64) := Rds.int Tryd.underlying3
theorem cok3 {W : World} {base : Nat} (v : Value) (h : Value.okWide Tryd.prog W .any base 3 v) : v = mkVal false v.cells.toList := okW_int Tryd.underlying3 v h
theorem crd23 (W : World) : Rds Tryd.prog W 23 tapi_Id := Rds.struct (fun x => (⟨x.1, x.2.1, x.2.2⟩ : api_Id)) (fun _ => rfl) Tryd.underlying23 (by kernel_rfl) (RdF.cons rfl (by kernel_rfl) rfl (crd3 W) (RdF.cons rfl (by kernel_rfl) rfl (crd3 W) (RdF.last rfl (by kernel_rfl) (crd3 W))))
theorem cok23 {W : World} {base : Nat} (v : Value) (h : Value.okWide Tryd.prog W .any base 23 v) : v = mkVal true v.cells.toList := okW_struct Tryd.underlying23 v h
theorem crd9 (W : World) : Rds Tryd.prog W 9 tS := Rds.string Tryd.underlying9
theorem cok9 {W : World} {base : Nat} (v : Value) (h : Value.okWide Tryd.prog W .any base 9 v) : v = mkVal false v.cells.toList := okW_string Tryd.underlying9 v h
theorem crd90 (W : World) : Rds Tryd.prog W 90 tapi_Mark := Rds.struct (fun x => (⟨x.1, x.2.1, x.2.2⟩ : api_Mark)) (fun _ => rfl) Tryd.underlying90 (by kernel_rfl) (RdF.cons rfl (by kernel_rfl) rfl (crd3 W) (RdF.cons rfl (by kernel_rfl) rfl (crd3 W) (RdF.last rfl (by kernel_rfl) (crd3 W))))
theorem cok90 {W : World} {base : Nat} (v : Value) (h : Value.okWide Tryd.prog W .any base 90 v) : v = mkVal true v.cells.toList := okW_struct Tryd.underlying90 v h
theorem crd92 (W : World) : Rds Tryd.prog W 92 tapi_Word := Rds.struct (fun x => (⟨x.1, x.2⟩ : api_Word)) (fun _ => rfl) Tryd.underlying92 (by kernel_rfl) (RdF.cons rfl (by kernel_rfl) rfl (crd9 W) (RdF.last rfl (by kernel_rfl) (crd90 W)))
theorem cok92 {W : World} {base : Nat} (v : Value) (h : Value.okWide Tryd.prog W .any base 92 v) : v = mkVal true v.cells.toList := okW_struct Tryd.underlying92 v h
theorem crd24 (W : World) : Rds Tryd.prog W 24 (tL tapi_Word) := Rds.slice Tryd.underlying24 (crd92 W) (by kernel_rfl) (by decide) (of_decide_eq_true (by kernel_rfl))
theorem cok24 {W : World} {base : Nat} (v : Value) (h : Value.okWide Tryd.prog W .any base 24 v) : v = mkVal false v.cells.toList := okW_slice Tryd.underlying24 v h
theorem crd27 (W : World) : Rds Tryd.prog W 27 tapi_Unit := Rds.fix rapi_Unit Tryd.underlying27 (fun k ih => RdU.struct (fun x => (⟨x.1, x.2.1, x.2.2.1, x.2.2.2.1, x.2.2.2.2.1, x.2.2.2.2.2⟩ : api_Unit)) (fun _ => rfl) Tryd.underlying27 (by kernel_rfl) (RdFU.cons rfl (by kernel_rfl) rfl ((crd23 W).to k) (RdFU.cons rfl (by kernel_rfl) rfl ((crd3 W).to k) (RdFU.cons rfl (by kernel_rfl) rfl ((crd9 W).to k) (RdFU.cons rfl (by kernel_rfl) rfl ((crd24 W).to k) (RdFU.cons rfl (by kernel_rfl) rfl ((crd24 W).to k) (RdFU.last rfl (by kernel_rfl) ((RdU.slice Tryd.underlying25 ih (by kernel_rfl) (by decide) (of_decide_eq_true (by kernel_rfl))).down (Nat.le_succ k)))))))))
theorem cok27 {W : World} {base : Nat} (v : Value) (h : Value.okWide Tryd.prog W .any base 27 v) : v = mkVal true v.cells.toList := okW_struct Tryd.underlying27 v h
theorem cgr0 (W : World) : RdV Tryd.prog W 93 (tA 8 tS) Rows.laid_pandect_unit_names gv0 := (RdV.array Tryd.underlying93 (by kernel_rfl) (by kernel_rfl) rfl ⟨(RdV.string Tryd.underlying9 (by decide)), (RdV.string Tryd.underlying9 (by decide)), (RdV.string Tryd.underlying9 (by decide)), (RdV.string Tryd.underlying9 (by decide)), (RdV.string Tryd.underlying9 (by decide)), (RdV.string Tryd.underlying9 (by decide)), (RdV.string Tryd.underlying9 (by decide)), (RdV.string Tryd.underlying9 (by decide)), trivial⟩)
theorem cgr1 (W : World) : RdV Tryd.prog W 108 (tA 8 (tL (tI .i64))) Rows.laid_pandect_unit_below gv1 := (RdV.array Tryd.underlying108 (by kernel_rfl) (by kernel_rfl) rfl ⟨(RdV.slice Tryd.underlying107 (by kernel_rfl) (by decide) (by decide) ⟨(RdV.int Tryd.underlying3 (inR64.2 (by omega))), (RdV.int Tryd.underlying3 (inR64.2 (by omega))), trivial⟩), (RdV.slice Tryd.underlying107 (by kernel_rfl) (by decide) (by decide) ⟨(RdV.int Tryd.underlying3 (inR64.2 (by omega))), trivial⟩), (RdV.slice Tryd.underlying107 (by kernel_rfl) (by decide) (by decide) ⟨(RdV.int Tryd.underlying3 (inR64.2 (by omega))), (RdV.int Tryd.underlying3 (inR64.2 (by omega))), (RdV.int Tryd.underlying3 (inR64.2 (by omega))), trivial⟩), (RdV.slice Tryd.underlying107 (by kernel_rfl) (by decide) (by decide) ⟨(RdV.int Tryd.underlying3 (inR64.2 (by omega))), (RdV.int Tryd.underlying3 (inR64.2 (by omega))), (RdV.int Tryd.underlying3 (inR64.2 (by omega))), trivial⟩), (RdV.slice Tryd.underlying107 (by kernel_rfl) (by decide) (by decide) ⟨(RdV.int Tryd.underlying3 (inR64.2 (by omega))), trivial⟩), (RdV.slice Tryd.underlying107 (by kernel_rfl) (by decide) (by decide) ⟨(RdV.int Tryd.underlying3 (inR64.2 (by omega))), trivial⟩), (RdV.nil Tryd.underlying107), (RdV.nil Tryd.underlying107), trivial⟩)

theorem addressUnique_law (W : World) (base : Nat) (vs : List Value) (hx : ∃ args : Array Value, laidMetH Tryd.prog Rows.addressUniqueRow.laid W) (h : ArgsOk Tryd.prog W base Tryd.f3.params.toList vs) : ∃ As rin, All2 As vs (G.top W) ∧ rin.all (G.top W) ∧ NoBlk rin ∧ FSpecR Tryd.prog 3 As rin (fun _ : Unit => tB.is true) (fun _ => []) := by
  rw [Tryd.params3] at h
  obtain ⟨v1, vs, x1, rfl, h1, h⟩ := ArgsOk.cons (t := tapi_Unit) h (crd27 W) cok27
  obtain rfl := h.nil
  obtain ⟨n, hm⟩ := unique_true x1 (big_is h1)
  obtain ⟨_, hx⟩ := hx
  have g0 : (Gl (tA 8 tS) 0 gv0).holds (G.top W) := Gl.ofLaid (laid := Rows.addressUniqueRow.laid) (by kernel_rfl) hx (name := "pandect/unit.names") (by simp [Rows.addressUniqueRow]; done) (by kernel_rfl) (by kernel_rfl) (cgr0 W)
  have g1 : (Gl (tA 8 (tL (tI .i64))) 1 gv1).holds (G.top W) := Gl.ofLaid (laid := Rows.addressUniqueRow.laid) (by kernel_rfl) hx (name := "pandect/unit.below") (by simp [Rows.addressUniqueRow]; done) (by kernel_rfl) (by kernel_rfl) (cgr1 W)
  refine ⟨[tapi_Unit.is x1], [(700000, Gl (tA 8 tS) 0 gv0), (700001, Gl (tA 8 (tL (tI .i64))) 1 gv1)], ⟨h1, trivial⟩, fun y hy => ?_, ⟨rfl, rfl, trivial⟩, law07_AddressUnique_spec n x1 true hm⟩
  simp only [List.mem_cons, List.not_mem_nil, or_false] at hy
  rcases hy with rfl | rfl
  · exact g0
  · exact g1

theorem addressUnique_hx (w w' : World) (args : Array Value) (h : w.heap = w'.heap) (k : laidMetH Tryd.prog Rows.addressUniqueRow.laid w) : laidMetH Tryd.prog Rows.addressUniqueRow.laid w' := k.of_heap h
theorem addressUnique_met (os : Os) (args : Array Value) : laidMetH Tryd.prog Rows.addressUniqueRow.laid ((World.doorLaid Tryd.prog 400 os).forCall (fun _ _ => 0) ⟨#[], args, []⟩).memory :=
  laidMetH_of_parts3 (fuel := 8) (laidMet_of_run' 8 (by kernel_rfl) (by kernel_rfl)) (by kernel_rfl) (by kernel_rfl)
set_option maxRecDepth 100000 in
theorem addressUnique_lifted (os : Os) (started : os.Started) (H : Type) (enc : TypeId × Value → H) :
    ReturnsInHanded {} Tryd.checked os 3 .any (fun w args => (Rows.addressUniqueSpec.pre enc Tryd.prog Tryd.f3 Rows.addressUniqueRow.domain false w args ∧ laidMetH Tryd.prog Rows.addressUniqueRow.laid w) ∧ sizedMet enc Tryd.prog Tryd.f3 (OpenSpec.ofChange Rows.addressUniqueSpec) false w args) (Rows.addressUniqueSpec.post enc Tryd.prog Tryd.f3 false true false false) :=
  lifted_of_law_G (C := Tryd.checked) (X := fun w _ => laidMetH Tryd.prog Rows.addressUniqueRow.laid w) (addressUnique_hx) Tryd.cown started (by kernel_rfl) Tryd.func3
    (ChangeSpec.witness_shaped (enc := enc) (C := Tryd.checked) (os := os) (X := fun w _ => laidMetH Tryd.prog Rows.addressUniqueRow.laid w) false (World.doorLaid Tryd.prog 400 os) #[.agg #[.int .i64 0, .int .i64 0, .int .i64 0, .int .i64 0, .string ⟨#[]⟩, .slice none 0 0, .slice none 0 0, .slice none 0 0]] 8 rfl (World.shaped_of_RefB (by kernel_rfl) (by kernel_rfl)) (by kernel_rfl) (by kernel_rfl) (by kernel_rfl) (addressUnique_met os _))
    Tryd.claidOut (by kernel_rfl) rfl Tryd.underlying4 rfl
    (fun | [_], _ => ⟨rfl, rfl, rfl⟩) addressUnique_law

theorem addressUnique_row_holds : Rows.AddressUniqueSaid :=
  OpenClaim.holds_of_wide 3 Tryd.f3 rfl rfl rfl rfl rfl rfl rfl ⟨rfl, rfl, rfl, rfl, rfl⟩ rfl rfl rfl rfl rfl (by kernel_rfl) Tryd.func3 (by kernel_rfl)
    (of_decide_eq_true (by kernel_rfl)) (by unfold Func.isWrapper; first | (rw [if_pos (by decide +kernel)]; kernel_rfl) | (rw [if_neg (by decide +kernel)]; exact ⟨rfl, rfl⟩))
    (fun os started H enc _ => addressUnique_lifted os started H enc)

theorem addressUnique_holds : Rows.AddressUniqueCardSaid :=
  Claim7.holds_tied_plain_at .later [] [.data, .widerDeep] true (true, "9e8e16f5b9e0fbeed945a1a3cf09a84259e8ead2676b723602e1bd82c441d380") false
    addressUnique_row_holds (fun _ h => by cases h) (by kernel_rfl) (fun _ h => by cases h) addressUnique_row_tie rfl ⟨rfl, rfl⟩ (by kernel_rfl) rfl
    (fun f fn hf hfn => by
      obtain rfl : f = 3 := Option.some.inj ((show Tryd.prog.funcNamed "pandect/pandectlaw07.AddressUnique" = some 3 by kernel_rfl).symm.trans hf) |>.symm
      obtain rfl : fn = Tryd.f3 := (Option.some.inj (Tryd.func3.symm.trans hfn)).symm
      exact ⟨by kernel_rfl, fun j t ht => by
        rw [Tryd.params3] at ht
        have hm : t ∈ [27] := by simpa using Array.mem_of_getElem? ht
        have hall : ([27].all fun u => !Tryd.prog.wantsStandIn u) = true := by kernel_rfl
        exact (show Tryd.prog.wantsStandIn t = false by simpa using List.all_eq_true.1 hall t hm)⟩)
    (by kernel_rfl)

end Go.Proofs.YtfclekegoleiaaaDoor
