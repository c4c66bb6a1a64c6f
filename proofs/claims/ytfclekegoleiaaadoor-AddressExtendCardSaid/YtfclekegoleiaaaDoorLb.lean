/-
  The rows of these laws, proved: for each law the walk of its code and its plain law, put together. No condition.
-/
import Derived.Test.YtfclekegoleiaaaDoorRows
import Derived.Test.YtfclekegoleiaaaDoorReadR
import Derived.Test.YtfclekegoleiaaaDoorReadG
import Derived.Test.YtfclekegoleiaaaDoorTie
import Derived.Test.YtfclekegoleiaaaDoorCards
import Derived.SevenTiedAt
import Derived.Test.YtfclekegoleiaaaDoorWc
import Derived.Test.YtfclekegoleiaaaDoorPf
import Derived.Test.YtfclekegoleiaaaDoorBn
import Derived.ProofKit
set_option linter.unusedVariables false
set_option linter.unusedSimpArgs false
set_option maxRecDepth 100000
namespace Go.Proofs.YtfclekegoleiaaaDoor
open Go Go.Dec Go.ChangeShapes Go.WideShapes Go.ChangeAt Go.RowKit

theorem Tryd.down : ownKnob Tryd.prog.godebug = none := by kernel_rfl
theorem Tryd.dlaidOut : laidOutB Tryd.prog = true := by kernel_rfl
theorem drd3 (W : World) : Rds Tryd.prog W 3 (tI .i64) := Rds.int Tryd.underlying3
theorem dok3 {W : World} {base : Nat} (v : Value) (h : Value.okWide Tryd.prog W .any base 3 v) : v = mkVal false v.cells.toList := okW_int Tryd.underlying3 v h
theorem drd23 (W : World) : Rds Tryd.prog W 23 tapi_Id := Rds.struct (fun x => (⟨x.1, x.2.1, x.2.2⟩ : api_Id)) (fun _ => rfl) Tryd.underlying23 (by kernel_rfl) (RdF.cons rfl (by kernel_rfl) rfl (drd3 W) (RdF.cons rfl (by kernel_rfl) rfl (drd3 W) (RdF.last rfl (by kernel_rfl) (drd3 W))))
theorem dok23 {W : World} {base : Nat} (v : Value) (h : Value.okWide Tryd.prog W .any base 23 v) : v = mkVal true v.cells.toList := okW_struct Tryd.underlying23 v h
theorem drd9 (W : World) : Rds Tryd.prog W 9 tS := Rds.string Tryd.underlying9
theorem dok9 {W : World} {base : Nat} (v : Value) (h : Value.okWide Tryd.prog W .any base 9 v) : v = mkVal false v.cells.toList := okW_string Tryd.underlying9 v h
theorem drd90 (W : World) : Rds Tryd.prog W 90 tapi_Mark := Rds.struct (fun x => (⟨x.1, x.2.1, x.2.2⟩ : api_Mark)) (fun _ => rfl) Tryd.underlying90 (by kernel_rfl) (RdF.cons rfl (by kernel_rfl) rfl (drd3 W) (RdF.cons rfl (by kernel_rfl) rfl (drd3 W) (RdF.last rfl (by kernel_rfl) (drd3 W))))
theorem dok90 {W : World} {base : Nat} (v : Value) (h : Value.okWide Tryd.prog W .any base 90 v) : v = mkVal true v.cells.toList := okW_struct Tryd.underlying90 v h
theorem drd92 (W : World) : Rds Tryd.prog W 92 tapi_Word := Rds.struct (fun x => (⟨x.1, x.2⟩ : api_Word)) (fun _ => rfl) Tryd.underlying92 (by kernel_rfl) (RdF.cons rfl (by kernel_rfl) rfl (drd9 W) (RdF.last rfl (by kernel_rfl) (drd90 W)))
theorem dok92 {W : World} {base : Nat} (v : Value) (h : Value.okWide Tryd.prog W .any base 92 v) : v = mkVal true v.cells.toList := okW_struct Tryd.underlying92 v h
theorem drd24 (W : World) : Rds Tryd.prog W 24 (tL tapi_Word) := Rds.slice Tryd.underlying24 (drd92 W) (by kernel_rfl) (by decide) (of_decide_eq_true (by kernel_rfl))
theorem dok24 {W : World} {base : Nat} (v : Value) (h : Value.okWide Tryd.prog W .any base 24 v) : v = mkVal false v.cells.toList := okW_slice Tryd.underlying24 v h
theorem drd27 (W : World) : Rds Tryd.prog W 27 tapi_Unit := Rds.fix rapi_Unit Tryd.underlying27 (fun k ih => RdU.struct (fun x => (⟨x.1, x.2.1, x.2.2.1, x.2.2.2.1, x.2.2.2.2.1, x.2.2.2.2.2⟩ : api_Unit)) (fun _ => rfl) Tryd.underlying27 (by kernel_rfl) (RdFU.cons rfl (by kernel_rfl) rfl ((drd23 W).to k) (RdFU.cons rfl (by kernel_rfl) rfl ((drd3 W).to k) (RdFU.cons rfl (by kernel_rfl) rfl ((drd9 W).to k) (RdFU.cons rfl (by kernel_rfl) rfl ((drd24 W).to k) (RdFU.cons rfl (by kernel_rfl) rfl ((drd24 W).to k) (RdFU.last rfl (by kernel_rfl) ((RdU.slice Tryd.underlying25 ih (by kernel_rfl) (by decide) (of_decide_eq_true (by kernel_rfl))).down (Nat.le_succ k)))))))))
theorem dok27 {W : World} {base : Nat} (v : Value) (h : Value.okWide Tryd.prog W .any base 27 v) : v = mkVal true v.cells.toList := okW_struct Tryd.underlying27 v h
theorem drd41 (W : World) : Rds Tryd.prog W 41 tapi_Step := Rds.struct (fun x => (⟨x.1, x.2⟩ : api_Step)) (fun _ => rfl) Tryd.underlying41 (by kernel_rfl) (RdF.cons rfl (by kernel_rfl) rfl (drd3 W) (RdF.last rfl (by kernel_rfl) (drd9 W)))
theorem dok41 {W : World} {base : Nat} (v : Value) (h : Value.okWide Tryd.prog W .any base 41 v) : v = mkVal true v.cells.toList := okW_struct Tryd.underlying41 v h
theorem drd33 (W : World) : Rds Tryd.prog W 33 (tL tapi_Step) := Rds.slice Tryd.underlying33 (drd41 W) (by kernel_rfl) (by decide) (of_decide_eq_true (by kernel_rfl))
theorem dok33 {W : World} {base : Nat} (v : Value) (h : Value.okWide Tryd.prog W .any base 33 v) : v = mkVal false v.cells.toList := okW_slice Tryd.underlying33 v h
theorem dgr0 (W : World) : RdV Tryd.prog W 93 (tA 8 tS) Rows.laid_pandect_unit_names gv0 := (RdV.array Tryd.underlying93 (by kernel_rfl) (by kernel_rfl) rfl ⟨(RdV.string Tryd.underlying9 (by decide)), (RdV.string Tryd.underlying9 (by decide)), (RdV.string Tryd.underlying9 (by decide)), (RdV.string Tryd.underlying9 (by decide)), (RdV.string Tryd.underlying9 (by decide)), (RdV.string Tryd.underlying9 (by decide)), (RdV.string Tryd.underlying9 (by decide)), (RdV.string Tryd.underlying9 (by decide)), trivial⟩)
theorem dgr1 (W : World) : RdV Tryd.prog W 108 (tA 8 (tL (tI .i64))) Rows.laid_pandect_unit_below gv1 := (RdV.array Tryd.underlying108 (by kernel_rfl) (by kernel_rfl) rfl ⟨(RdV.slice Tryd.underlying107 (by kernel_rfl) (by decide) (by decide) ⟨(RdV.int Tryd.underlying3 (inR64.2 (by omega))), (RdV.int Tryd.underlying3 (inR64.2 (by omega))), trivial⟩), (RdV.slice Tryd.underlying107 (by kernel_rfl) (by decide) (by decide) ⟨(RdV.int Tryd.underlying3 (inR64.2 (by omega))), trivial⟩), (RdV.slice Tryd.underlying107 (by kernel_rfl) (by decide) (by decide) ⟨(RdV.int Tryd.underlying3 (inR64.2 (by omega))), (RdV.int Tryd.underlying3 (inR64.2 (by omega))), (RdV.int Tryd.underlying3 (inR64.2 (by omega))), trivial⟩), (RdV.slice Tryd.underlying107 (by kernel_rfl) (by decide) (by decide) ⟨(RdV.int Tryd.underlying3 (inR64.2 (by omega))), (RdV.int Tryd.underlying3 (inR64.2 (by omega))), (RdV.int Tryd.underlying3 (inR64.2 (by omega))), trivial⟩), (RdV.slice Tryd.underlying107 (by kernel_rfl) (by decide) (by decide) ⟨(RdV.int Tryd.underlying3 (inR64.2 (by omega))), trivial⟩), (RdV.slice Tryd.underlying107 (by kernel_rfl) (by decide) (by decide) ⟨(RdV.int Tryd.underlying3 (inR64.2 (by omega))), trivial⟩), (RdV.nil Tryd.underlying107), (RdV.nil Tryd.underlying107), trivial⟩)

theorem addressExtend_law (W : World) (base : Nat) (vs : List Value) (hx : ∃ args : Array Value, laidMetH Tryd.prog Rows.addressExtendRow.laid W) (h : ArgsOk Tryd.prog W base Tryd.f4.params.toList vs) : ∃ As rin, All2 As vs (G.top W) ∧ rin.all (G.top W) ∧ NoBlk rin ∧ FSpecR Tryd.prog 4 As rin (fun _ : Unit => tB.is true) (fun _ => []) := by
  rw [Tryd.params4] at h
  obtain ⟨v1, vs, x1, rfl, h1, h⟩ := ArgsOk.cons (t := tapi_Unit) h (drd27 W) dok27
  obtain ⟨v2, vs, x2, rfl, h2, h⟩ := ArgsOk.cons (t := (tL tapi_Step)) h (drd33 W) dok33
  obtain ⟨v3, vs, x3, rfl, h3, h⟩ := ArgsOk.cons (t := tapi_Step) h (drd41 W) dok41
  obtain rfl := h.nil
  obtain ⟨n, hm⟩ := extend_true x1 x2 x3 (big_is h1)
  obtain ⟨_, hx⟩ := hx
  have g0 : (Gl (tA 8 tS) 0 gv0).holds (G.top W) := Gl.ofLaid (laid := Rows.addressExtendRow.laid) (by kernel_rfl) hx (name := "pandect/unit.names") (by simp [Rows.addressExtendRow]; done) (by kernel_rfl) (by kernel_rfl) (dgr0 W)
  have g1 : (Gl (tA 8 (tL (tI .i64))) 1 gv1).holds (G.top W) := Gl.ofLaid (laid := Rows.addressExtendRow.laid) (by kernel_rfl) hx (name := "pandect/unit.below") (by simp [Rows.addressExtendRow]; done) (by kernel_rfl) (by kernel_rfl) (dgr1 W)
  refine ⟨[tapi_Unit.is x1, (tL tapi_Step).is x2, tapi_Step.is x3], [(700000, Gl (tA 8 tS) 0 gv0), (700001, Gl (tA 8 (tL (tI .i64))) 1 gv1)], ⟨h1, h2, h3, trivial⟩, fun y hy => ?_, ⟨rfl, rfl, trivial⟩, law07_AddressExtend_spec n x1 x2 x3 true hm⟩
  simp only [List.mem_cons, List.not_mem_nil, or_false] at hy
  rcases hy with rfl | rfl
  · exact g0
  · exact g1

theorem addressExtend_hx (w w' : World) (args : Array Value) (h : w.heap = w'.heap) (k : laidMetH Tryd.prog Rows.addressExtendRow.laid w) : laidMetH Tryd.prog Rows.addressExtendRow.laid w' := k.of_heap h
theorem addressExtend_met (os : Os) (args : Array Value) : laidMetH Tryd.prog Rows.addressExtendRow.laid ((World.doorLaid Tryd.prog 400 os).forCall (fun _ _ => 0) ⟨#[], args, []⟩).memory :=
  laidMetH_of_parts3 (fuel := 8) (laidMet_of_run' 8 (by kernel_rfl) (by kernel_rfl)) (by kernel_rfl) (by kernel_rfl)
set_option maxRecDepth 100000 in
theorem addressExtend_lifted (os : Os) (started : os.Started) (H : Type) (enc : TypeId × Value → H) :
    ReturnsInHanded {} Tryd.checked os 4 .any (fun w args => (Rows.addressExtendSpec.pre enc Tryd.prog Tryd.f4 Rows.addressExtendRow.domain false w args ∧ laidMetH Tryd.prog Rows.addressExtendRow.laid w) ∧ sizedMet enc Tryd.prog Tryd.f4 (OpenSpec.ofChange Rows.addressExtendSpec) false w args) (Rows.addressExtendSpec.post enc Tryd.prog Tryd.f4 false true false false) :=
  lifted_of_law_G (C := Tryd.checked) (X := fun w _ => laidMetH Tryd.prog Rows.addressExtendRow.laid w) (addressExtend_hx) Tryd.down started (by kernel_rfl) Tryd.func4
    (ChangeSpec.witness_shaped (enc := enc) (C := Tryd.checked) (os := os) (X := fun w _ => laidMetH Tryd.prog Rows.addressExtendRow.laid w) false (World.doorLaid Tryd.prog 400 os) #[.agg #[.int .i64 0, .int .i64 0, .int .i64 0, .int .i64 0, .string ⟨#[]⟩, .slice none 0 0, .slice none 0 0, .slice none 0 0], .slice none 0 0, .agg #[.int .i64 0, .string ⟨#[]⟩]] 8 rfl (World.shaped_of_RefB (by kernel_rfl) (by kernel_rfl)) (by kernel_rfl) (by kernel_rfl) (by kernel_rfl) (addressExtend_met os _))
    Tryd.dlaidOut (by kernel_rfl) rfl Tryd.underlying4 rfl
    (fun | [_, _, _], _ => ⟨rfl, rfl, rfl⟩) addressExtend_law

theorem addressExtend_row_holds : Rows.AddressExtendSaid :=
  OpenClaim.holds_of_wide 4 Tryd.f4 rfl rfl rfl rfl rfl rfl rfl ⟨rfl, rfl, rfl, rfl, rfl⟩ rfl rfl rfl rfl rfl (by kernel_rfl) Tryd.func4 (by kernel_rfl)
    (of_decide_eq_true (by kernel_rfl)) (by unfold Func.isWrapper; first | (rw [if_pos (by decide +kernel)]; kernel_rfl) | (rw [if_neg (by decide +kernel)]; exact ⟨rfl, rfl⟩))
    (fun os started H enc _ => addressExtend_lifted os started H enc)

theorem addressExtend_holds : Rows.AddressExtendCardSaid :=
  Claim7.holds_tied_plain_at .later [] [.data, .widerDeep] true (true, "9e8e16f5b9e0fbeed945a1a3cf09a84259e8ead2676b723602e1bd82c441d380") false
    addressExtend_row_holds (fun _ h => by cases h) (by kernel_rfl) (fun _ h => by cases h) addressExtend_row_tie rfl ⟨rfl, rfl⟩ (by kernel_rfl) rfl
    (fun f fn hf hfn => by
      obtain rfl : f = 4 := Option.some.inj ((show Tryd.prog.funcNamed "pandect/pandectlaw07.AddressExtend" = some 4 by kernel_rfl).symm.trans hf) |>.symm
      obtain rfl : fn = Tryd.f4 := (Option.some.inj (Tryd.func4.symm.trans hfn)).symm
      exact ⟨by kernel_rfl, fun j t ht => by
        rw [Tryd.params4] at ht
        have hm : t ∈ [27, 33, 41] := by simpa using Array.mem_of_getElem? ht
        have hall : ([27, 33, 41].all fun u => !Tryd.prog.wantsStandIn u) = true := by kernel_rfl
        exact (show Tryd.prog.wantsStandIn t = false by simpa using List.all_eq_true.1 hall t hm)⟩)
    (by kernel_rfl)

end Go.Proofs.YtfclekegoleiaaaDoor
