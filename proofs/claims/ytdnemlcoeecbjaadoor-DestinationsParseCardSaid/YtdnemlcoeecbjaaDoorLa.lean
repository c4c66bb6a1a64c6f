/-
  The rows of these laws, proved: for each law the walk of its code and its plain law, put together. No condition.
-/
import Derived.Test.YtdnemlcoeecbjaaDoorRows
import Derived.Test.YtdnemlcoeecbjaaDoorReadR
import Derived.Test.YtdnemlcoeecbjaaDoorReadH
import Derived.Test.YtdnemlcoeecbjaaDoorTie
import Derived.Test.YtdnemlcoeecbjaaDoorCards
import Derived.SevenTiedAt
import Derived.Lay
import Derived.Test.YtdnemlcoeecbjaaDoorWa
import Derived.Test.YtdnemlcoeecbjaaDoorPg
import Derived.Test.YtdnemlcoeecbjaaDoorBn
import Derived.ProofKit
set_option linter.unusedVariables false
set_option linter.unusedSimpArgs false
set_option maxRecDepth 100000
namespace Go.Proofs.YtdnemlcoeecbjaaDoor
open Go Go.Dec Go.ChangeShapes Go.WideShapes Go.ChangeAt Go.RowKit

theorem Tryd.pown : ownKnob Tryd.prog.godebug = none := by kernel_rfl
theorem Tryd.plaidOut : laidOutB Tryd.prog = true := by kernel_rfl
theorem prd3 (W : World) : Rds Tryd.prog W 3 (tI .i64) := Rds.int Tryd.underlying3
theorem pok3 {W : World} {base : Nat} (v : Value) (h : Value.okWide Tryd.prog W .any base 3 v) : v = mkVal false v.cells.toList := okW_int Tryd.underlying3 v h
theorem prd24 (W : World) : Rds Tryd.prog W 24 tapi_Id := Rds.struct (fun x => (⟨x.1, x.2.1, x.2.2⟩ : api_Id)) (fun _ => rfl) Tryd.underlying24 (by kernel_rfl) (RdF.cons rfl (by kernel_rfl) rfl (prd3 W) (RdF.cons rfl (by kernel_rfl) rfl (prd3 W) (RdF.last rfl (by kernel_rfl) (prd3 W))))
theorem pok24 {W : World} {base : Nat} (v : Value) (h : Value.okWide Tryd.prog W .any base 24 v) : v = mkVal true v.cells.toList := okW_struct Tryd.underlying24 v h
theorem prd36 (W : World) : Rds Tryd.prog W 36 tapi_Destination := Rds.struct (fun x => (⟨x.1, x.2⟩ : api_Destination)) (fun _ => rfl) Tryd.underlying36 (by kernel_rfl) (RdF.cons rfl (by kernel_rfl) rfl (prd24 W) (RdF.last rfl (by kernel_rfl) (prd24 W)))
theorem pok36 {W : World} {base : Nat} (v : Value) (h : Value.okWide Tryd.prog W .any base 36 v) : v = mkVal true v.cells.toList := okW_struct Tryd.underlying36 v h
theorem prd22 (W : World) : Rds Tryd.prog W 22 (tL tapi_Destination) := Rds.slice Tryd.underlying22 (prd36 W) (by kernel_rfl) (by decide) (of_decide_eq_true (by kernel_rfl))
theorem pok22 {W : World} {base : Nat} (v : Value) (h : Value.okWide Tryd.prog W .any base 22 v) : v = mkVal false v.cells.toList := okW_slice Tryd.underlying22 v h
theorem pgr5 (W : World) : RdV Tryd.prog W 149 (tA 20 (tI .u64)) Rows.laid_internal_strconv_uint64pow10 Lib.pow10Tab := by
  rw [show Lib.pow10Tab = [(1 : Int), (10 : Int), (100 : Int), (1000 : Int), (10000 : Int), (100000 : Int), (1000000 : Int), (10000000 : Int), (100000000 : Int), (1000000000 : Int), (10000000000 : Int), (100000000000 : Int), (1000000000000 : Int), (10000000000000 : Int), (100000000000000 : Int), (1000000000000000 : Int), (10000000000000000 : Int), (100000000000000000 : Int), (1000000000000000000 : Int), (10000000000000000000 : Int)] from by decide]
  exact (RdV.array Tryd.underlying149 (by kernel_rfl) (by kernel_rfl) rfl ⟨(RdV.int Tryd.underlying126 (by decide)), (RdV.int Tryd.underlying126 (by decide)), (RdV.int Tryd.underlying126 (by decide)), (RdV.int Tryd.underlying126 (by decide)), (RdV.int Tryd.underlying126 (by decide)), (RdV.int Tryd.underlying126 (by decide)), (RdV.int Tryd.underlying126 (by decide)), (RdV.int Tryd.underlying126 (by decide)), (RdV.int Tryd.underlying126 (by decide)), (RdV.int Tryd.underlying126 (by decide)), (RdV.int Tryd.underlying126 (by decide)), (RdV.int Tryd.underlying126 (by decide)), (RdV.int Tryd.underlying126 (by decide)), (RdV.int Tryd.underlying126 (by decide)), (RdV.int Tryd.underlying126 (by decide)), (RdV.int Tryd.underlying126 (by decide)), (RdV.int Tryd.underlying126 (by decide)), (RdV.int Tryd.underlying126 (by decide)), (RdV.int Tryd.underlying126 (by decide)), (RdV.int Tryd.underlying126 (by decide)), trivial⟩)

theorem destinationsFormat_law (W : World) (base : Nat) (vs : List Value) (hx : ∃ args : Array Value, laidMetH Tryd.prog Rows.destinationsFormatRow.laid W) (hsh : W.ShapedOpen Tryd.prog) (h : ArgsOk Tryd.prog W base Tryd.f9.params.toList vs) : ∃ As rin, All2 As vs (G.top W) ∧ rin.all (G.top W) ∧ NoBlk rin ∧ FSpecR Tryd.prog 9 As rin (fun _ : Unit => tB.is true) (fun _ => []) := by
  rw [Tryd.params9] at h
  obtain ⟨v1, vs, x1, rfl, h1, h⟩ := ArgsOk.cons (t := (tL tapi_Destination)) h (prd22 W) pok22
  obtain rfl := h.nil
  obtain ⟨n, hm⟩ := pformat_true x1 (dsts_in h1)
  obtain ⟨_, hx⟩ := hx
  have g0 : (GlE 0).holds (G.top W) := (Tryd.maxlen W hsh).imp fun m h => (top_has h).2
  have g1 : (GlI 1).holds (G.top W) := GlI.ofLaid (laid := Rows.destinationsFormatRow.laid) (by kernel_rfl) hx (name := "strconv.ErrSyntax") (by simp [Rows.destinationsFormatRow]; exact rfl) (by kernel_rfl) (by kernel_rfl) Tryd.underlying76
  have g2 : (GlI 2).holds (G.top W) := GlI.ofLaid (laid := Rows.destinationsFormatRow.laid) (by kernel_rfl) hx (name := "strconv.ErrRange") (by simp [Rows.destinationsFormatRow]; exact rfl) (by kernel_rfl) (by kernel_rfl) Tryd.underlying76
  have g5 : (GlT Tryd.prog "internal/strconv.uint64pow10" .u64 Lib.pow10Tab).holds (G.top W) := GlT.ofLaid (laid := Rows.destinationsFormatRow.laid) (by kernel_rfl) hx (name := "internal/strconv.uint64pow10") (by simp [Rows.destinationsFormatRow]; done) (b := 5) (by kernel_rfl) (by kernel_rfl) (pgr5 W) (by decide)
  refine ⟨[(tL tapi_Destination).is x1], [(700000, GlE 0), (700001, GlI 1), (700002, GlI 2), (700005, GlT Tryd.prog "internal/strconv.uint64pow10" .u64 Lib.pow10Tab)], ⟨h1, trivial⟩, fun y hy => ?_, ⟨rfl, rfl, rfl, rfl, trivial⟩, law47_DestinationsFormat_spec n x1 true hm⟩
  simp only [List.mem_cons, List.not_mem_nil, or_false] at hy
  rcases hy with rfl | rfl | rfl | rfl
  · exact g0
  · exact g1
  · exact g2
  · exact g5

theorem destinationsFormat_hx (w w' : World) (args : Array Value) (h : w.heap = w'.heap) (k : laidMetH Tryd.prog Rows.destinationsFormatRow.laid w) : laidMetH Tryd.prog Rows.destinationsFormatRow.laid w' := k.of_heap h
theorem destinationsFormat_met (os : Os) (args : Array Value) : laidMetH Tryd.prog Rows.destinationsFormatRow.laid ((World.laidAll Tryd.prog os Rows.destinationsFormatRow.laid).forCall (fun _ _ => 0) ⟨#[], args, []⟩).memory := by
  rw [MakeChecks.laidMetH_plain _ _ _ (by kernel_rfl)]; exact laidMet_laidAll _ (by kernel_rfl) (by kernel_rfl)
set_option maxRecDepth 100000 in
theorem destinationsFormat_lifted (os : Os) (started : os.Started) (H : Type) (enc : TypeId × Value → H) :
    ReturnsInHanded {} Tryd.checked os 9 .any (fun w args => (Rows.destinationsFormatSpec.pre enc Tryd.prog Tryd.f9 Rows.destinationsFormatRow.domain false w args ∧ laidMetH Tryd.prog Rows.destinationsFormatRow.laid w) ∧ sizedMet enc Tryd.prog Tryd.f9 (OpenSpec.ofChange Rows.destinationsFormatSpec) false w args) (Rows.destinationsFormatSpec.post enc Tryd.prog Tryd.f9 false true false false) :=
  lifted_of_law_GS (C := Tryd.checked) (X := fun w _ => laidMetH Tryd.prog Rows.destinationsFormatRow.laid w) (destinationsFormat_hx) Tryd.pown started (by kernel_rfl) Tryd.func9
    (ChangeSpec.witness_shaped (enc := enc) (C := Tryd.checked) (os := os) (X := fun w _ => laidMetH Tryd.prog Rows.destinationsFormatRow.laid w) false (World.laidAll Tryd.prog os Rows.destinationsFormatRow.laid) #[.slice none 0 0] 8 (World.laidAll_os _ _ _) (World.shaped_of_ZipB (by kernel_rfl) (by kernel_rfl)) (by kernel_rfl) (by kernel_rfl) (by kernel_rfl) (destinationsFormat_met os _))
    Tryd.plaidOut (by kernel_rfl) rfl Tryd.underlying4 rfl
    (fun | [_], _ => ⟨rfl, rfl, rfl⟩) destinationsFormat_law

theorem destinationsFormat_row_holds : Rows.DestinationsFormatSaid :=
  OpenClaim.holds_of_wide 9 Tryd.f9 rfl rfl rfl rfl rfl rfl rfl ⟨rfl, rfl, rfl, rfl, rfl⟩ rfl rfl rfl rfl rfl (by kernel_rfl) Tryd.func9 (by kernel_rfl)
    (of_decide_eq_true (by kernel_rfl)) (by unfold Func.isWrapper; first | (rw [if_pos (by decide +kernel)]; kernel_rfl) | (rw [if_neg (by decide +kernel)]; exact ⟨rfl, rfl⟩))
    (fun os started H enc _ => destinationsFormat_lifted os started H enc)

theorem destinationsFormat_holds : Rows.DestinationsFormatCardSaid :=
  Claim7.holds_tied_plain_at .later [] [.data, .data, .data, .data, .sentinel, .sentinel, .pinned] true (true, "b1b6016252456fd99f0fe2ea7f36725cd4cc6f64e18bb9aa5ebd9d02e807cfba") true
    destinationsFormat_row_holds (fun _ h => by cases h) (by kernel_rfl) (fun _ h => by cases h) destinationsFormat_row_tie rfl ⟨rfl, rfl⟩ (by kernel_rfl) rfl
    (fun f fn hf hfn => by
      obtain rfl : f = 9 := Option.some.inj ((show Tryd.prog.funcNamed "pandect/pandectlaw47.DestinationsFormat" = some 9 by kernel_rfl).symm.trans hf) |>.symm
      obtain rfl : fn = Tryd.f9 := (Option.some.inj (Tryd.func9.symm.trans hfn)).symm
      exact ⟨by kernel_rfl, fun j t ht => by
        rw [Tryd.params9] at ht
        have hm : t ∈ [22] := by simpa using Array.mem_of_getElem? ht
        have hall : ([22].all fun u => !Tryd.prog.wantsStandIn u) = true := by kernel_rfl
        exact (show Tryd.prog.wantsStandIn t = false by simpa using List.all_eq_true.1 hall t hm)⟩)
    (by kernel_rfl)
theorem prd9 (W : World) : Rds Tryd.prog W 9 tS := Rds.string Tryd.underlying9
theorem pok9 {W : World} {base : Nat} (v : Value) (h : Value.okWide Tryd.prog W .any base 9 v) : v = mkVal false v.cells.toList := okW_string Tryd.underlying9 v h

theorem destinationsParse_law (W : World) (base : Nat) (vs : List Value) (hx : ∃ args : Array Value, laidMetH Tryd.prog Rows.destinationsParseRow.laid W) (hsh : W.ShapedOpen Tryd.prog) (h : ArgsOk Tryd.prog W base Tryd.f8.params.toList vs) : ∃ As rin, All2 As vs (G.top W) ∧ rin.all (G.top W) ∧ NoBlk rin ∧ FSpecR Tryd.prog 8 As rin (fun _ : Unit => tB.is true) (fun _ => []) := by
  rw [Tryd.params8] at h
  obtain ⟨v1, vs, x1, rfl, h1, h⟩ := ArgsOk.cons (t := tS) h (prd9 W) pok9
  obtain rfl := h.nil
  obtain ⟨n, hm⟩ := pparse_true x1
  obtain ⟨_, hx⟩ := hx
  have g0 : (GlE 0).holds (G.top W) := (Tryd.maxlen W hsh).imp fun m h => (top_has h).2
  have g1 : (GlI 1).holds (G.top W) := GlI.ofLaid (laid := Rows.destinationsParseRow.laid) (by kernel_rfl) hx (name := "strconv.ErrSyntax") (by simp [Rows.destinationsParseRow]; exact rfl) (by kernel_rfl) (by kernel_rfl) Tryd.underlying76
  have g2 : (GlI 2).holds (G.top W) := GlI.ofLaid (laid := Rows.destinationsParseRow.laid) (by kernel_rfl) hx (name := "strconv.ErrRange") (by simp [Rows.destinationsParseRow]; exact rfl) (by kernel_rfl) (by kernel_rfl) Tryd.underlying76
  have g5 : (GlT Tryd.prog "internal/strconv.uint64pow10" .u64 Lib.pow10Tab).holds (G.top W) := GlT.ofLaid (laid := Rows.destinationsParseRow.laid) (by kernel_rfl) hx (name := "internal/strconv.uint64pow10") (by simp [Rows.destinationsParseRow]; done) (b := 5) (by kernel_rfl) (by kernel_rfl) (pgr5 W) (by decide)
  refine ⟨[tS.is x1], [(700000, GlE 0), (700001, GlI 1), (700002, GlI 2), (700005, GlT Tryd.prog "internal/strconv.uint64pow10" .u64 Lib.pow10Tab)], ⟨h1, trivial⟩, fun y hy => ?_, ⟨rfl, rfl, rfl, rfl, trivial⟩, law47_DestinationsParse_spec n x1 true hm⟩
  simp only [List.mem_cons, List.not_mem_nil, or_false] at hy
  rcases hy with rfl | rfl | rfl | rfl
  · exact g0
  · exact g1
  · exact g2
  · exact g5

theorem destinationsParse_hx (w w' : World) (args : Array Value) (h : w.heap = w'.heap) (k : laidMetH Tryd.prog Rows.destinationsParseRow.laid w) : laidMetH Tryd.prog Rows.destinationsParseRow.laid w' := k.of_heap h
theorem destinationsParse_met (os : Os) (args : Array Value) : laidMetH Tryd.prog Rows.destinationsParseRow.laid ((World.laidAll Tryd.prog os Rows.destinationsParseRow.laid).forCall (fun _ _ => 0) ⟨#[], args, []⟩).memory := by
  rw [MakeChecks.laidMetH_plain _ _ _ (by kernel_rfl)]; exact laidMet_laidAll _ (by kernel_rfl) (by kernel_rfl)
set_option maxRecDepth 100000 in
theorem destinationsParse_lifted (os : Os) (started : os.Started) (H : Type) (enc : TypeId × Value → H) :
    ReturnsInHanded {} Tryd.checked os 8 .any (fun w args => (Rows.destinationsParseSpec.pre enc Tryd.prog Tryd.f8 Rows.destinationsParseRow.domain false w args ∧ laidMetH Tryd.prog Rows.destinationsParseRow.laid w) ∧ sizedMet enc Tryd.prog Tryd.f8 (OpenSpec.ofChange Rows.destinationsParseSpec) false w args) (Rows.destinationsParseSpec.post enc Tryd.prog Tryd.f8 false true false false) :=
  lifted_of_law_GS (C := Tryd.checked) (X := fun w _ => laidMetH Tryd.prog Rows.destinationsParseRow.laid w) (destinationsParse_hx) Tryd.pown started (by kernel_rfl) Tryd.func8
    (ChangeSpec.witness_shaped (enc := enc) (C := Tryd.checked) (os := os) (X := fun w _ => laidMetH Tryd.prog Rows.destinationsParseRow.laid w) false (World.laidAll Tryd.prog os Rows.destinationsParseRow.laid) #[.string ⟨#[]⟩] 8 (World.laidAll_os _ _ _) (World.shaped_of_ZipB (by kernel_rfl) (by kernel_rfl)) (by kernel_rfl) (by kernel_rfl) (by kernel_rfl) (destinationsParse_met os _))
    Tryd.plaidOut (by kernel_rfl) rfl Tryd.underlying4 rfl
    (fun | [_], _ => ⟨rfl, rfl, rfl⟩) destinationsParse_law

theorem destinationsParse_row_holds : Rows.DestinationsParseSaid :=
  OpenClaim.holds_of_wide 8 Tryd.f8 rfl rfl rfl rfl rfl rfl rfl ⟨rfl, rfl, rfl, rfl, rfl⟩ rfl rfl rfl rfl rfl (by kernel_rfl) Tryd.func8 (by kernel_rfl)
    (of_decide_eq_true (by kernel_rfl)) (by unfold Func.isWrapper; first | (rw [if_pos (by decide +kernel)]; kernel_rfl) | (rw [if_neg (by decide +kernel)]; exact ⟨rfl, rfl⟩))
    (fun os started H enc _ => destinationsParse_lifted os started H enc)

theorem destinationsParse_holds : Rows.DestinationsParseCardSaid :=
  Claim7.holds_tied_plain_at .later [] [.data, .data, .data, .data, .sentinel, .sentinel, .pinned] true (true, "b1b6016252456fd99f0fe2ea7f36725cd4cc6f64e18bb9aa5ebd9d02e807cfba") true
    destinationsParse_row_holds (fun _ h => by cases h) (by kernel_rfl) (fun _ h => by cases h) destinationsParse_row_tie rfl ⟨rfl, rfl⟩ (by kernel_rfl) rfl
    (fun f fn hf hfn => by
      obtain rfl : f = 8 := Option.some.inj ((show Tryd.prog.funcNamed "pandect/pandectlaw47.DestinationsParse" = some 8 by kernel_rfl).symm.trans hf) |>.symm
      obtain rfl : fn = Tryd.f8 := (Option.some.inj (Tryd.func8.symm.trans hfn)).symm
      exact ⟨by kernel_rfl, fun j t ht => by
        rw [Tryd.params8] at ht
        have hm : t ∈ [9] := by simpa using Array.mem_of_getElem? ht
        have hall : ([9].all fun u => !Tryd.prog.wantsStandIn u) = true := by kernel_rfl
        exact (show Tryd.prog.wantsStandIn t = false by simpa using List.all_eq_true.1 hall t hm)⟩)
    (by kernel_rfl)

end Go.Proofs.YtdnemlcoeecbjaaDoor
