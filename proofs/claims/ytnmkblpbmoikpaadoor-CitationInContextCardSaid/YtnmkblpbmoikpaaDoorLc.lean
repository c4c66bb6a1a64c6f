/-
  The rows of these laws, proved: for each law the walk of its code and its plain law, put together. No condition.
-/
import Derived.Test.YtnmkblpbmoikpaaDoorRows
import Derived.Test.YtnmkblpbmoikpaaDoorReadR
import Derived.Test.YtnmkblpbmoikpaaDoorReadG
import Derived.Test.YtnmkblpbmoikpaaDoorTie
import Derived.Test.YtnmkblpbmoikpaaDoorCards
import Derived.SevenTiedAt
import Derived.Lay
import Derived.Test.YtnmkblpbmoikpaaDoorWd
import Derived.Test.YtnmkblpbmoikpaaDoorBn
import Derived.Test.YtnmkblpbmoikpaaDoorPi
import Derived.ProofKit
set_option linter.unusedVariables false
set_option linter.unusedSimpArgs false
set_option maxRecDepth 100000
namespace Go.Proofs.YtnmkblpbmoikpaaDoor
open Go Go.Dec Go.ChangeShapes Go.WideShapes Go.ChangeAt Go.RowKit
theorem Tryd.xown : ownKnob Tryd.prog.godebug = none := by kernel_rfl
theorem Tryd.xlaidOut : laidOutB Tryd.prog = true := by kernel_rfl
theorem xrd9 (W : World) : Rds Tryd.prog W 9 tS := Rds.string Tryd.underlying9
theorem xok9 {W : World} {base : Nat} (v : Value) (h : Value.okWide Tryd.prog W .any base 9 v) : v = mkVal false v.cells.toList := okW_string Tryd.underlying9 v h
theorem citationParses_law (W : World) (base : Nat) (vs : List Value) (hx : ∃ args : Array Value, laidMetH Tryd.prog Rows.citationParsesRow.laid W) (hsh : W.ShapedOpen Tryd.prog) (h : ArgsOk Tryd.prog W base Tryd.f5.params.toList vs) : ∃ As rin, All2 As vs (G.top W) ∧ rin.all (G.top W) ∧ NoBlk rin ∧ FSpecR Tryd.prog 5 As rin (fun _ : Unit => tB.is true) (fun _ => []) := by
  rw [Tryd.params5] at h
  obtain ⟨v1, vs, x1, rfl, h1, h⟩ := ArgsOk.cons (t := tS) h (xrd9 W) xok9
  obtain rfl := h.nil
  obtain ⟨n, hm⟩ := parses_true x1
  obtain ⟨_, hx⟩ := hx
  have g0 : (GlE 0).holds (G.top W) := (Tryd.maxlen W hsh).imp fun m h => (top_has h).2
  refine ⟨[tS.is x1], [(700000, GlE 0)], ⟨h1, trivial⟩, fun y hy => ?_, ⟨rfl, trivial⟩, law20_CitationParses_spec n x1 true hm⟩
  simp only [List.mem_cons, List.not_mem_nil, or_false] at hy
  rcases hy with rfl
  · exact g0
theorem citationParses_hx (w w' : World) (args : Array Value) (h : w.heap = w'.heap) (k : laidMetH Tryd.prog Rows.citationParsesRow.laid w) : laidMetH Tryd.prog Rows.citationParsesRow.laid w' := k.of_heap h
theorem citationParses_met (os : Os) (args : Array Value) : laidMetH Tryd.prog Rows.citationParsesRow.laid ((World.laidAll Tryd.prog os Rows.citationParsesRow.laid).forCall (fun _ _ => 0) ⟨#[], args, []⟩).memory := by
  rw [MakeChecks.laidMetH_plain _ _ _ (by kernel_rfl)]; exact laidMet_laidAll _ (by kernel_rfl) (by kernel_rfl)
set_option maxRecDepth 100000 in
theorem citationParses_lifted (os : Os) (started : os.Started) (H : Type) (enc : TypeId × Value → H) :
    ReturnsInHanded {} Tryd.checked os 5 .any (fun w args => (Rows.citationParsesSpec.pre enc Tryd.prog Tryd.f5 Rows.citationParsesRow.domain false w args ∧ laidMetH Tryd.prog Rows.citationParsesRow.laid w) ∧ sizedMet enc Tryd.prog Tryd.f5 (OpenSpec.ofChange Rows.citationParsesSpec) false w args) (Rows.citationParsesSpec.post enc Tryd.prog Tryd.f5 false true false false) :=
  lifted_of_law_GS (C := Tryd.checked) (X := fun w _ => laidMetH Tryd.prog Rows.citationParsesRow.laid w) (citationParses_hx) Tryd.xown started (by kernel_rfl) Tryd.func5
    (ChangeSpec.witness_shaped (enc := enc) (C := Tryd.checked) (os := os) (X := fun w _ => laidMetH Tryd.prog Rows.citationParsesRow.laid w) false (World.laidAll Tryd.prog os Rows.citationParsesRow.laid) #[.string ⟨#[]⟩] 8 (World.laidAll_os _ _ _) (World.shaped_of_ZipB (by kernel_rfl) (by kernel_rfl)) (by kernel_rfl) (by kernel_rfl) (by kernel_rfl) (citationParses_met os _))
    Tryd.xlaidOut (by kernel_rfl) rfl Tryd.underlying4 rfl
    (fun | [_], _ => ⟨rfl, rfl, rfl⟩) citationParses_law
theorem citationParses_row_holds : Rows.CitationParsesSaid :=
  OpenClaim.holds_of_wide 5 Tryd.f5 rfl rfl rfl rfl rfl rfl rfl ⟨rfl, rfl, rfl, rfl, rfl⟩ rfl rfl rfl rfl rfl (by kernel_rfl) Tryd.func5 (by kernel_rfl)
    (of_decide_eq_true (by kernel_rfl)) (by unfold Func.isWrapper; first | (rw [if_pos (by decide +kernel)]; kernel_rfl) | (rw [if_neg (by decide +kernel)]; exact ⟨rfl, rfl⟩))
    (fun os started H enc _ => citationParses_lifted os started H enc)
theorem citationParses_holds : Rows.CitationParsesCardSaid :=
  Claim7.holds_tied_plain_at .later [] [.data, .pinned] true (true, "ab0f6ceae33cb2098a0e9f4ce22b4c5c35925406d826b2831dce8bcd3604c70f") false
    citationParses_row_holds (fun _ h => by cases h) (by kernel_rfl) (fun _ h => by cases h) citationParses_row_tie rfl ⟨rfl, rfl⟩ (by kernel_rfl) rfl
    (fun f fn hf hfn => by
      obtain rfl : f = 5 := Option.some.inj ((show Tryd.prog.funcNamed "pandect/pandectlaw20.CitationParses" = some 5 by kernel_rfl).symm.trans hf) |>.symm
      obtain rfl : fn = Tryd.f5 := (Option.some.inj (Tryd.func5.symm.trans hfn)).symm
      exact ⟨by kernel_rfl, fun j t ht => by
        rw [Tryd.params5] at ht
        have hm : t ∈ [9] := by simpa using Array.mem_of_getElem? ht
        have hall : ([9].all fun u => !Tryd.prog.wantsStandIn u) = true := by kernel_rfl
        exact (show Tryd.prog.wantsStandIn t = false by simpa using List.all_eq_true.1 hall t hm)⟩)
    (by kernel_rfl)
theorem xrd28 (W : World) : Rds Tryd.prog W 28 (tL tS) := Rds.slice Tryd.underlying28 (xrd9 W) (by kernel_rfl) (by decide) (of_decide_eq_true (by kernel_rfl))
theorem xok28 {W : World} {base : Nat} (v : Value) (h : Value.okWide Tryd.prog W .any base 28 v) : v = mkVal false v.cells.toList := okW_slice Tryd.underlying28 v h
theorem citationScans_law (W : World) (base : Nat) (vs : List Value) (hx : ∃ args : Array Value, laidMetH Tryd.prog Rows.citationScansRow.laid W) (hsh : W.ShapedOpen Tryd.prog) (h : ArgsOk Tryd.prog W base Tryd.f4.params.toList vs) : ∃ As rin, All2 As vs (G.top W) ∧ rin.all (G.top W) ∧ NoBlk rin ∧ FSpecR Tryd.prog 4 As rin (fun _ : Unit => tB.is true) (fun _ => []) := by
  rw [Tryd.params4] at h
  obtain ⟨v1, vs, x1, rfl, h1, h⟩ := ArgsOk.cons (t := (tL tS)) h (xrd28 W) xok28
  obtain rfl := h.nil
  obtain ⟨n, hm⟩ := scans_true x1 (fits_words h1)
  obtain ⟨_, hx⟩ := hx
  have g0 : (GlE 0).holds (G.top W) := (Tryd.maxlen W hsh).imp fun m h => (top_has h).2
  refine ⟨[(tL tS).is x1], [(700000, GlE 0)], ⟨h1, trivial⟩, fun y hy => ?_, ⟨rfl, trivial⟩, law20_CitationScans_spec n x1 true hm⟩
  simp only [List.mem_cons, List.not_mem_nil, or_false] at hy
  rcases hy with rfl
  · exact g0
theorem citationScans_hx (w w' : World) (args : Array Value) (h : w.heap = w'.heap) (k : laidMetH Tryd.prog Rows.citationScansRow.laid w) : laidMetH Tryd.prog Rows.citationScansRow.laid w' := k.of_heap h
theorem citationScans_met (os : Os) (args : Array Value) : laidMetH Tryd.prog Rows.citationScansRow.laid ((World.laidAll Tryd.prog os Rows.citationScansRow.laid).forCall (fun _ _ => 0) ⟨#[], args, []⟩).memory := by
  rw [MakeChecks.laidMetH_plain _ _ _ (by kernel_rfl)]; exact laidMet_laidAll _ (by kernel_rfl) (by kernel_rfl)
set_option maxRecDepth 100000 in
theorem citationScans_lifted (os : Os) (started : os.Started) (H : Type) (enc : TypeId × Value → H) :
    ReturnsInHanded {} Tryd.checked os 4 .any (fun w args => (Rows.citationScansSpec.pre enc Tryd.prog Tryd.f4 Rows.citationScansRow.domain false w args ∧ laidMetH Tryd.prog Rows.citationScansRow.laid w) ∧ sizedMet enc Tryd.prog Tryd.f4 (OpenSpec.ofChange Rows.citationScansSpec) false w args) (Rows.citationScansSpec.post enc Tryd.prog Tryd.f4 false true false false) :=
  lifted_of_law_GS (C := Tryd.checked) (X := fun w _ => laidMetH Tryd.prog Rows.citationScansRow.laid w) (citationScans_hx) Tryd.xown started (by kernel_rfl) Tryd.func4
    (ChangeSpec.witness_shaped (enc := enc) (C := Tryd.checked) (os := os) (X := fun w _ => laidMetH Tryd.prog Rows.citationScansRow.laid w) false (World.laidAll Tryd.prog os Rows.citationScansRow.laid) #[.slice none 0 0] 8 (World.laidAll_os _ _ _) (World.shaped_of_ZipB (by kernel_rfl) (by kernel_rfl)) (by kernel_rfl) (by kernel_rfl) (by kernel_rfl) (citationScans_met os _))
    Tryd.xlaidOut (by kernel_rfl) rfl Tryd.underlying4 rfl
    (fun | [_], _ => ⟨rfl, rfl, rfl⟩) citationScans_law
theorem citationScans_row_holds : Rows.CitationScansSaid :=
  OpenClaim.holds_of_wide 4 Tryd.f4 rfl rfl rfl rfl rfl rfl rfl ⟨rfl, rfl, rfl, rfl, rfl⟩ rfl rfl rfl rfl rfl (by kernel_rfl) Tryd.func4 (by kernel_rfl)
    (of_decide_eq_true (by kernel_rfl)) (by unfold Func.isWrapper; first | (rw [if_pos (by decide +kernel)]; kernel_rfl) | (rw [if_neg (by decide +kernel)]; exact ⟨rfl, rfl⟩))
    (fun os started H enc _ => citationScans_lifted os started H enc)
theorem citationScans_holds : Rows.CitationScansCardSaid :=
  Claim7.holds_tied_plain_at .later [] [.data, .pinned] true (true, "ab0f6ceae33cb2098a0e9f4ce22b4c5c35925406d826b2831dce8bcd3604c70f") false
    citationScans_row_holds (fun _ h => by cases h) (by kernel_rfl) (fun _ h => by cases h) citationScans_row_tie rfl ⟨rfl, rfl⟩ (by kernel_rfl) rfl
    (fun f fn hf hfn => by
      obtain rfl : f = 4 := Option.some.inj ((show Tryd.prog.funcNamed "pandect/pandectlaw20.CitationScans" = some 4 by kernel_rfl).symm.trans hf) |>.symm
      obtain rfl : fn = Tryd.f4 := (Option.some.inj (Tryd.func4.symm.trans hfn)).symm
      exact ⟨by kernel_rfl, fun j t ht => by
        rw [Tryd.params4] at ht
        have hm : t ∈ [28] := by simpa using Array.mem_of_getElem? ht
        have hall : ([28].all fun u => !Tryd.prog.wantsStandIn u) = true := by kernel_rfl
        exact (show Tryd.prog.wantsStandIn t = false by simpa using List.all_eq_true.1 hall t hm)⟩)
    (by kernel_rfl)
theorem xrd3 (W : World) : Rds Tryd.prog W 3 (tI .i64) := Rds.int Tryd.underlying3
theorem xok3 {W : World} {base : Nat} (v : Value) (h : Value.okWide Tryd.prog W .any base 3 v) : v = mkVal false v.cells.toList := okW_int Tryd.underlying3 v h
theorem xrd50 (W : World) : Rds Tryd.prog W 50 tapi_Step := Rds.struct (fun x => (⟨x.1, x.2⟩ : api_Step)) (fun _ => rfl) Tryd.underlying50 (by kernel_rfl) (RdF.cons rfl (by kernel_rfl) rfl (xrd3 W) (RdF.last rfl (by kernel_rfl) (xrd9 W)))
theorem xok50 {W : World} {base : Nat} (v : Value) (h : Value.okWide Tryd.prog W .any base 50 v) : v = mkVal true v.cells.toList := okW_struct Tryd.underlying50 v h
theorem xrd22 (W : World) : Rds Tryd.prog W 22 (tL tapi_Step) := Rds.slice Tryd.underlying22 (xrd50 W) (by kernel_rfl) (by decide) (of_decide_eq_true (by kernel_rfl))
theorem xok22 {W : World} {base : Nat} (v : Value) (h : Value.okWide Tryd.prog W .any base 22 v) : v = mkVal false v.cells.toList := okW_slice Tryd.underlying22 v h
theorem xrd24 (W : World) : Rds Tryd.prog W 24 tapi_Cite := Rds.struct (fun x => (⟨x.1, x.2.1, x.2.2.1, x.2.2.2.1, x.2.2.2.2⟩ : api_Cite)) (fun _ => rfl) Tryd.underlying24 (by kernel_rfl) (RdF.cons rfl (by kernel_rfl) rfl (xrd3 W) (RdF.cons rfl (by kernel_rfl) rfl (xrd22 W) (RdF.cons rfl (by kernel_rfl) rfl (xrd9 W) (RdF.cons rfl (by kernel_rfl) rfl (xrd3 W) (RdF.last rfl (by kernel_rfl) (xrd3 W))))))
theorem xok24 {W : World} {base : Nat} (v : Value) (h : Value.okWide Tryd.prog W .any base 24 v) : v = mkVal true v.cells.toList := okW_struct Tryd.underlying24 v h
theorem xrd5 (W : World) : Rds Tryd.prog W 5 (tI .u8) := Rds.int Tryd.underlying5
theorem xok5 {W : World} {base : Nat} (v : Value) (h : Value.okWide Tryd.prog W .any base 5 v) : v = mkVal false v.cells.toList := okW_int Tryd.underlying5 v h
theorem citationInContext_law (W : World) (base : Nat) (vs : List Value) (hx : ∃ args : Array Value, laidMetH Tryd.prog Rows.citationInContextRow.laid W) (hsh : W.ShapedOpen Tryd.prog) (h : ArgsOk Tryd.prog W base Tryd.f9.params.toList vs) : ∃ As rin, All2 As vs (G.top W) ∧ rin.all (G.top W) ∧ NoBlk rin ∧ FSpecR Tryd.prog 9 As rin (fun _ : Unit => tB.is true) (fun _ => []) := by
  rw [Tryd.params9] at h
  obtain ⟨v1, vs, x1, rfl, h1, h⟩ := ArgsOk.cons (t := tapi_Cite) h (xrd24 W) xok24
  obtain ⟨v2, vs, x2, rfl, h2, h⟩ := ArgsOk.cons (t := (tI .u8)) h (xrd5 W) xok5
  obtain ⟨v3, vs, x3, rfl, h3, h⟩ := ArgsOk.cons (t := (tI .u8)) h (xrd5 W) xok5
  obtain ⟨v4, vs, x4, rfl, h4, h⟩ := ArgsOk.cons (t := (tI .u8)) h (xrd5 W) xok5
  obtain rfl := h.nil
  obtain ⟨n, hm⟩ := incontext_true x1 x2 x3 x4 (fits_is h1) (byte_is h2) (byte_is h3) (byte_is h4)
  obtain ⟨_, hx⟩ := hx
  have g0 : (GlE 0).holds (G.top W) := (Tryd.maxlen W hsh).imp fun m h => (top_has h).2
  refine ⟨[tapi_Cite.is x1, (tI .u8).is x2, (tI .u8).is x3, (tI .u8).is x4], [(700000, GlE 0)], ⟨h1, h2, h3, h4, trivial⟩, fun y hy => ?_, ⟨rfl, trivial⟩, law20_CitationInContext_spec n x1 x2 x3 x4 true hm⟩
  simp only [List.mem_cons, List.not_mem_nil, or_false] at hy
  rcases hy with rfl
  · exact g0
theorem citationInContext_hx (w w' : World) (args : Array Value) (h : w.heap = w'.heap) (k : laidMetH Tryd.prog Rows.citationInContextRow.laid w) : laidMetH Tryd.prog Rows.citationInContextRow.laid w' := k.of_heap h
theorem citationInContext_met (os : Os) (args : Array Value) : laidMetH Tryd.prog Rows.citationInContextRow.laid ((World.laidAll Tryd.prog os Rows.citationInContextRow.laid).forCall (fun _ _ => 0) ⟨#[], args, []⟩).memory := by
  rw [MakeChecks.laidMetH_plain _ _ _ (by kernel_rfl)]; exact laidMet_laidAll _ (by kernel_rfl) (by kernel_rfl)
set_option maxRecDepth 100000 in
theorem citationInContext_lifted (os : Os) (started : os.Started) (H : Type) (enc : TypeId × Value → H) :
    ReturnsInHanded {} Tryd.checked os 9 .any (fun w args => (Rows.citationInContextSpec.pre enc Tryd.prog Tryd.f9 Rows.citationInContextRow.domain false w args ∧ laidMetH Tryd.prog Rows.citationInContextRow.laid w) ∧ sizedMet enc Tryd.prog Tryd.f9 (OpenSpec.ofChange Rows.citationInContextSpec) false w args) (Rows.citationInContextSpec.post enc Tryd.prog Tryd.f9 false true false false) :=
  lifted_of_law_GS (C := Tryd.checked) (X := fun w _ => laidMetH Tryd.prog Rows.citationInContextRow.laid w) (citationInContext_hx) Tryd.xown started (by kernel_rfl) Tryd.func9
    (ChangeSpec.witness_shaped (enc := enc) (C := Tryd.checked) (os := os) (X := fun w _ => laidMetH Tryd.prog Rows.citationInContextRow.laid w) false (World.laidAll Tryd.prog os Rows.citationInContextRow.laid) #[.agg #[.int .i64 0, .slice none 0 0, .string ⟨#[]⟩, .int .i64 0, .int .i64 0], .int .u8 0, .int .u8 0, .int .u8 0] 8 (World.laidAll_os _ _ _) (World.shaped_of_ZipB (by kernel_rfl) (by kernel_rfl)) (by kernel_rfl) (by kernel_rfl) (by kernel_rfl) (citationInContext_met os _))
    Tryd.xlaidOut (by kernel_rfl) rfl Tryd.underlying4 rfl
    (fun | [_, _, _, _], _ => ⟨rfl, rfl, rfl⟩) citationInContext_law
theorem citationInContext_row_holds : Rows.CitationInContextSaid :=
  OpenClaim.holds_of_wide 9 Tryd.f9 rfl rfl rfl rfl rfl rfl rfl ⟨rfl, rfl, rfl, rfl, rfl⟩ rfl rfl rfl rfl rfl (by kernel_rfl) Tryd.func9 (by kernel_rfl)
    (of_decide_eq_true (by kernel_rfl)) (by unfold Func.isWrapper; first | (rw [if_pos (by decide +kernel)]; kernel_rfl) | (rw [if_neg (by decide +kernel)]; exact ⟨rfl, rfl⟩))
    (fun os started H enc _ => citationInContext_lifted os started H enc)
theorem citationInContext_holds : Rows.CitationInContextCardSaid :=
  Claim7.holds_tied_plain_at .later [] [.data, .pinned] true (true, "ab0f6ceae33cb2098a0e9f4ce22b4c5c35925406d826b2831dce8bcd3604c70f") false
    citationInContext_row_holds (fun _ h => by cases h) (by kernel_rfl) (fun _ h => by cases h) citationInContext_row_tie rfl ⟨rfl, rfl⟩ (by kernel_rfl) rfl
    (fun f fn hf hfn => by
      obtain rfl : f = 9 := Option.some.inj ((show Tryd.prog.funcNamed "pandect/pandectlaw20.CitationInContext" = some 9 by kernel_rfl).symm.trans hf) |>.symm
      obtain rfl : fn = Tryd.f9 := (Option.some.inj (Tryd.func9.symm.trans hfn)).symm
      exact ⟨by kernel_rfl, fun j t ht => by
        rw [Tryd.params9] at ht
        have hm : t ∈ [24, 5, 5, 5] := by simpa using Array.mem_of_getElem? ht
        have hall : ([24, 5, 5, 5].all fun u => !Tryd.prog.wantsStandIn u) = true := by kernel_rfl
        exact (show Tryd.prog.wantsStandIn t = false by simpa using List.all_eq_true.1 hall t hm)⟩)
    (by kernel_rfl)
end Go.Proofs.YtnmkblpbmoikpaaDoor
