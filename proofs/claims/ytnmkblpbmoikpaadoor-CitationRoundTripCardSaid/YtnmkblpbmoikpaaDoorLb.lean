/-
  The rows of these laws, proved: for each law the walk of its code and its plain law, put together. No condition.
-/
import Derived.Test.YtnmkblpbmoikpaaDoorRows
import Derived.Test.YtnmkblpbmoikpaaDoorReadR
import Derived.Test.YtnmkblpbmoikpaaDoorReadG
import Derived.Test.YtnmkblpbmoikpaaDoorTie
import Derived.Test.YtnmkblpbmoikpaaDoorCards
import Derived.SevenTiedAt
import Derived.Lay
import Derived.Test.YtnmkblpbmoikpaaDoorWc
import Derived.Test.YtnmkblpbmoikpaaDoorBn
import Derived.Test.YtnmkblpbmoikpaaDoorPg
import Derived.ProofKit
set_option linter.unusedVariables false
set_option linter.unusedSimpArgs false
set_option maxRecDepth 100000
namespace Go.Proofs.YtnmkblpbmoikpaaDoor
open Go Go.Dec Go.ChangeShapes Go.WideShapes Go.ChangeAt Go.RowKit

theorem Tryd.wown : ownKnob Tryd.prog.godebug = none := by kernel_rfl
theorem Tryd.wlaidOut : laidOutB Tryd.prog = true := by kernel_rfl
theorem wrd9 (W : World) : Rds Tryd.prog W 9 tS := Rds.string Tryd.underlying9
theorem wok9 {W : World} {base : Nat} (v : Value) (h : Value.okWide Tryd.prog W .any base 9 v) : v = mkVal false v.cells.toList := okW_string Tryd.underlying9 v h
theorem wrd28 (W : World) : Rds Tryd.prog W 28 (tL tS) := Rds.slice Tryd.underlying28 (wrd9 W) (by kernel_rfl) (by decide) (of_decide_eq_true (by kernel_rfl))
theorem wok28 {W : World} {base : Nat} (v : Value) (h : Value.okWide Tryd.prog W .any base 28 v) : v = mkVal false v.cells.toList := okW_slice Tryd.underlying28 v h

theorem citationDisjoint_law (W : World) (base : Nat) (vs : List Value) (hx : ∃ args : Array Value, laidMetH Tryd.prog Rows.citationDisjointRow.laid W) (hsh : W.ShapedOpen Tryd.prog) (h : ArgsOk Tryd.prog W base Tryd.f6.params.toList vs) : ∃ As rin, All2 As vs (G.top W) ∧ rin.all (G.top W) ∧ NoBlk rin ∧ FSpecR Tryd.prog 6 As rin (fun _ : Unit => tB.is true) (fun _ => []) := by
  rw [Tryd.params6] at h
  obtain ⟨v1, vs, x1, rfl, h1, h⟩ := ArgsOk.cons (t := (tL tS)) h (wrd28 W) wok28
  obtain rfl := h.nil
  obtain ⟨n, hm⟩ := disjoint_true x1 (fits_words h1)
  obtain ⟨_, hx⟩ := hx
  have g0 : (GlE 0).holds (G.top W) := (Tryd.maxlen W hsh).imp fun m h => (top_has h).2
  refine ⟨[(tL tS).is x1], [(700000, GlE 0)], ⟨h1, trivial⟩, fun y hy => ?_, ⟨rfl, trivial⟩, law20_CitationDisjoint_spec n x1 true hm⟩
  simp only [List.mem_cons, List.not_mem_nil, or_false] at hy
  rcases hy with rfl
  · exact g0

theorem citationDisjoint_hx (w w' : World) (args : Array Value) (h : w.heap = w'.heap) (k : laidMetH Tryd.prog Rows.citationDisjointRow.laid w) : laidMetH Tryd.prog Rows.citationDisjointRow.laid w' := k.of_heap h
theorem citationDisjoint_met (os : Os) (args : Array Value) : laidMetH Tryd.prog Rows.citationDisjointRow.laid ((World.laidAll Tryd.prog os Rows.citationDisjointRow.laid).forCall (fun _ _ => 0) ⟨#[], args, []⟩).memory := by
  rw [MakeChecks.laidMetH_plain _ _ _ (by kernel_rfl)]; exact laidMet_laidAll _ (by kernel_rfl) (by kernel_rfl)
set_option maxRecDepth 100000 in
theorem citationDisjoint_lifted (os : Os) (started : os.Started) (H : Type) (enc : TypeId × Value → H) :
    ReturnsInHanded {} Tryd.checked os 6 .any (fun w args => (Rows.citationDisjointSpec.pre enc Tryd.prog Tryd.f6 Rows.citationDisjointRow.domain false w args ∧ laidMetH Tryd.prog Rows.citationDisjointRow.laid w) ∧ sizedMet enc Tryd.prog Tryd.f6 (OpenSpec.ofChange Rows.citationDisjointSpec) false w args) (Rows.citationDisjointSpec.post enc Tryd.prog Tryd.f6 false true false false) :=
  lifted_of_law_GS (C := Tryd.checked) (X := fun w _ => laidMetH Tryd.prog Rows.citationDisjointRow.laid w) (citationDisjoint_hx) Tryd.wown started (by kernel_rfl) Tryd.func6
    (ChangeSpec.witness_shaped (enc := enc) (C := Tryd.checked) (os := os) (X := fun w _ => laidMetH Tryd.prog Rows.citationDisjointRow.laid w) false (World.laidAll Tryd.prog os Rows.citationDisjointRow.laid) #[.slice none 0 0] 8 (World.laidAll_os _ _ _) (World.shaped_of_ZipB (by kernel_rfl) (by kernel_rfl)) (by kernel_rfl) (by kernel_rfl) (by kernel_rfl) (citationDisjoint_met os _))
    Tryd.wlaidOut (by kernel_rfl) rfl Tryd.underlying4 rfl
    (fun | [_], _ => ⟨rfl, rfl, rfl⟩) citationDisjoint_law

theorem citationDisjoint_row_holds : Rows.CitationDisjointSaid :=
  OpenClaim.holds_of_wide 6 Tryd.f6 rfl rfl rfl rfl rfl rfl rfl ⟨rfl, rfl, rfl, rfl, rfl⟩ rfl rfl rfl rfl rfl (by kernel_rfl) Tryd.func6 (by kernel_rfl)
    (of_decide_eq_true (by kernel_rfl)) (by unfold Func.isWrapper; first | (rw [if_pos (by decide +kernel)]; kernel_rfl) | (rw [if_neg (by decide +kernel)]; exact ⟨rfl, rfl⟩))
    (fun os started H enc _ => citationDisjoint_lifted os started H enc)

theorem citationDisjoint_holds : Rows.CitationDisjointCardSaid :=
  Claim7.holds_tied_plain_at .later [] [.data, .pinned] true (true, "ab0f6ceae33cb2098a0e9f4ce22b4c5c35925406d826b2831dce8bcd3604c70f") false
    citationDisjoint_row_holds (fun _ h => by cases h) (by kernel_rfl) (fun _ h => by cases h) citationDisjoint_row_tie rfl ⟨rfl, rfl⟩ (by kernel_rfl) rfl
    (fun f fn hf hfn => by
      obtain rfl : f = 6 := Option.some.inj ((show Tryd.prog.funcNamed "pandect/pandectlaw20.CitationDisjoint" = some 6 by kernel_rfl).symm.trans hf) |>.symm
      obtain rfl : fn = Tryd.f6 := (Option.some.inj (Tryd.func6.symm.trans hfn)).symm
      exact ⟨by kernel_rfl, fun j t ht => by
        rw [Tryd.params6] at ht
        have hm : t ∈ [28] := by simpa using Array.mem_of_getElem? ht
        have hall : ([28].all fun u => !Tryd.prog.wantsStandIn u) = true := by kernel_rfl
        exact (show Tryd.prog.wantsStandIn t = false by simpa using List.all_eq_true.1 hall t hm)⟩)
    (by kernel_rfl)
theorem wrd3 (W : World) : Rds Tryd.prog W 3 (tI .i64) := Rds.int Tryd.underlying3
theorem wok3 {W : World} {base : Nat} (v : Value) (h : Value.okWide Tryd.prog W .any base 3 v) : v = mkVal false v.cells.toList := okW_int Tryd.underlying3 v h
theorem wrd50 (W : World) : Rds Tryd.prog W 50 tapi_Step := Rds.struct (fun x => (⟨x.1, x.2⟩ : api_Step)) (fun _ => rfl) Tryd.underlying50 (by kernel_rfl) (RdF.cons rfl (by kernel_rfl) rfl (wrd3 W) (RdF.last rfl (by kernel_rfl) (wrd9 W)))
theorem wok50 {W : World} {base : Nat} (v : Value) (h : Value.okWide Tryd.prog W .any base 50 v) : v = mkVal true v.cells.toList := okW_struct Tryd.underlying50 v h
theorem wrd22 (W : World) : Rds Tryd.prog W 22 (tL tapi_Step) := Rds.slice Tryd.underlying22 (wrd50 W) (by kernel_rfl) (by decide) (of_decide_eq_true (by kernel_rfl))
theorem wok22 {W : World} {base : Nat} (v : Value) (h : Value.okWide Tryd.prog W .any base 22 v) : v = mkVal false v.cells.toList := okW_slice Tryd.underlying22 v h

theorem citationWords_law (W : World) (base : Nat) (vs : List Value) (hx : ∃ args : Array Value, laidMetH Tryd.prog Rows.citationWordsRow.laid W) (hsh : W.ShapedOpen Tryd.prog) (h : ArgsOk Tryd.prog W base Tryd.f7.params.toList vs) : ∃ As rin, All2 As vs (G.top W) ∧ rin.all (G.top W) ∧ NoBlk rin ∧ FSpecR Tryd.prog 7 As rin (fun _ : Unit => tB.is true) (fun _ => []) := by
  rw [Tryd.params7] at h
  obtain ⟨v1, vs, x1, rfl, h1, h⟩ := ArgsOk.cons (t := (tL tapi_Step)) h (wrd22 W) wok22
  obtain rfl := h.nil
  obtain ⟨n, hm⟩ := cwords_true x1 (fits_path h1)
  obtain ⟨_, hx⟩ := hx
  have g0 : (GlE 0).holds (G.top W) := (Tryd.maxlen W hsh).imp fun m h => (top_has h).2
  refine ⟨[(tL tapi_Step).is x1], [(700000, GlE 0)], ⟨h1, trivial⟩, fun y hy => ?_, ⟨rfl, trivial⟩, law20_CitationWords_spec n x1 true hm⟩
  simp only [List.mem_cons, List.not_mem_nil, or_false] at hy
  rcases hy with rfl
  · exact g0

theorem citationWords_hx (w w' : World) (args : Array Value) (h : w.heap = w'.heap) (k : laidMetH Tryd.prog Rows.citationWordsRow.laid w) : laidMetH Tryd.prog Rows.citationWordsRow.laid w' := k.of_heap h
theorem citationWords_met (os : Os) (args : Array Value) : laidMetH Tryd.prog Rows.citationWordsRow.laid ((World.laidAll Tryd.prog os Rows.citationWordsRow.laid).forCall (fun _ _ => 0) ⟨#[], args, []⟩).memory := by
  rw [MakeChecks.laidMetH_plain _ _ _ (by kernel_rfl)]; exact laidMet_laidAll _ (by kernel_rfl) (by kernel_rfl)
set_option maxRecDepth 100000 in
theorem citationWords_lifted (os : Os) (started : os.Started) (H : Type) (enc : TypeId × Value → H) :
    ReturnsInHanded {} Tryd.checked os 7 .any (fun w args => (Rows.citationWordsSpec.pre enc Tryd.prog Tryd.f7 Rows.citationWordsRow.domain false w args ∧ laidMetH Tryd.prog Rows.citationWordsRow.laid w) ∧ sizedMet enc Tryd.prog Tryd.f7 (OpenSpec.ofChange Rows.citationWordsSpec) false w args) (Rows.citationWordsSpec.post enc Tryd.prog Tryd.f7 false true false false) :=
  lifted_of_law_GS (C := Tryd.checked) (X := fun w _ => laidMetH Tryd.prog Rows.citationWordsRow.laid w) (citationWords_hx) Tryd.wown started (by kernel_rfl) Tryd.func7
    (ChangeSpec.witness_shaped (enc := enc) (C := Tryd.checked) (os := os) (X := fun w _ => laidMetH Tryd.prog Rows.citationWordsRow.laid w) false (World.laidAll Tryd.prog os Rows.citationWordsRow.laid) #[.slice none 0 0] 8 (World.laidAll_os _ _ _) (World.shaped_of_ZipB (by kernel_rfl) (by kernel_rfl)) (by kernel_rfl) (by kernel_rfl) (by kernel_rfl) (citationWords_met os _))
    Tryd.wlaidOut (by kernel_rfl) rfl Tryd.underlying4 rfl
    (fun | [_], _ => ⟨rfl, rfl, rfl⟩) citationWords_law

theorem citationWords_row_holds : Rows.CitationWordsSaid :=
  OpenClaim.holds_of_wide 7 Tryd.f7 rfl rfl rfl rfl rfl rfl rfl ⟨rfl, rfl, rfl, rfl, rfl⟩ rfl rfl rfl rfl rfl (by kernel_rfl) Tryd.func7 (by kernel_rfl)
    (of_decide_eq_true (by kernel_rfl)) (by unfold Func.isWrapper; first | (rw [if_pos (by decide +kernel)]; kernel_rfl) | (rw [if_neg (by decide +kernel)]; exact ⟨rfl, rfl⟩))
    (fun os started H enc _ => citationWords_lifted os started H enc)

theorem citationWords_holds : Rows.CitationWordsCardSaid :=
  Claim7.holds_tied_plain_at .later [] [.data, .pinned] true (true, "ab0f6ceae33cb2098a0e9f4ce22b4c5c35925406d826b2831dce8bcd3604c70f") false
    citationWords_row_holds (fun _ h => by cases h) (by kernel_rfl) (fun _ h => by cases h) citationWords_row_tie rfl ⟨rfl, rfl⟩ (by kernel_rfl) rfl
    (fun f fn hf hfn => by
      obtain rfl : f = 7 := Option.some.inj ((show Tryd.prog.funcNamed "pandect/pandectlaw20.CitationWords" = some 7 by kernel_rfl).symm.trans hf) |>.symm
      obtain rfl : fn = Tryd.f7 := (Option.some.inj (Tryd.func7.symm.trans hfn)).symm
      exact ⟨by kernel_rfl, fun j t ht => by
        rw [Tryd.params7] at ht
        have hm : t ∈ [22] := by simpa using Array.mem_of_getElem? ht
        have hall : ([22].all fun u => !Tryd.prog.wantsStandIn u) = true := by kernel_rfl
        exact (show Tryd.prog.wantsStandIn t = false by simpa using List.all_eq_true.1 hall t hm)⟩)
    (by kernel_rfl)
theorem wrd24 (W : World) : Rds Tryd.prog W 24 tapi_Cite := Rds.struct (fun x => (⟨x.1, x.2.1, x.2.2.1, x.2.2.2.1, x.2.2.2.2⟩ : api_Cite)) (fun _ => rfl) Tryd.underlying24 (by kernel_rfl) (RdF.cons rfl (by kernel_rfl) rfl (wrd3 W) (RdF.cons rfl (by kernel_rfl) rfl (wrd22 W) (RdF.cons rfl (by kernel_rfl) rfl (wrd9 W) (RdF.cons rfl (by kernel_rfl) rfl (wrd3 W) (RdF.last rfl (by kernel_rfl) (wrd3 W))))))
theorem wok24 {W : World} {base : Nat} (v : Value) (h : Value.okWide Tryd.prog W .any base 24 v) : v = mkVal true v.cells.toList := okW_struct Tryd.underlying24 v h

theorem citationRoundTrip_law (W : World) (base : Nat) (vs : List Value) (hx : ∃ args : Array Value, laidMetH Tryd.prog Rows.citationRoundTripRow.laid W) (hsh : W.ShapedOpen Tryd.prog) (h : ArgsOk Tryd.prog W base Tryd.f8.params.toList vs) : ∃ As rin, All2 As vs (G.top W) ∧ rin.all (G.top W) ∧ NoBlk rin ∧ FSpecR Tryd.prog 8 As rin (fun _ : Unit => tB.is true) (fun _ => []) := by
  rw [Tryd.params8] at h
  obtain ⟨v1, vs, x1, rfl, h1, h⟩ := ArgsOk.cons (t := tapi_Cite) h (wrd24 W) wok24
  obtain rfl := h.nil
  obtain ⟨n, hm⟩ := croundtrip_true x1 (fits_is h1)
  obtain ⟨_, hx⟩ := hx
  have g0 : (GlE 0).holds (G.top W) := (Tryd.maxlen W hsh).imp fun m h => (top_has h).2
  refine ⟨[tapi_Cite.is x1], [(700000, GlE 0)], ⟨h1, trivial⟩, fun y hy => ?_, ⟨rfl, trivial⟩, law20_CitationRoundTrip_spec n x1 true hm⟩
  simp only [List.mem_cons, List.not_mem_nil, or_false] at hy
  rcases hy with rfl
  · exact g0

theorem citationRoundTrip_hx (w w' : World) (args : Array Value) (h : w.heap = w'.heap) (k : laidMetH Tryd.prog Rows.citationRoundTripRow.laid w) : laidMetH Tryd.prog Rows.citationRoundTripRow.laid w' := k.of_heap h
theorem citationRoundTrip_met (os : Os) (args : Array Value) : laidMetH Tryd.prog Rows.citationRoundTripRow.laid ((World.laidAll Tryd.prog os Rows.citationRoundTripRow.laid).forCall (fun _ _ => 0) ⟨#[], args, []⟩).memory := by
  rw [MakeChecks.laidMetH_plain _ _ _ (by kernel_rfl)]; exact laidMet_laidAll _ (by kernel_rfl) (by kernel_rfl)
set_option maxRecDepth 100000 in
theorem citationRoundTrip_lifted (os : Os) (started : os.Started) (H : Type) (enc : TypeId × Value → H) :
    ReturnsInHanded {} Tryd.checked os 8 .any (fun w args => (Rows.citationRoundTripSpec.pre enc Tryd.prog Tryd.f8 Rows.citationRoundTripRow.domain false w args ∧ laidMetH Tryd.prog Rows.citationRoundTripRow.laid w) ∧ sizedMet enc Tryd.prog Tryd.f8 (OpenSpec.ofChange Rows.citationRoundTripSpec) false w args) (Rows.citationRoundTripSpec.post enc Tryd.prog Tryd.f8 false true false false) :=
  lifted_of_law_GS (C := Tryd.checked) (X := fun w _ => laidMetH Tryd.prog Rows.citationRoundTripRow.laid w) (citationRoundTrip_hx) Tryd.wown started (by kernel_rfl) Tryd.func8
    (ChangeSpec.witness_shaped (enc := enc) (C := Tryd.checked) (os := os) (X := fun w _ => laidMetH Tryd.prog Rows.citationRoundTripRow.laid w) false (World.laidAll Tryd.prog os Rows.citationRoundTripRow.laid) #[.agg #[.int .i64 0, .slice none 0 0, .string ⟨#[]⟩, .int .i64 0, .int .i64 0]] 8 (World.laidAll_os _ _ _) (World.shaped_of_ZipB (by kernel_rfl) (by kernel_rfl)) (by kernel_rfl) (by kernel_rfl) (by kernel_rfl) (citationRoundTrip_met os _))
    Tryd.wlaidOut (by kernel_rfl) rfl Tryd.underlying4 rfl
    (fun | [_], _ => ⟨rfl, rfl, rfl⟩) citationRoundTrip_law

theorem citationRoundTrip_row_holds : Rows.CitationRoundTripSaid :=
  OpenClaim.holds_of_wide 8 Tryd.f8 rfl rfl rfl rfl rfl rfl rfl ⟨rfl, rfl, rfl, rfl, rfl⟩ rfl rfl rfl rfl rfl (by kernel_rfl) Tryd.func8 (by kernel_rfl)
    (of_decide_eq_true (by kernel_rfl)) (by unfold Func.isWrapper; first | (rw [if_pos (by decide +kernel)]; kernel_rfl) | (rw [if_neg (by decide +kernel)]; exact ⟨rfl, rfl⟩))
    (fun os started H enc _ => citationRoundTrip_lifted os started H enc)

theorem citationRoundTrip_holds : Rows.CitationRoundTripCardSaid :=
  Claim7.holds_tied_plain_at .later [] [.data, .pinned] true (true, "ab0f6ceae33cb2098a0e9f4ce22b4c5c35925406d826b2831dce8bcd3604c70f") false
    citationRoundTrip_row_holds (fun _ h => by cases h) (by kernel_rfl) (fun _ h => by cases h) citationRoundTrip_row_tie rfl ⟨rfl, rfl⟩ (by kernel_rfl) rfl
    (fun f fn hf hfn => by
      obtain rfl : f = 8 := Option.some.inj ((show Tryd.prog.funcNamed "pandect/pandectlaw20.CitationRoundTrip" = some 8 by kernel_rfl).symm.trans hf) |>.symm
      obtain rfl : fn = Tryd.f8 := (Option.some.inj (Tryd.func8.symm.trans hfn)).symm
      exact ⟨by kernel_rfl, fun j t ht => by
        rw [Tryd.params8] at ht
        have hm : t ∈ [24] := by simpa using Array.mem_of_getElem? ht
        have hall : ([24].all fun u => !Tryd.prog.wantsStandIn u) = true := by kernel_rfl
        exact (show Tryd.prog.wantsStandIn t = false by simpa using List.all_eq_true.1 hall t hm)⟩)
    (by kernel_rfl)

end Go.Proofs.YtnmkblpbmoikpaaDoor
