/-
  The rows of these laws, proved: for each law the walk of its code and its plain law, put together. No condition.
-/
import Derived.Test.YtalogjkalmkpjaaDoorRows
import Derived.Test.YtalogjkalmkpjaaDoorReadR
import Derived.Test.YtalogjkalmkpjaaDoorReadH
import Derived.Test.YtalogjkalmkpjaaDoorTie
import Derived.Test.YtalogjkalmkpjaaDoorCards
import Derived.SevenTiedAt
import Derived.Lay
import Derived.Test.YtalogjkalmkpjaaDoorWb
import Derived.Test.YtalogjkalmkpjaaDoorPd
import Derived.ProofKit
set_option linter.unusedVariables false
set_option linter.unusedSimpArgs false
set_option maxRecDepth 100000
namespace Go.Proofs.YtalogjkalmkpjaaDoor
open Go Go.Dec Go.ChangeShapes Go.WideShapes Go.ChangeAt Go.RowKit
theorem Tryd.mown : ownKnob Tryd.prog.godebug = none := by kernel_rfl
theorem Tryd.mlaidOut : laidOutB Tryd.prog = true := by kernel_rfl
theorem mrd3 (W : World) : Rds Tryd.prog W 3 (tI .i64) := Rds.int Tryd.underlying3
theorem mok3 {W : World} {base : Nat} (v : Value) (h : Value.okWide Tryd.prog W .any base 3 v) : v = mkVal false v.cells.toList := okW_int Tryd.underlying3 v h
theorem mrd9 (W : World) : Rds Tryd.prog W 9 tS := Rds.string Tryd.underlying9
theorem mok9 {W : World} {base : Nat} (v : Value) (h : Value.okWide Tryd.prog W .any base 9 v) : v = mkVal false v.cells.toList := okW_string Tryd.underlying9 v h
theorem mrd38 (W : World) : Rds Tryd.prog W 38 tapi_TrackedWord := Rds.struct (fun x => (⟨x.1, x.2⟩ : api_TrackedWord)) (fun _ => rfl) Tryd.underlying38 (by kernel_rfl) (RdF.cons rfl (by kernel_rfl) rfl (mrd3 W) (RdF.last rfl (by kernel_rfl) (mrd9 W)))
theorem mok38 {W : World} {base : Nat} (v : Value) (h : Value.okWide Tryd.prog W .any base 38 v) : v = mkVal true v.cells.toList := okW_struct Tryd.underlying38 v h
theorem mrd22 (W : World) : Rds Tryd.prog W 22 (tL tapi_TrackedWord) := Rds.slice Tryd.underlying22 (mrd38 W) (by kernel_rfl) (by decide) (of_decide_eq_true (by kernel_rfl))
theorem mok22 {W : World} {base : Nat} (v : Value) (h : Value.okWide Tryd.prog W .any base 22 v) : v = mkVal false v.cells.toList := okW_slice Tryd.underlying22 v h
theorem mgr0 (W : World) : RdV Tryd.prog W 45 (tA 3 tS) Rows.laid_pandect_markup_open gv0 := (RdV.array Tryd.underlying45 (by kernel_rfl) (by kernel_rfl) rfl ⟨(RdV.string Tryd.underlying9 (by decide)), (RdV.string Tryd.underlying9 (by decide)), (RdV.string Tryd.underlying9 (by decide)), trivial⟩)
theorem mgr1 (W : World) : RdV Tryd.prog W 45 (tA 3 tS) Rows.laid_pandect_markup_shut gv1 := (RdV.array Tryd.underlying45 (by kernel_rfl) (by kernel_rfl) rfl ⟨(RdV.string Tryd.underlying9 (by decide)), (RdV.string Tryd.underlying9 (by decide)), (RdV.string Tryd.underlying9 (by decide)), trivial⟩)
theorem mgr2 (W : World) : RdV Tryd.prog W 95 (tA 8 tS) Rows.laid_pandect_unit_names gv2 := (RdV.array Tryd.underlying95 (by kernel_rfl) (by kernel_rfl) rfl ⟨(RdV.string Tryd.underlying9 (by decide)), (RdV.string Tryd.underlying9 (by decide)), (RdV.string Tryd.underlying9 (by decide)), (RdV.string Tryd.underlying9 (by decide)), (RdV.string Tryd.underlying9 (by decide)), (RdV.string Tryd.underlying9 (by decide)), (RdV.string Tryd.underlying9 (by decide)), (RdV.string Tryd.underlying9 (by decide)), trivial⟩)
theorem mgr6 (W : World) : RdV Tryd.prog W 126 (tA 20 (tI .u64)) Rows.laid_internal_strconv_uint64pow10 Lib.pow10Tab := by
  rw [show Lib.pow10Tab = [(1 : Int), (10 : Int), (100 : Int), (1000 : Int), (10000 : Int), (100000 : Int), (1000000 : Int), (10000000 : Int), (100000000 : Int), (1000000000 : Int), (10000000000 : Int), (100000000000 : Int), (1000000000000 : Int), (10000000000000 : Int), (100000000000000 : Int), (1000000000000000 : Int), (10000000000000000 : Int), (100000000000000000 : Int), (1000000000000000000 : Int), (10000000000000000000 : Int)] from by decide]
  exact (RdV.array Tryd.underlying126 (by kernel_rfl) (by kernel_rfl) rfl ⟨(RdV.int Tryd.underlying108 (by decide)), (RdV.int Tryd.underlying108 (by decide)), (RdV.int Tryd.underlying108 (by decide)), (RdV.int Tryd.underlying108 (by decide)), (RdV.int Tryd.underlying108 (by decide)), (RdV.int Tryd.underlying108 (by decide)), (RdV.int Tryd.underlying108 (by decide)), (RdV.int Tryd.underlying108 (by decide)), (RdV.int Tryd.underlying108 (by decide)), (RdV.int Tryd.underlying108 (by decide)), (RdV.int Tryd.underlying108 (by decide)), (RdV.int Tryd.underlying108 (by decide)), (RdV.int Tryd.underlying108 (by decide)), (RdV.int Tryd.underlying108 (by decide)), (RdV.int Tryd.underlying108 (by decide)), (RdV.int Tryd.underlying108 (by decide)), (RdV.int Tryd.underlying108 (by decide)), (RdV.int Tryd.underlying108 (by decide)), (RdV.int Tryd.underlying108 (by decide)), (RdV.int Tryd.underlying108 (by decide)), trivial⟩)
theorem markupFormatWords_law (W : World) (base : Nat) (vs : List Value) (hx : ∃ args : Array Value, laidMetH Tryd.prog Rows.markupFormatWordsRow.laid W) (hsh : W.ShapedOpen Tryd.prog) (h : ArgsOk Tryd.prog W base Tryd.f3.params.toList vs) : ∃ As rin, All2 As vs (G.top W) ∧ rin.all (G.top W) ∧ NoBlk rin ∧ FSpecR Tryd.prog 3 As rin (fun _ : Unit => tB.is true) (fun _ => []) := by
  rw [Tryd.params3] at h
  obtain ⟨v1, vs, x1, rfl, h1, h⟩ := ArgsOk.cons (t := (tL tapi_TrackedWord)) h (mrd22 W) mok22
  obtain rfl := h.nil
  obtain ⟨n, hm⟩ := formatwords_true x1
  obtain ⟨_, hx⟩ := hx
  have g0 : (Gl (tA 3 tS) 0 gv0).holds (G.top W) := Gl.ofLaid (laid := Rows.markupFormatWordsRow.laid) (by kernel_rfl) hx (name := "pandect/markup.open") (by simp [Rows.markupFormatWordsRow]; done) (by kernel_rfl) (by kernel_rfl) (mgr0 W)
  have g1 : (Gl (tA 3 tS) 1 gv1).holds (G.top W) := Gl.ofLaid (laid := Rows.markupFormatWordsRow.laid) (by kernel_rfl) hx (name := "pandect/markup.shut") (by simp [Rows.markupFormatWordsRow]; done) (by kernel_rfl) (by kernel_rfl) (mgr1 W)
  have g2 : (Gl (tA 8 tS) 2 gv2).holds (G.top W) := Gl.ofLaid (laid := Rows.markupFormatWordsRow.laid) (by kernel_rfl) hx (name := "pandect/unit.names") (by simp [Rows.markupFormatWordsRow]; done) (by kernel_rfl) (by kernel_rfl) (mgr2 W)
  have g3 : (GlE 3).holds (G.top W) := (Tryd.maxlen W hsh).imp fun m h => (top_has h).2
  have g6 : (GlT Tryd.prog "internal/strconv.uint64pow10" .u64 Lib.pow10Tab).holds (G.top W) := GlT.ofLaid (laid := Rows.markupFormatWordsRow.laid) (by kernel_rfl) hx (name := "internal/strconv.uint64pow10") (by simp [Rows.markupFormatWordsRow]; done) (b := 6) (by kernel_rfl) (by kernel_rfl) (mgr6 W) (by decide)
  refine ⟨[(tL tapi_TrackedWord).is x1], [(700000, Gl (tA 3 tS) 0 gv0), (700001, Gl (tA 3 tS) 1 gv1), (700002, Gl (tA 8 tS) 2 gv2), (700003, GlE 3), (700006, GlT Tryd.prog "internal/strconv.uint64pow10" .u64 Lib.pow10Tab)], ⟨h1, trivial⟩, fun y hy => ?_, ⟨rfl, rfl, rfl, rfl, rfl, trivial⟩, law53_MarkupFormatWords_spec n x1 true hm⟩
  simp only [List.mem_cons, List.not_mem_nil, or_false] at hy
  rcases hy with rfl | rfl | rfl | rfl | rfl
  · exact g0
  · exact g1
  · exact g2
  · exact g3
  · exact g6
theorem markupFormatWords_hx (w w' : World) (args : Array Value) (h : w.heap = w'.heap) (k : laidMetH Tryd.prog Rows.markupFormatWordsRow.laid w) : laidMetH Tryd.prog Rows.markupFormatWordsRow.laid w' := k.of_heap h
theorem markupFormatWords_met (os : Os) (args : Array Value) : laidMetH Tryd.prog Rows.markupFormatWordsRow.laid ((World.laidAll Tryd.prog os Rows.markupFormatWordsRow.laid).forCall (fun _ _ => 0) ⟨#[], args, []⟩).memory := by
  rw [MakeChecks.laidMetH_plain _ _ _ (by kernel_rfl)]; exact laidMet_laidAll _ (by kernel_rfl) (by kernel_rfl)
set_option maxRecDepth 100000 in
theorem markupFormatWords_lifted (os : Os) (started : os.Started) (H : Type) (enc : TypeId × Value → H) :
    ReturnsInHanded {} Tryd.checked os 3 .any (fun w args => (Rows.markupFormatWordsSpec.pre enc Tryd.prog Tryd.f3 Rows.markupFormatWordsRow.domain false w args ∧ laidMetH Tryd.prog Rows.markupFormatWordsRow.laid w) ∧ sizedMet enc Tryd.prog Tryd.f3 (OpenSpec.ofChange Rows.markupFormatWordsSpec) false w args) (Rows.markupFormatWordsSpec.post enc Tryd.prog Tryd.f3 false true false false) :=
  lifted_of_law_GS (C := Tryd.checked) (X := fun w _ => laidMetH Tryd.prog Rows.markupFormatWordsRow.laid w) (markupFormatWords_hx) Tryd.mown started (by kernel_rfl) Tryd.func3
    (ChangeSpec.witness_shaped (enc := enc) (C := Tryd.checked) (os := os) (X := fun w _ => laidMetH Tryd.prog Rows.markupFormatWordsRow.laid w) false (World.laidAll Tryd.prog os Rows.markupFormatWordsRow.laid) #[.slice none 0 0] 8 (World.laidAll_os _ _ _) (World.shaped_of_ZipB (by kernel_rfl) (by kernel_rfl)) (by kernel_rfl) (by kernel_rfl) (by kernel_rfl) (markupFormatWords_met os _))
    Tryd.mlaidOut (by kernel_rfl) rfl Tryd.underlying4 rfl
    (fun | [_], _ => ⟨rfl, rfl, rfl⟩) markupFormatWords_law
theorem markupFormatWords_row_holds : Rows.MarkupFormatWordsSaid :=
  OpenClaim.holds_of_wide 3 Tryd.f3 rfl rfl rfl rfl rfl rfl rfl ⟨rfl, rfl, rfl, rfl, rfl⟩ rfl rfl rfl rfl rfl (by kernel_rfl) Tryd.func3 (by kernel_rfl)
    (of_decide_eq_true (by kernel_rfl)) (by unfold Func.isWrapper; first | (rw [if_pos (by decide +kernel)]; kernel_rfl) | (rw [if_neg (by decide +kernel)]; exact ⟨rfl, rfl⟩))
    (fun os started H enc _ => markupFormatWords_lifted os started H enc)
theorem markupFormatWords_holds : Rows.MarkupFormatWordsCardSaid :=
  Claim7.holds_tied_plain_at .later [] [.data, .data, .data, .data, .data, .data, .data, .pinned] true (true, "2ef274091d8e9213b9ebf6f29144634d61c4bcce5d5a9ded992cfb68489cbcdc") false
    markupFormatWords_row_holds (fun _ h => by cases h) (by kernel_rfl) (fun _ h => by cases h) markupFormatWords_row_tie rfl ⟨rfl, rfl⟩ (by kernel_rfl) rfl
    (fun f fn hf hfn => by
      obtain rfl : f = 3 := Option.some.inj ((show Tryd.prog.funcNamed "pandect/pandectlaw53.MarkupFormatWords" = some 3 by kernel_rfl).symm.trans hf) |>.symm
      obtain rfl : fn = Tryd.f3 := (Option.some.inj (Tryd.func3.symm.trans hfn)).symm
      exact ⟨by kernel_rfl, fun j t ht => by
        rw [Tryd.params3] at ht
        have hm : t ∈ [22] := by simpa using Array.mem_of_getElem? ht
        have hall : ([22].all fun u => !Tryd.prog.wantsStandIn u) = true := by kernel_rfl
        exact (show Tryd.prog.wantsStandIn t = false by simpa using List.all_eq_true.1 hall t hm)⟩)
    (by kernel_rfl)
theorem markupParseWords_law (W : World) (base : Nat) (vs : List Value) (hx : ∃ args : Array Value, laidMetH Tryd.prog Rows.markupParseWordsRow.laid W) (hsh : W.ShapedOpen Tryd.prog) (h : ArgsOk Tryd.prog W base Tryd.f4.params.toList vs) : ∃ As rin, All2 As vs (G.top W) ∧ rin.all (G.top W) ∧ NoBlk rin ∧ FSpecR Tryd.prog 4 As rin (fun _ : Unit => tB.is true) (fun _ => []) := by
  rw [Tryd.params4] at h
  obtain ⟨v1, vs, x1, rfl, h1, h⟩ := ArgsOk.cons (t := tS) h (mrd9 W) mok9
  obtain rfl := h.nil
  obtain ⟨n, hm⟩ := parsewords_true x1
  obtain ⟨_, hx⟩ := hx
  have g0 : (Gl (tA 3 tS) 0 gv0).holds (G.top W) := Gl.ofLaid (laid := Rows.markupParseWordsRow.laid) (by kernel_rfl) hx (name := "pandect/markup.open") (by simp [Rows.markupParseWordsRow]; done) (by kernel_rfl) (by kernel_rfl) (mgr0 W)
  have g1 : (Gl (tA 3 tS) 1 gv1).holds (G.top W) := Gl.ofLaid (laid := Rows.markupParseWordsRow.laid) (by kernel_rfl) hx (name := "pandect/markup.shut") (by simp [Rows.markupParseWordsRow]; done) (by kernel_rfl) (by kernel_rfl) (mgr1 W)
  have g2 : (Gl (tA 8 tS) 2 gv2).holds (G.top W) := Gl.ofLaid (laid := Rows.markupParseWordsRow.laid) (by kernel_rfl) hx (name := "pandect/unit.names") (by simp [Rows.markupParseWordsRow]; done) (by kernel_rfl) (by kernel_rfl) (mgr2 W)
  have g3 : (GlE 3).holds (G.top W) := (Tryd.maxlen W hsh).imp fun m h => (top_has h).2
  have g6 : (GlT Tryd.prog "internal/strconv.uint64pow10" .u64 Lib.pow10Tab).holds (G.top W) := GlT.ofLaid (laid := Rows.markupParseWordsRow.laid) (by kernel_rfl) hx (name := "internal/strconv.uint64pow10") (by simp [Rows.markupParseWordsRow]; done) (b := 6) (by kernel_rfl) (by kernel_rfl) (mgr6 W) (by decide)
  refine ⟨[tS.is x1], [(700000, Gl (tA 3 tS) 0 gv0), (700001, Gl (tA 3 tS) 1 gv1), (700002, Gl (tA 8 tS) 2 gv2), (700003, GlE 3), (700006, GlT Tryd.prog "internal/strconv.uint64pow10" .u64 Lib.pow10Tab)], ⟨h1, trivial⟩, fun y hy => ?_, ⟨rfl, rfl, rfl, rfl, rfl, trivial⟩, law53_MarkupParseWords_spec n x1 true hm⟩
  simp only [List.mem_cons, List.not_mem_nil, or_false] at hy
  rcases hy with rfl | rfl | rfl | rfl | rfl
  · exact g0
  · exact g1
  · exact g2
  · exact g3
  · exact g6
theorem markupParseWords_hx (w w' : World) (args : Array Value) (h : w.heap = w'.heap) (k : laidMetH Tryd.prog Rows.markupParseWordsRow.laid w) : laidMetH Tryd.prog Rows.markupParseWordsRow.laid w' := k.of_heap h
theorem markupParseWords_met (os : Os) (args : Array Value) : laidMetH Tryd.prog Rows.markupParseWordsRow.laid ((World.laidAll Tryd.prog os Rows.markupParseWordsRow.laid).forCall (fun _ _ => 0) ⟨#[], args, []⟩).memory := by
  rw [MakeChecks.laidMetH_plain _ _ _ (by kernel_rfl)]; exact laidMet_laidAll _ (by kernel_rfl) (by kernel_rfl)
set_option maxRecDepth 100000 in
theorem markupParseWords_lifted (os : Os) (started : os.Started) (H : Type) (enc : TypeId × Value → H) :
    ReturnsInHanded {} Tryd.checked os 4 .any (fun w args => (Rows.markupParseWordsSpec.pre enc Tryd.prog Tryd.f4 Rows.markupParseWordsRow.domain false w args ∧ laidMetH Tryd.prog Rows.markupParseWordsRow.laid w) ∧ sizedMet enc Tryd.prog Tryd.f4 (OpenSpec.ofChange Rows.markupParseWordsSpec) false w args) (Rows.markupParseWordsSpec.post enc Tryd.prog Tryd.f4 false true false false) :=
  lifted_of_law_GS (C := Tryd.checked) (X := fun w _ => laidMetH Tryd.prog Rows.markupParseWordsRow.laid w) (markupParseWords_hx) Tryd.mown started (by kernel_rfl) Tryd.func4
    (ChangeSpec.witness_shaped (enc := enc) (C := Tryd.checked) (os := os) (X := fun w _ => laidMetH Tryd.prog Rows.markupParseWordsRow.laid w) false (World.laidAll Tryd.prog os Rows.markupParseWordsRow.laid) #[.string ⟨#[]⟩] 8 (World.laidAll_os _ _ _) (World.shaped_of_ZipB (by kernel_rfl) (by kernel_rfl)) (by kernel_rfl) (by kernel_rfl) (by kernel_rfl) (markupParseWords_met os _))
    Tryd.mlaidOut (by kernel_rfl) rfl Tryd.underlying4 rfl
    (fun | [_], _ => ⟨rfl, rfl, rfl⟩) markupParseWords_law
theorem markupParseWords_row_holds : Rows.MarkupParseWordsSaid :=
  OpenClaim.holds_of_wide 4 Tryd.f4 rfl rfl rfl rfl rfl rfl rfl ⟨rfl, rfl, rfl, rfl, rfl⟩ rfl rfl rfl rfl rfl (by kernel_rfl) Tryd.func4 (by kernel_rfl)
    (of_decide_eq_true (by kernel_rfl)) (by unfold Func.isWrapper; first | (rw [if_pos (by decide +kernel)]; kernel_rfl) | (rw [if_neg (by decide +kernel)]; exact ⟨rfl, rfl⟩))
    (fun os started H enc _ => markupParseWords_lifted os started H enc)
theorem markupParseWords_holds : Rows.MarkupParseWordsCardSaid :=
  Claim7.holds_tied_plain_at .later [] [.data, .data, .data, .data, .data, .data, .data, .pinned] true (true, "2ef274091d8e9213b9ebf6f29144634d61c4bcce5d5a9ded992cfb68489cbcdc") false
    markupParseWords_row_holds (fun _ h => by cases h) (by kernel_rfl) (fun _ h => by cases h) markupParseWords_row_tie rfl ⟨rfl, rfl⟩ (by kernel_rfl) rfl
    (fun f fn hf hfn => by
      obtain rfl : f = 4 := Option.some.inj ((show Tryd.prog.funcNamed "pandect/pandectlaw53.MarkupParseWords" = some 4 by kernel_rfl).symm.trans hf) |>.symm
      obtain rfl : fn = Tryd.f4 := (Option.some.inj (Tryd.func4.symm.trans hfn)).symm
      exact ⟨by kernel_rfl, fun j t ht => by
        rw [Tryd.params4] at ht
        have hm : t ∈ [9] := by simpa using Array.mem_of_getElem? ht
        have hall : ([9].all fun u => !Tryd.prog.wantsStandIn u) = true := by kernel_rfl
        exact (show Tryd.prog.wantsStandIn t = false by simpa using List.all_eq_true.1 hall t hm)⟩)
    (by kernel_rfl)
end Go.Proofs.YtalogjkalmkpjaaDoor
