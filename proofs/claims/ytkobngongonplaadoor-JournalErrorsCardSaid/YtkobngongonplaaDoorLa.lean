/-
  The rows of these laws, proved: for each law the walk of its code and its plain law, put together. No condition.
-/
import Derived.Test.YtkobngongonplaaDoorRows
import Derived.Test.YtkobngongonplaaDoorReadR
import Derived.Test.YtkobngongonplaaDoorReadH
import Derived.Test.YtkobngongonplaaDoorTie
import Derived.Test.YtkobngongonplaaDoorCards
import Derived.SevenTiedAt
import Derived.Lay
import Derived.Test.YtkobngongonplaaDoorWc
import Derived.Test.YtkobngongonplaaDoorPh
import Derived.ProofKit
set_option linter.unusedVariables false
set_option linter.unusedSimpArgs false
set_option maxRecDepth 100000
namespace Go.Proofs.YtkobngongonplaaDoor
open Go Go.Dec Go.ChangeShapes Go.WideShapes Go.ChangeAt Go.RowKit
theorem Tryd.jown : ownKnob Tryd.prog.godebug = none := by kernel_rfl
theorem Tryd.jlaidOut : laidOutB Tryd.prog = true := by kernel_rfl
theorem jrd9 (W : World) : Rds Tryd.prog W 9 tS := Rds.string Tryd.underlying9
theorem jok9 {W : World} {base : Nat} (v : Value) (h : Value.okWide Tryd.prog W .any base 9 v) : v = mkVal false v.cells.toList := okW_string Tryd.underlying9 v h
theorem jrd5 (W : World) : Rds Tryd.prog W 5 (tI .u8) := Rds.int Tryd.underlying5
theorem jok5 {W : World} {base : Nat} (v : Value) (h : Value.okWide Tryd.prog W .any base 5 v) : v = mkVal false v.cells.toList := okW_int Tryd.underlying5 v h
theorem jrd3 (W : World) : Rds Tryd.prog W 3 (tI .i64) := Rds.int Tryd.underlying3
theorem jok3 {W : World} {base : Nat} (v : Value) (h : Value.okWide Tryd.prog W .any base 3 v) : v = mkVal false v.cells.toList := okW_int Tryd.underlying3 v h
theorem jgr3 (W : World) : RdV Tryd.prog W 125 (tA 20 (tI .u64)) Rows.laid_internal_strconv_uint64pow10 Lib.pow10Tab := by
  rw [show Lib.pow10Tab = [(1 : Int), (10 : Int), (100 : Int), (1000 : Int), (10000 : Int), (100000 : Int), (1000000 : Int), (10000000 : Int), (100000000 : Int), (1000000000 : Int), (10000000000 : Int), (100000000000 : Int), (1000000000000 : Int), (10000000000000 : Int), (100000000000000 : Int), (1000000000000000 : Int), (10000000000000000 : Int), (100000000000000000 : Int), (1000000000000000000 : Int), (10000000000000000000 : Int)] from by decide]
  exact (RdV.array Tryd.underlying125 (by kernel_rfl) (by kernel_rfl) rfl ⟨(RdV.int Tryd.underlying83 (by decide)), (RdV.int Tryd.underlying83 (by decide)), (RdV.int Tryd.underlying83 (by decide)), (RdV.int Tryd.underlying83 (by decide)), (RdV.int Tryd.underlying83 (by decide)), (RdV.int Tryd.underlying83 (by decide)), (RdV.int Tryd.underlying83 (by decide)), (RdV.int Tryd.underlying83 (by decide)), (RdV.int Tryd.underlying83 (by decide)), (RdV.int Tryd.underlying83 (by decide)), (RdV.int Tryd.underlying83 (by decide)), (RdV.int Tryd.underlying83 (by decide)), (RdV.int Tryd.underlying83 (by decide)), (RdV.int Tryd.underlying83 (by decide)), (RdV.int Tryd.underlying83 (by decide)), (RdV.int Tryd.underlying83 (by decide)), (RdV.int Tryd.underlying83 (by decide)), (RdV.int Tryd.underlying83 (by decide)), (RdV.int Tryd.underlying83 (by decide)), (RdV.int Tryd.underlying83 (by decide)), trivial⟩)
theorem jgr7 (W : World) : RdV Tryd.prog W 140 (tA 64 (tI .u8)) Rows.laid_math_bits_deBruijn64tab gv7 := (RdV.array Tryd.underlying140 (by kernel_rfl) (by kernel_rfl) rfl ⟨(RdV.int Tryd.underlying5 (by decide)), (RdV.int Tryd.underlying5 (by decide)), (RdV.int Tryd.underlying5 (by decide)), (RdV.int Tryd.underlying5 (by decide)), (RdV.int Tryd.underlying5 (by decide)), (RdV.int Tryd.underlying5 (by decide)), (RdV.int Tryd.underlying5 (by decide)), (RdV.int Tryd.underlying5 (by decide)), (RdV.int Tryd.underlying5 (by decide)), (RdV.int Tryd.underlying5 (by decide)), (RdV.int Tryd.underlying5 (by decide)), (RdV.int Tryd.underlying5 (by decide)), (RdV.int Tryd.underlying5 (by decide)), (RdV.int Tryd.underlying5 (by decide)), (RdV.int Tryd.underlying5 (by decide)), (RdV.int Tryd.underlying5 (by decide)), (RdV.int Tryd.underlying5 (by decide)), (RdV.int Tryd.underlying5 (by decide)), (RdV.int Tryd.underlying5 (by decide)), (RdV.int Tryd.underlying5 (by decide)), (RdV.int Tryd.underlying5 (by decide)), (RdV.int Tryd.underlying5 (by decide)), (RdV.int Tryd.underlying5 (by decide)), (RdV.int Tryd.underlying5 (by decide)), (RdV.int Tryd.underlying5 (by decide)), (RdV.int Tryd.underlying5 (by decide)), (RdV.int Tryd.underlying5 (by decide)), (RdV.int Tryd.underlying5 (by decide)), (RdV.int Tryd.underlying5 (by decide)), (RdV.int Tryd.underlying5 (by decide)), (RdV.int Tryd.underlying5 (by decide)), (RdV.int Tryd.underlying5 (by decide)), (RdV.int Tryd.underlying5 (by decide)), (RdV.int Tryd.underlying5 (by decide)), (RdV.int Tryd.underlying5 (by decide)), (RdV.int Tryd.underlying5 (by decide)), (RdV.int Tryd.underlying5 (by decide)), (RdV.int Tryd.underlying5 (by decide)), (RdV.int Tryd.underlying5 (by decide)), (RdV.int Tryd.underlying5 (by decide)), (RdV.int Tryd.underlying5 (by decide)), (RdV.int Tryd.underlying5 (by decide)), (RdV.int Tryd.underlying5 (by decide)), (RdV.int Tryd.underlying5 (by decide)), (RdV.int Tryd.underlying5 (by decide)), (RdV.int Tryd.underlying5 (by decide)), (RdV.int Tryd.underlying5 (by decide)), (RdV.int Tryd.underlying5 (by decide)), (RdV.int Tryd.underlying5 (by decide)), (RdV.int Tryd.underlying5 (by decide)), (RdV.int Tryd.underlying5 (by decide)), (RdV.int Tryd.underlying5 (by decide)), (RdV.int Tryd.underlying5 (by decide)), (RdV.int Tryd.underlying5 (by decide)), (RdV.int Tryd.underlying5 (by decide)), (RdV.int Tryd.underlying5 (by decide)), (RdV.int Tryd.underlying5 (by decide)), (RdV.int Tryd.underlying5 (by decide)), (RdV.int Tryd.underlying5 (by decide)), (RdV.int Tryd.underlying5 (by decide)), (RdV.int Tryd.underlying5 (by decide)), (RdV.int Tryd.underlying5 (by decide)), (RdV.int Tryd.underlying5 (by decide)), (RdV.int Tryd.underlying5 (by decide)), trivial⟩)
theorem journalFragments_law (W : World) (base : Nat) (vs : List Value) (hx : ∃ args : Array Value, laidMetH Tryd.prog Rows.journalFragmentsRow.laid W) (hsh : W.ShapedOpen Tryd.prog) (h : ArgsOk Tryd.prog W base Tryd.f3.params.toList vs) : ∃ As rin, All2 As vs (G.top W) ∧ rin.all (G.top W) ∧ NoBlk rin ∧ FSpecR Tryd.prog 3 As rin (fun _ : Unit => tB.is true) (fun _ => []) := by
  rw [Tryd.params3] at h
  obtain ⟨v1, vs, x1, rfl, h1, h⟩ := ArgsOk.cons (t := tS) h (jrd9 W) jok9
  obtain ⟨v2, vs, x2, rfl, h2, h⟩ := ArgsOk.cons (t := (tI .u8)) h (jrd5 W) jok5
  obtain ⟨v3, vs, x3, rfl, h3, h⟩ := ArgsOk.cons (t := (tI .i64)) h (jrd3 W) jok3
  obtain ⟨v4, vs, x4, rfl, h4, h⟩ := ArgsOk.cons (t := (tI .i64)) h (jrd3 W) jok3
  obtain rfl := h.nil
  obtain ⟨n, hm⟩ := To.ex (fragments_true x1 x2 x3 x4)
  obtain ⟨_, hx⟩ := hx
  have g0 : (GlE 0).holds (G.top W) := (Tryd.maxlen W hsh).imp fun m h => (top_has h).2
  have g1 : (GlI 1).holds (G.top W) := GlI.ofLaid (laid := Rows.journalFragmentsRow.laid) (by kernel_rfl) hx (name := "strconv.ErrSyntax") (by simp [Rows.journalFragmentsRow]; exact rfl) (by kernel_rfl) (by kernel_rfl) Tryd.underlying74
  have g2 : (GlI 2).holds (G.top W) := GlI.ofLaid (laid := Rows.journalFragmentsRow.laid) (by kernel_rfl) hx (name := "strconv.ErrRange") (by simp [Rows.journalFragmentsRow]; exact rfl) (by kernel_rfl) (by kernel_rfl) Tryd.underlying74
  have g3 : (GlT Tryd.prog "internal/strconv.uint64pow10" .u64 Lib.pow10Tab).holds (G.top W) := GlT.ofLaid (laid := Rows.journalFragmentsRow.laid) (by kernel_rfl) hx (name := "internal/strconv.uint64pow10") (by simp [Rows.journalFragmentsRow]; done) (b := 3) (by kernel_rfl) (by kernel_rfl) (jgr3 W) (by decide)
  have g7 : (Gl (tA 64 (tI .u8)) 7 gv7).holds (G.top W) := Gl.ofLaid (laid := Rows.journalFragmentsRow.laid) (by kernel_rfl) hx (name := "math/bits.deBruijn64tab") (by simp [Rows.journalFragmentsRow]; done) (by kernel_rfl) (by kernel_rfl) (jgr7 W)
  refine ⟨[tS.is x1, (tI .u8).is x2, (tI .i64).is x3, (tI .i64).is x4], [(700000, GlE 0), (700001, GlI 1), (700002, GlI 2), (700003, GlT Tryd.prog "internal/strconv.uint64pow10" .u64 Lib.pow10Tab), (700007, Gl (tA 64 (tI .u8)) 7 gv7)], ⟨h1, h2, h3, h4, trivial⟩, fun y hy => ?_, ⟨rfl, rfl, rfl, rfl, rfl, trivial⟩, law14_JournalFragments_spec n x1 x2 x3 x4 true hm⟩
  simp only [List.mem_cons, List.not_mem_nil, or_false] at hy
  rcases hy with rfl | rfl | rfl | rfl | rfl
  · exact g0
  · exact g1
  · exact g2
  · exact g3
  · exact g7
theorem journalFragments_hx (w w' : World) (args : Array Value) (h : w.heap = w'.heap) (k : laidMetH Tryd.prog Rows.journalFragmentsRow.laid w) : laidMetH Tryd.prog Rows.journalFragmentsRow.laid w' := k.of_heap h
theorem journalFragments_met (os : Os) (args : Array Value) : laidMetH Tryd.prog Rows.journalFragmentsRow.laid ((World.laidAll Tryd.prog os Rows.journalFragmentsRow.laid).forCall (fun _ _ => 0) ⟨#[], args, []⟩).memory := by
  rw [MakeChecks.laidMetH_plain _ _ _ (by kernel_rfl)]; exact laidMet_laidAll _ (by kernel_rfl) (by kernel_rfl)
set_option maxRecDepth 100000 in
theorem journalFragments_lifted (os : Os) (started : os.Started) (H : Type) (enc : TypeId × Value → H) :
    ReturnsInHanded {} Tryd.checked os 3 .any (fun w args => (Rows.journalFragmentsSpec.pre enc Tryd.prog Tryd.f3 Rows.journalFragmentsRow.domain false w args ∧ laidMetH Tryd.prog Rows.journalFragmentsRow.laid w) ∧ sizedMet enc Tryd.prog Tryd.f3 (OpenSpec.ofChange Rows.journalFragmentsSpec) false w args) (Rows.journalFragmentsSpec.post enc Tryd.prog Tryd.f3 false true false false) :=
  lifted_of_law_GS (C := Tryd.checked) (X := fun w _ => laidMetH Tryd.prog Rows.journalFragmentsRow.laid w) (journalFragments_hx) Tryd.jown started (by kernel_rfl) Tryd.func3
    (ChangeSpec.witness_shaped (enc := enc) (C := Tryd.checked) (os := os) (X := fun w _ => laidMetH Tryd.prog Rows.journalFragmentsRow.laid w) false (World.laidAll Tryd.prog os Rows.journalFragmentsRow.laid) #[.string ⟨#[]⟩, .int .u8 0, .int .i64 0, .int .i64 0] 8 (World.laidAll_os _ _ _) (World.shaped_of_ZipB (by kernel_rfl) (by kernel_rfl)) (by kernel_rfl) (by kernel_rfl) (by kernel_rfl) (journalFragments_met os _))
    Tryd.jlaidOut (by kernel_rfl) rfl Tryd.underlying4 rfl
    (fun | [_, _, _, _], _ => ⟨rfl, rfl, rfl⟩) journalFragments_law
theorem journalFragments_row_holds : Rows.JournalFragmentsSaid :=
  OpenClaim.holds_of_wide 3 Tryd.f3 rfl rfl rfl rfl rfl rfl rfl ⟨rfl, rfl, rfl, rfl, rfl⟩ rfl rfl rfl rfl rfl (by kernel_rfl) Tryd.func3 (by kernel_rfl)
    (of_decide_eq_true (by kernel_rfl)) (by unfold Func.isWrapper; first | (rw [if_pos (by decide +kernel)]; kernel_rfl) | (rw [if_neg (by decide +kernel)]; exact ⟨rfl, rfl⟩))
    (fun os started H enc _ => journalFragments_lifted os started H enc)
theorem journalFragments_holds : Rows.JournalFragmentsCardSaid :=
  Claim7.holds_tied_plain_at .later [] [.data, .data, .data, .data, .sentinel, .sentinel, .pinned] true (true, "1ae37b48fe519bd401da6d6a82d16db801d2df6352dd0634dc88feebaddbdb8e") true
    journalFragments_row_holds (fun _ h => by cases h) (by kernel_rfl) (fun _ h => by cases h) journalFragments_row_tie rfl ⟨rfl, rfl⟩ (by kernel_rfl) rfl
    (fun f fn hf hfn => by
      obtain rfl : f = 3 := Option.some.inj ((show Tryd.prog.funcNamed "pandect/pandectlaw14.JournalFragments" = some 3 by kernel_rfl).symm.trans hf) |>.symm
      obtain rfl : fn = Tryd.f3 := (Option.some.inj (Tryd.func3.symm.trans hfn)).symm
      exact ⟨by kernel_rfl, fun j t ht => by
        rw [Tryd.params3] at ht
        have hm : t ∈ [9, 5, 3, 3] := by simpa using Array.mem_of_getElem? ht
        have hall : ([9, 5, 3, 3].all fun u => !Tryd.prog.wantsStandIn u) = true := by kernel_rfl
        exact (show Tryd.prog.wantsStandIn t = false by simpa using List.all_eq_true.1 hall t hm)⟩)
    (by kernel_rfl)
theorem jrd34 (W : World) : Rds Tryd.prog W 34 (tL tS) := Rds.slice Tryd.underlying34 (jrd9 W) (by kernel_rfl) (by decide) (of_decide_eq_true (by kernel_rfl))
theorem jok34 {W : World} {base : Nat} (v : Value) (h : Value.okWide Tryd.prog W .any base 34 v) : v = mkVal false v.cells.toList := okW_slice Tryd.underlying34 v h
theorem journalReopens_law (W : World) (base : Nat) (vs : List Value) (hx : ∃ args : Array Value, laidMetH Tryd.prog Rows.journalReopensRow.laid W) (hsh : W.ShapedOpen Tryd.prog) (h : ArgsOk Tryd.prog W base Tryd.f4.params.toList vs) : ∃ As rin, All2 As vs (G.top W) ∧ rin.all (G.top W) ∧ NoBlk rin ∧ FSpecR Tryd.prog 4 As rin (fun _ : Unit => tB.is true) (fun _ => []) := by
  rw [Tryd.params4] at h
  obtain ⟨v1, vs, x1, rfl, h1, h⟩ := ArgsOk.cons (t := (tL tS)) h (jrd34 W) jok34
  obtain ⟨v2, vs, x2, rfl, h2, h⟩ := ArgsOk.cons (t := (tL tS)) h (jrd34 W) jok34
  obtain rfl := h.nil
  obtain ⟨n, hm⟩ := To.ex (reopens_true x1 x2)
  obtain ⟨_, hx⟩ := hx
  have g0 : (GlE 0).holds (G.top W) := (Tryd.maxlen W hsh).imp fun m h => (top_has h).2
  have g1 : (GlI 1).holds (G.top W) := GlI.ofLaid (laid := Rows.journalReopensRow.laid) (by kernel_rfl) hx (name := "strconv.ErrSyntax") (by simp [Rows.journalReopensRow]; exact rfl) (by kernel_rfl) (by kernel_rfl) Tryd.underlying74
  have g2 : (GlI 2).holds (G.top W) := GlI.ofLaid (laid := Rows.journalReopensRow.laid) (by kernel_rfl) hx (name := "strconv.ErrRange") (by simp [Rows.journalReopensRow]; exact rfl) (by kernel_rfl) (by kernel_rfl) Tryd.underlying74
  have g3 : (GlT Tryd.prog "internal/strconv.uint64pow10" .u64 Lib.pow10Tab).holds (G.top W) := GlT.ofLaid (laid := Rows.journalReopensRow.laid) (by kernel_rfl) hx (name := "internal/strconv.uint64pow10") (by simp [Rows.journalReopensRow]; done) (b := 3) (by kernel_rfl) (by kernel_rfl) (jgr3 W) (by decide)
  have g7 : (Gl (tA 64 (tI .u8)) 7 gv7).holds (G.top W) := Gl.ofLaid (laid := Rows.journalReopensRow.laid) (by kernel_rfl) hx (name := "math/bits.deBruijn64tab") (by simp [Rows.journalReopensRow]; done) (by kernel_rfl) (by kernel_rfl) (jgr7 W)
  refine ⟨[(tL tS).is x1, (tL tS).is x2], [(700000, GlE 0), (700001, GlI 1), (700002, GlI 2), (700003, GlT Tryd.prog "internal/strconv.uint64pow10" .u64 Lib.pow10Tab), (700007, Gl (tA 64 (tI .u8)) 7 gv7)], ⟨h1, h2, trivial⟩, fun y hy => ?_, ⟨rfl, rfl, rfl, rfl, rfl, trivial⟩, law14_JournalReopens_spec n x1 x2 true hm⟩
  simp only [List.mem_cons, List.not_mem_nil, or_false] at hy
  rcases hy with rfl | rfl | rfl | rfl | rfl
  · exact g0
  · exact g1
  · exact g2
  · exact g3
  · exact g7
theorem journalReopens_hx (w w' : World) (args : Array Value) (h : w.heap = w'.heap) (k : laidMetH Tryd.prog Rows.journalReopensRow.laid w) : laidMetH Tryd.prog Rows.journalReopensRow.laid w' := k.of_heap h
theorem journalReopens_met (os : Os) (args : Array Value) : laidMetH Tryd.prog Rows.journalReopensRow.laid ((World.laidAll Tryd.prog os Rows.journalReopensRow.laid).forCall (fun _ _ => 0) ⟨#[], args, []⟩).memory := by
  rw [MakeChecks.laidMetH_plain _ _ _ (by kernel_rfl)]; exact laidMet_laidAll _ (by kernel_rfl) (by kernel_rfl)
set_option maxRecDepth 100000 in
theorem journalReopens_lifted (os : Os) (started : os.Started) (H : Type) (enc : TypeId × Value → H) :
    ReturnsInHanded {} Tryd.checked os 4 .any (fun w args => (Rows.journalReopensSpec.pre enc Tryd.prog Tryd.f4 Rows.journalReopensRow.domain false w args ∧ laidMetH Tryd.prog Rows.journalReopensRow.laid w) ∧ sizedMet enc Tryd.prog Tryd.f4 (OpenSpec.ofChange Rows.journalReopensSpec) false w args) (Rows.journalReopensSpec.post enc Tryd.prog Tryd.f4 false true false false) :=
  lifted_of_law_GS (C := Tryd.checked) (X := fun w _ => laidMetH Tryd.prog Rows.journalReopensRow.laid w) (journalReopens_hx) Tryd.jown started (by kernel_rfl) Tryd.func4
    (ChangeSpec.witness_shaped (enc := enc) (C := Tryd.checked) (os := os) (X := fun w _ => laidMetH Tryd.prog Rows.journalReopensRow.laid w) false (World.laidAll Tryd.prog os Rows.journalReopensRow.laid) #[.slice none 0 0, .slice none 0 0] 8 (World.laidAll_os _ _ _) (World.shaped_of_ZipB (by kernel_rfl) (by kernel_rfl)) (by kernel_rfl) (by kernel_rfl) (by kernel_rfl) (journalReopens_met os _))
    Tryd.jlaidOut (by kernel_rfl) rfl Tryd.underlying4 rfl
    (fun | [_, _], _ => ⟨rfl, rfl, rfl⟩) journalReopens_law
theorem journalReopens_row_holds : Rows.JournalReopensSaid :=
  OpenClaim.holds_of_wide 4 Tryd.f4 rfl rfl rfl rfl rfl rfl rfl ⟨rfl, rfl, rfl, rfl, rfl⟩ rfl rfl rfl rfl rfl (by kernel_rfl) Tryd.func4 (by kernel_rfl)
    (of_decide_eq_true (by kernel_rfl)) (by unfold Func.isWrapper; first | (rw [if_pos (by decide +kernel)]; kernel_rfl) | (rw [if_neg (by decide +kernel)]; exact ⟨rfl, rfl⟩))
    (fun os started H enc _ => journalReopens_lifted os started H enc)
theorem journalReopens_holds : Rows.JournalReopensCardSaid :=
  Claim7.holds_tied_plain_at .later [] [.data, .data, .data, .data, .sentinel, .sentinel, .pinned] true (true, "1ae37b48fe519bd401da6d6a82d16db801d2df6352dd0634dc88feebaddbdb8e") true
    journalReopens_row_holds (fun _ h => by cases h) (by kernel_rfl) (fun _ h => by cases h) journalReopens_row_tie rfl ⟨rfl, rfl⟩ (by kernel_rfl) rfl
    (fun f fn hf hfn => by
      obtain rfl : f = 4 := Option.some.inj ((show Tryd.prog.funcNamed "pandect/pandectlaw14.JournalReopens" = some 4 by kernel_rfl).symm.trans hf) |>.symm
      obtain rfl : fn = Tryd.f4 := (Option.some.inj (Tryd.func4.symm.trans hfn)).symm
      exact ⟨by kernel_rfl, fun j t ht => by
        rw [Tryd.params4] at ht
        have hm : t ∈ [34, 34] := by simpa using Array.mem_of_getElem? ht
        have hall : ([34, 34].all fun u => !Tryd.prog.wantsStandIn u) = true := by kernel_rfl
        exact (show Tryd.prog.wantsStandIn t = false by simpa using List.all_eq_true.1 hall t hm)⟩)
    (by kernel_rfl)
theorem journalErrors_law (W : World) (base : Nat) (vs : List Value) (hx : ∃ args : Array Value, laidMetH Tryd.prog Rows.journalErrorsRow.laid W) (hsh : W.ShapedOpen Tryd.prog) (h : ArgsOk Tryd.prog W base Tryd.f5.params.toList vs) : ∃ As rin, All2 As vs (G.top W) ∧ rin.all (G.top W) ∧ NoBlk rin ∧ FSpecR Tryd.prog 5 As rin (fun _ : Unit => tB.is true) (fun _ => []) := by
  rw [Tryd.params5] at h
  obtain ⟨v1, vs, x1, rfl, h1, h⟩ := ArgsOk.cons (t := tS) h (jrd9 W) jok9
  obtain ⟨v2, vs, x2, rfl, h2, h⟩ := ArgsOk.cons (t := (tI .i64)) h (jrd3 W) jok3
  obtain rfl := h.nil
  obtain ⟨n, hm⟩ := To.ex (errors_true x1 x2)
  obtain ⟨_, hx⟩ := hx
  have g0 : (GlE 0).holds (G.top W) := (Tryd.maxlen W hsh).imp fun m h => (top_has h).2
  have g1 : (GlI 1).holds (G.top W) := GlI.ofLaid (laid := Rows.journalErrorsRow.laid) (by kernel_rfl) hx (name := "strconv.ErrSyntax") (by simp [Rows.journalErrorsRow]; exact rfl) (by kernel_rfl) (by kernel_rfl) Tryd.underlying74
  have g2 : (GlI 2).holds (G.top W) := GlI.ofLaid (laid := Rows.journalErrorsRow.laid) (by kernel_rfl) hx (name := "strconv.ErrRange") (by simp [Rows.journalErrorsRow]; exact rfl) (by kernel_rfl) (by kernel_rfl) Tryd.underlying74
  have g3 : (GlT Tryd.prog "internal/strconv.uint64pow10" .u64 Lib.pow10Tab).holds (G.top W) := GlT.ofLaid (laid := Rows.journalErrorsRow.laid) (by kernel_rfl) hx (name := "internal/strconv.uint64pow10") (by simp [Rows.journalErrorsRow]; done) (b := 3) (by kernel_rfl) (by kernel_rfl) (jgr3 W) (by decide)
  have g7 : (Gl (tA 64 (tI .u8)) 7 gv7).holds (G.top W) := Gl.ofLaid (laid := Rows.journalErrorsRow.laid) (by kernel_rfl) hx (name := "math/bits.deBruijn64tab") (by simp [Rows.journalErrorsRow]; done) (by kernel_rfl) (by kernel_rfl) (jgr7 W)
  refine ⟨[tS.is x1, (tI .i64).is x2], [(700000, GlE 0), (700001, GlI 1), (700002, GlI 2), (700003, GlT Tryd.prog "internal/strconv.uint64pow10" .u64 Lib.pow10Tab), (700007, Gl (tA 64 (tI .u8)) 7 gv7)], ⟨h1, h2, trivial⟩, fun y hy => ?_, ⟨rfl, rfl, rfl, rfl, rfl, trivial⟩, law14_JournalErrors_spec n x1 x2 true hm⟩
  simp only [List.mem_cons, List.not_mem_nil, or_false] at hy
  rcases hy with rfl | rfl | rfl | rfl | rfl
  · exact g0
  · exact g1
  · exact g2
  · exact g3
  · exact g7
theorem journalErrors_hx (w w' : World) (args : Array Value) (h : w.heap = w'.heap) (k : laidMetH Tryd.prog Rows.journalErrorsRow.laid w) : laidMetH Tryd.prog Rows.journalErrorsRow.laid w' := k.of_heap h
theorem journalErrors_met (os : Os) (args : Array Value) : laidMetH Tryd.prog Rows.journalErrorsRow.laid ((World.laidAll Tryd.prog os Rows.journalErrorsRow.laid).forCall (fun _ _ => 0) ⟨#[], args, []⟩).memory := by
  rw [MakeChecks.laidMetH_plain _ _ _ (by kernel_rfl)]; exact laidMet_laidAll _ (by kernel_rfl) (by kernel_rfl)
set_option maxRecDepth 100000 in
theorem journalErrors_lifted (os : Os) (started : os.Started) (H : Type) (enc : TypeId × Value → H) :
    ReturnsInHanded {} Tryd.checked os 5 .any (fun w args => (Rows.journalErrorsSpec.pre enc Tryd.prog Tryd.f5 Rows.journalErrorsRow.domain false w args ∧ laidMetH Tryd.prog Rows.journalErrorsRow.laid w) ∧ sizedMet enc Tryd.prog Tryd.f5 (OpenSpec.ofChange Rows.journalErrorsSpec) false w args) (Rows.journalErrorsSpec.post enc Tryd.prog Tryd.f5 false true false false) :=
  lifted_of_law_GS (C := Tryd.checked) (X := fun w _ => laidMetH Tryd.prog Rows.journalErrorsRow.laid w) (journalErrors_hx) Tryd.jown started (by kernel_rfl) Tryd.func5
    (ChangeSpec.witness_shaped (enc := enc) (C := Tryd.checked) (os := os) (X := fun w _ => laidMetH Tryd.prog Rows.journalErrorsRow.laid w) false (World.laidAll Tryd.prog os Rows.journalErrorsRow.laid) #[.string ⟨#[]⟩, .int .i64 0] 8 (World.laidAll_os _ _ _) (World.shaped_of_ZipB (by kernel_rfl) (by kernel_rfl)) (by kernel_rfl) (by kernel_rfl) (by kernel_rfl) (journalErrors_met os _))
    Tryd.jlaidOut (by kernel_rfl) rfl Tryd.underlying4 rfl
    (fun | [_, _], _ => ⟨rfl, rfl, rfl⟩) journalErrors_law
theorem journalErrors_row_holds : Rows.JournalErrorsSaid :=
  OpenClaim.holds_of_wide 5 Tryd.f5 rfl rfl rfl rfl rfl rfl rfl ⟨rfl, rfl, rfl, rfl, rfl⟩ rfl rfl rfl rfl rfl (by kernel_rfl) Tryd.func5 (by kernel_rfl)
    (of_decide_eq_true (by kernel_rfl)) (by unfold Func.isWrapper; first | (rw [if_pos (by decide +kernel)]; kernel_rfl) | (rw [if_neg (by decide +kernel)]; exact ⟨rfl, rfl⟩))
    (fun os started H enc _ => journalErrors_lifted os started H enc)
theorem journalErrors_holds : Rows.JournalErrorsCardSaid :=
  Claim7.holds_tied_plain_at .later [] [.data, .data, .data, .data, .sentinel, .sentinel, .pinned] true (true, "1ae37b48fe519bd401da6d6a82d16db801d2df6352dd0634dc88feebaddbdb8e") true
    journalErrors_row_holds (fun _ h => by cases h) (by kernel_rfl) (fun _ h => by cases h) journalErrors_row_tie rfl ⟨rfl, rfl⟩ (by kernel_rfl) rfl
    (fun f fn hf hfn => by
      obtain rfl : f = 5 := Option.some.inj ((show Tryd.prog.funcNamed "pandect/pandectlaw14.JournalErrors" = some 5 by kernel_rfl).symm.trans hf) |>.symm
      obtain rfl : fn = Tryd.f5 := (Option.some.inj (Tryd.func5.symm.trans hfn)).symm
      exact ⟨by kernel_rfl, fun j t ht => by
        rw [Tryd.params5] at ht
        have hm : t ∈ [9, 3] := by simpa using Array.mem_of_getElem? ht
        have hall : ([9, 3].all fun u => !Tryd.prog.wantsStandIn u) = true := by kernel_rfl
        exact (show Tryd.prog.wantsStandIn t = false by simpa using List.all_eq_true.1 hall t hm)⟩)
    (by kernel_rfl)
end Go.Proofs.YtkobngongonplaaDoor
