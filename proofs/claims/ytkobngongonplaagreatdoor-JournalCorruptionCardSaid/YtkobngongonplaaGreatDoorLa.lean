/-
  The rows of these laws, proved: for each law the walk of its code and its plain law, put together. No condition.
-/
import Derived.Test.YtkobngongonplaaGreatDoorRows
import Derived.Test.YtkobngongonplaaGreatDoorReadR
import Derived.Test.YtkobngongonplaaGreatDoorReadH
import Derived.Test.YtkobngongonplaaGreatDoorTie
import Derived.Test.YtkobngongonplaaGreatDoorCards
import Derived.SevenTiedAt
import Derived.Lay
import Derived.Test.YtkobngongonplaaGreatDoorWc
import Derived.Test.YtkobngongonplaaGreatDoorPg
import Derived.Test.YtkobngongonplaaGreatDoorPj
import Derived.Test.YtkobngongonplaaGreatDoorBn
import Derived.ProofKit
set_option linter.unusedVariables false
set_option linter.unusedSimpArgs false
set_option maxRecDepth 100000
namespace Go.Proofs.YtkobngongonplaaGreatDoor
open Go Go.Dec Go.ChangeShapes Go.WideShapes Go.ChangeAt Go.RowKit
theorem Tryz.jown : ownKnob Tryz.prog.godebug = none := by kernel_rfl
theorem Tryz.jlaidOut : laidOutB Tryz.prog = true := by kernel_rfl
theorem jrd3 (W : World) : Rds Tryz.prog W 3 (tI .i64) := Rds.int Tryz.underlying3
theorem jok3 {W : World} {base : Nat} (v : Value) (h : Value.okWide Tryz.prog W .any base 3 v) : v = mkVal false v.cells.toList := okW_int Tryz.underlying3 v h
theorem jrd9 (W : World) : Rds Tryz.prog W 9 tS := Rds.string Tryz.underlying9
theorem jok9 {W : World} {base : Nat} (v : Value) (h : Value.okWide Tryz.prog W .any base 9 v) : v = mkVal false v.cells.toList := okW_string Tryz.underlying9 v h
theorem jrd52 (W : World) : Rds Tryz.prog W 52 tpandectlaw14_Call := Rds.struct (fun x => (⟨x.1, x.2.1, x.2.2⟩ : pandectlaw14_Call)) (fun _ => rfl) Tryz.underlying52 (by kernel_rfl) (RdF.cons rfl (by kernel_rfl) rfl (jrd3 W) (RdF.cons rfl (by kernel_rfl) rfl (jrd3 W) (RdF.last rfl (by kernel_rfl) (jrd9 W))))
theorem jok52 {W : World} {base : Nat} (v : Value) (h : Value.okWide Tryz.prog W .any base 52 v) : v = mkVal true v.cells.toList := okW_struct Tryz.underlying52 v h
theorem jrd22 (W : World) : Rds Tryz.prog W 22 (tL tpandectlaw14_Call) := Rds.slice Tryz.underlying22 (jrd52 W) (by kernel_rfl) (by decide) (of_decide_eq_true (by kernel_rfl))
theorem jok22 {W : World} {base : Nat} (v : Value) (h : Value.okWide Tryz.prog W .any base 22 v) : v = mkVal false v.cells.toList := okW_slice Tryz.underlying22 v h
theorem jgr3 (W : World) : RdV Tryz.prog W 140 (tA 20 (tI .u64)) Rows.laid_internal_strconv_uint64pow10 Lib.pow10Tab := by
  rw [show Lib.pow10Tab = [(1 : Int), (10 : Int), (100 : Int), (1000 : Int), (10000 : Int), (100000 : Int), (1000000 : Int), (10000000 : Int), (100000000 : Int), (1000000000 : Int), (10000000000 : Int), (100000000000 : Int), (1000000000000 : Int), (10000000000000 : Int), (100000000000000 : Int), (1000000000000000 : Int), (10000000000000000 : Int), (100000000000000000 : Int), (1000000000000000000 : Int), (10000000000000000000 : Int)] from by decide]
  exact (RdV.array Tryz.underlying140 (by kernel_rfl) (by kernel_rfl) rfl ⟨(RdV.int Tryz.underlying95 (by decide)), (RdV.int Tryz.underlying95 (by decide)), (RdV.int Tryz.underlying95 (by decide)), (RdV.int Tryz.underlying95 (by decide)), (RdV.int Tryz.underlying95 (by decide)), (RdV.int Tryz.underlying95 (by decide)), (RdV.int Tryz.underlying95 (by decide)), (RdV.int Tryz.underlying95 (by decide)), (RdV.int Tryz.underlying95 (by decide)), (RdV.int Tryz.underlying95 (by decide)), (RdV.int Tryz.underlying95 (by decide)), (RdV.int Tryz.underlying95 (by decide)), (RdV.int Tryz.underlying95 (by decide)), (RdV.int Tryz.underlying95 (by decide)), (RdV.int Tryz.underlying95 (by decide)), (RdV.int Tryz.underlying95 (by decide)), (RdV.int Tryz.underlying95 (by decide)), (RdV.int Tryz.underlying95 (by decide)), (RdV.int Tryz.underlying95 (by decide)), (RdV.int Tryz.underlying95 (by decide)), trivial⟩)
theorem jgr7 (W : World) : RdV Tryz.prog W 155 (tA 64 (tI .u8)) Rows.laid_math_bits_deBruijn64tab gv7 := (RdV.array Tryz.underlying155 (by kernel_rfl) (by kernel_rfl) rfl ⟨(RdV.int Tryz.underlying5 (by decide)), (RdV.int Tryz.underlying5 (by decide)), (RdV.int Tryz.underlying5 (by decide)), (RdV.int Tryz.underlying5 (by decide)), (RdV.int Tryz.underlying5 (by decide)), (RdV.int Tryz.underlying5 (by decide)), (RdV.int Tryz.underlying5 (by decide)), (RdV.int Tryz.underlying5 (by decide)), (RdV.int Tryz.underlying5 (by decide)), (RdV.int Tryz.underlying5 (by decide)), (RdV.int Tryz.underlying5 (by decide)), (RdV.int Tryz.underlying5 (by decide)), (RdV.int Tryz.underlying5 (by decide)), (RdV.int Tryz.underlying5 (by decide)), (RdV.int Tryz.underlying5 (by decide)), (RdV.int Tryz.underlying5 (by decide)), (RdV.int Tryz.underlying5 (by decide)), (RdV.int Tryz.underlying5 (by decide)), (RdV.int Tryz.underlying5 (by decide)), (RdV.int Tryz.underlying5 (by decide)), (RdV.int Tryz.underlying5 (by decide)), (RdV.int Tryz.underlying5 (by decide)), (RdV.int Tryz.underlying5 (by decide)), (RdV.int Tryz.underlying5 (by decide)), (RdV.int Tryz.underlying5 (by decide)), (RdV.int Tryz.underlying5 (by decide)), (RdV.int Tryz.underlying5 (by decide)), (RdV.int Tryz.underlying5 (by decide)), (RdV.int Tryz.underlying5 (by decide)), (RdV.int Tryz.underlying5 (by decide)), (RdV.int Tryz.underlying5 (by decide)), (RdV.int Tryz.underlying5 (by decide)), (RdV.int Tryz.underlying5 (by decide)), (RdV.int Tryz.underlying5 (by decide)), (RdV.int Tryz.underlying5 (by decide)), (RdV.int Tryz.underlying5 (by decide)), (RdV.int Tryz.underlying5 (by decide)), (RdV.int Tryz.underlying5 (by decide)), (RdV.int Tryz.underlying5 (by decide)), (RdV.int Tryz.underlying5 (by decide)), (RdV.int Tryz.underlying5 (by decide)), (RdV.int Tryz.underlying5 (by decide)), (RdV.int Tryz.underlying5 (by decide)), (RdV.int Tryz.underlying5 (by decide)), (RdV.int Tryz.underlying5 (by decide)), (RdV.int Tryz.underlying5 (by decide)), (RdV.int Tryz.underlying5 (by decide)), (RdV.int Tryz.underlying5 (by decide)), (RdV.int Tryz.underlying5 (by decide)), (RdV.int Tryz.underlying5 (by decide)), (RdV.int Tryz.underlying5 (by decide)), (RdV.int Tryz.underlying5 (by decide)), (RdV.int Tryz.underlying5 (by decide)), (RdV.int Tryz.underlying5 (by decide)), (RdV.int Tryz.underlying5 (by decide)), (RdV.int Tryz.underlying5 (by decide)), (RdV.int Tryz.underlying5 (by decide)), (RdV.int Tryz.underlying5 (by decide)), (RdV.int Tryz.underlying5 (by decide)), (RdV.int Tryz.underlying5 (by decide)), (RdV.int Tryz.underlying5 (by decide)), (RdV.int Tryz.underlying5 (by decide)), (RdV.int Tryz.underlying5 (by decide)), (RdV.int Tryz.underlying5 (by decide)), trivial⟩)
theorem journalSequences_law (W : World) (base : Nat) (vs : List Value) (hx : ∃ args : Array Value, laidMetH Tryz.prog Rows.journalSequencesRow.laid W) (hsh : W.ShapedOpen Tryz.prog) (h : ArgsOk Tryz.prog W base Tryz.f3.params.toList vs) : ∃ As rin, All2 As vs (G.top W) ∧ rin.all (G.top W) ∧ NoBlk rin ∧ FSpecR Tryz.prog 3 As rin (fun _ : Unit => tB.is true) (fun _ => []) := by
  rw [Tryz.params3] at h
  obtain ⟨v1, vs, x1, rfl, h1, h⟩ := ArgsOk.cons (t := (tL tpandectlaw14_Call)) h (jrd22 W) jok22
  obtain ⟨v2, vs, x2, rfl, h2, h⟩ := ArgsOk.cons (t := (tI .i64)) h (jrd3 W) jok3
  obtain rfl := h.nil
  obtain ⟨n, hm⟩ := To.ex (sequences_true x1 x2 (calls_in h1))
  obtain ⟨_, hx⟩ := hx
  have g0 : (GlE 0).holds (G.top W) := (Tryz.maxlen W hsh).imp fun m h => (top_has h).2
  have g1 : (GlI 1).holds (G.top W) := GlI.ofLaid (laid := Rows.journalSequencesRow.laid) (by kernel_rfl) hx (name := "strconv.ErrSyntax") (by simp [Rows.journalSequencesRow]; exact rfl) (by kernel_rfl) (by kernel_rfl) Tryz.underlying91
  have g2 : (GlI 2).holds (G.top W) := GlI.ofLaid (laid := Rows.journalSequencesRow.laid) (by kernel_rfl) hx (name := "strconv.ErrRange") (by simp [Rows.journalSequencesRow]; exact rfl) (by kernel_rfl) (by kernel_rfl) Tryz.underlying91
  have g3 : (GlT Tryz.prog "internal/strconv.uint64pow10" .u64 Lib.pow10Tab).holds (G.top W) := GlT.ofLaid (laid := Rows.journalSequencesRow.laid) (by kernel_rfl) hx (name := "internal/strconv.uint64pow10") (by simp [Rows.journalSequencesRow]; done) (b := 3) (by kernel_rfl) (by kernel_rfl) (jgr3 W) (by decide)
  have g7 : (Gl (tA 64 (tI .u8)) 7 gv7).holds (G.top W) := Gl.ofLaid (laid := Rows.journalSequencesRow.laid) (by kernel_rfl) hx (name := "math/bits.deBruijn64tab") (by simp [Rows.journalSequencesRow]; done) (by kernel_rfl) (by kernel_rfl) (jgr7 W)
  refine ⟨[(tL tpandectlaw14_Call).is x1, (tI .i64).is x2], [(700000, GlE 0), (700001, GlI 1), (700002, GlI 2), (700003, GlT Tryz.prog "internal/strconv.uint64pow10" .u64 Lib.pow10Tab), (700007, Gl (tA 64 (tI .u8)) 7 gv7)], ⟨h1, h2, trivial⟩, fun y hy => ?_, ⟨rfl, rfl, rfl, rfl, rfl, trivial⟩, law14_JournalSequences_spec n x1 x2 true hm⟩
  simp only [List.mem_cons, List.not_mem_nil, or_false] at hy
  rcases hy with rfl | rfl | rfl | rfl | rfl
  · exact g0
  · exact g1
  · exact g2
  · exact g3
  · exact g7
theorem journalSequences_hx (w w' : World) (args : Array Value) (h : w.heap = w'.heap) (k : laidMetH Tryz.prog Rows.journalSequencesRow.laid w) : laidMetH Tryz.prog Rows.journalSequencesRow.laid w' := k.of_heap h
theorem journalSequences_met (os : Os) (args : Array Value) : laidMetH Tryz.prog Rows.journalSequencesRow.laid ((World.laidAll Tryz.prog os Rows.journalSequencesRow.laid).forCall (fun _ _ => 0) ⟨#[], args, []⟩).memory := by
  rw [MakeChecks.laidMetH_plain _ _ _ (by kernel_rfl)]; exact laidMet_laidAll _ (by kernel_rfl) (by kernel_rfl)
set_option maxRecDepth 100000 in
theorem journalSequences_lifted (os : Os) (started : os.Started) (H : Type) (enc : TypeId × Value → H) :
    ReturnsInHanded {} Tryz.checked os 3 .any (fun w args => (Rows.journalSequencesSpec.pre enc Tryz.prog Tryz.f3 Rows.journalSequencesRow.domain false w args ∧ laidMetH Tryz.prog Rows.journalSequencesRow.laid w) ∧ sizedMet enc Tryz.prog Tryz.f3 (OpenSpec.ofChange Rows.journalSequencesSpec) false w args) (Rows.journalSequencesSpec.post enc Tryz.prog Tryz.f3 false true false false) :=
  lifted_of_law_GS (C := Tryz.checked) (X := fun w _ => laidMetH Tryz.prog Rows.journalSequencesRow.laid w) (journalSequences_hx) Tryz.jown started (by kernel_rfl) Tryz.func3
    (ChangeSpec.witness_shaped (enc := enc) (C := Tryz.checked) (os := os) (X := fun w _ => laidMetH Tryz.prog Rows.journalSequencesRow.laid w) false (World.laidAll Tryz.prog os Rows.journalSequencesRow.laid) #[.slice none 0 0, .int .i64 0] 8 (World.laidAll_os _ _ _) (World.shaped_of_ZipB (by kernel_rfl) (by kernel_rfl)) (by kernel_rfl) (by kernel_rfl) (by kernel_rfl) (journalSequences_met os _))
    Tryz.jlaidOut (by kernel_rfl) rfl Tryz.underlying4 rfl
    (fun | [_, _], _ => ⟨rfl, rfl, rfl⟩) journalSequences_law
theorem journalSequences_row_holds : Rows.JournalSequencesSaid :=
  OpenClaim.holds_of_wide 3 Tryz.f3 rfl rfl rfl rfl rfl rfl rfl ⟨rfl, rfl, rfl, rfl, rfl⟩ rfl rfl rfl rfl rfl (by kernel_rfl) Tryz.func3 (by kernel_rfl)
    (of_decide_eq_true (by kernel_rfl)) (by unfold Func.isWrapper; first | (rw [if_pos (by decide +kernel)]; kernel_rfl) | (rw [if_neg (by decide +kernel)]; exact ⟨rfl, rfl⟩))
    (fun os started H enc _ => journalSequences_lifted os started H enc)
theorem journalSequences_holds : Rows.JournalSequencesCardSaid :=
  Claim7.holds_tied_plain_at .later [] [.data, .data, .data, .data, .sentinel, .sentinel, .pinned] true (true, "357080389d8e185a579bace68409e7dd847cc6dc0658c350a823d171f0120ac3") true
    journalSequences_row_holds (fun _ h => by cases h) (by kernel_rfl) (fun _ h => by cases h) journalSequences_row_tie rfl ⟨rfl, rfl⟩ (by kernel_rfl) rfl
    (fun f fn hf hfn => by
      obtain rfl : f = 3 := Option.some.inj ((show Tryz.prog.funcNamed "pandect/pandectlaw14.JournalSequences" = some 3 by kernel_rfl).symm.trans hf) |>.symm
      obtain rfl : fn = Tryz.f3 := (Option.some.inj (Tryz.func3.symm.trans hfn)).symm
      exact ⟨by kernel_rfl, fun j t ht => by
        rw [Tryz.params3] at ht
        have hm : t ∈ [22, 3] := by simpa using Array.mem_of_getElem? ht
        have hall : ([22, 3].all fun u => !Tryz.prog.wantsStandIn u) = true := by kernel_rfl
        exact (show Tryz.prog.wantsStandIn t = false by simpa using List.all_eq_true.1 hall t hm)⟩)
    (by kernel_rfl)
theorem jrd26 (W : World) : Rds Tryz.prog W 26 (tL tS) := Rds.slice Tryz.underlying26 (jrd9 W) (by kernel_rfl) (by decide) (of_decide_eq_true (by kernel_rfl))
theorem jok26 {W : World} {base : Nat} (v : Value) (h : Value.okWide Tryz.prog W .any base 26 v) : v = mkVal false v.cells.toList := okW_slice Tryz.underlying26 v h
theorem jrd5 (W : World) : Rds Tryz.prog W 5 (tI .u8) := Rds.int Tryz.underlying5
theorem jok5 {W : World} {base : Nat} (v : Value) (h : Value.okWide Tryz.prog W .any base 5 v) : v = mkVal false v.cells.toList := okW_int Tryz.underlying5 v h
theorem journalCorruption_law (W : World) (base : Nat) (vs : List Value) (hx : ∃ args : Array Value, laidMetH Tryz.prog Rows.journalCorruptionRow.laid W) (hsh : W.ShapedOpen Tryz.prog) (h : ArgsOk Tryz.prog W base Tryz.f4.params.toList vs) : ∃ As rin, All2 As vs (G.top W) ∧ rin.all (G.top W) ∧ NoBlk rin ∧ FSpecR Tryz.prog 4 As rin (fun _ : Unit => tB.is true) (fun _ => []) := by
  rw [Tryz.params4] at h
  obtain ⟨v1, vs, x1, rfl, h1, h⟩ := ArgsOk.cons (t := (tL tS)) h (jrd26 W) jok26
  obtain ⟨v2, vs, x2, rfl, h2, h⟩ := ArgsOk.cons (t := (tI .i64)) h (jrd3 W) jok3
  obtain ⟨v3, vs, x3, rfl, h3, h⟩ := ArgsOk.cons (t := (tI .i64)) h (jrd3 W) jok3
  obtain ⟨v4, vs, x4, rfl, h4, h⟩ := ArgsOk.cons (t := (tI .u8)) h (jrd5 W) jok5
  obtain rfl := h.nil
  obtain ⟨n, hm⟩ := To.ex (corruption_true x1 x2 x3 x4)
  obtain ⟨_, hx⟩ := hx
  have g0 : (GlE 0).holds (G.top W) := (Tryz.maxlen W hsh).imp fun m h => (top_has h).2
  have g1 : (GlI 1).holds (G.top W) := GlI.ofLaid (laid := Rows.journalCorruptionRow.laid) (by kernel_rfl) hx (name := "strconv.ErrSyntax") (by simp [Rows.journalCorruptionRow]; exact rfl) (by kernel_rfl) (by kernel_rfl) Tryz.underlying91
  have g2 : (GlI 2).holds (G.top W) := GlI.ofLaid (laid := Rows.journalCorruptionRow.laid) (by kernel_rfl) hx (name := "strconv.ErrRange") (by simp [Rows.journalCorruptionRow]; exact rfl) (by kernel_rfl) (by kernel_rfl) Tryz.underlying91
  have g3 : (GlT Tryz.prog "internal/strconv.uint64pow10" .u64 Lib.pow10Tab).holds (G.top W) := GlT.ofLaid (laid := Rows.journalCorruptionRow.laid) (by kernel_rfl) hx (name := "internal/strconv.uint64pow10") (by simp [Rows.journalCorruptionRow]; done) (b := 3) (by kernel_rfl) (by kernel_rfl) (jgr3 W) (by decide)
  have g7 : (Gl (tA 64 (tI .u8)) 7 gv7).holds (G.top W) := Gl.ofLaid (laid := Rows.journalCorruptionRow.laid) (by kernel_rfl) hx (name := "math/bits.deBruijn64tab") (by simp [Rows.journalCorruptionRow]; done) (by kernel_rfl) (by kernel_rfl) (jgr7 W)
  refine ⟨[(tL tS).is x1, (tI .i64).is x2, (tI .i64).is x3, (tI .u8).is x4], [(700000, GlE 0), (700001, GlI 1), (700002, GlI 2), (700003, GlT Tryz.prog "internal/strconv.uint64pow10" .u64 Lib.pow10Tab), (700007, Gl (tA 64 (tI .u8)) 7 gv7)], ⟨h1, h2, h3, h4, trivial⟩, fun y hy => ?_, ⟨rfl, rfl, rfl, rfl, rfl, trivial⟩, law14_JournalCorruption_spec n x1 x2 x3 x4 true hm⟩
  simp only [List.mem_cons, List.not_mem_nil, or_false] at hy
  rcases hy with rfl | rfl | rfl | rfl | rfl
  · exact g0
  · exact g1
  · exact g2
  · exact g3
  · exact g7
theorem journalCorruption_hx (w w' : World) (args : Array Value) (h : w.heap = w'.heap) (k : laidMetH Tryz.prog Rows.journalCorruptionRow.laid w) : laidMetH Tryz.prog Rows.journalCorruptionRow.laid w' := k.of_heap h
theorem journalCorruption_met (os : Os) (args : Array Value) : laidMetH Tryz.prog Rows.journalCorruptionRow.laid ((World.laidAll Tryz.prog os Rows.journalCorruptionRow.laid).forCall (fun _ _ => 0) ⟨#[], args, []⟩).memory := by
  rw [MakeChecks.laidMetH_plain _ _ _ (by kernel_rfl)]; exact laidMet_laidAll _ (by kernel_rfl) (by kernel_rfl)
set_option maxRecDepth 100000 in
theorem journalCorruption_lifted (os : Os) (started : os.Started) (H : Type) (enc : TypeId × Value → H) :
    ReturnsInHanded {} Tryz.checked os 4 .any (fun w args => (Rows.journalCorruptionSpec.pre enc Tryz.prog Tryz.f4 Rows.journalCorruptionRow.domain false w args ∧ laidMetH Tryz.prog Rows.journalCorruptionRow.laid w) ∧ sizedMet enc Tryz.prog Tryz.f4 (OpenSpec.ofChange Rows.journalCorruptionSpec) false w args) (Rows.journalCorruptionSpec.post enc Tryz.prog Tryz.f4 false true false false) :=
  lifted_of_law_GS (C := Tryz.checked) (X := fun w _ => laidMetH Tryz.prog Rows.journalCorruptionRow.laid w) (journalCorruption_hx) Tryz.jown started (by kernel_rfl) Tryz.func4
    (ChangeSpec.witness_shaped (enc := enc) (C := Tryz.checked) (os := os) (X := fun w _ => laidMetH Tryz.prog Rows.journalCorruptionRow.laid w) false (World.laidAll Tryz.prog os Rows.journalCorruptionRow.laid) #[.slice none 0 0, .int .i64 0, .int .i64 0, .int .u8 0] 8 (World.laidAll_os _ _ _) (World.shaped_of_ZipB (by kernel_rfl) (by kernel_rfl)) (by kernel_rfl) (by kernel_rfl) (by kernel_rfl) (journalCorruption_met os _))
    Tryz.jlaidOut (by kernel_rfl) rfl Tryz.underlying4 rfl
    (fun | [_, _, _, _], _ => ⟨rfl, rfl, rfl⟩) journalCorruption_law
theorem journalCorruption_row_holds : Rows.JournalCorruptionSaid :=
  OpenClaim.holds_of_wide 4 Tryz.f4 rfl rfl rfl rfl rfl rfl rfl ⟨rfl, rfl, rfl, rfl, rfl⟩ rfl rfl rfl rfl rfl (by kernel_rfl) Tryz.func4 (by kernel_rfl)
    (of_decide_eq_true (by kernel_rfl)) (by unfold Func.isWrapper; first | (rw [if_pos (by decide +kernel)]; kernel_rfl) | (rw [if_neg (by decide +kernel)]; exact ⟨rfl, rfl⟩))
    (fun os started H enc _ => journalCorruption_lifted os started H enc)
theorem journalCorruption_holds : Rows.JournalCorruptionCardSaid :=
  Claim7.holds_tied_plain_at .later [] [.data, .data, .data, .data, .sentinel, .sentinel, .pinned] true (true, "357080389d8e185a579bace68409e7dd847cc6dc0658c350a823d171f0120ac3") true
    journalCorruption_row_holds (fun _ h => by cases h) (by kernel_rfl) (fun _ h => by cases h) journalCorruption_row_tie rfl ⟨rfl, rfl⟩ (by kernel_rfl) rfl
    (fun f fn hf hfn => by
      obtain rfl : f = 4 := Option.some.inj ((show Tryz.prog.funcNamed "pandect/pandectlaw14.JournalCorruption" = some 4 by kernel_rfl).symm.trans hf) |>.symm
      obtain rfl : fn = Tryz.f4 := (Option.some.inj (Tryz.func4.symm.trans hfn)).symm
      exact ⟨by kernel_rfl, fun j t ht => by
        rw [Tryz.params4] at ht
        have hm : t ∈ [26, 3, 3, 5] := by simpa using Array.mem_of_getElem? ht
        have hall : ([26, 3, 3, 5].all fun u => !Tryz.prog.wantsStandIn u) = true := by kernel_rfl
        exact (show Tryz.prog.wantsStandIn t = false by simpa using List.all_eq_true.1 hall t hm)⟩)
    (by kernel_rfl)
end Go.Proofs.YtkobngongonplaaGreatDoor
