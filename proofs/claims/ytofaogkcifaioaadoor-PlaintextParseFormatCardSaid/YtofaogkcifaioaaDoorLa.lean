/-
  The rows of these laws, proved: for each law the walk of its code and its plain law, put together. No condition.
-/
import Derived.Test.YtofaogkcifaioaaDoorRows
import Derived.Test.YtofaogkcifaioaaDoorReadR
import Derived.Test.YtofaogkcifaioaaDoorReadG
import Derived.Test.YtofaogkcifaioaaDoorTie
import Derived.Test.YtofaogkcifaioaaDoorCards
import Derived.SevenTiedAt
import Derived.Lay
import Derived.Test.YtofaogkcifaioaaDoorWb
import Derived.Test.YtofaogkcifaioaaDoorPj
import Derived.ProofKit
set_option linter.unusedVariables false
set_option linter.unusedSimpArgs false
set_option maxRecDepth 100000
namespace Go.Proofs.YtofaogkcifaioaaDoor
open Go Go.Dec Go.ChangeShapes Go.WideShapes Go.ChangeAt Go.RowKit
theorem Tryd.pown:ownKnob Tryd.prog.godebug=none:=by kernel_rfl
theorem Tryd.plaidOut:laidOutB Tryd.prog=true:=by kernel_rfl
theorem prd9(W:World):Rds Tryd.prog W 9 tS:=Rds.string Tryd.underlying9
theorem pok9{W:World}{base:Nat}(v:Value)(h:Value.okWide Tryd.prog W .any base 9 v):v=mkVal false v.cells.toList:=okW_string Tryd.underlying9 v h
theorem pgr0(W:World):RdV Tryd.prog W 99 (tA 8 tS) Rows.laid_pandect_unit_names gv0:=(RdV.array Tryd.underlying99 (by kernel_rfl) (by kernel_rfl) rfl ⟨(RdV.string Tryd.underlying9 (by decide)),(RdV.string Tryd.underlying9 (by decide)),(RdV.string Tryd.underlying9 (by decide)),(RdV.string Tryd.underlying9 (by decide)),(RdV.string Tryd.underlying9 (by decide)),(RdV.string Tryd.underlying9 (by decide)),(RdV.string Tryd.underlying9 (by decide)),(RdV.string Tryd.underlying9 (by decide)),trivial⟩)
theorem pgr2(W:World):RdV Tryd.prog W 112 (tA 8 (tL (tI .i64))) Rows.laid_pandect_unit_below gv2:=(RdV.array Tryd.underlying112 (by kernel_rfl) (by kernel_rfl) rfl ⟨(RdV.slice Tryd.underlying111 (by kernel_rfl) (by decide) (by decide) ⟨(RdV.int Tryd.underlying3 (inR64.2 (by omega))),(RdV.int Tryd.underlying3 (inR64.2 (by omega))),trivial⟩),(RdV.slice Tryd.underlying111 (by kernel_rfl) (by decide) (by decide) ⟨(RdV.int Tryd.underlying3 (inR64.2 (by omega))),trivial⟩),(RdV.slice Tryd.underlying111 (by kernel_rfl) (by decide) (by decide) ⟨(RdV.int Tryd.underlying3 (inR64.2 (by omega))),(RdV.int Tryd.underlying3 (inR64.2 (by omega))),(RdV.int Tryd.underlying3 (inR64.2 (by omega))),trivial⟩),(RdV.slice Tryd.underlying111 (by kernel_rfl) (by decide) (by decide) ⟨(RdV.int Tryd.underlying3 (inR64.2 (by omega))),(RdV.int Tryd.underlying3 (inR64.2 (by omega))),(RdV.int Tryd.underlying3 (inR64.2 (by omega))),trivial⟩),(RdV.slice Tryd.underlying111 (by kernel_rfl) (by decide) (by decide) ⟨(RdV.int Tryd.underlying3 (inR64.2 (by omega))),trivial⟩),(RdV.slice Tryd.underlying111 (by kernel_rfl) (by decide) (by decide) ⟨(RdV.int Tryd.underlying3 (inR64.2 (by omega))),trivial⟩),(RdV.nil Tryd.underlying111),(RdV.nil Tryd.underlying111),trivial⟩)
theorem plaintextParseFormat_law(W:World)(base:Nat)(vs:List Value)(hx:∃ args:Array Value,laidMetH Tryd.prog Rows.plaintextParseFormatRow.laid W)(hsh:W.ShapedOpen Tryd.prog)(h:ArgsOk Tryd.prog W base Tryd.f3.params.toList vs):∃ As rin,All2 As vs (G.top W)∧rin.all (G.top W)∧NoBlk rin∧FSpecR Tryd.prog 3 As rin (fun _:Unit=>tB.is true) (fun _=>[]):=by
 rw [Tryd.params3] at h
 obtain ⟨v1,vs,x1,rfl,h1,h⟩:=ArgsOk.cons (t:=tS) h (prd9 W) pok9
 obtain rfl:=h.nil
 obtain ⟨n,hm⟩:=pparseformat_true x1
 obtain ⟨_,hx⟩:=hx
 have g0:(Gl (tA 8 tS) 0 gv0).holds (G.top W):=Gl.ofLaid (laid:=Rows.plaintextParseFormatRow.laid) (by kernel_rfl) hx (name:= "pandect/unit.names") (by simp [Rows.plaintextParseFormatRow];done) (by kernel_rfl) (by kernel_rfl) (pgr0 W)
 have g1:(GlE 1).holds (G.top W):=(Tryd.maxlen W hsh).imp fun m h=>(top_has h).2
 have g2:(Gl (tA 8 (tL (tI .i64))) 2 gv2).holds (G.top W):=Gl.ofLaid (laid:=Rows.plaintextParseFormatRow.laid) (by kernel_rfl) hx (name:= "pandect/unit.below") (by simp [Rows.plaintextParseFormatRow];done) (by kernel_rfl) (by kernel_rfl) (pgr2 W)
 refine ⟨[tS.is x1],[(700000,Gl (tA 8 tS) 0 gv0),(700001,GlE 1),(700002,Gl (tA 8 (tL (tI .i64))) 2 gv2)],⟨h1,trivial⟩,fun y hy=>?_,⟨rfl,rfl,rfl,trivial⟩,law11_PlaintextParseFormat_spec n x1 true hm⟩
 simp only [List.mem_cons,List.not_mem_nil,or_false] at hy
 rcases hy with rfl | rfl | rfl
 ·exact g0
 ·exact g1
 ·exact g2
theorem plaintextParseFormat_hx(w w':World)(args:Array Value)(h:w.heap=w'.heap)(k:laidMetH Tryd.prog Rows.plaintextParseFormatRow.laid w):laidMetH Tryd.prog Rows.plaintextParseFormatRow.laid w':=k.of_heap h
theorem plaintextParseFormat_met(os:Os)(args:Array Value):laidMetH Tryd.prog Rows.plaintextParseFormatRow.laid ((World.laidAll Tryd.prog os Rows.plaintextParseFormatRow.laid).forCall (fun _ _=>0) ⟨#[],args,[]⟩).memory:=by
 rw [MakeChecks.laidMetH_plain _ _ _ (by kernel_rfl)];exact laidMet_laidAll _ (by kernel_rfl) (by kernel_rfl)
set_option maxRecDepth 100000 in
theorem plaintextParseFormat_lifted(os:Os)(started:os.Started)(H:Type)(enc:TypeId×Value→H) :
  ReturnsInHanded {} Tryd.checked os 3 .any (fun w args=>(Rows.plaintextParseFormatSpec.pre enc Tryd.prog Tryd.f3 Rows.plaintextParseFormatRow.domain false w args∧laidMetH Tryd.prog Rows.plaintextParseFormatRow.laid w)∧sizedMet enc Tryd.prog Tryd.f3 (OpenSpec.ofChange Rows.plaintextParseFormatSpec) false w args) (Rows.plaintextParseFormatSpec.post enc Tryd.prog Tryd.f3 false true false false):=
 lifted_of_law_GS (C:=Tryd.checked) (X:=fun w _=>laidMetH Tryd.prog Rows.plaintextParseFormatRow.laid w) (plaintextParseFormat_hx) Tryd.pown started (by kernel_rfl) Tryd.func3
  (ChangeSpec.witness_shaped (enc:=enc) (C:=Tryd.checked) (os:=os) (X:=fun w _=>laidMetH Tryd.prog Rows.plaintextParseFormatRow.laid w) false (World.laidAll Tryd.prog os Rows.plaintextParseFormatRow.laid) #[.string ⟨#[]⟩] 8 (World.laidAll_os _ _ _) (World.shaped_of_ZipB (by kernel_rfl) (by kernel_rfl)) (by kernel_rfl) (by kernel_rfl) (by kernel_rfl) (plaintextParseFormat_met os _))
  Tryd.plaidOut (by kernel_rfl) rfl Tryd.underlying4 rfl
  (fun | [_],_=>⟨rfl,rfl,rfl⟩) plaintextParseFormat_law
theorem plaintextParseFormat_row_holds:Rows.PlaintextParseFormatSaid:=
 OpenClaim.holds_of_wide 3 Tryd.f3 rfl rfl rfl rfl rfl rfl rfl ⟨rfl,rfl,rfl,rfl,rfl⟩ rfl rfl rfl rfl rfl (by kernel_rfl) Tryd.func3 (by kernel_rfl)
  (of_decide_eq_true (by kernel_rfl)) (by unfold Func.isWrapper;first | (rw [if_pos (by decide+kernel)];kernel_rfl) | (rw [if_neg (by decide+kernel)];exact ⟨rfl,rfl⟩))
  (fun os started H enc _=>plaintextParseFormat_lifted os started H enc)
theorem plaintextParseFormat_holds:Rows.PlaintextParseFormatCardSaid:=
 Claim7.holds_tied_plain_at .later [] [.data,.data,.widerDeep,.pinned] true (true,"95702ae509fca06e0426b64502cb50ae539e970e9c4f19d943c2c972cec9bd4c") false
  plaintextParseFormat_row_holds (fun _ h=>by cases h) (by kernel_rfl) (fun _ h=>by cases h) plaintextParseFormat_row_tie rfl ⟨rfl,rfl⟩ (by kernel_rfl) rfl
  (fun f fn hf hfn=>by
   obtain rfl:f=3:=Option.some.inj ((show Tryd.prog.funcNamed "pandect/pandectlaw11.PlaintextParseFormat" =some 3 by kernel_rfl).symm.trans hf) |>.symm
   obtain rfl:fn=Tryd.f3:=(Option.some.inj (Tryd.func3.symm.trans hfn)).symm
   exact ⟨by kernel_rfl,fun j t ht=>by
    rw [Tryd.params3] at ht
    have hm:t∈ [9]:=by simpa using Array.mem_of_getElem? ht
    have hall:([9].all fun u=>!Tryd.prog.wantsStandIn u)=true:=by kernel_rfl
    exact (show Tryd.prog.wantsStandIn t=false by simpa using List.all_eq_true.1 hall t hm)⟩)
  (by kernel_rfl)
end Go.Proofs.YtofaogkcifaioaaDoor
