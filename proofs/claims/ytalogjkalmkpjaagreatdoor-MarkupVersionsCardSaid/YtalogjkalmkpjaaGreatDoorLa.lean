/-
  The rows of these laws, proved: for each law the walk of its code and its plain law, put together. No condition.
-/
import Derived.Test.YtalogjkalmkpjaaGreatDoorRows
import Derived.Test.YtalogjkalmkpjaaGreatDoorReadG
import Derived.Test.YtalogjkalmkpjaaGreatDoorReadH
import Derived.Test.YtalogjkalmkpjaaGreatDoorTie
import Derived.Test.YtalogjkalmkpjaaGreatDoorCards
import Derived.SevenTiedAt
import Derived.Lay
import Derived.Test.YtalogjkalmkpjaaGreatDoorWe
import Derived.Test.YtalogjkalmkpjaaGreatDoorSe
import Derived.ProofKit
set_option linter.unusedVariables false
set_option linter.unusedSimpArgs false
set_option maxRecDepth 100000
namespace Go.Proofs.YtalogjkalmkpjaaGreatDoor
open Go Go.Dec Go.ChangeShapes Go.WideShapes Go.ChangeAt Go.RowKit
theorem Tryz.mown:ownKnob Tryz.prog.godebug=none:=by kernel_rfl
theorem Tryz.mlaidOut:laidOutB Tryz.prog=true:=by kernel_rfl
theorem mrd3(W:World):Rds Tryz.prog W 3 (tI .i64):=Rds.int Tryz.underlying3
theorem mrd23(W:World):Rds Tryz.prog W 23 aj:=Rds.struct (fun x=>(⟨x.1,x.2.1,x.2.2⟩:au)) (fun _=>rfl) Tryz.underlying23 (by kernel_rfl) (RdF.cons rfl (by kernel_rfl) rfl (mrd3 W) (RdF.cons rfl (by kernel_rfl) rfl (mrd3 W) (RdF.last rfl (by kernel_rfl) (mrd3 W))))
theorem mrd9(W:World):Rds Tryz.prog W 9 tS:=Rds.string Tryz.underlying9
theorem mrd118(W:World):Rds Tryz.prog W 118 ul:=Rds.struct (fun x=>(⟨x.1,x.2.1,x.2.2⟩:mP)) (fun _=>rfl) Tryz.underlying118 (by kernel_rfl) (RdF.cons rfl (by kernel_rfl) rfl (mrd3 W) (RdF.cons rfl (by kernel_rfl) rfl (mrd3 W) (RdF.last rfl (by kernel_rfl) (mrd3 W))))
theorem mrd120(W:World):Rds Tryz.prog W 120 aD:=Rds.struct (fun x=>(⟨x.1,x.2⟩:aH)) (fun _=>rfl) Tryz.underlying120 (by kernel_rfl) (RdF.cons rfl (by kernel_rfl) rfl (mrd9 W) (RdF.last rfl (by kernel_rfl) (mrd118 W)))
theorem mrd24(W:World):Rds Tryz.prog W 24 (tL aD):=Rds.slice Tryz.underlying24 (mrd120 W) (by kernel_rfl) (by decide) (of_decide_eq_true (by kernel_rfl))
theorem mrd27(W:World):Rds Tryz.prog W 27 ai:=Rds.fix jw Tryz.underlying27 (fun k ih=>RdU.struct (fun x=>(⟨x.1,x.2.1,x.2.2.1,x.2.2.2.1,x.2.2.2.2.1,x.2.2.2.2.2⟩:af)) (fun _=>rfl) Tryz.underlying27 (by kernel_rfl) (RdFU.cons rfl (by kernel_rfl) rfl ((mrd23 W).to k) (RdFU.cons rfl (by kernel_rfl) rfl ((mrd3 W).to k) (RdFU.cons rfl (by kernel_rfl) rfl ((mrd9 W).to k) (RdFU.cons rfl (by kernel_rfl) rfl ((mrd24 W).to k) (RdFU.cons rfl (by kernel_rfl) rfl ((mrd24 W).to k) (RdFU.last rfl (by kernel_rfl) ((RdU.slice Tryz.underlying25 ih (by kernel_rfl) (by decide) (of_decide_eq_true (by kernel_rfl))).down (Nat.le_succ k)))))))))
theorem mok27{W:World}{base:Nat}(v:Value)(h:Value.okWide Tryz.prog W .any base 27 v):v=mkVal true v.cells.toList:=rF Tryz.underlying27 v h
theorem mgr0(W:World):RdV Tryz.prog W 83 (tA 3 tS) Rows.laid_pandect_markup_open gv0:=(RdV.array Tryz.underlying83 (by kernel_rfl) (by kernel_rfl) rfl ⟨(RdV.string Tryz.underlying9 (by decide)),(RdV.string Tryz.underlying9 (by decide)),(RdV.string Tryz.underlying9 (by decide)),trivial⟩)
theorem mgr1(W:World):RdV Tryz.prog W 83 (tA 3 tS) Rows.laid_pandect_markup_shut gv1:=(RdV.array Tryz.underlying83 (by kernel_rfl) (by kernel_rfl) rfl ⟨(RdV.string Tryz.underlying9 (by decide)),(RdV.string Tryz.underlying9 (by decide)),(RdV.string Tryz.underlying9 (by decide)),trivial⟩)
theorem mgr2(W:World):RdV Tryz.prog W 145 (tA 8 tS) Rows.laid_pandect_unit_names gv2:=(RdV.array Tryz.underlying145 (by kernel_rfl) (by kernel_rfl) rfl ⟨(RdV.string Tryz.underlying9 (by decide)),(RdV.string Tryz.underlying9 (by decide)),(RdV.string Tryz.underlying9 (by decide)),(RdV.string Tryz.underlying9 (by decide)),(RdV.string Tryz.underlying9 (by decide)),(RdV.string Tryz.underlying9 (by decide)),(RdV.string Tryz.underlying9 (by decide)),(RdV.string Tryz.underlying9 (by decide)),trivial⟩)
theorem mgr4(W:World):RdV Tryz.prog W 205 (tA 8 (tL (tI .i64))) Rows.laid_pandect_unit_below gv4:=(RdV.array Tryz.underlying205 (by kernel_rfl) (by kernel_rfl) rfl ⟨(RdV.slice Tryz.underlying161 (by kernel_rfl) (by decide) (by decide) ⟨(RdV.int Tryz.underlying3 (inR64.2 (by omega))),(RdV.int Tryz.underlying3 (inR64.2 (by omega))),trivial⟩),(RdV.slice Tryz.underlying161 (by kernel_rfl) (by decide) (by decide) ⟨(RdV.int Tryz.underlying3 (inR64.2 (by omega))),trivial⟩),(RdV.slice Tryz.underlying161 (by kernel_rfl) (by decide) (by decide) ⟨(RdV.int Tryz.underlying3 (inR64.2 (by omega))),(RdV.int Tryz.underlying3 (inR64.2 (by omega))),(RdV.int Tryz.underlying3 (inR64.2 (by omega))),trivial⟩),(RdV.slice Tryz.underlying161 (by kernel_rfl) (by decide) (by decide) ⟨(RdV.int Tryz.underlying3 (inR64.2 (by omega))),(RdV.int Tryz.underlying3 (inR64.2 (by omega))),(RdV.int Tryz.underlying3 (inR64.2 (by omega))),trivial⟩),(RdV.slice Tryz.underlying161 (by kernel_rfl) (by decide) (by decide) ⟨(RdV.int Tryz.underlying3 (inR64.2 (by omega))),trivial⟩),(RdV.slice Tryz.underlying161 (by kernel_rfl) (by decide) (by decide) ⟨(RdV.int Tryz.underlying3 (inR64.2 (by omega))),trivial⟩),(RdV.nil Tryz.underlying161),(RdV.nil Tryz.underlying161),trivial⟩)
theorem mgr7(W:World):RdV Tryz.prog W 239 (tA 20 (tI .u64)) Rows.laid_internal_strconv_uint64pow10 Lib.pow10Tab:=by
 rw [show Lib.pow10Tab= [(1:Int),(10:Int),(100:Int),(1000:Int),(10000:Int),(100000:Int),(1000000:Int),(10000000:Int),(100000000:Int),(1000000000:Int),(10000000000:Int),(100000000000:Int),(1000000000000:Int),(10000000000000:Int),(100000000000000:Int),(1000000000000000:Int),(10000000000000000:Int),(100000000000000000:Int),(1000000000000000000:Int),(10000000000000000000:Int)] from by decide]
 exact (RdV.array Tryz.underlying239 (by kernel_rfl) (by kernel_rfl) rfl ⟨(RdV.int Tryz.underlying189 (by decide)),(RdV.int Tryz.underlying189 (by decide)),(RdV.int Tryz.underlying189 (by decide)),(RdV.int Tryz.underlying189 (by decide)),(RdV.int Tryz.underlying189 (by decide)),(RdV.int Tryz.underlying189 (by decide)),(RdV.int Tryz.underlying189 (by decide)),(RdV.int Tryz.underlying189 (by decide)),(RdV.int Tryz.underlying189 (by decide)),(RdV.int Tryz.underlying189 (by decide)),(RdV.int Tryz.underlying189 (by decide)),(RdV.int Tryz.underlying189 (by decide)),(RdV.int Tryz.underlying189 (by decide)),(RdV.int Tryz.underlying189 (by decide)),(RdV.int Tryz.underlying189 (by decide)),(RdV.int Tryz.underlying189 (by decide)),(RdV.int Tryz.underlying189 (by decide)),(RdV.int Tryz.underlying189 (by decide)),(RdV.int Tryz.underlying189 (by decide)),(RdV.int Tryz.underlying189 (by decide)),trivial⟩)
theorem vv(W:World)(base:Nat)(vs:List Value)(hx:∃ args:Array Value,laidMetH Tryz.prog Rows.markupVersionsRow.laid W)(hsh:W.ShapedOpen Tryz.prog)(h:rG Tryz.prog W base Tryz.f5.params.toList vs):∃ As rin,All2 As vs (G.top W)∧rin.all (G.top W)∧NoBlk rin∧aG Tryz.prog 5 As rin (fun _:Unit=>tB.is true) (fun _=>[]):=by
 rw [Tryz.params5] at h
 obtain ⟨v1,vs,x1,rfl,h1,h⟩:=rG.cons (t:=ai) h (mrd27 W) mok27
 obtain ⟨v2,vs,x2,rfl,h2,h⟩:=rG.cons (t:=ai) h (mrd27 W) mok27
 obtain rfl:=h.nil
 obtain ⟨n,hm⟩:=To.ex (zw x1 x2)
 obtain ⟨_,hx⟩:=hx
 have g0:(Gl (tA 3 tS) 0 gv0).holds (G.top W):=Gl.ofLaid (laid:=Rows.markupVersionsRow.laid) (by kernel_rfl) hx (name:= "pandect/markup.open") (by simp [Rows.markupVersionsRow];done) (by kernel_rfl) (by kernel_rfl) (mgr0 W)
 have g1:(Gl (tA 3 tS) 1 gv1).holds (G.top W):=Gl.ofLaid (laid:=Rows.markupVersionsRow.laid) (by kernel_rfl) hx (name:= "pandect/markup.shut") (by simp [Rows.markupVersionsRow];done) (by kernel_rfl) (by kernel_rfl) (mgr1 W)
 have g2:(Gl (tA 8 tS) 2 gv2).holds (G.top W):=Gl.ofLaid (laid:=Rows.markupVersionsRow.laid) (by kernel_rfl) hx (name:= "pandect/unit.names") (by simp [Rows.markupVersionsRow];done) (by kernel_rfl) (by kernel_rfl) (mgr2 W)
 have g3:(GlE 3).holds (G.top W):=(Tryz.maxlen W hsh).imp fun m h=>(rE h).2
 have g4:(Gl (tA 8 (tL (tI .i64))) 4 gv4).holds (G.top W):=Gl.ofLaid (laid:=Rows.markupVersionsRow.laid) (by kernel_rfl) hx (name:= "pandect/unit.below") (by simp [Rows.markupVersionsRow];done) (by kernel_rfl) (by kernel_rfl) (mgr4 W)
 have g7:(GlT Tryz.prog "internal/strconv.uint64pow10" .u64 Lib.pow10Tab).holds (G.top W):=GlT.ofLaid (laid:=Rows.markupVersionsRow.laid) (by kernel_rfl) hx (name:= "internal/strconv.uint64pow10") (by simp [Rows.markupVersionsRow];done) (b:=7) (by kernel_rfl) (by kernel_rfl) (mgr7 W) (by decide)
 have g8:(GlI 8).holds (G.top W):=GlI.ofLaid (laid:=Rows.markupVersionsRow.laid) (by kernel_rfl) hx (name:= "strconv.ErrSyntax") (by simp [Rows.markupVersionsRow];exact rfl) (by kernel_rfl) (by kernel_rfl) Tryz.underlying108
 have g9:(GlI 9).holds (G.top W):=GlI.ofLaid (laid:=Rows.markupVersionsRow.laid) (by kernel_rfl) hx (name:= "strconv.ErrRange") (by simp [Rows.markupVersionsRow];exact rfl) (by kernel_rfl) (by kernel_rfl) Tryz.underlying108
 refine ⟨[ai.is x1,ai.is x2],[(700000,Gl (tA 3 tS) 0 gv0),(700001,Gl (tA 3 tS) 1 gv1),(700002,Gl (tA 8 tS) 2 gv2),(700003,GlE 3),(700004,Gl (tA 8 (tL (tI .i64))) 4 gv4),(700007,GlT Tryz.prog "internal/strconv.uint64pow10" .u64 Lib.pow10Tab),(700008,GlI 8),(700009,GlI 9)],⟨h1,h2,trivial⟩,fun y hy=>?_,⟨rfl,rfl,rfl,rfl,rfl,rfl,rfl,rfl,trivial⟩,qg n x1 x2 true hm⟩
 simp only [List.mem_cons,List.not_mem_nil,or_false] at hy
 rcases hy with rfl | rfl | rfl | rfl | rfl | rfl | rfl | rfl
 ·exact g0
 ·exact g1
 ·exact g2
 ·exact g3
 ·exact g4
 ·exact g7
 ·exact g8
 ·exact g9
theorem wJ(w w':World)(args:Array Value)(h:w.heap=w'.heap)(k:laidMetH Tryz.prog Rows.markupVersionsRow.laid w):laidMetH Tryz.prog Rows.markupVersionsRow.laid w':=k.of_heap h
theorem vw(os:Os)(args:Array Value):laidMetH Tryz.prog Rows.markupVersionsRow.laid ((World.laidAll Tryz.prog os Rows.markupVersionsRow.laid).forCall (fun _ _=>0) ⟨#[],args,[]⟩).memory:=by
 rw [MakeChecks.laidMetH_plain _ _ _ (by kernel_rfl)];exact laidMet_laidAll _ (by kernel_rfl) (by kernel_rfl)
set_option maxRecDepth 100000 in
theorem sw(os:Os)(started:os.Started)(H:Type)(enc:TypeId×Value→H) :
  ReturnsInHanded {} Tryz.checked os 5 .any (fun w args=>(Rows.markupVersionsSpec.pre enc Tryz.prog Tryz.f5 Rows.markupVersionsRow.domain false w args∧laidMetH Tryz.prog Rows.markupVersionsRow.laid w)∧sizedMet enc Tryz.prog Tryz.f5 (OpenSpec.ofChange Rows.markupVersionsSpec) false w args) (Rows.markupVersionsSpec.post enc Tryz.prog Tryz.f5 false true false false):=
 wO (C:=Tryz.checked) (X:=fun w _=>laidMetH Tryz.prog Rows.markupVersionsRow.laid w) (wJ) Tryz.mown started (by kernel_rfl) Tryz.func5
  (ChangeSpec.witness_shaped (enc:=enc) (C:=Tryz.checked) (os:=os) (X:=fun w _=>laidMetH Tryz.prog Rows.markupVersionsRow.laid w) false (World.laidAll Tryz.prog os Rows.markupVersionsRow.laid) #[.agg #[.int .i64 0,.int .i64 0,.int .i64 0,.int .i64 0,.string ⟨#[]⟩,.slice none 0 0,.slice none 0 0,.slice none 0 0],.agg #[.int .i64 0,.int .i64 0,.int .i64 0,.int .i64 0,.string ⟨#[]⟩,.slice none 0 0,.slice none 0 0,.slice none 0 0]] 8 (World.laidAll_os _ _ _) (World.shaped_of_ZipB (by kernel_rfl) (by kernel_rfl)) (by kernel_rfl) (by kernel_rfl) (by kernel_rfl) (vw os _))
  Tryz.mlaidOut (by kernel_rfl) rfl Tryz.underlying4 rfl
  (fun | [_,_],_=>⟨rfl,rfl,rfl⟩) vv
theorem markupVersions_row_holds:Rows.MarkupVersionsSaid:=
 OpenClaim.holds_of_wide 5 Tryz.f5 rfl rfl rfl rfl rfl rfl rfl ⟨rfl,rfl,rfl,rfl,rfl⟩ rfl rfl rfl rfl rfl (by kernel_rfl) Tryz.func5 (by kernel_rfl)
  (of_decide_eq_true (by kernel_rfl)) (by unfold Func.isWrapper;first | (rw [if_pos (by decide+kernel)];kernel_rfl) | (rw [if_neg (by decide+kernel)];exact ⟨rfl,rfl⟩))
  (fun os started H enc _=>sw os started H enc)
theorem markupVersions_holds:Rows.MarkupVersionsCardSaid:=
 Claim7.holds_tied_plain_at .later [] [.data,.data,.data,.data,.sentinel,.sentinel,.data,.widerDeep,.data,.data,.pinned] true (true,"1d63e972e2f6fe0dfd11df6569bbe20dd266349f466aa752a3f7ce7ee7f7f015") true
  markupVersions_row_holds (fun _ h=>by cases h) (by kernel_rfl) (fun _ h=>by cases h) markupVersions_row_tie rfl ⟨rfl,rfl⟩ (by kernel_rfl) rfl
  (fun f fn hf hfn=>by
   obtain rfl:f=5:=Option.some.inj ((show Tryz.prog.funcNamed "pandect/pandectlaw53.MarkupVersions" =some 5 by kernel_rfl).symm.trans hf) |>.symm
   obtain rfl:fn=Tryz.f5:=(Option.some.inj (Tryz.func5.symm.trans hfn)).symm
   exact ⟨by kernel_rfl,fun j t ht=>by
    rw [Tryz.params5] at ht
    have hm:t∈ [27,27]:=by simpa using Array.mem_of_getElem? ht
    have hall:([27,27].all fun u=>!Tryz.prog.wantsStandIn u)=true:=by kernel_rfl
    exact (show Tryz.prog.wantsStandIn t=false by simpa using List.all_eq_true.1 hall t hm)⟩)
  (by kernel_rfl)
end Go.Proofs.YtalogjkalmkpjaaGreatDoor
