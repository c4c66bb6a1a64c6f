/-
  The rows of these laws, proved: for each law the walk of its code and its plain law, put together. No condition.
-/
import Derived.Test.YtapobcikfdbjiaaGreatDoorRows
import Derived.Test.YtapobcikfdbjiaaGreatDoorDec22
import Derived.Test.YtapobcikfdbjiaaGreatDoorTie
import Derived.Test.YtapobcikfdbjiaaGreatDoorCards
import Derived.SevenTiedAt
import Derived.Lay
import Derived.Test.YtapobcikfdbjiaaGreatDoorVG
import Derived.Test.YtapobcikfdbjiaaGreatDoorBn
import Derived.ProofKit
set_option linter.unusedVariables false
set_option linter.unusedSimpArgs false
set_option maxRecDepth 100000
namespace Go.Proofs.YtapobcikfdbjiaaGreatDoor
open Go Go.Dec Go.ChangeShapes Go.WideShapes Go.ChangeAt Go.RowKit
theorem Tryz.uown:ownKnob Tryz.prog.godebug=none:=by kernel_rfl
theorem Tryz.ulaidOut:laidOutB Tryz.prog=true:=by kernel_rfl
theorem Xe(W:World):Rds Tryz.prog W 3 (tI .i64):=Rds.int Tryz.underlying3
theorem Yt{W:World}{base:Nat}(v:Value)(h:Value.okWide Tryz.prog W .any base 3 v):v=mkVal false v.cells.toList:=Lx Tryz.underlying3 v h
theorem XW(W:World):Rds Tryz.prog W 23 aB:=Rds.struct (fun x=>(⟨x.1,x.2.1,x.2.2⟩:ai)) (fun _=>rfl) Tryz.underlying23 (by kernel_rfl) (RdF.cons rfl (by kernel_rfl) rfl (Xe W) (RdF.cons rfl (by kernel_rfl) rfl (Xe W) (RdF.last rfl (by kernel_rfl) (Xe W))))
theorem Ye{W:World}{base:Nat}(v:Value)(h:Value.okWide Tryz.prog W .any base 23 v):v=mkVal true v.cells.toList:=pY Tryz.underlying23 v h
theorem XA(W:World):Rds Tryz.prog W 9 tS:=Rds.string Tryz.underlying9
theorem XX(W:World):Rds Tryz.prog W 96 jJ:=Rds.struct (fun x=>(⟨x.1,x.2.1,x.2.2⟩:kL)) (fun _=>rfl) Tryz.underlying96 (by kernel_rfl) (RdF.cons rfl (by kernel_rfl) rfl (Xe W) (RdF.cons rfl (by kernel_rfl) rfl (Xe W) (RdF.last rfl (by kernel_rfl) (Xe W))))
theorem Yf{W:World}{base:Nat}(v:Value)(h:Value.okWide Tryz.prog W .any base 96 v):v=mkVal true v.cells.toList:=pY Tryz.underlying96 v h
theorem XY(W:World):Rds Tryz.prog W 98 aj:=Rds.struct (fun x=>(⟨x.1,x.2⟩:af)) (fun _=>rfl) Tryz.underlying98 (by kernel_rfl) (RdF.cons rfl (by kernel_rfl) rfl (XA W) (RdF.last rfl (by kernel_rfl) (XX W)))
theorem Yg{W:World}{base:Nat}(v:Value)(h:Value.okWide Tryz.prog W .any base 98 v):v=mkVal true v.cells.toList:=pY Tryz.underlying98 v h
theorem XG(W:World):Rds Tryz.prog W 24 (tL aj):=Rds.slice Tryz.underlying24 (XY W) (by kernel_rfl) (by decide) (of_decide_eq_true (by kernel_rfl))
theorem Yh{W:World}{base:Nat}(v:Value)(h:Value.okWide Tryz.prog W .any base 24 v):v=mkVal false v.cells.toList:=yw Tryz.underlying24 v h
theorem XH(W:World):Rds Tryz.prog W 27 ae:=Rds.fix nD Tryz.underlying27 (fun k ih=>RdU.struct (fun x=>(⟨x.1,x.2.1,x.2.2.1,x.2.2.2.1,x.2.2.2.2.1,x.2.2.2.2.2⟩:aa)) (fun _=>rfl) Tryz.underlying27 (by kernel_rfl) (RdFU.cons rfl (by kernel_rfl) rfl ((XW W).to k) (RdFU.cons rfl (by kernel_rfl) rfl ((Xe W).to k) (RdFU.cons rfl (by kernel_rfl) rfl ((XA W).to k) (RdFU.cons rfl (by kernel_rfl) rfl ((XG W).to k) (RdFU.cons rfl (by kernel_rfl) rfl ((XG W).to k) (RdFU.last rfl (by kernel_rfl) ((RdU.slice Tryz.underlying25 ih (by kernel_rfl) (by decide) (of_decide_eq_true (by kernel_rfl))).down (Nat.le_succ k)))))))))
theorem XZ{W:World}{base:Nat}(v:Value)(h:Value.okWide Tryz.prog W .any base 27 v):v=mkVal true v.cells.toList:=pY Tryz.underlying27 v h
theorem X0(W:World):Rds Tryz.prog W 70 bu:=Rds.struct (fun x=>(⟨x.1,x.2⟩:ax)) (fun _=>rfl) Tryz.underlying70 (by kernel_rfl) (RdF.cons rfl (by kernel_rfl) rfl (Xe W) (RdF.last rfl (by kernel_rfl) (XA W)))
theorem Yi{W:World}{base:Nat}(v:Value)(h:Value.okWide Tryz.prog W .any base 70 v):v=mkVal true v.cells.toList:=pY Tryz.underlying70 v h
theorem XI(W:World):Rds Tryz.prog W 44 (tL bu):=Rds.slice Tryz.underlying44 (X0 W) (by kernel_rfl) (by decide) (of_decide_eq_true (by kernel_rfl))
theorem Yj{W:World}{base:Nat}(v:Value)(h:Value.okWide Tryz.prog W .any base 44 v):v=mkVal false v.cells.toList:=yw Tryz.underlying44 v h
theorem XJ(W:World):Rds Tryz.prog W 45 (tL tS):=Rds.slice Tryz.underlying45 (XA W) (by kernel_rfl) (by decide) (of_decide_eq_true (by kernel_rfl))
theorem Yk{W:World}{base:Nat}(v:Value)(h:Value.okWide Tryz.prog W .any base 45 v):v=mkVal false v.cells.toList:=yw Tryz.underlying45 v h
theorem X3(W:World):Rds Tryz.prog W 47 lM:=Rds.struct (fun x=>(⟨x.1,x.2.1,x.2.2⟩:fZ)) (fun _=>rfl) Tryz.underlying47 (by kernel_rfl) (RdF.cons rfl (by kernel_rfl) rfl (Xe W) (RdF.cons rfl (by kernel_rfl) rfl (Xe W) (RdF.last rfl (by kernel_rfl) (XA W))))
theorem Yl{W:World}{base:Nat}(v:Value)(h:Value.okWide Tryz.prog W .any base 47 v):v=mkVal true v.cells.toList:=pY Tryz.underlying47 v h
theorem X4(W:World):Rds Tryz.prog W 50 aD:=Rds.fix EC Tryz.underlying50 (fun k ih=>RdU.struct (fun x=>(⟨x.1,x.2.1,x.2.2.1,x.2.2.2.1,x.2.2.2.2.1,x.2.2.2.2.2.1,x.2.2.2.2.2.2.1,x.2.2.2.2.2.2.2.1,x.2.2.2.2.2.2.2.2.1,x.2.2.2.2.2.2.2.2.2.1,x.2.2.2.2.2.2.2.2.2.2.1,x.2.2.2.2.2.2.2.2.2.2.2.1,x.2.2.2.2.2.2.2.2.2.2.2.2.1,x.2.2.2.2.2.2.2.2.2.2.2.2.2.1,x.2.2.2.2.2.2.2.2.2.2.2.2.2.2.1,x.2.2.2.2.2.2.2.2.2.2.2.2.2.2.2⟩:ah)) (fun _=>rfl) Tryz.underlying50 (by kernel_rfl) (RdFU.cons rfl (by kernel_rfl) rfl ((Xe W).to k) (RdFU.cons rfl (by kernel_rfl) rfl ((XI W).to k) (RdFU.cons rfl (by kernel_rfl) rfl ((XI W).to k) (RdFU.cons rfl (by kernel_rfl) rfl ((Xe W).to k) (RdFU.cons rfl (by kernel_rfl) rfl ((Xe W).to k) (RdFU.cons rfl (by kernel_rfl) rfl ((XH W).to k) (RdFU.cons rfl (by kernel_rfl) rfl ((XJ W).to k) (RdFU.cons rfl (by kernel_rfl) rfl ((XJ W).to k) (RdFU.cons rfl (by kernel_rfl) rfl ((XA W).to k) (RdFU.cons rfl (by kernel_rfl) rfl ((XA W).to k) (RdFU.cons rfl (by kernel_rfl) rfl ((X3 W).to k) (RdFU.cons rfl (by kernel_rfl) rfl ((Xe W).to k) (RdFU.cons rfl (by kernel_rfl) rfl ((Xe W).to k) (RdFU.cons rfl (by kernel_rfl) rfl ((Xe W).to k) (RdFU.cons rfl (by kernel_rfl) rfl ((XA W).to k) (RdFU.last rfl (by kernel_rfl) ((RdU.slice Tryz.underlying48 ih (by kernel_rfl) (by decide) (of_decide_eq_true (by kernel_rfl))).down (Nat.le_succ k)))))))))))))))))))
theorem Ym{W:World}{base:Nat}(v:Value)(h:Value.okWide Tryz.prog W .any base 50 v):v=mkVal true v.cells.toList:=pY Tryz.underlying50 v h
theorem X5(W:World):Rds Tryz.prog W 52 aO:=Rds.struct (fun x=>(⟨x.1,x.2.1,x.2.2.1,x.2.2.2⟩:ak)) (fun _=>rfl) Tryz.underlying52 (by kernel_rfl) (RdF.cons rfl (by kernel_rfl) rfl (Xe W) (RdF.cons rfl (by kernel_rfl) rfl (Xe W) (RdF.cons rfl (by kernel_rfl) rfl (Xe W) (RdF.last rfl (by kernel_rfl) (X4 W)))))
theorem Yn{W:World}{base:Nat}(v:Value)(h:Value.okWide Tryz.prog W .any base 52 v):v=mkVal true v.cells.toList:=pY Tryz.underlying52 v h
theorem X6(W:World):Rds Tryz.prog W 28 (tL aO):=Rds.slice Tryz.underlying28 (X5 W) (by kernel_rfl) (by decide) (of_decide_eq_true (by kernel_rfl))
theorem X7{W:World}{base:Nat}(v:Value)(h:Value.okWide Tryz.prog W .any base 28 v):v=mkVal false v.cells.toList:=yw Tryz.underlying28 v h
theorem Yo(W:World):Rds Tryz.prog W 5 (tI .u8):=Rds.int Tryz.underlying5
theorem Yp{W:World}{base:Nat}(v:Value)(h:Value.okWide Tryz.prog W .any base 5 v):v=mkVal false v.cells.toList:=Lx Tryz.underlying5 v h
theorem Yq(W:World):RdV Tryz.prog W 219 (tA 8 (tL (tI .i64))) Rows.laid_pandect_unit_below gv1:=(RdV.array Tryz.underlying219 (by kernel_rfl) (by kernel_rfl) rfl ⟨(RdV.slice Tryz.underlying131 (by kernel_rfl) (by decide) (by decide) ⟨(RdV.int Tryz.underlying3 (inR64.2 (by omega))),(RdV.int Tryz.underlying3 (inR64.2 (by omega))),trivial⟩),(RdV.slice Tryz.underlying131 (by kernel_rfl) (by decide) (by decide) ⟨(RdV.int Tryz.underlying3 (inR64.2 (by omega))),trivial⟩),(RdV.slice Tryz.underlying131 (by kernel_rfl) (by decide) (by decide) ⟨(RdV.int Tryz.underlying3 (inR64.2 (by omega))),(RdV.int Tryz.underlying3 (inR64.2 (by omega))),(RdV.int Tryz.underlying3 (inR64.2 (by omega))),trivial⟩),(RdV.slice Tryz.underlying131 (by kernel_rfl) (by decide) (by decide) ⟨(RdV.int Tryz.underlying3 (inR64.2 (by omega))),(RdV.int Tryz.underlying3 (inR64.2 (by omega))),(RdV.int Tryz.underlying3 (inR64.2 (by omega))),trivial⟩),(RdV.slice Tryz.underlying131 (by kernel_rfl) (by decide) (by decide) ⟨(RdV.int Tryz.underlying3 (inR64.2 (by omega))),trivial⟩),(RdV.slice Tryz.underlying131 (by kernel_rfl) (by decide) (by decide) ⟨(RdV.int Tryz.underlying3 (inR64.2 (by omega))),trivial⟩),(RdV.nil Tryz.underlying131),(RdV.nil Tryz.underlying131),trivial⟩)
theorem Yr(W:World):RdV Tryz.prog W 276 (tA 8 tS) Rows.laid_pandect_unit_names gv4:=(RdV.array Tryz.underlying276 (by kernel_rfl) (by kernel_rfl) rfl ⟨(RdV.string Tryz.underlying9 (by decide)),(RdV.string Tryz.underlying9 (by decide)),(RdV.string Tryz.underlying9 (by decide)),(RdV.string Tryz.underlying9 (by decide)),(RdV.string Tryz.underlying9 (by decide)),(RdV.string Tryz.underlying9 (by decide)),(RdV.string Tryz.underlying9 (by decide)),(RdV.string Tryz.underlying9 (by decide)),trivial⟩)
theorem Jq(W:World)(base:Nat)(vs:List Value)(hx:∃ args:Array Value,laidMetH Tryz.prog Rows.topUndoRow.laid W)(h:vO Tryz.prog W base Tryz.f3.params.toList vs):∃ As rin,All2 As vs (G.top W)/\rin.all (G.top W)/\NoBlk rin/\aT Tryz.prog 3 As rin (fun _:Unit=>tB.is true) (fun _=>[]):=by
 rw [Tryz.params3] at h
 obtain ⟨v1,vs,x1,rfl,h1,h⟩:=vO.cons (t:=ae) h (XH W) XZ
 obtain ⟨v2,vs,x2,rfl,h2,h⟩:=vO.cons (t:=(tL aO)) h (X6 W) X7
 obtain ⟨v3,vs,x3,rfl,h3,h⟩:=vO.cons (t:=(tI .u8)) h (Yo W) Yp
 obtain rfl:=h.nil
 obtain ⟨n,hm⟩:=To.ex (Gs x1 x2 x3 (u8_in h3).1 (u8_in h3).2)
 obtain ⟨_,hx⟩:=hx
 have g0:(Gl eO 0 gv0).holds (G.top W):=Gl.ofFuncs (laid:=Rows.topUndoRow.laid) hx (name:= "pandect/syntax.order") (List.mem_of_getElem? (i:=3) rfl) (by kernel_rfl) (by kernel_rfl) Tryz.underlying121 Tryz.underlying108 Tryz.underlying43 (by kernel_rfl) (by kernel_rfl) rfl rfl (by kernel_rfl) (fun v w hv hw=>⟨_,_,rfl,⟨_,rfl,.inr ⟨hv,fun s h=>by cases h⟩⟩,_,rfl,.inr ⟨hw,fun s h=>by cases h⟩⟩)
 have g1:(Gl (tA 8 (tL (tI .i64))) 1 gv1).holds (G.top W):=Gl.ofLaidF (laid:=Rows.topUndoRow.laid) hx (name:= "pandect/unit.below") (by simp [Rows.topUndoRow];done) (by kernel_rfl) (by kernel_rfl) (by kernel_rfl) (Yq W)
 have g4:(Gl (tA 8 tS) 4 gv4).holds (G.top W):=Gl.ofLaidF (laid:=Rows.topUndoRow.laid) hx (name:= "pandect/unit.names") (by simp [Rows.topUndoRow];done) (by kernel_rfl) (by kernel_rfl) (by kernel_rfl) (Yr W)
 refine ⟨[ae.is x1,(tL aO).is x2,(tI .u8).is x3],[(700000,Gl eO 0 gv0),(700001,Gl (tA 8 (tL (tI .i64))) 1 gv1),(700004,Gl (tA 8 tS) 4 gv4)],⟨h1,h2,h3,trivial⟩,fun y hy=>?_,⟨rfl,rfl,rfl,trivial⟩,(wH n x1 x2 x3 true).h hm⟩
 simp only [List.mem_cons,List.not_mem_nil,or_false] at hy
 rcases hy with rfl | rfl | rfl
 ·exact g0
 ·exact g1
 ·exact g4
theorem Lb(w w':World)(args:Array Value)(h:w.heap=w'.heap)(k:laidMetH Tryz.prog Rows.topUndoRow.laid w):laidMetH Tryz.prog Rows.topUndoRow.laid w':=k.of_heap h
noncomputable def Fv (os:Os):World:=(setVars (World.holding Tryz.prog os ⟨#[],#[],[]⟩) [(0,[.func (.func 354) #[] #[],.func (.func 355) #[] #[]])]).layVars Tryz.prog (Rows.topUndoRow.laid.filter fun x=>x.2.handleName?.isNone)
theorem Jr(os:Os)(args:Array Value):laidMetH Tryz.prog Rows.topUndoRow.laid ((Fv os).forCall (fun _ _=>0) ⟨#[],args,[]⟩).memory:=
 laidMetH_of_parts3 (fuel:=8) (yR _ (by kernel_rfl) (by kernel_rfl)) (by kernel_rfl) (by kernel_rfl)
set_option maxRecDepth 100000 in
theorem Ea(os:Os)(started:os.Started)(H:Type)(enc:TypeId×Value->H) :
  ReturnsInHanded {} Tryz.checked os 3 .any (fun w args=>(Rows.topUndoSpec.pre enc Tryz.prog Tryz.f3 Rows.topUndoRow.domain false w args/\laidMetH Tryz.prog Rows.topUndoRow.laid w)/\sizedMet enc Tryz.prog Tryz.f3 (OpenSpec.ofChange Rows.topUndoSpec) false w args) (Rows.topUndoSpec.post enc Tryz.prog Tryz.f3 false true false false):=
 Ca (C:=Tryz.checked) (X:=fun w _=>laidMetH Tryz.prog Rows.topUndoRow.laid w) (Lb) Tryz.uown started (by kernel_rfl) Tryz.func3
  (ChangeSpec.witness_shaped (enc:=enc) (C:=Tryz.checked) (os:=os) (X:=fun w _=>laidMetH Tryz.prog Rows.topUndoRow.laid w) false (Fv os) #[.agg #[.int .i64 0,.int .i64 0,.int .i64 0,.int .i64 0,.string ⟨#[]⟩,.slice none 0 0,.slice none 0 0,.slice none 0 0],.slice none 0 0,.int .u8 0] 8 (World.layVars_os _ _ _) (World.shaped_of_ZipB (by kernel_rfl) (by kernel_rfl)) (by kernel_rfl) (by kernel_rfl) (by kernel_rfl) (Jr os _))
  Tryz.ulaidOut (by kernel_rfl) rfl Tryz.underlying4 rfl
  (fun | [_,_,_],_=>⟨rfl,rfl,rfl⟩) Jq
theorem Lc:Tryz.pinned.checked.prog.inPlace 3=Rows.topUndoRow.inPlace:=by kernel_rfl
theorem Ld:Tryz.pinned.checked.prog.unfollowed 3=Rows.topUndoRow.unfollowed:=by kernel_rfl
theorem Lf:Tryz.pinned.checked.prog.recurses 3=Rows.topUndoRow.recurses:=by kernel_rfl
theorem Lg:Tryz.pinned.checked.prog.varsNamed 3=Rows.topUndoRow.named:=by kernel_rfl
theorem Lh:laidOutB Tryz.pinned.checked.prog=true:=by kernel_rfl
theorem Li:mapsRowed Tryz.pinned.checked.prog=true:=by kernel_rfl
theorem Lj:Rows.topUndoRow.wf (OpenSpec.ofChange Rows.topUndoSpec)=true:=by kernel_rfl
theorem Oh:joinedFacts Tryz.pinned.checked.prog 3 Tryz.f3 Rows.topUndoSpec Rows.topUndoRow=true:=by
 unfold joinedFacts
 rw [Lc,Ld,Lf,Lg,Lh,Li,Lj]
 kernel_rfl
theorem topUndo_row_holds:Rows.TopUndoSaid:=
 OpenClaim.holds_of_wide 3 Tryz.f3 rfl rfl rfl rfl rfl rfl rfl ⟨rfl,rfl,rfl,rfl,rfl⟩ rfl rfl rfl rfl rfl (by kernel_rfl) Tryz.func3 Oh
  (of_decide_eq_true (by kernel_rfl)) (by unfold Func.isWrapper;first | (rw [if_pos (by decide+kernel)];kernel_rfl) | (rw [if_neg (by decide+kernel)];exact ⟨rfl,rfl⟩))
  (fun os started H enc _=>Ea os started H enc)
theorem topUndo_holds:Rows.TopUndoCardSaid:=
 Claim7.holds_tied_plain_at .later [] [.data,.data,.widerDeep,.funcs,.pinned] true (true,"0107bc8481b0948a94c533b96f27db55f8350f929d4cd06316299f2900beef6d") false
  topUndo_row_holds (fun _ h=>by cases h) (by kernel_rfl) (fun _ h=>by cases h) topUndo_row_tie rfl ⟨rfl,rfl⟩ (by kernel_rfl) rfl
  (fun f fn hf hfn=>by
   obtain rfl:f=3:=Option.some.inj ((show Tryz.prog.funcNamed "pandect/pandecttop.TopUndo" =some 3 by kernel_rfl).symm.trans hf) |>.symm
   obtain rfl:fn=Tryz.f3:=(Option.some.inj (Tryz.func3.symm.trans hfn)).symm
   exact ⟨by kernel_rfl,fun j t ht=>by
    rw [Tryz.params3] at ht
    have hm:t∈ [27,28,5]:=by simpa using Array.mem_of_getElem? ht
    have hall:([27,28,5].all fun u=>!Tryz.prog.wantsStandIn u)=true:=by kernel_rfl
    exact (show Tryz.prog.wantsStandIn t=false by simpa using List.all_eq_true.1 hall t hm)⟩)
  (by kernel_rfl)
end Go.Proofs.YtapobcikfdbjiaaGreatDoor
