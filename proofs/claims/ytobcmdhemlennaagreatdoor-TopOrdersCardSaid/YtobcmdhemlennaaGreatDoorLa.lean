/-
  The rows of these laws, proved: for each law the walk of its code and its plain law, put together. No condition.
-/
import Derived.Test.YtobcmdhemlennaaGreatDoorRows
import Derived.Test.YtobcmdhemlennaaGreatDoorReadF
import Derived.Test.YtobcmdhemlennaaGreatDoorTie
import Derived.Test.YtobcmdhemlennaaGreatDoorCards
import Derived.SevenTiedAt
import Derived.Lay
import Derived.Test.YtobcmdhemlennaaGreatDoorVE
import Derived.Test.YtobcmdhemlennaaGreatDoorPy
import Derived.ProofKit
set_option linter.unusedVariables false
set_option linter.unusedSimpArgs false
set_option maxRecDepth 100000
namespace Go.Proofs.YtobcmdhemlennaaGreatDoor
open Go Go.Dec Go.ChangeShapes Go.WideShapes Go.ChangeAt Go.RowKit
theorem Tryz.uown:ownKnob Tryz.prog.godebug=none:=by kernel_rfl
theorem Tryz.ulaidOut:laidOutB Tryz.prog=true:=by kernel_rfl
theorem Wx(W:World):Rds Tryz.prog W 3 (tI .i64):=Rds.int Tryz.underlying3
theorem XE(W:World):Rds Tryz.prog W 23 aH:=Rds.struct (λx=>(⟨x.1,x.2.1,x.2.2⟩:ai)) (λ_=>rfl) Tryz.underlying23 (by kernel_rfl) (RdF.cons rfl (by kernel_rfl) rfl (Wx W) (RdF.cons rfl (by kernel_rfl) rfl (Wx W) (RdF.last rfl (by kernel_rfl) (Wx W))))
theorem WV(W:World):Rds Tryz.prog W 9 tS:=Rds.string Tryz.underlying9
theorem Xm(W:World):Rds Tryz.prog W 104 jZ:=Rds.struct (λx=>(⟨x.1,x.2.1,x.2.2⟩:kU)) (λ_=>rfl) Tryz.underlying104 (by kernel_rfl) (RdF.cons rfl (by kernel_rfl) rfl (Wx W) (RdF.cons rfl (by kernel_rfl) rfl (Wx W) (RdF.last rfl (by kernel_rfl) (Wx W))))
theorem Xn(W:World):Rds Tryz.prog W 106 aj:=Rds.struct (λx=>(⟨x.1,x.2⟩:af)) (λ_=>rfl) Tryz.underlying106 (by kernel_rfl) (RdF.cons rfl (by kernel_rfl) rfl (WV W) (RdF.last rfl (by kernel_rfl) (Xm W)))
theorem Xo(W:World):Rds Tryz.prog W 24 (tL aj):=Rds.slice Tryz.underlying24 (Xn W) (by kernel_rfl) (by decide) (of_decide_eq_true (by kernel_rfl))
theorem Xp(W:World):Rds Tryz.prog W 27 ae:=Rds.fix mW Tryz.underlying27 (λk ih=>RdU.struct (λx=>(⟨x.1,x.2.1,x.2.2.1,x.2.2.2.1,x.2.2.2.2.1,x.2.2.2.2.2⟩:aa)) (λ_=>rfl) Tryz.underlying27 (by kernel_rfl) (RdFU.cons rfl (by kernel_rfl) rfl ((XE W).to k) (RdFU.cons rfl (by kernel_rfl) rfl ((Wx W).to k) (RdFU.cons rfl (by kernel_rfl) rfl ((WV W).to k) (RdFU.cons rfl (by kernel_rfl) rfl ((Xo W).to k) (RdFU.cons rfl (by kernel_rfl) rfl ((Xo W).to k) (RdFU.last rfl (by kernel_rfl) ((RdU.slice Tryz.underlying25 ih (by kernel_rfl) (by decide) (of_decide_eq_true (by kernel_rfl))).down (Nat.le_succ k)))))))))
theorem XF{W:World}{base:Nat}(v:Value)(h:Value.okWide Tryz.prog W .any base 27 v):v=mkVal true v.cells.toList:=I1 Tryz.underlying27 v h
theorem Xq(W:World):Rds Tryz.prog W 32 ko:=Rds.struct (λx=>(⟨x.1,x.2.1,x.2.2⟩:fP)) (λ_=>rfl) Tryz.underlying32 (by kernel_rfl) (RdF.cons rfl (by kernel_rfl) rfl (Wx W) (RdF.cons rfl (by kernel_rfl) rfl (Wx W) (RdF.last rfl (by kernel_rfl) (WV W))))
theorem XG(W:World):Rds Tryz.prog W 85 bE:=Rds.struct (λx=>(⟨x.1,x.2⟩:av)) (λ_=>rfl) Tryz.underlying85 (by kernel_rfl) (RdF.cons rfl (by kernel_rfl) rfl (Wx W) (RdF.last rfl (by kernel_rfl) (WV W)))
theorem Xr(W:World):Rds Tryz.prog W 37 (tL bE):=Rds.slice Tryz.underlying37 (XG W) (by kernel_rfl) (by decide) (of_decide_eq_true (by kernel_rfl))
theorem Xt(W:World):Rds Tryz.prog W 38 (tL tS):=Rds.slice Tryz.underlying38 (WV W) (by kernel_rfl) (by decide) (of_decide_eq_true (by kernel_rfl))
theorem XH(W:World):Rds Tryz.prog W 40 aB:=Rds.fix DU Tryz.underlying40 (λk ih=>RdU.struct (λx=>(⟨x.1,x.2.1,x.2.2.1,x.2.2.2.1,x.2.2.2.2.1,x.2.2.2.2.2.1,x.2.2.2.2.2.2.1,x.2.2.2.2.2.2.2.1,x.2.2.2.2.2.2.2.2.1,x.2.2.2.2.2.2.2.2.2.1,x.2.2.2.2.2.2.2.2.2.2.1,x.2.2.2.2.2.2.2.2.2.2.2.1,x.2.2.2.2.2.2.2.2.2.2.2.2.1,x.2.2.2.2.2.2.2.2.2.2.2.2.2.1,x.2.2.2.2.2.2.2.2.2.2.2.2.2.2.1,x.2.2.2.2.2.2.2.2.2.2.2.2.2.2.2⟩:ag)) (λ_=>rfl) Tryz.underlying40 (by kernel_rfl) (RdFU.cons rfl (by kernel_rfl) rfl ((Wx W).to k) (RdFU.cons rfl (by kernel_rfl) rfl ((Xr W).to k) (RdFU.cons rfl (by kernel_rfl) rfl ((Xr W).to k) (RdFU.cons rfl (by kernel_rfl) rfl ((Wx W).to k) (RdFU.cons rfl (by kernel_rfl) rfl ((Wx W).to k) (RdFU.cons rfl (by kernel_rfl) rfl ((Xp W).to k) (RdFU.cons rfl (by kernel_rfl) rfl ((Xt W).to k) (RdFU.cons rfl (by kernel_rfl) rfl ((Xt W).to k) (RdFU.cons rfl (by kernel_rfl) rfl ((WV W).to k) (RdFU.cons rfl (by kernel_rfl) rfl ((WV W).to k) (RdFU.cons rfl (by kernel_rfl) rfl ((Xq W).to k) (RdFU.cons rfl (by kernel_rfl) rfl ((Wx W).to k) (RdFU.cons rfl (by kernel_rfl) rfl ((Wx W).to k) (RdFU.cons rfl (by kernel_rfl) rfl ((Wx W).to k) (RdFU.cons rfl (by kernel_rfl) rfl ((WV W).to k) (RdFU.last rfl (by kernel_rfl) ((RdU.slice Tryz.underlying33 ih (by kernel_rfl) (by decide) (of_decide_eq_true (by kernel_rfl))).down (Nat.le_succ k)))))))))))))))))))
theorem XI(W:World):Rds Tryz.prog W 33 (tL aB):=Rds.slice Tryz.underlying33 (XH W) (by kernel_rfl) (by decide) (of_decide_eq_true (by kernel_rfl))
theorem XJ(W:World):Rds Tryz.prog W 35 jE:=Rds.struct (λx=>(⟨x.1,x.2.1,x.2.2.1,x.2.2.2.1,x.2.2.2.2⟩:aS)) (λ_=>rfl) Tryz.underlying35 (by kernel_rfl) (RdF.cons rfl (by kernel_rfl) rfl (Wx W) (RdF.cons rfl (by kernel_rfl) rfl (WV W) (RdF.cons rfl (by kernel_rfl) rfl (Wx W) (RdF.cons rfl (by kernel_rfl) rfl (Xq W) (RdF.last rfl (by kernel_rfl) (XI W))))))
theorem XK(W:World):Rds Tryz.prog W 28 (tL jE):=Rds.slice Tryz.underlying28 (XJ W) (by kernel_rfl) (by decide) (of_decide_eq_true (by kernel_rfl))
theorem XL{W:World}{base:Nat}(v:Value)(h:Value.okWide Tryz.prog W .any base 28 v):v=mkVal false v.cells.toList:=LB Tryz.underlying28 v h
theorem XR(W:World):RdV Tryz.prog W 250 (tA 8 (tL (tI .i64))) Rows.laid_pandect_unit_below gv1:=(RdV.array Tryz.underlying250 (by kernel_rfl) (by kernel_rfl) rfl ⟨(RdV.slice Tryz.underlying41 (by kernel_rfl) (by decide) (by decide) ⟨(RdV.int Tryz.underlying3 (inR64.2 (by omega))),(RdV.int Tryz.underlying3 (inR64.2 (by omega))),trivial⟩),(RdV.slice Tryz.underlying41 (by kernel_rfl) (by decide) (by decide) ⟨(RdV.int Tryz.underlying3 (inR64.2 (by omega))),trivial⟩),(RdV.slice Tryz.underlying41 (by kernel_rfl) (by decide) (by decide) ⟨(RdV.int Tryz.underlying3 (inR64.2 (by omega))),(RdV.int Tryz.underlying3 (inR64.2 (by omega))),(RdV.int Tryz.underlying3 (inR64.2 (by omega))),trivial⟩),(RdV.slice Tryz.underlying41 (by kernel_rfl) (by decide) (by decide) ⟨(RdV.int Tryz.underlying3 (inR64.2 (by omega))),(RdV.int Tryz.underlying3 (inR64.2 (by omega))),(RdV.int Tryz.underlying3 (inR64.2 (by omega))),trivial⟩),(RdV.slice Tryz.underlying41 (by kernel_rfl) (by decide) (by decide) ⟨(RdV.int Tryz.underlying3 (inR64.2 (by omega))),trivial⟩),(RdV.slice Tryz.underlying41 (by kernel_rfl) (by decide) (by decide) ⟨(RdV.int Tryz.underlying3 (inR64.2 (by omega))),trivial⟩),(RdV.nil Tryz.underlying41),(RdV.nil Tryz.underlying41),trivial⟩)
theorem XT(W:World):RdV Tryz.prog W 303 (tA 8 tS) Rows.laid_pandect_unit_names gv4:=(RdV.array Tryz.underlying303 (by kernel_rfl) (by kernel_rfl) rfl ⟨(RdV.string Tryz.underlying9 (by decide)),(RdV.string Tryz.underlying9 (by decide)),(RdV.string Tryz.underlying9 (by decide)),(RdV.string Tryz.underlying9 (by decide)),(RdV.string Tryz.underlying9 (by decide)),(RdV.string Tryz.underlying9 (by decide)),(RdV.string Tryz.underlying9 (by decide)),(RdV.string Tryz.underlying9 (by decide)),trivial⟩)
theorem Dx(W:World)(base:Nat)(vs:List Value)(hx:∃ args:Array Value,laidMetH Tryz.prog Rows.topOrdersRow.laid W)(h:vE Tryz.prog W base Tryz.f3.params.toList vs):∃ As rin,All2 As vs (G.top W)/\rin.all (G.top W)/\NoBlk rin/\aR Tryz.prog 3 As rin (λ_:Unit=>tB.is true) (λ_=>[]):=by
 rw [Tryz.params3] at h
 obtain ⟨v1,vs,x1,rfl,h1,h⟩:=vE.cons (t:=ae) h (Xp W) XF
 obtain ⟨v2,vs,x2,rfl,h2,h⟩:=vE.cons (t:=(tL jE)) h (XK W) XL
 obtain rfl:=h.nil
 obtain ⟨n,hm⟩:=To.ex (Dc x1 x2)
 obtain ⟨_,hx⟩:=hx
 have g0:(Gl dx 0 gv0).holds (G.top W):=Gl.ofFuncs (laid:=Rows.topOrdersRow.laid) hx (name:= "pandect/syntax.order") (List.mem_of_getElem? (i:=3) rfl) (by kernel_rfl) (by kernel_rfl) Tryz.underlying186 Tryz.underlying55 Tryz.underlying36 (by kernel_rfl) (by kernel_rfl) rfl rfl (by kernel_rfl) (λv w hv hw=>⟨_,_,rfl,⟨_,rfl,.inr ⟨hv,λs h=>by cases h⟩⟩,_,rfl,.inr ⟨hw,λs h=>by cases h⟩⟩)
 have g1:(Gl (tA 8 (tL (tI .i64))) 1 gv1).holds (G.top W):=Gl.ofLaidF (laid:=Rows.topOrdersRow.laid) hx (name:= "pandect/unit.below") (by simp [Rows.topOrdersRow];done) (by kernel_rfl) (by kernel_rfl) (by kernel_rfl) (XR W)
 have g4:(Gl (tA 8 tS) 4 gv4).holds (G.top W):=Gl.ofLaidF (laid:=Rows.topOrdersRow.laid) hx (name:= "pandect/unit.names") (by simp [Rows.topOrdersRow];done) (by kernel_rfl) (by kernel_rfl) (by kernel_rfl) (XT W)
 refine ⟨[ae.is x1,(tL jE).is x2],[(700000,Gl dx 0 gv0),(700001,Gl (tA 8 (tL (tI .i64))) 1 gv1),(700004,Gl (tA 8 tS) 4 gv4)],⟨h1,h2,trivial⟩,λy hy=>?_,⟨rfl,rfl,rfl,trivial⟩,(uk n x1 x2 true).h hm⟩
 simp only [List.mem_cons,List.not_mem_nil,or_false] at hy
 rcases hy with rfl | rfl | rfl
 .exact g0
 .exact g1
 .exact g4
theorem FH(w w':World)(args:Array Value)(h:w.heap=w'.heap)(k:laidMetH Tryz.prog Rows.topOrdersRow.laid w):laidMetH Tryz.prog Rows.topOrdersRow.laid w':=k.of_heap h
noncomputable def Bd (os:Os):World:=(setVars (World.holding Tryz.prog os ⟨#[],#[],[]⟩) [(0,[.func (.func 335) #[] #[],.func (.func 336) #[] #[]])]).layVars Tryz.prog (Rows.topOrdersRow.laid.filter λx=>x.2.handleName?.isNone)
theorem Dy(os:Os)(args:Array Value):laidMetH Tryz.prog Rows.topOrdersRow.laid ((Bd os).forCall (λ_ _=>0) ⟨#[],args,[]⟩).memory:=
 laidMetH_of_parts3 (fuel:=8) (xS _ (by kernel_rfl) (by kernel_rfl)) (by kernel_rfl) (by kernel_rfl)
set_option maxRecDepth 100000 in
theorem Al(os:Os)(started:os.Started)(H:Type)(enc:TypeId×Value->H) :
  ReturnsInHanded {} Tryz.checked os 3 .any (λw args=>(Rows.topOrdersSpec.pre enc Tryz.prog Tryz.f3 Rows.topOrdersRow.domain false w args/\laidMetH Tryz.prog Rows.topOrdersRow.laid w)/\sizedMet enc Tryz.prog Tryz.f3 (OpenSpec.ofChange Rows.topOrdersSpec) false w args) (Rows.topOrdersSpec.post enc Tryz.prog Tryz.f3 false true false false):=
 Be (C:=Tryz.checked) (X:=λw _=>laidMetH Tryz.prog Rows.topOrdersRow.laid w) (FH) Tryz.uown started (by kernel_rfl) Tryz.func3
  (ChangeSpec.witness_shaped (enc:=enc) (C:=Tryz.checked) (os:=os) (X:=λw _=>laidMetH Tryz.prog Rows.topOrdersRow.laid w) false (Bd os) #[.agg #[.int .i64 0,.int .i64 0,.int .i64 0,.int .i64 0,.string ⟨#[]⟩,.slice none 0 0,.slice none 0 0,.slice none 0 0],.slice none 0 0] 8 (World.layVars_os _ _ _) (World.shaped_of_ZipB (by kernel_rfl) (by kernel_rfl)) (by kernel_rfl) (by kernel_rfl) (by kernel_rfl) (Dy os _))
  Tryz.ulaidOut (by kernel_rfl) rfl Tryz.underlying4 rfl
  (λ | [_,_],_=>⟨rfl,rfl,rfl⟩) Dx
theorem FI:Tryz.pinned.checked.prog.inPlace 3=Rows.topOrdersRow.inPlace:=by kernel_rfl
theorem FJ:Tryz.pinned.checked.prog.unfollowed 3=Rows.topOrdersRow.unfollowed:=by kernel_rfl
theorem FK:Tryz.pinned.checked.prog.recurses 3=Rows.topOrdersRow.recurses:=by kernel_rfl
theorem FL:Tryz.pinned.checked.prog.varsNamed 3=Rows.topOrdersRow.named:=by kernel_rfl
theorem FM:laidOutB Tryz.pinned.checked.prog=true:=by kernel_rfl
theorem FN:mapsRowed Tryz.pinned.checked.prog=true:=by kernel_rfl
theorem FO:Rows.topOrdersRow.wf (OpenSpec.ofChange Rows.topOrdersSpec)=true:=by kernel_rfl
theorem IA:joinedFacts Tryz.pinned.checked.prog 3 Tryz.f3 Rows.topOrdersSpec Rows.topOrdersRow=true:=by
 unfold joinedFacts
 rw [FI,FJ,FK,FL,FM,FN,FO]
 kernel_rfl
theorem topOrders_row_holds:Rows.TopOrdersSaid:=
 OpenClaim.holds_of_wide 3 Tryz.f3 rfl rfl rfl rfl rfl rfl rfl ⟨rfl,rfl,rfl,rfl,rfl⟩ rfl rfl rfl rfl rfl (by kernel_rfl) Tryz.func3 IA
  (of_decide_eq_true (by kernel_rfl)) (by unfold Func.isWrapper;first | (rw [if_pos (by decide+kernel)];kernel_rfl) | (rw [if_neg (by decide+kernel)];exact ⟨rfl,rfl⟩))
  (λos started H enc _=>Al os started H enc)
theorem topOrders_holds:Rows.TopOrdersCardSaid:=
 Claim7.holds_tied_plain_at .later [] [.data,.data,.widerDeep,.funcs,.pinned] true (true,"a039057403039d8dd8b7227efa7b7d25454b255de188475c685fb439adcb0386") false
  topOrders_row_holds (λ_ h=>by cases h) (by kernel_rfl) (λ_ h=>by cases h) topOrders_row_tie rfl ⟨rfl,rfl⟩ (by kernel_rfl) rfl
  (λf fn hf hfn=>by
   obtain rfl:f=3:=Option.some.inj ((show Tryz.prog.funcNamed "pandect/pandecttop.TopOrders" =some 3 by kernel_rfl).symm.trans hf) |>.symm
   obtain rfl:fn=Tryz.f3:=(Option.some.inj (Tryz.func3.symm.trans hfn)).symm
   exact ⟨by kernel_rfl,λj t ht=>by
    rw [Tryz.params3] at ht
    have hm:t∈ [27,28]:=by simpa using Array.mem_of_getElem? ht
    have hall:([27,28].all λu=>!Tryz.prog.wantsStandIn u)=true:=by kernel_rfl
    exact (show Tryz.prog.wantsStandIn t=false by simpa using List.all_eq_true.1 hall t hm)⟩)
  (by kernel_rfl)
end Go.Proofs.YtobcmdhemlennaaGreatDoor
