/-
  The rows of these laws, proved: for each law the walk of its code and its plain law, put together. No condition.
-/
import Derived.Test.YtofaogkcifaioaaGreatDoorRows
import Derived.Test.YtofaogkcifaioaaGreatDoorReadR
import Derived.Test.YtofaogkcifaioaaGreatDoorReadG
import Derived.Test.YtofaogkcifaioaaGreatDoorTie
import Derived.Test.YtofaogkcifaioaaGreatDoorCards
import Derived.SevenTiedAt
import Derived.Lay
import Derived.Test.YtofaogkcifaioaaGreatDoorWc
import Derived.Test.YtofaogkcifaioaaGreatDoorPk
import Derived.Test.YtofaogkcifaioaaGreatDoorBn
import Derived.ProofKit
set_option linter.unusedVariables false
set_option linter.unusedSimpArgs false
set_option maxRecDepth 100000
namespace Go.Proofs.YtofaogkcifaioaaGreatDoor
open Go Go.Dec Go.ChangeShapes Go.WideShapes Go.ChangeAt Go.RowKit
theorem Tryz.pown:ownKnob Tryz.prog.godebug=none:=by kernel_rfl
theorem Tryz.plaidOut:laidOutB Tryz.prog=true:=by kernel_rfl
theorem prd3(W:World):Rds Tryz.prog W 3 (tI .i64):=Rds.int Tryz.underlying3
theorem pok3{W:World}{base:Nat}(v:Value)(h:Value.okWide Tryz.prog W .any base 3 v):v=mkVal false v.cells.toList:=okW_int Tryz.underlying3 v h
theorem prd23(W:World):Rds Tryz.prog W 23 tapi_Id:=Rds.struct (fun x=>(⟨x.1,x.2.1,x.2.2⟩:api_Id)) (fun _=>rfl) Tryz.underlying23 (by kernel_rfl) (RdF.cons rfl (by kernel_rfl) rfl (prd3 W) (RdF.cons rfl (by kernel_rfl) rfl (prd3 W) (RdF.last rfl (by kernel_rfl) (prd3 W))))
theorem pok23{W:World}{base:Nat}(v:Value)(h:Value.okWide Tryz.prog W .any base 23 v):v=mkVal true v.cells.toList:=okW_struct Tryz.underlying23 v h
theorem prd9(W:World):Rds Tryz.prog W 9 tS:=Rds.string Tryz.underlying9
theorem pok9{W:World}{base:Nat}(v:Value)(h:Value.okWide Tryz.prog W .any base 9 v):v=mkVal false v.cells.toList:=okW_string Tryz.underlying9 v h
theorem prd66(W:World):Rds Tryz.prog W 66 tapi_Mark:=Rds.struct (fun x=>(⟨x.1,x.2.1,x.2.2⟩:api_Mark)) (fun _=>rfl) Tryz.underlying66 (by kernel_rfl) (RdF.cons rfl (by kernel_rfl) rfl (prd3 W) (RdF.cons rfl (by kernel_rfl) rfl (prd3 W) (RdF.last rfl (by kernel_rfl) (prd3 W))))
theorem pok66{W:World}{base:Nat}(v:Value)(h:Value.okWide Tryz.prog W .any base 66 v):v=mkVal true v.cells.toList:=okW_struct Tryz.underlying66 v h
theorem prd68(W:World):Rds Tryz.prog W 68 tapi_Word:=Rds.struct (fun x=>(⟨x.1,x.2⟩:api_Word)) (fun _=>rfl) Tryz.underlying68 (by kernel_rfl) (RdF.cons rfl (by kernel_rfl) rfl (prd9 W) (RdF.last rfl (by kernel_rfl) (prd66 W)))
theorem pok68{W:World}{base:Nat}(v:Value)(h:Value.okWide Tryz.prog W .any base 68 v):v=mkVal true v.cells.toList:=okW_struct Tryz.underlying68 v h
theorem prd24(W:World):Rds Tryz.prog W 24 (tL tapi_Word):=Rds.slice Tryz.underlying24 (prd68 W) (by kernel_rfl) (by decide) (of_decide_eq_true (by kernel_rfl))
theorem pok24{W:World}{base:Nat}(v:Value)(h:Value.okWide Tryz.prog W .any base 24 v):v=mkVal false v.cells.toList:=okW_slice Tryz.underlying24 v h
theorem prd27(W:World):Rds Tryz.prog W 27 tapi_Unit:=Rds.fix rapi_Unit Tryz.underlying27 (fun k ih=>RdU.struct (fun x=>(⟨x.1,x.2.1,x.2.2.1,x.2.2.2.1,x.2.2.2.2.1,x.2.2.2.2.2⟩:api_Unit)) (fun _=>rfl) Tryz.underlying27 (by kernel_rfl) (RdFU.cons rfl (by kernel_rfl) rfl ((prd23 W).to k) (RdFU.cons rfl (by kernel_rfl) rfl ((prd3 W).to k) (RdFU.cons rfl (by kernel_rfl) rfl ((prd9 W).to k) (RdFU.cons rfl (by kernel_rfl) rfl ((prd24 W).to k) (RdFU.cons rfl (by kernel_rfl) rfl ((prd24 W).to k) (RdFU.last rfl (by kernel_rfl) ((RdU.slice Tryz.underlying25 ih (by kernel_rfl) (by decide) (of_decide_eq_true (by kernel_rfl))).down (Nat.le_succ k)))))))))
theorem pok27{W:World}{base:Nat}(v:Value)(h:Value.okWide Tryz.prog W .any base 27 v):v=mkVal true v.cells.toList:=okW_struct Tryz.underlying27 v h
theorem pgr0(W:World):RdV Tryz.prog W 109 (tA 8 tS) Rows.laid_pandect_unit_names gv0:=(RdV.array Tryz.underlying109 (by kernel_rfl) (by kernel_rfl) rfl ⟨(RdV.string Tryz.underlying9 (by decide)),(RdV.string Tryz.underlying9 (by decide)),(RdV.string Tryz.underlying9 (by decide)),(RdV.string Tryz.underlying9 (by decide)),(RdV.string Tryz.underlying9 (by decide)),(RdV.string Tryz.underlying9 (by decide)),(RdV.string Tryz.underlying9 (by decide)),(RdV.string Tryz.underlying9 (by decide)),trivial⟩)
theorem pgr2(W:World):RdV Tryz.prog W 148 (tA 8 (tL (tI .i64))) Rows.laid_pandect_unit_below gv2:=(RdV.array Tryz.underlying148 (by kernel_rfl) (by kernel_rfl) rfl ⟨(RdV.slice Tryz.underlying147 (by kernel_rfl) (by decide) (by decide) ⟨(RdV.int Tryz.underlying3 (inR64.2 (by omega))),(RdV.int Tryz.underlying3 (inR64.2 (by omega))),trivial⟩),(RdV.slice Tryz.underlying147 (by kernel_rfl) (by decide) (by decide) ⟨(RdV.int Tryz.underlying3 (inR64.2 (by omega))),trivial⟩),(RdV.slice Tryz.underlying147 (by kernel_rfl) (by decide) (by decide) ⟨(RdV.int Tryz.underlying3 (inR64.2 (by omega))),(RdV.int Tryz.underlying3 (inR64.2 (by omega))),(RdV.int Tryz.underlying3 (inR64.2 (by omega))),trivial⟩),(RdV.slice Tryz.underlying147 (by kernel_rfl) (by decide) (by decide) ⟨(RdV.int Tryz.underlying3 (inR64.2 (by omega))),(RdV.int Tryz.underlying3 (inR64.2 (by omega))),(RdV.int Tryz.underlying3 (inR64.2 (by omega))),trivial⟩),(RdV.slice Tryz.underlying147 (by kernel_rfl) (by decide) (by decide) ⟨(RdV.int Tryz.underlying3 (inR64.2 (by omega))),trivial⟩),(RdV.slice Tryz.underlying147 (by kernel_rfl) (by decide) (by decide) ⟨(RdV.int Tryz.underlying3 (inR64.2 (by omega))),trivial⟩),(RdV.nil Tryz.underlying147),(RdV.nil Tryz.underlying147),trivial⟩)
theorem plaintextFormat_law(W:World)(base:Nat)(vs:List Value)(hx:∃ args:Array Value,laidMetH Tryz.prog Rows.plaintextFormatRow.laid W)(hsh:W.ShapedOpen Tryz.prog)(h:ArgsOk Tryz.prog W base Tryz.f3.params.toList vs):∃ As rin,All2 As vs (G.top W)∧rin.all (G.top W)∧NoBlk rin∧FSpecR Tryz.prog 3 As rin (fun _:Unit=>tB.is true) (fun _=>[]):=by
 rw [Tryz.params3] at h
 obtain ⟨v1,vs,x1,rfl,h1,h⟩:=ArgsOk.cons (t:=tapi_Unit) h (prd27 W) pok27
 obtain rfl:=h.nil
 obtain ⟨n,hm⟩:=pformat_true x1 (big_is h1)
 obtain ⟨_,hx⟩:=hx
 have g0:(Gl (tA 8 tS) 0 gv0).holds (G.top W):=Gl.ofLaid (laid:=Rows.plaintextFormatRow.laid) (by kernel_rfl) hx (name:= "pandect/unit.names") (by simp [Rows.plaintextFormatRow];done) (by kernel_rfl) (by kernel_rfl) (pgr0 W)
 have g1:(GlE 1).holds (G.top W):=(Tryz.maxlen W hsh).imp fun m h=>(top_has h).2
 have g2:(Gl (tA 8 (tL (tI .i64))) 2 gv2).holds (G.top W):=Gl.ofLaid (laid:=Rows.plaintextFormatRow.laid) (by kernel_rfl) hx (name:= "pandect/unit.below") (by simp [Rows.plaintextFormatRow];done) (by kernel_rfl) (by kernel_rfl) (pgr2 W)
 refine ⟨[tapi_Unit.is x1],[(700000,Gl (tA 8 tS) 0 gv0),(700001,GlE 1),(700002,Gl (tA 8 (tL (tI .i64))) 2 gv2)],⟨h1,trivial⟩,fun y hy=>?_,⟨rfl,rfl,rfl,trivial⟩,law11_PlaintextFormat_spec n x1 true hm⟩
 simp only [List.mem_cons,List.not_mem_nil,or_false] at hy
 rcases hy with rfl | rfl | rfl
 ·exact g0
 ·exact g1
 ·exact g2
theorem plaintextFormat_hx(w w':World)(args:Array Value)(h:w.heap=w'.heap)(k:laidMetH Tryz.prog Rows.plaintextFormatRow.laid w):laidMetH Tryz.prog Rows.plaintextFormatRow.laid w':=k.of_heap h
theorem plaintextFormat_met(os:Os)(args:Array Value):laidMetH Tryz.prog Rows.plaintextFormatRow.laid ((World.laidAll Tryz.prog os Rows.plaintextFormatRow.laid).forCall (fun _ _=>0) ⟨#[],args,[]⟩).memory:=by
 rw [MakeChecks.laidMetH_plain _ _ _ (by kernel_rfl)];exact laidMet_laidAll _ (by kernel_rfl) (by kernel_rfl)
set_option maxRecDepth 100000 in
theorem plaintextFormat_lifted(os:Os)(started:os.Started)(H:Type)(enc:TypeId×Value→H) :
  ReturnsInHanded {} Tryz.checked os 3 .any (fun w args=>(Rows.plaintextFormatSpec.pre enc Tryz.prog Tryz.f3 Rows.plaintextFormatRow.domain false w args∧laidMetH Tryz.prog Rows.plaintextFormatRow.laid w)∧sizedMet enc Tryz.prog Tryz.f3 (OpenSpec.ofChange Rows.plaintextFormatSpec) false w args) (Rows.plaintextFormatSpec.post enc Tryz.prog Tryz.f3 false true false false):=
 lifted_of_law_GS (C:=Tryz.checked) (X:=fun w _=>laidMetH Tryz.prog Rows.plaintextFormatRow.laid w) (plaintextFormat_hx) Tryz.pown started (by kernel_rfl) Tryz.func3
  (ChangeSpec.witness_shaped (enc:=enc) (C:=Tryz.checked) (os:=os) (X:=fun w _=>laidMetH Tryz.prog Rows.plaintextFormatRow.laid w) false (World.laidAll Tryz.prog os Rows.plaintextFormatRow.laid) #[.agg #[.int .i64 0,.int .i64 0,.int .i64 0,.int .i64 0,.string ⟨#[]⟩,.slice none 0 0,.slice none 0 0,.slice none 0 0]] 8 (World.laidAll_os _ _ _) (World.shaped_of_ZipB (by kernel_rfl) (by kernel_rfl)) (by kernel_rfl) (by kernel_rfl) (by kernel_rfl) (plaintextFormat_met os _))
  Tryz.plaidOut (by kernel_rfl) rfl Tryz.underlying4 rfl
  (fun | [_],_=>⟨rfl,rfl,rfl⟩) plaintextFormat_law
theorem plaintextFormat_row_holds:Rows.PlaintextFormatSaid:=
 OpenClaim.holds_of_wide 3 Tryz.f3 rfl rfl rfl rfl rfl rfl rfl ⟨rfl,rfl,rfl,rfl,rfl⟩ rfl rfl rfl rfl rfl (by kernel_rfl) Tryz.func3 (by kernel_rfl)
  (of_decide_eq_true (by kernel_rfl)) (by unfold Func.isWrapper;first | (rw [if_pos (by decide+kernel)];kernel_rfl) | (rw [if_neg (by decide+kernel)];exact ⟨rfl,rfl⟩))
  (fun os started H enc _=>plaintextFormat_lifted os started H enc)
theorem plaintextFormat_holds:Rows.PlaintextFormatCardSaid:=
 Claim7.holds_tied_plain_at .later [] [.data,.data,.widerDeep,.pinned] true (true,"d1d5b4cef1d54f68f7422a2090535372afdb530fb41b12aad8ed37bffd4b7116") false
  plaintextFormat_row_holds (fun _ h=>by cases h) (by kernel_rfl) (fun _ h=>by cases h) plaintextFormat_row_tie rfl ⟨rfl,rfl⟩ (by kernel_rfl) rfl
  (fun f fn hf hfn=>by
   obtain rfl:f=3:=Option.some.inj ((show Tryz.prog.funcNamed "pandect/pandectlaw11.PlaintextFormat" =some 3 by kernel_rfl).symm.trans hf) |>.symm
   obtain rfl:fn=Tryz.f3:=(Option.some.inj (Tryz.func3.symm.trans hfn)).symm
   exact ⟨by kernel_rfl,fun j t ht=>by
    rw [Tryz.params3] at ht
    have hm:t∈ [27]:=by simpa using Array.mem_of_getElem? ht
    have hall:([27].all fun u=>!Tryz.prog.wantsStandIn u)=true:=by kernel_rfl
    exact (show Tryz.prog.wantsStandIn t=false by simpa using List.all_eq_true.1 hall t hm)⟩)
  (by kernel_rfl)
theorem plaintextParse_law(W:World)(base:Nat)(vs:List Value)(hx:∃ args:Array Value,laidMetH Tryz.prog Rows.plaintextParseRow.laid W)(hsh:W.ShapedOpen Tryz.prog)(h:ArgsOk Tryz.prog W base Tryz.f4.params.toList vs):∃ As rin,All2 As vs (G.top W)∧rin.all (G.top W)∧NoBlk rin∧FSpecR Tryz.prog 4 As rin (fun _:Unit=>tB.is true) (fun _=>[]):=by
 rw [Tryz.params4] at h
 obtain ⟨v1,vs,x1,rfl,h1,h⟩:=ArgsOk.cons (t:=tS) h (prd9 W) pok9
 obtain rfl:=h.nil
 obtain ⟨n,hm⟩:=pparse_true x1
 obtain ⟨_,hx⟩:=hx
 have g0:(Gl (tA 8 tS) 0 gv0).holds (G.top W):=Gl.ofLaid (laid:=Rows.plaintextParseRow.laid) (by kernel_rfl) hx (name:= "pandect/unit.names") (by simp [Rows.plaintextParseRow];done) (by kernel_rfl) (by kernel_rfl) (pgr0 W)
 have g1:(GlE 1).holds (G.top W):=(Tryz.maxlen W hsh).imp fun m h=>(top_has h).2
 have g2:(Gl (tA 8 (tL (tI .i64))) 2 gv2).holds (G.top W):=Gl.ofLaid (laid:=Rows.plaintextParseRow.laid) (by kernel_rfl) hx (name:= "pandect/unit.below") (by simp [Rows.plaintextParseRow];done) (by kernel_rfl) (by kernel_rfl) (pgr2 W)
 refine ⟨[tS.is x1],[(700000,Gl (tA 8 tS) 0 gv0),(700001,GlE 1),(700002,Gl (tA 8 (tL (tI .i64))) 2 gv2)],⟨h1,trivial⟩,fun y hy=>?_,⟨rfl,rfl,rfl,trivial⟩,law11_PlaintextParse_spec n x1 true hm⟩
 simp only [List.mem_cons,List.not_mem_nil,or_false] at hy
 rcases hy with rfl | rfl | rfl
 ·exact g0
 ·exact g1
 ·exact g2
theorem plaintextParse_hx(w w':World)(args:Array Value)(h:w.heap=w'.heap)(k:laidMetH Tryz.prog Rows.plaintextParseRow.laid w):laidMetH Tryz.prog Rows.plaintextParseRow.laid w':=k.of_heap h
theorem plaintextParse_met(os:Os)(args:Array Value):laidMetH Tryz.prog Rows.plaintextParseRow.laid ((World.laidAll Tryz.prog os Rows.plaintextParseRow.laid).forCall (fun _ _=>0) ⟨#[],args,[]⟩).memory:=by
 rw [MakeChecks.laidMetH_plain _ _ _ (by kernel_rfl)];exact laidMet_laidAll _ (by kernel_rfl) (by kernel_rfl)
set_option maxRecDepth 100000 in
theorem plaintextParse_lifted(os:Os)(started:os.Started)(H:Type)(enc:TypeId×Value→H) :
  ReturnsInHanded {} Tryz.checked os 4 .any (fun w args=>(Rows.plaintextParseSpec.pre enc Tryz.prog Tryz.f4 Rows.plaintextParseRow.domain false w args∧laidMetH Tryz.prog Rows.plaintextParseRow.laid w)∧sizedMet enc Tryz.prog Tryz.f4 (OpenSpec.ofChange Rows.plaintextParseSpec) false w args) (Rows.plaintextParseSpec.post enc Tryz.prog Tryz.f4 false true false false):=
 lifted_of_law_GS (C:=Tryz.checked) (X:=fun w _=>laidMetH Tryz.prog Rows.plaintextParseRow.laid w) (plaintextParse_hx) Tryz.pown started (by kernel_rfl) Tryz.func4
  (ChangeSpec.witness_shaped (enc:=enc) (C:=Tryz.checked) (os:=os) (X:=fun w _=>laidMetH Tryz.prog Rows.plaintextParseRow.laid w) false (World.laidAll Tryz.prog os Rows.plaintextParseRow.laid) #[.string ⟨#[]⟩] 8 (World.laidAll_os _ _ _) (World.shaped_of_ZipB (by kernel_rfl) (by kernel_rfl)) (by kernel_rfl) (by kernel_rfl) (by kernel_rfl) (plaintextParse_met os _))
  Tryz.plaidOut (by kernel_rfl) rfl Tryz.underlying4 rfl
  (fun | [_],_=>⟨rfl,rfl,rfl⟩) plaintextParse_law
theorem plaintextParse_row_holds:Rows.PlaintextParseSaid:=
 OpenClaim.holds_of_wide 4 Tryz.f4 rfl rfl rfl rfl rfl rfl rfl ⟨rfl,rfl,rfl,rfl,rfl⟩ rfl rfl rfl rfl rfl (by kernel_rfl) Tryz.func4 (by kernel_rfl)
  (of_decide_eq_true (by kernel_rfl)) (by unfold Func.isWrapper;first | (rw [if_pos (by decide+kernel)];kernel_rfl) | (rw [if_neg (by decide+kernel)];exact ⟨rfl,rfl⟩))
  (fun os started H enc _=>plaintextParse_lifted os started H enc)
theorem plaintextParse_holds:Rows.PlaintextParseCardSaid:=
 Claim7.holds_tied_plain_at .later [] [.data,.data,.widerDeep,.pinned] true (true,"d1d5b4cef1d54f68f7422a2090535372afdb530fb41b12aad8ed37bffd4b7116") false
  plaintextParse_row_holds (fun _ h=>by cases h) (by kernel_rfl) (fun _ h=>by cases h) plaintextParse_row_tie rfl ⟨rfl,rfl⟩ (by kernel_rfl) rfl
  (fun f fn hf hfn=>by
   obtain rfl:f=4:=Option.some.inj ((show Tryz.prog.funcNamed "pandect/pandectlaw11.PlaintextParse" =some 4 by kernel_rfl).symm.trans hf) |>.symm
   obtain rfl:fn=Tryz.f4:=(Option.some.inj (Tryz.func4.symm.trans hfn)).symm
   exact ⟨by kernel_rfl,fun j t ht=>by
    rw [Tryz.params4] at ht
    have hm:t∈ [9]:=by simpa using Array.mem_of_getElem? ht
    have hall:([9].all fun u=>!Tryz.prog.wantsStandIn u)=true:=by kernel_rfl
    exact (show Tryz.prog.wantsStandIn t=false by simpa using List.all_eq_true.1 hall t hm)⟩)
  (by kernel_rfl)
theorem plaintextFormatLine_law(W:World)(base:Nat)(vs:List Value)(hx:∃ args:Array Value,laidMetH Tryz.prog Rows.plaintextFormatLineRow.laid W)(hsh:W.ShapedOpen Tryz.prog)(h:ArgsOk Tryz.prog W base Tryz.f5.params.toList vs):∃ As rin,All2 As vs (G.top W)∧rin.all (G.top W)∧NoBlk rin∧FSpecR Tryz.prog 5 As rin (fun _:Unit=>tB.is true) (fun _=>[]):=by
 rw [Tryz.params5] at h
 obtain ⟨v1,vs,x1,rfl,h1,h⟩:=ArgsOk.cons (t:=tapi_Unit) h (prd27 W) pok27
 obtain ⟨v2,vs,x2,rfl,h2,h⟩:=ArgsOk.cons (t:=(tI .i64)) h (prd3 W) pok3
 obtain rfl:=h.nil
 obtain ⟨n,hm⟩:=pformatline_true x1 x2 (big_is h1)
 obtain ⟨_,hx⟩:=hx
 have g0:(Gl (tA 8 tS) 0 gv0).holds (G.top W):=Gl.ofLaid (laid:=Rows.plaintextFormatLineRow.laid) (by kernel_rfl) hx (name:= "pandect/unit.names") (by simp [Rows.plaintextFormatLineRow];done) (by kernel_rfl) (by kernel_rfl) (pgr0 W)
 have g1:(GlE 1).holds (G.top W):=(Tryz.maxlen W hsh).imp fun m h=>(top_has h).2
 have g2:(Gl (tA 8 (tL (tI .i64))) 2 gv2).holds (G.top W):=Gl.ofLaid (laid:=Rows.plaintextFormatLineRow.laid) (by kernel_rfl) hx (name:= "pandect/unit.below") (by simp [Rows.plaintextFormatLineRow];done) (by kernel_rfl) (by kernel_rfl) (pgr2 W)
 refine ⟨[tapi_Unit.is x1,(tI .i64).is x2],[(700000,Gl (tA 8 tS) 0 gv0),(700001,GlE 1),(700002,Gl (tA 8 (tL (tI .i64))) 2 gv2)],⟨h1,h2,trivial⟩,fun y hy=>?_,⟨rfl,rfl,rfl,trivial⟩,law11_PlaintextFormatLine_spec n x1 x2 true hm⟩
 simp only [List.mem_cons,List.not_mem_nil,or_false] at hy
 rcases hy with rfl | rfl | rfl
 ·exact g0
 ·exact g1
 ·exact g2
theorem plaintextFormatLine_hx(w w':World)(args:Array Value)(h:w.heap=w'.heap)(k:laidMetH Tryz.prog Rows.plaintextFormatLineRow.laid w):laidMetH Tryz.prog Rows.plaintextFormatLineRow.laid w':=k.of_heap h
theorem plaintextFormatLine_met(os:Os)(args:Array Value):laidMetH Tryz.prog Rows.plaintextFormatLineRow.laid ((World.laidAll Tryz.prog os Rows.plaintextFormatLineRow.laid).forCall (fun _ _=>0) ⟨#[],args,[]⟩).memory:=by
 rw [MakeChecks.laidMetH_plain _ _ _ (by kernel_rfl)];exact laidMet_laidAll _ (by kernel_rfl) (by kernel_rfl)
set_option maxRecDepth 100000 in
theorem plaintextFormatLine_lifted(os:Os)(started:os.Started)(H:Type)(enc:TypeId×Value→H) :
  ReturnsInHanded {} Tryz.checked os 5 .any (fun w args=>(Rows.plaintextFormatLineSpec.pre enc Tryz.prog Tryz.f5 Rows.plaintextFormatLineRow.domain false w args∧laidMetH Tryz.prog Rows.plaintextFormatLineRow.laid w)∧sizedMet enc Tryz.prog Tryz.f5 (OpenSpec.ofChange Rows.plaintextFormatLineSpec) false w args) (Rows.plaintextFormatLineSpec.post enc Tryz.prog Tryz.f5 false true false false):=
 lifted_of_law_GS (C:=Tryz.checked) (X:=fun w _=>laidMetH Tryz.prog Rows.plaintextFormatLineRow.laid w) (plaintextFormatLine_hx) Tryz.pown started (by kernel_rfl) Tryz.func5
  (ChangeSpec.witness_shaped (enc:=enc) (C:=Tryz.checked) (os:=os) (X:=fun w _=>laidMetH Tryz.prog Rows.plaintextFormatLineRow.laid w) false (World.laidAll Tryz.prog os Rows.plaintextFormatLineRow.laid) #[.agg #[.int .i64 0,.int .i64 0,.int .i64 0,.int .i64 0,.string ⟨#[]⟩,.slice none 0 0,.slice none 0 0,.slice none 0 0],.int .i64 0] 8 (World.laidAll_os _ _ _) (World.shaped_of_ZipB (by kernel_rfl) (by kernel_rfl)) (by kernel_rfl) (by kernel_rfl) (by kernel_rfl) (plaintextFormatLine_met os _))
  Tryz.plaidOut (by kernel_rfl) rfl Tryz.underlying4 rfl
  (fun | [_,_],_=>⟨rfl,rfl,rfl⟩) plaintextFormatLine_law
theorem plaintextFormatLine_row_holds:Rows.PlaintextFormatLineSaid:=
 OpenClaim.holds_of_wide 5 Tryz.f5 rfl rfl rfl rfl rfl rfl rfl ⟨rfl,rfl,rfl,rfl,rfl⟩ rfl rfl rfl rfl rfl (by kernel_rfl) Tryz.func5 (by kernel_rfl)
  (of_decide_eq_true (by kernel_rfl)) (by unfold Func.isWrapper;first | (rw [if_pos (by decide+kernel)];kernel_rfl) | (rw [if_neg (by decide+kernel)];exact ⟨rfl,rfl⟩))
  (fun os started H enc _=>plaintextFormatLine_lifted os started H enc)
theorem plaintextFormatLine_holds:Rows.PlaintextFormatLineCardSaid:=
 Claim7.holds_tied_plain_at .later [] [.data,.data,.widerDeep,.pinned] true (true,"d1d5b4cef1d54f68f7422a2090535372afdb530fb41b12aad8ed37bffd4b7116") false
  plaintextFormatLine_row_holds (fun _ h=>by cases h) (by kernel_rfl) (fun _ h=>by cases h) plaintextFormatLine_row_tie rfl ⟨rfl,rfl⟩ (by kernel_rfl) rfl
  (fun f fn hf hfn=>by
   obtain rfl:f=5:=Option.some.inj ((show Tryz.prog.funcNamed "pandect/pandectlaw11.PlaintextFormatLine" =some 5 by kernel_rfl).symm.trans hf) |>.symm
   obtain rfl:fn=Tryz.f5:=(Option.some.inj (Tryz.func5.symm.trans hfn)).symm
   exact ⟨by kernel_rfl,fun j t ht=>by
    rw [Tryz.params5] at ht
    have hm:t∈ [27,3]:=by simpa using Array.mem_of_getElem? ht
    have hall:([27,3].all fun u=>!Tryz.prog.wantsStandIn u)=true:=by kernel_rfl
    exact (show Tryz.prog.wantsStandIn t=false by simpa using List.all_eq_true.1 hall t hm)⟩)
  (by kernel_rfl)
theorem plaintextParseLine_law(W:World)(base:Nat)(vs:List Value)(hx:∃ args:Array Value,laidMetH Tryz.prog Rows.plaintextParseLineRow.laid W)(hsh:W.ShapedOpen Tryz.prog)(h:ArgsOk Tryz.prog W base Tryz.f6.params.toList vs):∃ As rin,All2 As vs (G.top W)∧rin.all (G.top W)∧NoBlk rin∧FSpecR Tryz.prog 6 As rin (fun _:Unit=>tB.is true) (fun _=>[]):=by
 rw [Tryz.params6] at h
 obtain ⟨v1,vs,x1,rfl,h1,h⟩:=ArgsOk.cons (t:=tS) h (prd9 W) pok9
 obtain rfl:=h.nil
 obtain ⟨n,hm⟩:=pparseline_true x1
 obtain ⟨_,hx⟩:=hx
 have g0:(Gl (tA 8 tS) 0 gv0).holds (G.top W):=Gl.ofLaid (laid:=Rows.plaintextParseLineRow.laid) (by kernel_rfl) hx (name:= "pandect/unit.names") (by simp [Rows.plaintextParseLineRow];done) (by kernel_rfl) (by kernel_rfl) (pgr0 W)
 have g1:(GlE 1).holds (G.top W):=(Tryz.maxlen W hsh).imp fun m h=>(top_has h).2
 have g2:(Gl (tA 8 (tL (tI .i64))) 2 gv2).holds (G.top W):=Gl.ofLaid (laid:=Rows.plaintextParseLineRow.laid) (by kernel_rfl) hx (name:= "pandect/unit.below") (by simp [Rows.plaintextParseLineRow];done) (by kernel_rfl) (by kernel_rfl) (pgr2 W)
 refine ⟨[tS.is x1],[(700000,Gl (tA 8 tS) 0 gv0),(700001,GlE 1),(700002,Gl (tA 8 (tL (tI .i64))) 2 gv2)],⟨h1,trivial⟩,fun y hy=>?_,⟨rfl,rfl,rfl,trivial⟩,law11_PlaintextParseLine_spec n x1 true hm⟩
 simp only [List.mem_cons,List.not_mem_nil,or_false] at hy
 rcases hy with rfl | rfl | rfl
 ·exact g0
 ·exact g1
 ·exact g2
theorem plaintextParseLine_hx(w w':World)(args:Array Value)(h:w.heap=w'.heap)(k:laidMetH Tryz.prog Rows.plaintextParseLineRow.laid w):laidMetH Tryz.prog Rows.plaintextParseLineRow.laid w':=k.of_heap h
theorem plaintextParseLine_met(os:Os)(args:Array Value):laidMetH Tryz.prog Rows.plaintextParseLineRow.laid ((World.laidAll Tryz.prog os Rows.plaintextParseLineRow.laid).forCall (fun _ _=>0) ⟨#[],args,[]⟩).memory:=by
 rw [MakeChecks.laidMetH_plain _ _ _ (by kernel_rfl)];exact laidMet_laidAll _ (by kernel_rfl) (by kernel_rfl)
set_option maxRecDepth 100000 in
theorem plaintextParseLine_lifted(os:Os)(started:os.Started)(H:Type)(enc:TypeId×Value→H) :
  ReturnsInHanded {} Tryz.checked os 6 .any (fun w args=>(Rows.plaintextParseLineSpec.pre enc Tryz.prog Tryz.f6 Rows.plaintextParseLineRow.domain false w args∧laidMetH Tryz.prog Rows.plaintextParseLineRow.laid w)∧sizedMet enc Tryz.prog Tryz.f6 (OpenSpec.ofChange Rows.plaintextParseLineSpec) false w args) (Rows.plaintextParseLineSpec.post enc Tryz.prog Tryz.f6 false true false false):=
 lifted_of_law_GS (C:=Tryz.checked) (X:=fun w _=>laidMetH Tryz.prog Rows.plaintextParseLineRow.laid w) (plaintextParseLine_hx) Tryz.pown started (by kernel_rfl) Tryz.func6
  (ChangeSpec.witness_shaped (enc:=enc) (C:=Tryz.checked) (os:=os) (X:=fun w _=>laidMetH Tryz.prog Rows.plaintextParseLineRow.laid w) false (World.laidAll Tryz.prog os Rows.plaintextParseLineRow.laid) #[.string ⟨#[]⟩] 8 (World.laidAll_os _ _ _) (World.shaped_of_ZipB (by kernel_rfl) (by kernel_rfl)) (by kernel_rfl) (by kernel_rfl) (by kernel_rfl) (plaintextParseLine_met os _))
  Tryz.plaidOut (by kernel_rfl) rfl Tryz.underlying4 rfl
  (fun | [_],_=>⟨rfl,rfl,rfl⟩) plaintextParseLine_law
theorem plaintextParseLine_row_holds:Rows.PlaintextParseLineSaid:=
 OpenClaim.holds_of_wide 6 Tryz.f6 rfl rfl rfl rfl rfl rfl rfl ⟨rfl,rfl,rfl,rfl,rfl⟩ rfl rfl rfl rfl rfl (by kernel_rfl) Tryz.func6 (by kernel_rfl)
  (of_decide_eq_true (by kernel_rfl)) (by unfold Func.isWrapper;first | (rw [if_pos (by decide+kernel)];kernel_rfl) | (rw [if_neg (by decide+kernel)];exact ⟨rfl,rfl⟩))
  (fun os started H enc _=>plaintextParseLine_lifted os started H enc)
theorem plaintextParseLine_holds:Rows.PlaintextParseLineCardSaid:=
 Claim7.holds_tied_plain_at .later [] [.data,.data,.widerDeep,.pinned] true (true,"d1d5b4cef1d54f68f7422a2090535372afdb530fb41b12aad8ed37bffd4b7116") false
  plaintextParseLine_row_holds (fun _ h=>by cases h) (by kernel_rfl) (fun _ h=>by cases h) plaintextParseLine_row_tie rfl ⟨rfl,rfl⟩ (by kernel_rfl) rfl
  (fun f fn hf hfn=>by
   obtain rfl:f=6:=Option.some.inj ((show Tryz.prog.funcNamed "pandect/pandectlaw11.PlaintextParseLine" =some 6 by kernel_rfl).symm.trans hf) |>.symm
   obtain rfl:fn=Tryz.f6:=(Option.some.inj (Tryz.func6.symm.trans hfn)).symm
   exact ⟨by kernel_rfl,fun j t ht=>by
    rw [Tryz.params6] at ht
    have hm:t∈ [9]:=by simpa using Array.mem_of_getElem? ht
    have hall:([9].all fun u=>!Tryz.prog.wantsStandIn u)=true:=by kernel_rfl
    exact (show Tryz.prog.wantsStandIn t=false by simpa using List.all_eq_true.1 hall t hm)⟩)
  (by kernel_rfl)
theorem plaintextFormatParse_law(W:World)(base:Nat)(vs:List Value)(hx:∃ args:Array Value,laidMetH Tryz.prog Rows.plaintextFormatParseRow.laid W)(hsh:W.ShapedOpen Tryz.prog)(h:ArgsOk Tryz.prog W base Tryz.f7.params.toList vs):∃ As rin,All2 As vs (G.top W)∧rin.all (G.top W)∧NoBlk rin∧FSpecR Tryz.prog 7 As rin (fun _:Unit=>tB.is true) (fun _=>[]):=by
 rw [Tryz.params7] at h
 obtain ⟨v1,vs,x1,rfl,h1,h⟩:=ArgsOk.cons (t:=tapi_Unit) h (prd27 W) pok27
 obtain rfl:=h.nil
 obtain ⟨n,hm⟩:=pformatparse_true x1 (big_is h1)
 obtain ⟨_,hx⟩:=hx
 have g0:(Gl (tA 8 tS) 0 gv0).holds (G.top W):=Gl.ofLaid (laid:=Rows.plaintextFormatParseRow.laid) (by kernel_rfl) hx (name:= "pandect/unit.names") (by simp [Rows.plaintextFormatParseRow];done) (by kernel_rfl) (by kernel_rfl) (pgr0 W)
 have g1:(GlE 1).holds (G.top W):=(Tryz.maxlen W hsh).imp fun m h=>(top_has h).2
 have g2:(Gl (tA 8 (tL (tI .i64))) 2 gv2).holds (G.top W):=Gl.ofLaid (laid:=Rows.plaintextFormatParseRow.laid) (by kernel_rfl) hx (name:= "pandect/unit.below") (by simp [Rows.plaintextFormatParseRow];done) (by kernel_rfl) (by kernel_rfl) (pgr2 W)
 refine ⟨[tapi_Unit.is x1],[(700000,Gl (tA 8 tS) 0 gv0),(700001,GlE 1),(700002,Gl (tA 8 (tL (tI .i64))) 2 gv2)],⟨h1,trivial⟩,fun y hy=>?_,⟨rfl,rfl,rfl,trivial⟩,law11_PlaintextFormatParse_spec n x1 true hm⟩
 simp only [List.mem_cons,List.not_mem_nil,or_false] at hy
 rcases hy with rfl | rfl | rfl
 ·exact g0
 ·exact g1
 ·exact g2
theorem plaintextFormatParse_hx(w w':World)(args:Array Value)(h:w.heap=w'.heap)(k:laidMetH Tryz.prog Rows.plaintextFormatParseRow.laid w):laidMetH Tryz.prog Rows.plaintextFormatParseRow.laid w':=k.of_heap h
theorem plaintextFormatParse_met(os:Os)(args:Array Value):laidMetH Tryz.prog Rows.plaintextFormatParseRow.laid ((World.laidAll Tryz.prog os Rows.plaintextFormatParseRow.laid).forCall (fun _ _=>0) ⟨#[],args,[]⟩).memory:=by
 rw [MakeChecks.laidMetH_plain _ _ _ (by kernel_rfl)];exact laidMet_laidAll _ (by kernel_rfl) (by kernel_rfl)
set_option maxRecDepth 100000 in
theorem plaintextFormatParse_lifted(os:Os)(started:os.Started)(H:Type)(enc:TypeId×Value→H) :
  ReturnsInHanded {} Tryz.checked os 7 .any (fun w args=>(Rows.plaintextFormatParseSpec.pre enc Tryz.prog Tryz.f7 Rows.plaintextFormatParseRow.domain false w args∧laidMetH Tryz.prog Rows.plaintextFormatParseRow.laid w)∧sizedMet enc Tryz.prog Tryz.f7 (OpenSpec.ofChange Rows.plaintextFormatParseSpec) false w args) (Rows.plaintextFormatParseSpec.post enc Tryz.prog Tryz.f7 false true false false):=
 lifted_of_law_GS (C:=Tryz.checked) (X:=fun w _=>laidMetH Tryz.prog Rows.plaintextFormatParseRow.laid w) (plaintextFormatParse_hx) Tryz.pown started (by kernel_rfl) Tryz.func7
  (ChangeSpec.witness_shaped (enc:=enc) (C:=Tryz.checked) (os:=os) (X:=fun w _=>laidMetH Tryz.prog Rows.plaintextFormatParseRow.laid w) false (World.laidAll Tryz.prog os Rows.plaintextFormatParseRow.laid) #[.agg #[.int .i64 0,.int .i64 0,.int .i64 0,.int .i64 0,.string ⟨#[]⟩,.slice none 0 0,.slice none 0 0,.slice none 0 0]] 8 (World.laidAll_os _ _ _) (World.shaped_of_ZipB (by kernel_rfl) (by kernel_rfl)) (by kernel_rfl) (by kernel_rfl) (by kernel_rfl) (plaintextFormatParse_met os _))
  Tryz.plaidOut (by kernel_rfl) rfl Tryz.underlying4 rfl
  (fun | [_],_=>⟨rfl,rfl,rfl⟩) plaintextFormatParse_law
theorem plaintextFormatParse_row_holds:Rows.PlaintextFormatParseSaid:=
 OpenClaim.holds_of_wide 7 Tryz.f7 rfl rfl rfl rfl rfl rfl rfl ⟨rfl,rfl,rfl,rfl,rfl⟩ rfl rfl rfl rfl rfl (by kernel_rfl) Tryz.func7 (by kernel_rfl)
  (of_decide_eq_true (by kernel_rfl)) (by unfold Func.isWrapper;first | (rw [if_pos (by decide+kernel)];kernel_rfl) | (rw [if_neg (by decide+kernel)];exact ⟨rfl,rfl⟩))
  (fun os started H enc _=>plaintextFormatParse_lifted os started H enc)
theorem plaintextFormatParse_holds:Rows.PlaintextFormatParseCardSaid:=
 Claim7.holds_tied_plain_at .later [] [.data,.data,.widerDeep,.pinned] true (true,"d1d5b4cef1d54f68f7422a2090535372afdb530fb41b12aad8ed37bffd4b7116") false
  plaintextFormatParse_row_holds (fun _ h=>by cases h) (by kernel_rfl) (fun _ h=>by cases h) plaintextFormatParse_row_tie rfl ⟨rfl,rfl⟩ (by kernel_rfl) rfl
  (fun f fn hf hfn=>by
   obtain rfl:f=7:=Option.some.inj ((show Tryz.prog.funcNamed "pandect/pandectlaw11.PlaintextFormatParse" =some 7 by kernel_rfl).symm.trans hf) |>.symm
   obtain rfl:fn=Tryz.f7:=(Option.some.inj (Tryz.func7.symm.trans hfn)).symm
   exact ⟨by kernel_rfl,fun j t ht=>by
    rw [Tryz.params7] at ht
    have hm:t∈ [27]:=by simpa using Array.mem_of_getElem? ht
    have hall:([27].all fun u=>!Tryz.prog.wantsStandIn u)=true:=by kernel_rfl
    exact (show Tryz.prog.wantsStandIn t=false by simpa using List.all_eq_true.1 hall t hm)⟩)
  (by kernel_rfl)
theorem prd5(W:World):Rds Tryz.prog W 5 (tI .u8):=Rds.int Tryz.underlying5
theorem pok5{W:World}{base:Nat}(v:Value)(h:Value.okWide Tryz.prog W .any base 5 v):v=mkVal false v.cells.toList:=okW_int Tryz.underlying5 v h
theorem plaintextIgnoresMarks_law(W:World)(base:Nat)(vs:List Value)(hx:∃ args:Array Value,laidMetH Tryz.prog Rows.plaintextIgnoresMarksRow.laid W)(hsh:W.ShapedOpen Tryz.prog)(h:ArgsOk Tryz.prog W base Tryz.f8.params.toList vs):∃ As rin,All2 As vs (G.top W)∧rin.all (G.top W)∧NoBlk rin∧FSpecR Tryz.prog 8 As rin (fun _:Unit=>tB.is true) (fun _=>[]):=by
 rw [Tryz.params8] at h
 obtain ⟨v1,vs,x1,rfl,h1,h⟩:=ArgsOk.cons (t:=tapi_Unit) h (prd27 W) pok27
 obtain ⟨v2,vs,x2,rfl,h2,h⟩:=ArgsOk.cons (t:=(tI .u8)) h (prd5 W) pok5
 obtain rfl:=h.nil
 obtain ⟨n,hm⟩:=pmarks_true x1 x2 (big_is h1) (byte_is h2).1 (byte_is h2).2
 obtain ⟨_,hx⟩:=hx
 have g0:(Gl (tA 8 tS) 0 gv0).holds (G.top W):=Gl.ofLaid (laid:=Rows.plaintextIgnoresMarksRow.laid) (by kernel_rfl) hx (name:= "pandect/unit.names") (by simp [Rows.plaintextIgnoresMarksRow];done) (by kernel_rfl) (by kernel_rfl) (pgr0 W)
 have g1:(GlE 1).holds (G.top W):=(Tryz.maxlen W hsh).imp fun m h=>(top_has h).2
 have g2:(Gl (tA 8 (tL (tI .i64))) 2 gv2).holds (G.top W):=Gl.ofLaid (laid:=Rows.plaintextIgnoresMarksRow.laid) (by kernel_rfl) hx (name:= "pandect/unit.below") (by simp [Rows.plaintextIgnoresMarksRow];done) (by kernel_rfl) (by kernel_rfl) (pgr2 W)
 refine ⟨[tapi_Unit.is x1,(tI .u8).is x2],[(700000,Gl (tA 8 tS) 0 gv0),(700001,GlE 1),(700002,Gl (tA 8 (tL (tI .i64))) 2 gv2)],⟨h1,h2,trivial⟩,fun y hy=>?_,⟨rfl,rfl,rfl,trivial⟩,law11_PlaintextIgnoresMarks_spec n x1 x2 true hm⟩
 simp only [List.mem_cons,List.not_mem_nil,or_false] at hy
 rcases hy with rfl | rfl | rfl
 ·exact g0
 ·exact g1
 ·exact g2
theorem plaintextIgnoresMarks_hx(w w':World)(args:Array Value)(h:w.heap=w'.heap)(k:laidMetH Tryz.prog Rows.plaintextIgnoresMarksRow.laid w):laidMetH Tryz.prog Rows.plaintextIgnoresMarksRow.laid w':=k.of_heap h
theorem plaintextIgnoresMarks_met(os:Os)(args:Array Value):laidMetH Tryz.prog Rows.plaintextIgnoresMarksRow.laid ((World.laidAll Tryz.prog os Rows.plaintextIgnoresMarksRow.laid).forCall (fun _ _=>0) ⟨#[],args,[]⟩).memory:=by
 rw [MakeChecks.laidMetH_plain _ _ _ (by kernel_rfl)];exact laidMet_laidAll _ (by kernel_rfl) (by kernel_rfl)
set_option maxRecDepth 100000 in
theorem plaintextIgnoresMarks_lifted(os:Os)(started:os.Started)(H:Type)(enc:TypeId×Value→H) :
  ReturnsInHanded {} Tryz.checked os 8 .any (fun w args=>(Rows.plaintextIgnoresMarksSpec.pre enc Tryz.prog Tryz.f8 Rows.plaintextIgnoresMarksRow.domain false w args∧laidMetH Tryz.prog Rows.plaintextIgnoresMarksRow.laid w)∧sizedMet enc Tryz.prog Tryz.f8 (OpenSpec.ofChange Rows.plaintextIgnoresMarksSpec) false w args) (Rows.plaintextIgnoresMarksSpec.post enc Tryz.prog Tryz.f8 false true false false):=
 lifted_of_law_GS (C:=Tryz.checked) (X:=fun w _=>laidMetH Tryz.prog Rows.plaintextIgnoresMarksRow.laid w) (plaintextIgnoresMarks_hx) Tryz.pown started (by kernel_rfl) Tryz.func8
  (ChangeSpec.witness_shaped (enc:=enc) (C:=Tryz.checked) (os:=os) (X:=fun w _=>laidMetH Tryz.prog Rows.plaintextIgnoresMarksRow.laid w) false (World.laidAll Tryz.prog os Rows.plaintextIgnoresMarksRow.laid) #[.agg #[.int .i64 0,.int .i64 0,.int .i64 0,.int .i64 0,.string ⟨#[]⟩,.slice none 0 0,.slice none 0 0,.slice none 0 0],.int .u8 0] 8 (World.laidAll_os _ _ _) (World.shaped_of_ZipB (by kernel_rfl) (by kernel_rfl)) (by kernel_rfl) (by kernel_rfl) (by kernel_rfl) (plaintextIgnoresMarks_met os _))
  Tryz.plaidOut (by kernel_rfl) rfl Tryz.underlying4 rfl
  (fun | [_,_],_=>⟨rfl,rfl,rfl⟩) plaintextIgnoresMarks_law
theorem plaintextIgnoresMarks_row_holds:Rows.PlaintextIgnoresMarksSaid:=
 OpenClaim.holds_of_wide 8 Tryz.f8 rfl rfl rfl rfl rfl rfl rfl ⟨rfl,rfl,rfl,rfl,rfl⟩ rfl rfl rfl rfl rfl (by kernel_rfl) Tryz.func8 (by kernel_rfl)
  (of_decide_eq_true (by kernel_rfl)) (by unfold Func.isWrapper;first | (rw [if_pos (by decide+kernel)];kernel_rfl) | (rw [if_neg (by decide+kernel)];exact ⟨rfl,rfl⟩))
  (fun os started H enc _=>plaintextIgnoresMarks_lifted os started H enc)
theorem plaintextIgnoresMarks_holds:Rows.PlaintextIgnoresMarksCardSaid:=
 Claim7.holds_tied_plain_at .later [] [.data,.data,.widerDeep,.pinned] true (true,"d1d5b4cef1d54f68f7422a2090535372afdb530fb41b12aad8ed37bffd4b7116") false
  plaintextIgnoresMarks_row_holds (fun _ h=>by cases h) (by kernel_rfl) (fun _ h=>by cases h) plaintextIgnoresMarks_row_tie rfl ⟨rfl,rfl⟩ (by kernel_rfl) rfl
  (fun f fn hf hfn=>by
   obtain rfl:f=8:=Option.some.inj ((show Tryz.prog.funcNamed "pandect/pandectlaw11.PlaintextIgnoresMarks" =some 8 by kernel_rfl).symm.trans hf) |>.symm
   obtain rfl:fn=Tryz.f8:=(Option.some.inj (Tryz.func8.symm.trans hfn)).symm
   exact ⟨by kernel_rfl,fun j t ht=>by
    rw [Tryz.params8] at ht
    have hm:t∈ [27,5]:=by simpa using Array.mem_of_getElem? ht
    have hall:([27,5].all fun u=>!Tryz.prog.wantsStandIn u)=true:=by kernel_rfl
    exact (show Tryz.prog.wantsStandIn t=false by simpa using List.all_eq_true.1 hall t hm)⟩)
  (by kernel_rfl)
end Go.Proofs.YtofaogkcifaioaaGreatDoor
