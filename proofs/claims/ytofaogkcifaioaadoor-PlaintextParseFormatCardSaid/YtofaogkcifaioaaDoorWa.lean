/-
  The code does what the models say: written by program.
-/
import Derived.Test.YtofaogkcifaioaaDoorBd
set_option linter.unusedVariables false
set_option linter.unusedSimpArgs false
namespace Go.Proofs.YtofaogkcifaioaaDoor
open Go Go.Dec
set_option maxRecDepth 100000
set_option maxHeartbeats 4000000
theorem law11_section_spec (r:api_Unit)(hm:M.law11_section=some r):FSpec Tryd.prog 9 [] (tapi_Unit.is r):=by
 unfold M.law11_section at hm
 refine FSpec.of Tryd.func9 rfl rfl rfl fun g0=>Aw<|WL.opR rfl (OpR.alloc 0 ze28) fun b=>Ar<|Ao rfl (.build (s:=tapi_Word) (x:=(⟨([97]:Str),zapi_Mark⟩:api_Word)) zapi_Word_f rfl U54 (zapi_Word_sz _ U54) ze54 ⟨_,tS,([97]:Str),_,_,rfl,Z9,(.str rfl (by decide)),sapi_Word_0,rfl⟩)<|Ao rfl (.build (s:=tapi_Word) (x:=(⟨([98]:Str),zapi_Mark⟩:api_Word)) zapi_Word_f rfl U54 (zapi_Word_sz _ U54) ze54 ⟨_,tS,([98]:Str),_,_,rfl,Z9,(.str rfl (by decide)),sapi_Word_0,rfl⟩)<|Ao rfl (.buildSlice (n:=2) (ys:=[(0,(⟨([97]:Str),zapi_Mark⟩:api_Word)),(1,(⟨([98]:Str),zapi_Mark⟩:api_Word))]) (z:=zapi_Word) (xs:=[(⟨([97]:Str),zapi_Mark⟩:api_Word),(⟨([98]:Str),zapi_Mark⟩:api_Word)]) U25 el54 ze54 ⟨rfl,(.t rfl),rfl,(.t rfl),trivial⟩ (by simp) (by decide) rfl)<|Ao rfl (.build (s:=tapi_Word) (x:=(⟨([99]:Str),zapi_Mark⟩:api_Word)) zapi_Word_f rfl U54 (zapi_Word_sz _ U54) ze54 ⟨_,tS,([99]:Str),_,_,rfl,Z9,(.str rfl (by decide)),sapi_Word_0,rfl⟩)<|Ao rfl (.build (s:=tapi_Word) (x:=(⟨([124]:Str),zapi_Mark⟩:api_Word)) zapi_Word_f rfl U54 (zapi_Word_sz _ U54) ze54 ⟨_,tS,([124]:Str),_,_,rfl,Z9,(.str rfl (by decide)),sapi_Word_0,rfl⟩)<|Ao rfl (.build (s:=tapi_Word) (x:=(⟨([100]:Str),zapi_Mark⟩:api_Word)) zapi_Word_f rfl U54 (zapi_Word_sz _ U54) ze54 ⟨_,tS,([100]:Str),_,_,rfl,Z9,(.str rfl (by decide)),sapi_Word_0,rfl⟩)<|Ao rfl (.buildSlice (n:=3) (ys:=[(0,(⟨([99]:Str),zapi_Mark⟩:api_Word)),(1,(⟨([124]:Str),zapi_Mark⟩:api_Word)),(2,(⟨([100]:Str),zapi_Mark⟩:api_Word))]) (z:=zapi_Word) (xs:=[(⟨([99]:Str),zapi_Mark⟩:api_Word),(⟨([124]:Str),zapi_Mark⟩:api_Word),(⟨([100]:Str),zapi_Mark⟩:api_Word)]) U25 el54 ze54 ⟨rfl,(.t rfl),rfl,(.t rfl),rfl,(.t rfl),trivial⟩ (by simp) (by decide) rfl)<|Ao rfl (.build (s:=tapi_Word) (x:=(⟨([101]:Str),zapi_Mark⟩:api_Word)) zapi_Word_f rfl U54 (zapi_Word_sz _ U54) ze54 ⟨_,tS,([101]:Str),_,_,rfl,Z9,(.str rfl (by decide)),sapi_Word_0,rfl⟩)<|Ao rfl (.buildSlice (n:=1) (ys:=[(0,(⟨([101]:Str),zapi_Mark⟩:api_Word))]) (z:=zapi_Word) (xs:=[(⟨([101]:Str),zapi_Mark⟩:api_Word)]) U25 el54 ze54 ⟨rfl,(.t rfl),trivial⟩ (by simp) (by decide) rfl)<|Ao rfl (.build (s:=tapi_Unit) (x:=(⟨zapi_Id,(3:Int),([49]:Str),([]:List api_Word),[(⟨([101]:Str),zapi_Mark⟩:api_Word)],([]:List api_Unit)⟩:api_Unit)) zapi_Unit_f rfl U28 (zapi_Unit_sz _ U28) ze28 ⟨_,I6,(3:Int),_,_,rfl,Z3,.i64,sapi_Unit_1,⟨_,tS,([49]:Str),_,_,rfl,Z9,(.str rfl (by decide)),sapi_Unit_2,⟨_,(tL tapi_Word),([(⟨([101]:Str),zapi_Mark⟩:api_Word)]),_,_,rfl,Z25,(.t rfl),sapi_Unit_4,rfl⟩⟩⟩)<|Ao rfl (.buildSlice (n:=1) (ys:=[(0,(⟨zapi_Id,(3:Int),([49]:Str),([]:List api_Word),[(⟨([101]:Str),zapi_Mark⟩:api_Word)],([]:List api_Unit)⟩:api_Unit))]) (z:=zapi_Unit) (xs:=[(⟨zapi_Id,(3:Int),([49]:Str),([]:List api_Word),[(⟨([101]:Str),zapi_Mark⟩:api_Word)],([]:List api_Unit)⟩:api_Unit)]) U26 el28 ze28 ⟨rfl,(.t rfl),trivial⟩ (by simp) (by decide) rfl)<|Ao rfl (.build (s:=tapi_Unit) (x:=(⟨zapi_Id,(2:Int),([53]:Str),[(⟨([97]:Str),zapi_Mark⟩:api_Word),(⟨([98]:Str),zapi_Mark⟩:api_Word)],[(⟨([99]:Str),zapi_Mark⟩:api_Word),(⟨([124]:Str),zapi_Mark⟩:api_Word),(⟨([100]:Str),zapi_Mark⟩:api_Word)],[(⟨zapi_Id,(3:Int),([49]:Str),([]:List api_Word),[(⟨([101]:Str),zapi_Mark⟩:api_Word)],([]:List api_Unit)⟩:api_Unit)]⟩:api_Unit)) zapi_Unit_f rfl U28 (zapi_Unit_sz _ U28) ze28 ⟨_,I6,(2:Int),_,_,rfl,Z3,.i64,sapi_Unit_1,⟨_,tS,([53]:Str),_,_,rfl,Z9,(.str rfl (by decide)),sapi_Unit_2,⟨_,(tL tapi_Word),([(⟨([97]:Str),zapi_Mark⟩:api_Word),(⟨([98]:Str),zapi_Mark⟩:api_Word)]),_,_,rfl,Z25,(.t rfl),sapi_Unit_3,⟨_,(tL tapi_Word),([(⟨([99]:Str),zapi_Mark⟩:api_Word),(⟨([124]:Str),zapi_Mark⟩:api_Word),(⟨([100]:Str),zapi_Mark⟩:api_Word)]),_,_,rfl,Z25,(.t rfl),sapi_Unit_4,⟨_,(tL tapi_Unit),([(⟨zapi_Id,(3:Int),([49]:Str),([]:List api_Word),[(⟨([101]:Str),zapi_Mark⟩:api_Word)],([]:List api_Unit)⟩:api_Unit)]),_,_,rfl,Z26,(.t rfl),sapi_Unit_5,rfl⟩⟩⟩⟩⟩) ?_
 refine WL.opU (OpR.storeB (b:=b) 0 Z28 (Cellable.is tapi_Unit (⟨zapi_Id,(2:Int),([53]:Str),[(⟨([97]:Str),zapi_Mark⟩:api_Word),(⟨([98]:Str),zapi_Mark⟩:api_Word)],[(⟨([99]:Str),zapi_Mark⟩:api_Word),(⟨([124]:Str),zapi_Mark⟩:api_Word),(⟨([100]:Str),zapi_Mark⟩:api_Word)],[(⟨zapi_Id,(3:Int),([49]:Str),([]:List api_Word),[(⟨([101]:Str),zapi_Mark⟩:api_Word)],([]:List api_Unit)⟩:api_Unit)]⟩:api_Unit)) rfl (.t rfl) (.t rfl)) fun _=>WL.ns ?_
 cases hm
 exact W.retQ1 () rfl (ResAt.cell 0 Y28 Z28 rfl (.t rfl)) trivial
theorem slices_Clone_api_Word_api_Word_spec(l:List api_Word)(r:List api_Word)(hm:M.slices_Clone_api_Word_api_Word l=some r):FSpecR Tryd.prog 49 [(tL tapi_Word).is l] [] (fun k:Tok=>tO tapi_Word k r) (fun k=>[(5,Dec.Own tapi_Word 54 k r.length)]):=by
 unfold M.slices_Clone_api_Word_api_Word at hm
 refine FSpecR.of Tryd.func49 rfl rfl rfl fun g0=>W.seq<|W.region<|Ao rfl (.assign (.nil (t:=tapi_Word)))<|WL.nil<|Aq<|W.seq<|W.seq<|W.region<|Ao rfl (.move (.t rfl))<|WL.opR rfl (OpR.eqNil U25 (.t rfl)) fun b=>WL.nil<|Aq<|W.cond (.t rfl) (fun hc=>?_) (fun hc=>?_)
 ·have hl:=b.2 hc
  subst hl
  have hr:[]=r:=by simpa [appC] using hm
  subst hr
  exact W.seq<|W.region<|WL.addNil (t:=tapi_Word) (E:=54) 5<|Ao rfl (.assign (Opd.nilO (t:=tapi_Word)))<|WL.nil<|Aq<|W.ret1 (none:Tok) rfl (.t rfl) ⟨rfl,rfl,trivial⟩
 ·exact W.skip<|Aq<|W.seq<|W.region<|WL.opR rfl (OpR.buildSlice (n:=0) (ys:=[]) (z:=zapi_Word) (xs:=[]) 5 U25 el54 ze54 trivial (by simp) (by decide) rfl) fun k5=>Ao rfl (.move (.t rfl))<|WL.opR rfl (OpR.appC (key:=5) hm U25 el54 (.t rfl) (.t rfl) rfl) fun k7=>Ao rfl (.assign (.t rfl))<|WL.nil<|Aq<|W.ret1 k7 rfl (.t rfl) ⟨rfl,rfl,trivial⟩
theorem unit_copied_spec:∀ (n:Nat) (u:api_Unit) (r:api_Unit),M.unit_copied n u=some r→FSpec Tryd.prog 30 [(tapi_Unit.is u)] (tapi_Unit.is r):=by
 intro n
 induction n with
 | zero=>intro u r hm;cases hm
 | succ n ih=>
  intro u r hm
  rw [M.unit_copied.eq_2] at hm
  refine FSpec.of Tryd.func30 rfl rfl rfl fun g0=>Aw<|WL.opR rfl (OpR.boxB 1 (Cellable.is tapi_Unit u) (.t rfl)) fun b=>WL.opR rfl (OpR.alloc 2 ze28) fun b1=>An<|W.seq ?_
  obtain ⟨word,hv1,hm⟩:=Bs hm
  obtain ⟨word1,hv2,hm⟩:=Bs hm
  refine W.weakR (res':=[(1,(Bx 8 true 28 (tapi_Unit.is u) b)),(2,(Bx 8 true 28 (tapi_Unit.is zapi_Unit) b1))]) ⟨rfl,rfl,⟨rfl,rfl,trivial⟩⟩<|W.drawM [.c (Bp b 5),.c ((tL tapi_Word).is u.Head),.c ((tL tapi_Word).is word),.c (Bp b 6),.c ((tL tapi_Word).is u.Words),.c ((tL tapi_Word).is word1),.c (Bp b 5),.c Asn.any,.c (Bp b 6),.c Asn.any] [([],[1]),([0],[]),([1],[]),([],[1]),([3],[]),([4],[]),([],[1]),([2,6],[]),([],[1]),([5,8],[])] [7,9] [[],[],[],[],[],[],[],[],[],[]] (fun m cv=>match m with | 0=>[(1,(Bx 8 true 28 (tapi_Unit.is u) b)),(2,(Bx 8 true 28 (tapi_Unit.is zapi_Unit) b1))] | 1=>[(1,(Bx 8 true 28 (tapi_Unit.is ({u with Head:=word}:api_Unit)) b)),(2,(Bx 8 true 28 (tapi_Unit.is zapi_Unit) b1))] | _=>[(1,(Bx 8 true 28 (tapi_Unit.is ({({u with Head:=word}:api_Unit) with Words:=word1}:api_Unit)) b)),(2,(Bx 8 true 28 (tapi_Unit.is zapi_Unit) b1))]) (fun _=>none) Mx rfl rfl rfl rfl rfl ⟨fun _ _ _ _=>rfl,⟨fun _ _ _ _=>rfl,⟨fun _ _ _ _=>rfl,⟨fun _ _ _ _=>rfl,⟨fun _ _ _ _=>rfl,⟨fun _ _ _ _=>rfl,⟨fun _ _ _ _=>rfl,⟨fun _ _ _ _=>rfl,⟨fun _ _ _ _=>rfl,⟨fun _ _ _ _=>rfl,trivial⟩⟩⟩⟩⟩⟩⟩⟩⟩⟩ rfl ⟨mo fun cv=>Op1.fieldAddrB (o:=0) U28 rfl J25 (.t rfl) rfl,⟨.inr ⟨fun cv=>[(1,(Bx 8 true 28 (tapi_Unit.is u) b))],(AllUpTo.at ⟨⟨(fun _ _=>⟨rfl,rfl,trivial⟩),(fun hw=>absurd hw (by decide))⟩,(fun hw=>absurd hw (by decide))⟩),fun cv=>Op1.loadBF 1 rfl ty25 fapi_Unit_3 rfl (.t rfl)⟩,⟨mo fun cv=>Op1.call C49 ((slices_Clone_api_Word_api_Word_spec _ _ hv1).read fun _ _ _=>tO_tL) ⟨(.t rfl),trivial⟩,⟨mo fun cv=>Op1.fieldAddrB (o:=0) U28 rfl J25 (.t rfl) rfl,⟨.inr ⟨fun cv=>[(1,(Bx 8 true 28 (tapi_Unit.is u) b))],(AllUpTo.at ⟨⟨(fun _ _=>⟨rfl,rfl,trivial⟩),(fun hw=>absurd hw (by decide))⟩,(fun hw=>absurd hw (by decide))⟩),fun cv=>Op1.loadBF 1 rfl ty25 fapi_Unit_4 rfl (.t rfl)⟩,⟨mo fun cv=>Op1.call C49 ((slices_Clone_api_Word_api_Word_spec _ _ hv2).read fun _ _ _=>tO_tL) ⟨(.t rfl),trivial⟩,⟨mo fun cv=>Op1.fieldAddrB (o:=0) U28 rfl J25 (.t rfl) rfl,⟨.inl rfl,⟨mo fun cv=>Op1.fieldAddrB (o:=0) U28 rfl J25 (.t rfl) rfl,⟨.inl rfl,trivial⟩⟩⟩⟩⟩⟩⟩⟩⟩⟩ ⟨⟨_,_,_,[1],(fun cv=>[(1,(Bx 8 true 28 (tapi_Unit.is ({u with Head:=word}:api_Unit)) b))]),rfl,rfl,rfl,rfl,fun _=>rfl,fun _ _=>rfl,fun cv=>OpR.viaU (OpR.storeBF (b:=b) 1 rfl ty25 sapi_Unit_3 rfl (by decide) (.t rfl) (.t rfl))⟩,⟨⟨_,_,_,[1],(fun cv=>[(1,(Bx 8 true 28 (tapi_Unit.is ({({u with Head:=word}:api_Unit) with Words:=word1}:api_Unit)) b))]),rfl,rfl,rfl,rfl,fun _=>rfl,fun _ _=>rfl,fun cv=>OpR.viaU (OpR.storeBF (b:=b) 1 rfl ty25 sapi_Unit_4 rfl (by decide) (.t rfl) (.t rfl))⟩,trivial⟩⟩ fun cv=>Aq<|Aw<|WL.addNil (t:=tapi_Unit) (E:=28) 3<|Ao rfl (.assign (Opd.nilO (t:=tapi_Unit)))<|An<|W.seq<|Aw<|Ao rfl (.fieldAddrB (o:=0) U28 rfl J26 (.t rfl) rfl)<|Ao rfl (.loadBF 1 rfl ty26 fapi_Unit_5 rfl (.t rfl))<|Ao rfl (.lenL U26 (.t rfl))<|Ao rfl (.move .i64)<|An<|W.block ?_
  obtain ⟨s3,hs4,hk5⟩:=Bs hm
  clear hm
  refine W.loop (fun m (s:Int×List api_Unit×List api_Unit×(((List api_Unit))×Tok))=>m=s.2.2.1.length∧({({u with Head:=word}:api_Unit) with Words:=word1}:api_Unit).Kids=s.2.1++s.2.2.1∧s.1=(s.2.1.length:Int)∧M.unit_copied_loop1 (M.unit_copied n) s.2.2.1 s.2.2.2.1=some s3) (fun s=>[(17,(I6.is s.1)),(3,(tO tapi_Unit s.2.2.2.2 s.2.2.2.1)),(1,(Bp b 0)),(2,(Bp b1 0)),(15,((tL tapi_Unit).is (({({u with Head:=word}:api_Unit) with Words:=word1}:api_Unit).Kids))),(16,(I6.is ((({({u with Head:=word}:api_Unit) with Words:=word1}:api_Unit).Kids).length:Int)))]) (fun s=>[(3,Dec.Own tapi_Unit 28 s.2.2.2.2 s.2.2.2.1.length),(1,(Bx 8 true 28 (tapi_Unit.is ({({u with Head:=word}:api_Unit) with Words:=word1}:api_Unit)) b)),(2,(Bx 8 true 28 (tapi_Unit.is zapi_Unit) b1))]) (({({u with Head:=word}:api_Unit) with Words:=word1}:api_Unit).Kids).length ((0:Int),[],({({u with Head:=word}:api_Unit) with Words:=word1}:api_Unit).Kids,(([]:List api_Unit),(none:Tok))) ⟨rfl,rfl,rfl,hs4⟩ ⟨.q rfl,.q rfl,.q rfl,.q rfl,.q rfl,.q rfl,trivial⟩ ⟨rfl,rfl,⟨rfl,rfl,⟨rfl,rfl,trivial⟩⟩⟩ ?_
  rintro m ⟨i,pre,rest1,⟨kids,k⟩⟩ ⟨hn9,hxs6,hi7,hm⟩
  try dsimp only at hn9 hxs6 hi7 hm
  change W _ _ _ _ _ _ _ [(17,(I6.is i)),(3,(tO tapi_Unit k kids)),(1,(Bp b 0)),(2,(Bp b1 0)),(15,((tL tapi_Unit).is (({({u with Head:=word}:api_Unit) with Words:=word1}:api_Unit).Kids))),(16,(I6.is ((({({u with Head:=word}:api_Unit) with Words:=word1}:api_Unit).Kids).length:Int)))] [(3,Dec.Own tapi_Unit 28 k kids.length),(1,(Bx 8 true 28 (tapi_Unit.is ({({u with Head:=word}:api_Unit) with Words:=word1}:api_Unit)) b)),(2,(Bx 8 true 28 (tapi_Unit.is zapi_Unit) b1))]
  refine W.lenL (s:=15) (.t rfl) fun hlen8=>Aw<|Ao rfl (.ltI (.t rfl) (.t rfl))<|An<|W.seq<|W.cond (.t rfl) (fun hc11=>?_) (fun hc11=>?_)
  ·have hp12:=of_decide_eq_true hc11
   obtain ⟨e,es,hrest14⟩:=range_more hxs6 hi7 hp12
   subst hrest14
   rw [M.unit_copied_loop1.eq_2] at hm
   refine W.skip<|Aq<|W.seq<|W.block<|Aw<|Ao rfl (.idxPre hxs6 hi7 U26 Z28 (.t rfl) (.t rfl))<|Ao rfl (.load ty28 (.t rfl))<|WL.opR rfl (OpR.alloc 5 ze28) fun b2=>WL.opU (OpR.storeB (b:=b2) 5 Z28 (Cellable.is tapi_Unit e) rfl (.t rfl) (.t rfl)) fun _=>WL.sealed (t:=tapi_Unit) (u:=e) 5 5 rfl rfl<|WL.nr1<|Am rfl rfl<|Ao rfl (.load ty28 (.t rfl)) ?_
   obtain ⟨copied,hv15,hm⟩:=Bs hm
   refine Ao rfl (.call C30 (ih _ _ hv15) ⟨(.t rfl),trivial⟩)<|Ao rfl (.buildSlice (n:=1) (ys:=[(0,copied)]) (z:=zapi_Unit) (xs:=[copied]) U26 el28 ze28 ⟨rfl,(.t rfl),trivial⟩ (by simp) (by decide) rfl) ?_
   obtain ⟨kids1,hv16,hm⟩:=Bs hm
   exact WL.opR rfl (OpR.appC (key:=3) hv16 U26 el28 (.t rfl) (.t rfl) rfl) fun k1=>Ag rfl rfl<|WL.nil<|WN.block<|Aq<|W.region<|Ao rfl (.addI (.t rfl) .i64 (range_inR hi7 hp12 hlen8))<|Am rfl rfl<|WL.nil<|WN.again es.length (i+1,pre++ [e],es,(kids1,k1)) (range_lt hn9) ⟨rfl,range_step hxs6,range_idx hi7,hm⟩ ⟨.q rfl,.q rfl,.q rfl,.q rfl,.q rfl,.q rfl,trivial⟩ ⟨rfl,rfl,⟨rfl,rfl,⟨rfl,rfl,trivial⟩⟩⟩
  ·have hrest14:=range_end hxs6 hi7 (of_decide_eq_false hc11)
   subst hrest14
   rw [M.unit_copied_loop1.eq_1] at hm
   refine W.exit rfl ?_
   have hr17:=Si hm
   clear hm
   subst hr17
   have hm:=hk5
   try dsimp only at hm
   refine Aq<|Aw<|Am rfl rfl<|Ao rfl (.fieldAddrB (o:=0) U28 rfl J26 (.t rfl) rfl)<|WL.opU (OpR.storeBF (b:=b) 1 rfl ty26 sapi_Unit_5 rfl (by decide) (.t rfl) (Opd.own (.t rfl))) fun _=>Ar<|Ao rfl (.loadB 1 Y28 Z28 rfl (.t rfl))<|WL.opU (OpR.storeB (b:=b1) 2 Z28 (Cellable.is tapi_Unit ({({({u with Head:=word}:api_Unit) with Words:=word1}:api_Unit) with Kids:=kids}:api_Unit)) rfl (.t rfl) (.t rfl)) fun _=>WL.ns ?_
   cases hm
   exact W.retQ1 () rfl (ResAt.cell 2 Y28 Z28 rfl (.t rfl)) trivial
def tX(h w:Ty (List api_Word))(k:Ty (List api_Unit)):Ty api_Unit:=tMap (tP tapi_Id (tP (tI .i64) (tP tS (tP h (tP w (tOne k)))))) (fun x:api_Unit=>(x.Id,x.Kind,x.Label,x.Head,x.Words,x.Kids))
theorem sX0(h w:Ty (List api_Word))(k:Ty (List api_Unit)):FldSet (tX h w k) 0 tapi_Id (fun x y=>{x with Id:=y}):=(FldSet.map (FldSet.here _ _) (fun _ _=>rfl)).cast rfl rfl
theorem fX3(h w:Ty (List api_Word))(k:Ty (List api_Unit)):Fld (tX h w k) 5 h (fun x=>x.Head):=(Fld.map (Fld.next (s:=tapi_Id) (Fld.next (s:=tI .i64) (Fld.next (s:=tS) (Fld.here _ _))))).cast rfl rfl
theorem fX4(h w:Ty (List api_Word))(k:Ty (List api_Unit))(hh:h.size=1):Fld (tX h w k) 6 w (fun x=>x.Words):=(Fld.map (Fld.next (s:=tapi_Id) (Fld.next (s:=tI .i64) (Fld.next (s:=tS) (Fld.next (s:=h) (Fld.here _ _)))))).cast (by rw [hh];rfl) rfl
theorem fX5(h w:Ty (List api_Word))(k:Ty (List api_Unit))(hh:h.size=1)(hw:w.size=1):Fld (tX h w k) 7 k (fun x=>x.Kids):=(Fld.map (Fld.next (s:=tapi_Id) (Fld.next (s:=tI .i64) (Fld.next (s:=tS) (Fld.next (s:=h) (Fld.next (s:=w) (Fld.one _))))))).cast (by rw [hh,hw];rfl) rfl
theorem sX3(h w:Ty (List api_Word))(k:Ty (List api_Unit))(h':Ty (List api_Word))(hz:h.size=h'.size):FldSetT (tX h w k) (tX h' w k) 5 h' (fun x y=>{x with Head:=y}):=(FldSetT.map (f':=fun (x:api_Unit) y=>{x with Head:=y}) (FldSetT.next (s:=tapi_Id) (FldSetT.next (s:=tI .i64) (FldSetT.next (s:=tS) (FldSetT.here h h' _ hz)))) (fun _ _=>rfl)).cast rfl rfl
theorem sX4(h w:Ty (List api_Word))(k:Ty (List api_Unit))(w':Ty (List api_Word))(hh:h.size=1)(hz:w.size=w'.size):FldSetT (tX h w k) (tX h w' k) 6 w' (fun x y=>{x with Words:=y}):=(FldSetT.map (f':=fun (x:api_Unit) y=>{x with Words:=y}) (FldSetT.next (s:=tapi_Id) (FldSetT.next (s:=tI .i64) (FldSetT.next (s:=tS) (FldSetT.next (s:=h) (FldSetT.here w w' _ hz))))) (fun _ _=>rfl)).cast (by rw [hh];rfl) rfl
theorem sX5(h w:Ty (List api_Word))(k:Ty (List api_Unit))(k':Ty (List api_Unit))(hh:h.size=1)(hw:w.size=1)(hz:k.size=k'.size):FldSetT (tX h w k) (tX h w k') 7 k' (fun x y=>{x with Kids:=y}):=(FldSetT.map (f':=fun (x:api_Unit) y=>{x with Kids:=y}) (FldSetT.next (s:=tapi_Id) (FldSetT.next (s:=tI .i64) (FldSetT.next (s:=tS) (FldSetT.next (s:=h) (FldSetT.next (s:=w) (FldSetT.one k k' hz)))))) (fun _ _=>rfl)).cast (by rw [hh,hw];rfl) rfl
theorem oX:Le tapi_Unit (tX (tL tapi_Word) (tL tapi_Word) (tL tapi_Unit)):=rapi_Unit.out
theorem iX:Le (tX (tL tapi_Word) (tL tapi_Word) (tL tapi_Unit)) tapi_Unit:=rapi_Unit.into
theorem unit_copied_loose:∀ (n:Nat) (u:api_Unit) (r:api_Unit),M.unit_copied n u=some r→
    FSpecR Tryd.prog 30 [(tapi_Unit.is u)] [] (fun k:Tok×Tok×Tok=>(tX (tUT k.1) (tUT k.2.1) (tUT k.2.2)).is r) (fun k=>[(101,OwnU tapi_Word 54 k.1 r.Head),(102,OwnU tapi_Word 54 k.2.1 r.Words),(3,OwnU tapi_Unit 28 k.2.2 r.Kids)]):=by
  intro n
  cases n with
  | zero=>intro u r hm;cases hm
  | succ n=>
    intro u r hm
    rw [M.unit_copied.eq_2] at hm
    refine FSpecR.of Tryd.func30 rfl rfl rfl (fun g0=>?_)
    refine W.seq ?_
    refine W.region ?_
    refine WL.opR rfl (OpR.boxB 1 (Cellable.is tapi_Unit u) (.tmp rfl)) (fun b=>?_)
    refine WL.opR rfl (OpR.alloc 2 ze28) (fun b1=>?_)
    refine WL.nil ?_
    refine WN.boxV (A':=((tX (tL tapi_Word) (tL tapi_Word) (tL tapi_Unit)).is u)) 1 rfl (fun _ _=>Le.is oX) ?_
    refine WN.seq ?_
    refine W.seq ?_
    obtain ⟨word,hv1,hm⟩:=bind_some hm
    obtain ⟨word1,hv2,hm⟩:=bind_some hm
    refine W.drawM [.c (Bp b 5),.c ((tL tapi_Word).is u.Head),.f (fun cv=>(tU (cv 0) word.length)),.c (Bp b 6),.c ((tL tapi_Word).is u.Words),.f (fun cv=>(tU (cv 1) word1.length)),.c (Bp b 5),.c Asn.any,.c (Bp b 6),.c Asn.any] [([],[1]),([0],[]),([1],[]),([],[1]),([3],[]),([4],[]),([],[1]),([2,6],[]),([],[1]),([5,8],[])] [2,5,7,9] [[],[],[true],[],[],[false,true],[],[],[],[]] (fun m cv=>match m with | 0=>[(1,(Bx 8 true 28 ((tX (tL tapi_Word) (tL tapi_Word) (tL tapi_Unit)).is u) b)),(2,(Bx 8 true 28 (tapi_Unit.is zapi_Unit) b1))] | 1=>[(101,OwnU tapi_Word 54 (cv 0) word),(1,(Bx 8 true 28 ((tX (tL tapi_Word) (tL tapi_Word) (tL tapi_Unit)).is u) b)),(2,(Bx 8 true 28 (tapi_Unit.is zapi_Unit) b1))] | 2=>[(102,OwnU tapi_Word 54 (cv 1) word1),(101,OwnU tapi_Word 54 (cv 0) word),(1,(Bx 8 true 28 ((tX (tL tapi_Word) (tL tapi_Word) (tL tapi_Unit)).is u) b)),(2,(Bx 8 true 28 (tapi_Unit.is zapi_Unit) b1))] | 3=>[(1,(Bx 8 true 28 ((tX (tUT (cv 0)) (tL tapi_Word) (tL tapi_Unit)).is ({u with Head:=word}:api_Unit)) b)),(102,OwnU tapi_Word 54 (cv 1) word1),(101,OwnU tapi_Word 54 (cv 0) word),(2,(Bx 8 true 28 (tapi_Unit.is zapi_Unit) b1))] | _=>[(1,(Bx 8 true 28 ((tX (tUT (cv 0)) (tUT (cv 1)) (tL tapi_Unit)).is ({({u with Head:=word}:api_Unit) with Words:=word1}:api_Unit)) b)),(102,OwnU tapi_Word 54 (cv 1) word1),(101,OwnU tapi_Word 54 (cv 0) word),(2,(Bx 8 true 28 (tapi_Unit.is zapi_Unit) b1))]) (fun _=>none) Tryd.mixed rfl rfl rfl rfl rfl ⟨fun _ _ _ _=>rfl,⟨fun _ _ _ _=>rfl,⟨fun m hm c t=>by simp only [DA.at,upd_dep (r:=[true]) (j:=0) rfl hm],⟨fun _ _ _ _=>rfl,⟨fun _ _ _ _=>rfl,⟨fun m hm c t=>by simp only [DA.at,upd_dep (r:=[false,true]) (j:=1) rfl hm],⟨fun _ _ _ _=>rfl,⟨fun _ _ _ _=>rfl,⟨fun _ _ _ _=>rfl,⟨fun _ _ _ _=>rfl,trivial⟩⟩⟩⟩⟩⟩⟩⟩⟩⟩ rfl ⟨.inr ⟨fun cv=>[],(fun _ _ _ _=>trivial),fun cv=>Op1.fieldAddrB (o:=0) Tryd.underlying28 rfl (fun w=>⟨0,Tryd.sizeOf25 w⟩) (.tmp rfl) rfl⟩,⟨.inr ⟨fun cv=>[(1,(Bx 8 true 28 ((tX (tL tapi_Word) (tL tapi_Word) (tL tapi_Unit)).is u) b))],(AllUpTo.at ⟨⟨⟨⟨(fun _ _=>⟨rfl,rfl,trivial⟩),(fun hw=>absurd hw (by decide))⟩,(fun hw=>absurd hw (by decide))⟩,(fun hw=>absurd hw (by decide))⟩,(fun hw=>absurd hw (by decide))⟩),fun cv=>Op1.loadBF 1 rfl ty25 (fX3 (tL tapi_Word) (tL tapi_Word) (tL tapi_Unit)) rfl (.tmp rfl)⟩,⟨.inl rfl,⟨.inr ⟨fun cv=>[],(fun _ _ _ _=>trivial),fun cv=>Op1.fieldAddrB (o:=0) Tryd.underlying28 rfl (fun w=>⟨0,Tryd.sizeOf25 w⟩) (.tmp rfl) rfl⟩,⟨.inr ⟨fun cv=>[(1,(Bx 8 true 28 ((tX (tL tapi_Word) (tL tapi_Word) (tL tapi_Unit)).is u) b))],(AllUpTo.at ⟨⟨⟨⟨(fun _ _=>⟨rfl,rfl,trivial⟩),(fun _ _=>⟨rfl,rfl,trivial⟩)⟩,(fun hw=>absurd hw (by decide))⟩,(fun hw=>absurd hw (by decide))⟩,(fun hw=>absurd hw (by decide))⟩),fun cv=>Op1.loadBF 1 rfl ty25 (fX4 (tL tapi_Word) (tL tapi_Word) (tL tapi_Unit) rfl) rfl (.tmp rfl)⟩,⟨.inl rfl,⟨.inr ⟨fun cv=>[],(fun _ _ _ _=>trivial),fun cv=>Op1.fieldAddrB (o:=0) Tryd.underlying28 rfl (fun w=>⟨0,Tryd.sizeOf25 w⟩) (.tmp rfl) rfl⟩,⟨.inl rfl,⟨.inr ⟨fun cv=>[],(fun _ _ _ _=>trivial),fun cv=>Op1.fieldAddrB (o:=0) Tryd.underlying28 rfl (fun w=>⟨0,Tryd.sizeOf25 w⟩) (.tmp rfl) rfl⟩,⟨.inl rfl,trivial⟩⟩⟩⟩⟩⟩⟩⟩⟩⟩ ⟨⟨_,_,_,[],(fun cv=>[(101,OwnU tapi_Word 54 (cv 0) word)]),rfl,rfl,rfl,rfl,fun _=>rfl,fun _ _=>rfl,fun cv=>OpR.loosen fl54 (OpR.call (us:=[]) Tryd.call49 ((slices_Clone_api_Word_api_Word_spec _ _ hv1).rekey 101) rfl ⟨.tmp rfl,trivial⟩)⟩,⟨⟨_,_,_,[],(fun cv=>[(102,OwnU tapi_Word 54 (cv 1) word1)]),rfl,rfl,rfl,rfl,fun _=>rfl,fun _ _=>rfl,fun cv=>OpR.loosen fl54 (OpR.call (us:=[]) Tryd.call49 ((slices_Clone_api_Word_api_Word_spec _ _ hv2).rekey 102) rfl ⟨.tmp rfl,trivial⟩)⟩,⟨⟨_,_,_,[1],(fun cv=>[(1,(Bx 8 true 28 ((tX (tUT (cv 0)) (tL tapi_Word) (tL tapi_Unit)).is ({u with Head:=word}:api_Unit)) b))]),rfl,rfl,rfl,rfl,fun _=>rfl,fun _ _=>rfl,fun cv=>OpR.viaU (OpR.storeBFT (b:=b) (s:=(tX (tL tapi_Word) (tL tapi_Word) (tL tapi_Unit))) (s':=(tX (tUT (cv 0)) (tL tapi_Word) (tL tapi_Unit))) (t:=(tUT (cv 0))) 1 rfl rfl ⟨ty25.agg,ty25.size⟩ (sX3 _ _ _ _ rfl) rfl (show 5+1≤8 by decide) (.tmp rfl) (Opd.toUT (.tmp rfl)))⟩,⟨⟨_,_,_,[1],(fun cv=>[(1,(Bx 8 true 28 ((tX (tUT (cv 0)) (tUT (cv 1)) (tL tapi_Unit)).is ({({u with Head:=word}:api_Unit) with Words:=word1}:api_Unit)) b))]),rfl,rfl,rfl,rfl,fun _=>rfl,fun _ _=>rfl,fun cv=>OpR.viaU (OpR.storeBFT (b:=b) (s:=(tX (tUT (cv 0)) (tL tapi_Word) (tL tapi_Unit))) (s':=(tX (tUT (cv 0)) (tUT (cv 1)) (tL tapi_Unit))) (t:=(tUT (cv 1))) 1 rfl rfl ⟨ty25.agg,ty25.size⟩ (sX4 _ _ _ _ rfl rfl) rfl (show 6+1≤8 by decide) (.tmp rfl) (Opd.toUT (.tmp rfl)))⟩,trivial⟩⟩⟩⟩ (fun cv=>?_)
    refine WN.seq ?_
    refine W.seq ?_
    refine W.region ?_
    refine WL.addNil (t:=tapi_Unit) (E:=28) 3 ?_
    refine WL.op rfl (Op1.assign (Opd.nilO (t:=tapi_Unit))) ?_
    refine WL.freeU (t:=tapi_Unit) (E:=28) 3 3 rfl rfl ?_
    refine WL.nil ?_
    refine WN.seq ?_
    refine W.seq ?_
    refine W.seq ?_
    refine W.region ?_
    refine WL.op rfl (Op1.fieldAddrB (o:=0) Tryd.underlying28 rfl (fun w=>⟨0,Tryd.sizeOf26 w⟩) (.tmp rfl) rfl) ?_
    refine WL.op rfl (Op1.loadBF 1 rfl ty26 (fX5 (tUT (cv 0)) (tUT (cv 1)) (tL tapi_Unit) rfl rfl) rfl (.tmp rfl)) ?_
    refine WL.op rfl (Op1.lenL Tryd.underlying26 (.tmp rfl)) ?_
    refine WL.op rfl (Op1.move (.int (inR64.2 (by omega)))) ?_
    refine WL.nil ?_
    refine WN.seq ?_
    refine W.block ?_
    obtain ⟨s3,hs4,hk5⟩:=bind_some hm
    clear hm
    refine W.loop (fun m (s:Int×List api_Unit×List api_Unit×(((List api_Unit))×Tok))=>m=s.2.2.1.length∧({({u with Head:=word}:api_Unit) with Words:=word1}:api_Unit).Kids=s.2.1++s.2.2.1∧s.1=(s.2.1.length:Int)∧M.unit_copied_loop1 (M.unit_copied n) s.2.2.1 s.2.2.2.1=some s3) (fun s=>[(17,((tI .i64).is s.1)),(3,(tU s.2.2.2.2 s.2.2.2.1.length)),(1,(Bp b 0)),(2,(Bp b1 0)),(15,((tL tapi_Unit).is (({({u with Head:=word}:api_Unit) with Words:=word1}:api_Unit).Kids))),(16,((tI .i64).is ((({({u with Head:=word}:api_Unit) with Words:=word1}:api_Unit).Kids).length:Int)))]) (fun s=>[(3,OwnU tapi_Unit 28 s.2.2.2.2 s.2.2.2.1),(1,(Bx 8 true 28 ((tX (tUT (cv 0)) (tUT (cv 1)) (tL tapi_Unit)).is ({({u with Head:=word}:api_Unit) with Words:=word1}:api_Unit)) b)),(102,OwnU tapi_Word 54 (cv 1) word1),(101,OwnU tapi_Word 54 (cv 0) word),(2,(Bx 8 true 28 (tapi_Unit.is zapi_Unit) b1))]) (({({u with Head:=word}:api_Unit) with Words:=word1}:api_Unit).Kids).length ((0:Int),[],({({u with Head:=word}:api_Unit) with Words:=word1}:api_Unit).Kids,(([]:List api_Unit),(none:Tok))) ⟨rfl,rfl,rfl,hs4⟩ ⟨Ent.q rfl,Ent.q rfl,Ent.q rfl,Ent.q rfl,Ent.q rfl,Ent.q rfl,trivial⟩ ⟨rfl,rfl,⟨rfl,rfl,⟨rfl,rfl,⟨rfl,rfl,⟨rfl,rfl,trivial⟩⟩⟩⟩⟩ ?_
    rintro m ⟨i,pre,rest1,⟨kids,k⟩⟩ ⟨hn9,hxs6,hi7,hm⟩
    try dsimp only at hn9 hxs6 hi7 hm
    change W _ _ _ _ _ _ _ [(17,((tI .i64).is i)),(3,(tU k kids.length)),(1,(Bp b 0)),(2,(Bp b1 0)),(15,((tL tapi_Unit).is (({({u with Head:=word}:api_Unit) with Words:=word1}:api_Unit).Kids))),(16,((tI .i64).is ((({({u with Head:=word}:api_Unit) with Words:=word1}:api_Unit).Kids).length:Int)))] [(3,OwnU tapi_Unit 28 k kids),(1,(Bx 8 true 28 ((tX (tUT (cv 0)) (tUT (cv 1)) (tL tapi_Unit)).is ({({u with Head:=word}:api_Unit) with Words:=word1}:api_Unit)) b)),(102,OwnU tapi_Word 54 (cv 1) word1),(101,OwnU tapi_Word 54 (cv 0) word),(2,(Bx 8 true 28 (tapi_Unit.is zapi_Unit) b1))]
    refine W.lenL (s:=15) (.tmp rfl) fun hlen8=>?_
    refine W.seq ?_
    refine W.region ?_
    refine WL.op rfl (Op1.ltI (.tmp rfl) (.tmp rfl)) ?_
    refine WL.nil ?_
    refine WN.seq ?_
    refine W.seq ?_
    refine W.cond (.tmp rfl) (fun hc11=>?_) (fun hc11=>?_)
    · have hp12:=of_decide_eq_true hc11
      obtain ⟨e,es,hrest14⟩:=range_more hxs6 hi7 hp12
      subst hrest14
      rw [M.unit_copied_loop1.eq_2] at hm
      refine W.skip ?_
      refine WN.seq ?_
      refine W.seq ?_
      refine W.block ?_
      refine W.seq ?_
      refine W.region ?_
      refine WL.op rfl (Op1.idxPre hxs6 hi7 Tryd.underlying26 Tryd.sizeOf28 (.tmp rfl) (.tmp rfl)) ?_
      refine WL.op rfl (Op1.load ty28 (.tmp rfl)) ?_
      refine WL.opR rfl (OpR.alloc 5 ze28) (fun b2=>?_)
      refine WL.opU (OpR.storeB (b:=b2) 5 Tryd.sizeOf28 (Cellable.is tapi_Unit e) rfl (.tmp rfl) (.tmp rfl)) (fun _=>?_)
      refine WL.sealed (t:=tapi_Unit) (u:=e) 5 5 rfl rfl ?_
      refine WL.nil ?_
      refine WN.seq ?_
      refine W.region ?_
      refine WL.op rfl (Op1.move (.tmp rfl)) ?_
      refine WL.op rfl (Op1.load ty28 (.tmp rfl)) ?_
      obtain ⟨copied,hv15,hm⟩:=bind_some hm
      refine WL.op rfl (Op1.call Tryd.call30 (unit_copied_spec _ _ _ hv15) ⟨(.tmp rfl),trivial⟩) ?_
      refine WL.op rfl (Op1.buildSlice (n:=1) (ys:=[(0,copied)]) (z:=zapi_Unit) (xs:=[copied]) Tryd.underlying26 el28 ze28 ⟨rfl,(.tmp rfl),trivial⟩ (by simp) (by decide) rfl) ?_
      obtain ⟨kids1,hv16,hm⟩:=bind_some hm
      refine WL.opR rfl (OpR.appendL (key:=3) hv16 (by simp) Tryd.underlying26 el28 (.tmp rfl) (.tmp rfl) rfl) (fun k1=>?_)
      refine WL.op rfl (Op1.assign (.tmp rfl)) ?_
      refine WL.nil ?_
      refine WN.block ?_
      refine WN.seq ?_
      refine W.region ?_
      refine WL.op rfl (Op1.addI (.tmp rfl) (.int (inR64.2 (by omega))) (range_inR hi7 hp12 hlen8)) ?_
      refine WL.op rfl (Op1.move (.tmp rfl)) ?_
      refine WL.nil ?_
      exact WN.again es.length (i+1,pre++ [e],es,(kids1,k1)) (range_lt hn9) ⟨rfl,range_step hxs6,range_idx hi7,hm⟩ ⟨Ent.q rfl,Ent.q rfl,Ent.q rfl,Ent.q rfl,Ent.q rfl,Ent.q rfl,trivial⟩ ⟨rfl,rfl,⟨rfl,rfl,⟨rfl,rfl,⟨rfl,rfl,⟨rfl,rfl,trivial⟩⟩⟩⟩⟩
    · have hrest14:=range_end hxs6 hi7 (of_decide_eq_false hc11)
      subst hrest14
      rw [M.unit_copied_loop1.eq_1] at hm
      refine W.exit rfl ?_
      have hr17:=Option.some.inj hm
      clear hm
      subst hr17
      have hm:=hk5
      try dsimp only at hm
      refine WN.seq ?_
      refine W.seq ?_
      refine W.region ?_
      refine WL.op rfl (Op1.move (.tmp rfl)) ?_
      refine WL.op rfl (Op1.fieldAddrB (o:=0) Tryd.underlying28 rfl (fun w=>⟨0,Tryd.sizeOf26 w⟩) (.tmp rfl) rfl) ?_
      refine WL.opU (OpR.storeBFT (b:=b) (s:=(tX (tUT (cv 0)) (tUT (cv 1)) (tL tapi_Unit))) (s':=(tX (tUT (cv 0)) (tUT (cv 1)) (tUT k))) (t:=(tUT k)) 1 rfl rfl ⟨ty26.agg,ty26.size⟩ (sX5 _ _ _ _ rfl rfl rfl) rfl (show 7+1≤8 by decide) (.tmp rfl) (Opd.toUT (.tmp rfl))) (fun _=>?_)
      refine WL.nil ?_
      refine WN.seq ?_
      refine W.seq ?_
      refine W.region ?_
      refine WL.op rfl (Op1.loadB 1 Tryd.isAgg28 Tryd.sizeOf28 rfl (.tmp rfl)) ?_
      refine WL.opU (OpR.storeB (b:=b1) 2 Tryd.sizeOf28 (Cellable.is (tX (tUT (cv 0)) (tUT (cv 1)) (tUT k)) ({({({u with Head:=word}:api_Unit) with Words:=word1}:api_Unit) with Kids:=kids}:api_Unit)) rfl (.tmp rfl) (.tmp rfl)) (fun _=>?_)
      refine WL.nil ?_
      refine WN.seq ?_
      cases hm
      exact W.retQ1 ((cv 0),(cv 1),k) rfl (ResAt.cell 2 Tryd.isAgg28 Tryd.sizeOf28 rfl (.tmp rfl)) ⟨rfl,rfl,⟨rfl,rfl,⟨rfl,rfl,trivial⟩⟩⟩
def tUs(ks:List (Tok×Nat)):Ty Nat where
  size:=1
  agg:=false
  rep:=fun _ cs j=>∃ p,ks[j]? =some p∧cs= [.slice p.1.addr p.2 p.1.cap]∧p.2≤p.1.cap∧p.2≤lim
  len:=fun ⟨_,_,h,_⟩=>by rw [h];rfl
  one:=fun ⟨_,_,h,_⟩ c hc=>by
    rw [h] at hc
    rw [List.mem_singleton.1 hc];rfl
  mono:=fun _ h=>h
  sing:=fun _=>rfl
theorem toUs{env:Env}{ks:List (Tok×Nat)}{k:Tok}{n j:Nat}{x:Operand}(hj:ks[j]? =some (k,n))(h:Opd env x (tU k n)):Opd env x ((tUs ks).is j):=
  h.weak fun v g ⟨h1,h2,h3⟩=>⟨[v],⟨(k,n),hj,by rw [h1],h2,h3⟩,rfl⟩
theorem ofUs{ks:List (Tok×Nat)}{k:Tok}{n j:Nat}(hj:ks[j]? =some (k,n)){v:Value}{g:G}(h:((tUs ks).is j).holds v g):(tU k n).holds v g:=by
  obtain ⟨cs,⟨p,h1,h2,h3,h4⟩,h5⟩:=h
  rw [hj] at h1
  cases h1
  subst h2
  exact ⟨h5,h3,h4⟩
theorem limU{P:Program}{N:Nat}{g0:G}{T0:Nat→Prop}{ks:List KF}{B:Exit→Act→World→Prop}{env:Env}{res:Rs}{c:Code}{k:Tok}{n:Nat}(s:Nat)(hs:Dec.look s env=some (tU k n))(h:n≤lim→W P N g0 T0 c ks B env res):W P N g0 T0 c ks B env res:=
  fun a g hst=>h (hst.henv s _ hs).2.2 a g hst
theorem limK{P:Program}{N:Nat}{g0:G}{T0:Nat→Prop}{ks:List KF}{B:Exit→Act→World→Prop}{env:Env}{res:Rs}{c:Code}{k:IntKind}{n:Int}(s:Nat)(hs:Dec.look s env=some ((tI k).is n))(h:inR k n→W P N g0 T0 c ks B env res):W P N g0 T0 c ks B env res:=
  fun a g hst=>by
    obtain ⟨cs,⟨_,hi⟩,_⟩:=hst.henv s _ hs
    exact h hi a g hst
def bareTo(i:Nat)(l:List api_Word):List api_Word:=M.bareWs (l.take i)++l.drop i
theorem bareTo_len(i:Nat)(l:List api_Word):(bareTo i l).length=l.length:=by simp only [bareTo,M.bareWs,List.length_append,List.length_map,List.length_take,List.length_drop];omega
theorem bareTo_all(l:List api_Word):bareTo l.length l=M.bareWs l:=by simp [bareTo]
theorem bareTo_get{i:Nat}{l:List api_Word}{u:api_Word}(h:l[i]? =some u):(bareTo i l)[i]? =some u:=by
  have hi:=(List.getElem?_eq_some_iff.1 h).1
  unfold bareTo
  rw [List.getElem?_append_right (by simp [M.bareWs];omega)]
  simp only [M.bareWs,List.length_map,List.length_take,List.getElem?_drop]
  rw [show i+(i-min i l.length)=i by omega]
  exact h
theorem bareTo_set{i:Nat}{l:List api_Word}{u:api_Word}(h:l[i]? =some u):(bareTo i l).set i {u with By:=zapi_Mark}=bareTo (i+1) l:=by
  have hi:=(List.getElem?_eq_some_iff.1 h).1
  have hu:l[i]=u:=by have:=List.getElem?_eq_getElem hi;rw [this] at h;exact Option.some.inj h
  unfold bareTo
  rw [List.set_append_right _ _ (by simp [M.bareWs];omega)]
  simp only [M.bareWs,List.length_map,List.length_take]
  rw [show i-min i l.length=0 by omega,List.drop_eq_getElem_cons hi,hu,List.take_succ_eq_append_getElem hi,List.map_append,hu]
  simp
theorem setC_mid{α:Type}(dn rs:List α)(x y:α):setC (dn++x :: rs) (dn.length:Int) y=some ((dn++ [y])++rs):=by
  unfold setC
  rw [if_pos ⟨by omega,by simp⟩]
  simp
theorem idx_mid{α:Type}(dn rs:List α)(x:α):Dec.idx (dn++x :: rs) (dn.length:Int)=some x:=by
  rw [idx_nat]
  simp
theorem mapKids_cons{f:api_Unit→Option api_Unit}{x:api_Unit}{l r:List api_Unit}(h:M.mapKids f (x :: l)=some r):∃ y rs,f x=some y∧M.mapKids f l=some rs∧r=y :: rs:=by
  unfold M.mapKids at h
  obtain ⟨y,h1,h⟩:=bind_some h
  obtain ⟨rs,h2,h⟩:=bind_some h
  exact ⟨y,rs,h1,h2,(Option.some.inj h).symm⟩
theorem mapKids_len{f:api_Unit→Option api_Unit}:∀ {l r:List api_Unit},M.mapKids f l=some r→r.length=l.length
  | [],_,h=>by cases h;rfl
  | x :: l,r,h=>by
    obtain ⟨y,rs,_,h2,rfl⟩:=mapKids_cons h
    simp [mapKids_len h2]
theorem unit_Strip_spec:∀ (n:Nat) (u:api_Unit) (r:api_Unit),M.unit_Strip n u=some r→FSpec Tryd.prog 16 [(tapi_Unit.is u)] (tapi_Unit.is r):=by
  intro n
  induction n with
  | zero=>intro u r hm;cases hm
  | succ n ih=>
    intro u r hm
    rw [M.unit_Strip.eq_2] at hm
    obtain ⟨v,hv1,hm⟩:=bind_some hm
    obtain ⟨ks,hv2,hm⟩:=bind_some hm
    have hr:=Option.some.inj hm
    clear hm
    refine FSpec.of Tryd.func16 rfl rfl rfl (fun g0=>?_)
    refine W.seq ?_
    refine W.region ?_
    refine WL.opR rfl (OpR.boxB 1 (Cellable.is tapi_Unit u) (.tmp rfl)) (fun b=>?_)
    refine WL.opR rfl (OpR.alloc 2 ze28) (fun b1=>?_)
    refine WL.nil ?_
    refine WN.seq ?_
    refine W.seq ?_
    refine W.region ?_
    refine WL.op rfl (Op1.loadB 1 Tryd.isAgg28 Tryd.sizeOf28 rfl (.tmp rfl)) ?_
    refine WL.opR rfl (OpR.call (us:=[]) Tryd.call30 (unit_copied_loose _ _ _ hv1) rfl ⟨(.tmp rfl),trivial⟩) (fun kk=>?_)
    obtain ⟨k1,k2,k3⟩:=kk
    try dsimp only
    refine WL.opU (OpR.storeB (b:=b) 1 Tryd.sizeOf28 (Cellable.is (tX (tUT k1) (tUT k2) (tUT k3)) v) rfl (.tmp rfl) (.tmp rfl)) (fun _=>?_)
    refine WL.nil ?_
    refine WN.seq ?_
    refine W.seq ?_
    refine W.region ?_
    refine WL.op rfl (Op1.build (s:=tapi_Id) (x:=zapi_Id) zapi_Id_f rfl Tryd.underlying24 (zapi_Id_sz _ Tryd.underlying24) ze24 rfl) ?_
    refine WL.op rfl (Op1.fieldAddrB (o:=0) Tryd.underlying28 rfl (fun w=>⟨2,Tryd.sizeOf24 w⟩) (.tmp rfl) rfl) ?_
    refine WL.opU (OpR.storeBF (b:=b) 1 rfl ty24 (sX0 (tUT k1) (tUT k2) (tUT k3)) rfl (show 0+3≤8 by decide) (.tmp rfl) (.tmp rfl)) (fun _=>?_)
    refine WL.nil ?_
    refine WN.seq ?_
    refine W.seq ?_
    refine W.seq ?_
    refine W.region ?_
    refine WL.op rfl (Op1.fieldAddrB (o:=0) Tryd.underlying28 rfl (fun w=>⟨0,Tryd.sizeOf25 w⟩) (.tmp rfl) rfl) ?_
    refine WL.op rfl (Op1.ofUT (Op1.loadBF 1 rfl ⟨ty25.agg,ty25.size⟩ (fX3 (tUT k1) (tUT k2) (tUT k3)) rfl (.tmp rfl))) ?_
    refine WL.op rfl (Op1.fieldAddrB (o:=0) Tryd.underlying28 rfl (fun w=>⟨0,Tryd.sizeOf25 w⟩) (.tmp rfl) rfl) ?_
    refine WL.op rfl (Op1.ofUT (Op1.loadBF 1 rfl ⟨ty25.agg,ty25.size⟩ (fX4 (tUT k1) (tUT k2) (tUT k3) rfl) rfl (.tmp rfl))) ?_
    refine WL.op rfl (Op1.buildSlice (n:=2) (t:=tUs [(k1,v.Head.length),(k2,v.Words.length),(none,0)]) (ys:=[(0,0),(1,1)]) (z:=2) (xs:=[0,1]) Tryd.underlying70 ⟨el25.row,Nat.zero_lt_one⟩ ⟨_,Tryd.zeroValue25,fun _=>⟨_,⟨(none,0),rfl,rfl,Nat.le_refl _,Nat.zero_le _⟩,rfl⟩⟩ ⟨rfl,toUs rfl (.tmp rfl),rfl,toUs rfl (.tmp rfl),trivial⟩ (by simp) (show 2*1≤16777216 by decide) rfl) ?_
    refine WL.op rfl (Op1.lenL Tryd.underlying70 (.tmp rfl)) ?_
    refine WL.op rfl (Op1.move (.int (inR64.2 (by omega)))) ?_
    refine WL.nil ?_
    refine WN.seq ?_
    refine W.block ?_
    refine W.loop (fun m (s:Nat×List api_Word×List api_Word)=>s.1≤2∧m=2-s.1∧s.2.1=(if 1≤s.1 then M.bareWs v.Head else v.Head)∧s.2.2=(if 2≤s.1 then M.bareWs v.Words else v.Words)) (fun s=>[(17,((tI .i64).is (s.1:Int))),(15,((tL (tUs [(k1,v.Head.length),(k2,v.Words.length),(none,0)])).is [0,1])),(16,((tI .i64).is (([0,1]:List Nat).length:Int))),(1,(Bp b 0)),(2,(Bp b1 0))]) (fun s=>[(101,OwnU tapi_Word 54 k1 s.2.1),(102,OwnU tapi_Word 54 k2 s.2.2),(3,OwnU tapi_Unit 28 k3 v.Kids),(1,(Bx 8 true 28 ((tX (tUT k1) (tUT k2) (tUT k3)).is ({v with Id:=zapi_Id}:api_Unit)) b)),(2,(Bx 8 true 28 (tapi_Unit.is zapi_Unit) b1))]) 2 (0,v.Head,v.Words) ⟨Nat.zero_le _,rfl,rfl,rfl⟩ ⟨Ent.q rfl,Ent.q rfl,Ent.q rfl,Ent.q rfl,Ent.q rfl,trivial⟩ ⟨rfl,rfl,⟨rfl,rfl,⟨rfl,rfl,⟨rfl,rfl,⟨rfl,rfl,trivial⟩⟩⟩⟩⟩ ?_
    rintro m ⟨j,ph,pw⟩ ⟨hj,hm,hph,hpw⟩
    try dsimp only at hj hm hph hpw
    rcases (show j=0∨j=1∨j=2 by omega) with rfl | rfl | rfl
    · have e1:ph=v.Head:=by rw [hph];rfl
      have e2:pw=v.Words:=by rw [hpw];rfl
      clear hph hpw
      subst e1 e2
      change W _ _ _ _ _ _ _ [(17,((tI .i64).is (0:Int))),(15,((tL (tUs [(k1,v.Head.length),(k2,v.Words.length),(none,0)])).is [0,1])),(16,((tI .i64).is (([0,1]:List Nat).length:Int))),(1,(Bp b 0)),(2,(Bp b1 0))] [(101,OwnU tapi_Word 54 k1 v.Head),(102,OwnU tapi_Word 54 k2 v.Words),(3,OwnU tapi_Unit 28 k3 v.Kids),(1,(Bx 8 true 28 ((tX (tUT k1) (tUT k2) (tUT k3)).is ({v with Id:=zapi_Id}:api_Unit)) b)),(2,(Bx 8 true 28 (tapi_Unit.is zapi_Unit) b1))]
      refine W.seq ?_
      refine W.region ?_
      refine WL.op rfl (Op1.ltI (.tmp rfl) (.tmp rfl)) ?_
      refine WL.nil ?_
      refine WN.seq ?_
      refine W.seq ?_
      refine W.cond (.tmp rfl) (fun hc11=>?_) (fun hc11=>absurd (of_decide_eq_false hc11) (by decide))
      refine W.skip ?_
      refine WN.seq ?_
      refine W.seq ?_
      refine W.block ?_
      refine W.seq ?_
      refine W.region ?_
      refine WL.op rfl (Op1.indexAddr (u:=0) Tryd.underlying70 Tryd.sizeOf25 (.tmp rfl) (.tmp rfl) (by decide) rfl) ?_
      refine WL.op rfl (Op1.load (t:=tUs [(k1,v.Head.length),(k2,v.Words.length),(none,0)]) ⟨ty25.agg,ty25.size⟩ (.tmp rfl)) ?_
      refine WL.op rfl (Op1.weak (Op1.assign (.tmp rfl)) (fun _ _=>ofUs (k:=k1) (n:=(bareTo 0 v.Head).length) (by rw [bareTo_len];rfl))) ?_
      refine WL.nil ?_
      refine WN.seq ?_
      refine W.seq ?_
      refine W.region ?_
      refine WL.op rfl (Op1.move (.tmp rfl)) ?_
      refine WL.op rfl (Op1.lenU Tryd.underlying25 (.tmp rfl)) ?_
      refine WL.op rfl (Op1.move (.int (inR64.2 (by omega)))) ?_
      refine WL.nil ?_
      refine WN.seq ?_
      refine W.block ?_
      refine W.loop (fun m (s:Nat)=>s≤v.Head.length∧m=v.Head.length-s) (fun s=>[(23,((tI .i64).is (s:Int))),(22,((tI .i64).is ((v.Head.length:Nat):Int))),(4,(tU k1 (bareTo s v.Head).length)),(17,((tI .i64).is (0:Int))),(15,((tL (tUs [(k1,v.Head.length),(k2,v.Words.length),(none,0)])).is [0,1])),(16,((tI .i64).is (([0,1]:List Nat).length:Int))),(1,(Bp b 0)),(2,(Bp b1 0))]) (fun s=>[(101,OwnU tapi_Word 54 k1 (bareTo s v.Head)),(102,OwnU tapi_Word 54 k2 v.Words),(3,OwnU tapi_Unit 28 k3 v.Kids),(1,(Bx 8 true 28 ((tX (tUT k1) (tUT k2) (tUT k3)).is ({v with Id:=zapi_Id}:api_Unit)) b)),(2,(Bx 8 true 28 (tapi_Unit.is zapi_Unit) b1))]) _ 0 ⟨Nat.zero_le _,rfl⟩ ⟨Ent.q rfl,Ent.w rfl (fun _ _ h=>by rw [bareTo_len] at h;exact h),Ent.q rfl,Ent.q rfl,Ent.q rfl,Ent.q rfl,Ent.q rfl,Ent.q rfl,trivial⟩ ⟨rfl,rfl,⟨rfl,rfl,⟨rfl,rfl,⟨rfl,rfl,⟨rfl,rfl,trivial⟩⟩⟩⟩⟩ ?_
      rintro m2 i ⟨hi,hm2⟩
      change W _ _ _ _ _ _ _ [(23,((tI .i64).is (i:Int))),(22,((tI .i64).is ((v.Head.length:Nat):Int))),(4,(tU k1 (bareTo i v.Head).length)),(17,((tI .i64).is (0:Int))),(15,((tL (tUs [(k1,v.Head.length),(k2,v.Words.length),(none,0)])).is [0,1])),(16,((tI .i64).is (([0,1]:List Nat).length:Int))),(1,(Bp b 0)),(2,(Bp b1 0))] [(101,OwnU tapi_Word 54 k1 (bareTo i v.Head)),(102,OwnU tapi_Word 54 k2 v.Words),(3,OwnU tapi_Unit 28 k3 v.Kids),(1,(Bx 8 true 28 ((tX (tUT k1) (tUT k2) (tUT k3)).is ({v with Id:=zapi_Id}:api_Unit)) b)),(2,(Bx 8 true 28 (tapi_Unit.is zapi_Unit) b1))]
      refine limU 4 rfl fun hlim=>?_
      rw [bareTo_len] at hlim
      refine W.seq ?_
      refine W.region ?_
      refine WL.op rfl (Op1.ltI (.tmp rfl) (.tmp rfl)) ?_
      refine WL.nil ?_
      refine WN.seq ?_
      refine W.seq ?_
      refine W.cond (.tmp rfl) (fun hc12=>?_) (fun hc12=>?_)
      · have hp12:=of_decide_eq_true hc12
        have hil:i<v.Head.length:=by omega
        obtain ⟨u0,hu0⟩:∃ u0,v.Head[i]? =some u0:=⟨_,List.getElem?_eq_getElem hil⟩
        have hix:Dec.idx (bareTo i v.Head) (i:Int)=some u0:=by rw [idx_nat];exact bareTo_get hu0
        refine W.skip ?_
        refine WN.seq ?_
        refine W.seq ?_
        refine W.block ?_
        refine W.seq ?_
        refine W.region ?_
        refine WL.op rfl (Op1.move (.tmp rfl)) ?_
        refine WL.op rfl (Op1.assign (.tmp rfl)) ?_
        refine WL.nil ?_
        refine WN.seq ?_
        refine W.region ?_
        refine WL.op rfl (Op1.move (.tmp rfl)) ?_
        refine WL.op rfl (Op1.move (.tmp rfl)) ?_
        refine WL.op rfl (Op1.build (s:=tapi_Mark) (x:=zapi_Mark) zapi_Mark_f rfl Tryd.underlying52 (zapi_Mark_sz _ Tryd.underlying52) ze52 rfl) ?_
        refine WL.op rfl (Op1.idxU (t:=tapi_Word) hix Tryd.underlying25 Tryd.sizeOf54 (.tmp rfl) (.tmp rfl)) ?_
        refine WL.op rfl (Op1.fieldAddrB (o:=(i:Int).toNat*tapi_Word.size) Tryd.underlying54 rfl (fun w=>⟨2,Tryd.sizeOf52 w⟩) (.tmp rfl) rfl) ?_
        refine WL.opU (OpR.storeUF (key:=101) hix ty52 sapi_Word_1 (.tmp rfl) (.tmp rfl) rfl) (fun _=>?_)
        refine WL.nil ?_
        refine WN.block ?_
        refine WN.seq ?_
        refine W.region ?_
        refine WL.op rfl (Op1.addI1 (.tmp rfl) (.int (inR64.2 (by omega))) hp12 hlim) ?_
        refine WL.op rfl (Op1.move (.tmp rfl)) ?_
        refine WL.nil ?_
        have hset:(bareTo i v.Head).set (i:Int).toNat {u0 with By:=zapi_Mark}=bareTo (i+1) v.Head:=by rw [Int.toNat_natCast];exact bareTo_set hu0
        rw [hset]
        exact WN.again (v.Head.length-(i+1)) (i+1) (by omega) ⟨by omega,rfl⟩ ⟨Ent.q rfl,Ent.q rfl,Ent.w rfl (fun _ _ h=>by simpa only [bareTo_len] using h),Ent.q rfl,Ent.q rfl,Ent.q rfl,Ent.q rfl,Ent.q rfl,trivial⟩ ⟨rfl,rfl,⟨rfl,rfl,⟨rfl,rfl,⟨rfl,rfl,⟨rfl,rfl,trivial⟩⟩⟩⟩⟩
      · have he:i=v.Head.length:=by have:=of_decide_eq_false hc12;omega
        subst he
        rw [bareTo_all]
        refine W.exit rfl ?_
        refine WN.block ?_
        refine WN.seq ?_
        refine W.region ?_
        refine WL.op rfl (Op1.addI1 (l:=2) (.tmp rfl) (.int (inR64.2 (by omega))) (by decide) (by decide)) ?_
        refine WL.op rfl (Op1.move (.tmp rfl)) ?_
        refine WL.nil ?_
        exact WN.again 1 (1,M.bareWs v.Head,v.Words) (by omega) ⟨(show 1≤2 by decide),rfl,rfl,rfl⟩ ⟨Ent.q rfl,Ent.q rfl,Ent.q rfl,Ent.q rfl,Ent.q rfl,trivial⟩ ⟨rfl,rfl,⟨rfl,rfl,⟨rfl,rfl,⟨rfl,rfl,⟨rfl,rfl,trivial⟩⟩⟩⟩⟩
    · have e1:ph=(M.bareWs v.Head):=by rw [hph];rfl
      have e2:pw=v.Words:=by rw [hpw];rfl
      clear hph hpw
      subst e1 e2
      change W _ _ _ _ _ _ _ [(17,((tI .i64).is (1:Int))),(15,((tL (tUs [(k1,v.Head.length),(k2,v.Words.length),(none,0)])).is [0,1])),(16,((tI .i64).is (([0,1]:List Nat).length:Int))),(1,(Bp b 0)),(2,(Bp b1 0))] [(101,OwnU tapi_Word 54 k1 (M.bareWs v.Head)),(102,OwnU tapi_Word 54 k2 v.Words),(3,OwnU tapi_Unit 28 k3 v.Kids),(1,(Bx 8 true 28 ((tX (tUT k1) (tUT k2) (tUT k3)).is ({v with Id:=zapi_Id}:api_Unit)) b)),(2,(Bx 8 true 28 (tapi_Unit.is zapi_Unit) b1))]
      refine W.seq ?_
      refine W.region ?_
      refine WL.op rfl (Op1.ltI (.tmp rfl) (.tmp rfl)) ?_
      refine WL.nil ?_
      refine WN.seq ?_
      refine W.seq ?_
      refine W.cond (.tmp rfl) (fun hc11=>?_) (fun hc11=>absurd (of_decide_eq_false hc11) (by decide))
      refine W.skip ?_
      refine WN.seq ?_
      refine W.seq ?_
      refine W.block ?_
      refine W.seq ?_
      refine W.region ?_
      refine WL.op rfl (Op1.indexAddr (u:=1) Tryd.underlying70 Tryd.sizeOf25 (.tmp rfl) (.tmp rfl) (by decide) rfl) ?_
      refine WL.op rfl (Op1.load (t:=tUs [(k1,v.Head.length),(k2,v.Words.length),(none,0)]) ⟨ty25.agg,ty25.size⟩ (.tmp rfl)) ?_
      refine WL.op rfl (Op1.weak (Op1.assign (.tmp rfl)) (fun _ _=>ofUs (k:=k2) (n:=(bareTo 0 v.Words).length) (by rw [bareTo_len];rfl))) ?_
      refine WL.nil ?_
      refine WN.seq ?_
      refine W.seq ?_
      refine W.region ?_
      refine WL.op rfl (Op1.move (.tmp rfl)) ?_
      refine WL.op rfl (Op1.lenU Tryd.underlying25 (.tmp rfl)) ?_
      refine WL.op rfl (Op1.move (.int (inR64.2 (by omega)))) ?_
      refine WL.nil ?_
      refine WN.seq ?_
      refine W.block ?_
      refine W.loop (fun m (s:Nat)=>s≤v.Words.length∧m=v.Words.length-s) (fun s=>[(23,((tI .i64).is (s:Int))),(22,((tI .i64).is ((v.Words.length:Nat):Int))),(4,(tU k2 (bareTo s v.Words).length)),(17,((tI .i64).is (1:Int))),(15,((tL (tUs [(k1,v.Head.length),(k2,v.Words.length),(none,0)])).is [0,1])),(16,((tI .i64).is (([0,1]:List Nat).length:Int))),(1,(Bp b 0)),(2,(Bp b1 0))]) (fun s=>[(101,OwnU tapi_Word 54 k1 (M.bareWs v.Head)),(102,OwnU tapi_Word 54 k2 (bareTo s v.Words)),(3,OwnU tapi_Unit 28 k3 v.Kids),(1,(Bx 8 true 28 ((tX (tUT k1) (tUT k2) (tUT k3)).is ({v with Id:=zapi_Id}:api_Unit)) b)),(2,(Bx 8 true 28 (tapi_Unit.is zapi_Unit) b1))]) _ 0 ⟨Nat.zero_le _,rfl⟩ ⟨Ent.q rfl,Ent.w rfl (fun _ _ h=>by rw [bareTo_len] at h;exact h),Ent.q rfl,Ent.q rfl,Ent.q rfl,Ent.q rfl,Ent.q rfl,Ent.q rfl,trivial⟩ ⟨rfl,rfl,⟨rfl,rfl,⟨rfl,rfl,⟨rfl,rfl,⟨rfl,rfl,trivial⟩⟩⟩⟩⟩ ?_
      rintro m2 i ⟨hi,hm2⟩
      change W _ _ _ _ _ _ _ [(23,((tI .i64).is (i:Int))),(22,((tI .i64).is ((v.Words.length:Nat):Int))),(4,(tU k2 (bareTo i v.Words).length)),(17,((tI .i64).is (1:Int))),(15,((tL (tUs [(k1,v.Head.length),(k2,v.Words.length),(none,0)])).is [0,1])),(16,((tI .i64).is (([0,1]:List Nat).length:Int))),(1,(Bp b 0)),(2,(Bp b1 0))] [(101,OwnU tapi_Word 54 k1 (M.bareWs v.Head)),(102,OwnU tapi_Word 54 k2 (bareTo i v.Words)),(3,OwnU tapi_Unit 28 k3 v.Kids),(1,(Bx 8 true 28 ((tX (tUT k1) (tUT k2) (tUT k3)).is ({v with Id:=zapi_Id}:api_Unit)) b)),(2,(Bx 8 true 28 (tapi_Unit.is zapi_Unit) b1))]
      refine limU 4 rfl fun hlim=>?_
      rw [bareTo_len] at hlim
      refine W.seq ?_
      refine W.region ?_
      refine WL.op rfl (Op1.ltI (.tmp rfl) (.tmp rfl)) ?_
      refine WL.nil ?_
      refine WN.seq ?_
      refine W.seq ?_
      refine W.cond (.tmp rfl) (fun hc12=>?_) (fun hc12=>?_)
      · have hp12:=of_decide_eq_true hc12
        have hil:i<v.Words.length:=by omega
        obtain ⟨u0,hu0⟩:∃ u0,v.Words[i]? =some u0:=⟨_,List.getElem?_eq_getElem hil⟩
        have hix:Dec.idx (bareTo i v.Words) (i:Int)=some u0:=by rw [idx_nat];exact bareTo_get hu0
        refine W.skip ?_
        refine WN.seq ?_
        refine W.seq ?_
        refine W.block ?_
        refine W.seq ?_
        refine W.region ?_
        refine WL.op rfl (Op1.move (.tmp rfl)) ?_
        refine WL.op rfl (Op1.assign (.tmp rfl)) ?_
        refine WL.nil ?_
        refine WN.seq ?_
        refine W.region ?_
        refine WL.op rfl (Op1.move (.tmp rfl)) ?_
        refine WL.op rfl (Op1.move (.tmp rfl)) ?_
        refine WL.op rfl (Op1.build (s:=tapi_Mark) (x:=zapi_Mark) zapi_Mark_f rfl Tryd.underlying52 (zapi_Mark_sz _ Tryd.underlying52) ze52 rfl) ?_
        refine WL.op rfl (Op1.idxU (t:=tapi_Word) hix Tryd.underlying25 Tryd.sizeOf54 (.tmp rfl) (.tmp rfl)) ?_
        refine WL.op rfl (Op1.fieldAddrB (o:=(i:Int).toNat*tapi_Word.size) Tryd.underlying54 rfl (fun w=>⟨2,Tryd.sizeOf52 w⟩) (.tmp rfl) rfl) ?_
        refine WL.opU (OpR.storeUF (key:=102) hix ty52 sapi_Word_1 (.tmp rfl) (.tmp rfl) rfl) (fun _=>?_)
        refine WL.nil ?_
        refine WN.block ?_
        refine WN.seq ?_
        refine W.region ?_
        refine WL.op rfl (Op1.addI1 (.tmp rfl) (.int (inR64.2 (by omega))) hp12 hlim) ?_
        refine WL.op rfl (Op1.move (.tmp rfl)) ?_
        refine WL.nil ?_
        have hset:(bareTo i v.Words).set (i:Int).toNat {u0 with By:=zapi_Mark}=bareTo (i+1) v.Words:=by rw [Int.toNat_natCast];exact bareTo_set hu0
        rw [hset]
        exact WN.again (v.Words.length-(i+1)) (i+1) (by omega) ⟨by omega,rfl⟩ ⟨Ent.q rfl,Ent.q rfl,Ent.w rfl (fun _ _ h=>by simpa only [bareTo_len] using h),Ent.q rfl,Ent.q rfl,Ent.q rfl,Ent.q rfl,Ent.q rfl,trivial⟩ ⟨rfl,rfl,⟨rfl,rfl,⟨rfl,rfl,⟨rfl,rfl,⟨rfl,rfl,trivial⟩⟩⟩⟩⟩
      · have he:i=v.Words.length:=by have:=of_decide_eq_false hc12;omega
        subst he
        rw [bareTo_all]
        refine W.exit rfl ?_
        refine WN.block ?_
        refine WN.seq ?_
        refine W.region ?_
        refine WL.op rfl (Op1.addI1 (l:=2) (.tmp rfl) (.int (inR64.2 (by omega))) (by decide) (by decide)) ?_
        refine WL.op rfl (Op1.move (.tmp rfl)) ?_
        refine WL.nil ?_
        exact WN.again 0 (2,M.bareWs v.Head,M.bareWs v.Words) (by omega) ⟨(show 2≤2 by decide),rfl,rfl,rfl⟩ ⟨Ent.q rfl,Ent.q rfl,Ent.q rfl,Ent.q rfl,Ent.q rfl,trivial⟩ ⟨rfl,rfl,⟨rfl,rfl,⟨rfl,rfl,⟨rfl,rfl,⟨rfl,rfl,trivial⟩⟩⟩⟩⟩
    · have e1:ph=M.bareWs v.Head:=by rw [hph];rfl
      have e2:pw=M.bareWs v.Words:=by rw [hpw];rfl
      clear hph hpw
      subst e1 e2
      change W _ _ _ _ _ _ _ [(17,((tI .i64).is (2:Int))),(15,((tL (tUs [(k1,v.Head.length),(k2,v.Words.length),(none,0)])).is [0,1])),(16,((tI .i64).is (([0,1]:List Nat).length:Int))),(1,(Bp b 0)),(2,(Bp b1 0))] [(101,OwnU tapi_Word 54 k1 (M.bareWs v.Head)),(102,OwnU tapi_Word 54 k2 (M.bareWs v.Words)),(3,OwnU tapi_Unit 28 k3 v.Kids),(1,(Bx 8 true 28 ((tX (tUT k1) (tUT k2) (tUT k3)).is ({v with Id:=zapi_Id}:api_Unit)) b)),(2,(Bx 8 true 28 (tapi_Unit.is zapi_Unit) b1))]
      refine W.seq ?_
      refine W.region ?_
      refine WL.op rfl (Op1.ltI (.tmp rfl) (.tmp rfl)) ?_
      refine WL.nil ?_
      refine WN.seq ?_
      refine W.seq ?_
      refine W.cond (.tmp rfl) (fun hc11=>absurd (of_decide_eq_true hc11) (by decide)) (fun hc11=>?_)
      refine W.exit rfl ?_
      refine WN.seq ?_
      refine W.seq ?_
      refine W.seq ?_
      refine W.region ?_
      refine WL.op rfl (Op1.fieldAddrB (o:=0) Tryd.underlying28 rfl (fun w=>⟨0,Tryd.sizeOf26 w⟩) (.tmp rfl) rfl) ?_
      refine WL.op rfl (Op1.ofUT (Op1.loadBF 1 rfl ⟨ty26.agg,ty26.size⟩ (fX5 (tUT k1) (tUT k2) (tUT k3) rfl rfl) rfl (.tmp rfl))) ?_
      refine WL.op rfl (Op1.lenU Tryd.underlying26 (.tmp rfl)) ?_
      refine WL.op rfl (Op1.move (.int (inR64.2 (by omega)))) ?_
      refine WL.nil ?_
      refine WN.seq ?_
      refine W.block ?_
      refine W.loop (fun m (s:List api_Unit×List api_Unit×List api_Unit)=>m=s.2.1.length∧s.1.length+s.2.1.length=v.Kids.length∧M.mapKids (M.unit_Strip n) s.2.1=some s.2.2∧ks=s.1++s.2.2) (fun s=>[(36,((tI .i64).is (s.1.length:Int))),(35,((tI .i64).is ((v.Kids.length:Nat):Int))),(1,(Bp b 0)),(2,(Bp b1 0))]) (fun s=>[(101,OwnU tapi_Word 54 k1 (M.bareWs v.Head)),(102,OwnU tapi_Word 54 k2 (M.bareWs v.Words)),(3,OwnU tapi_Unit 28 k3 (s.1++s.2.1)),(1,(Bx 8 true 28 ((tX (tUT k1) (tUT k2) (tUT k3)).is ({v with Id:=zapi_Id}:api_Unit)) b)),(2,(Bx 8 true 28 (tapi_Unit.is zapi_Unit) b1))]) _ ([],v.Kids,ks) ⟨rfl,by simp,hv2,rfl⟩ ⟨Ent.q rfl,Ent.q rfl,Ent.q rfl,Ent.q rfl,trivial⟩ ⟨rfl,rfl,⟨rfl,rfl,⟨rfl,rfl,⟨rfl,rfl,⟨rfl,rfl,trivial⟩⟩⟩⟩⟩ ?_
      rintro m2 ⟨dn,rest,ksr⟩ ⟨hm2,hlen,hmk,hks⟩
      try dsimp only at hm2 hlen hmk hks
      change W _ _ _ _ _ _ _ [(36,((tI .i64).is (dn.length:Int))),(35,((tI .i64).is ((v.Kids.length:Nat):Int))),(1,(Bp b 0)),(2,(Bp b1 0))] [(101,OwnU tapi_Word 54 k1 (M.bareWs v.Head)),(102,OwnU tapi_Word 54 k2 (M.bareWs v.Words)),(3,OwnU tapi_Unit 28 k3 (dn++rest)),(1,(Bx 8 true 28 ((tX (tUT k1) (tUT k2) (tUT k3)).is ({v with Id:=zapi_Id}:api_Unit)) b)),(2,(Bx 8 true 28 (tapi_Unit.is zapi_Unit) b1))]
      refine W.seq ?_
      refine W.region ?_
      refine WL.op rfl (Op1.ltI (.tmp rfl) (.tmp rfl)) ?_
      refine WL.nil ?_
      refine WN.seq ?_
      refine W.seq ?_
      refine W.cond (.tmp rfl) (fun hc12=>?_) (fun hc12=>?_)
      · have hp12:=of_decide_eq_true hc12
        cases rest with
        | nil=>simp at hlen;omega
        | cons x rs=>
        obtain ⟨y,ksr2,hfx,hmk2,rfl⟩:=mapKids_cons hmk
        refine W.skip ?_
        refine WN.seq ?_
        refine W.seq ?_
        refine W.block ?_
        refine W.seq ?_
        refine W.region ?_
        refine WL.op rfl (Op1.move (.tmp rfl)) ?_
        refine WL.op rfl (Op1.assign (.tmp rfl)) ?_
        refine WL.nil ?_
        refine WN.seq ?_
        have hlen2:(dn++x :: rs).length=v.Kids.length:=by rw [List.length_append];exact hlen
        refine W.drawM [.c (Bp b 7),.c (tU k3 (dn++x :: rs).length),.c ((tI .i64).is (dn.length:Int)),.c (Bp b 7),.c (tU k3 (dn++x :: rs).length),.c ((tI .i64).is (dn.length:Int)),.c (Bp (bk k3) ((dn.length:Int).toNat*tapi_Unit.size)),.c (tapi_Unit.is x),.c (tapi_Unit.is y),.c (Bp (bk k3) ((dn.length:Int).toNat*tapi_Unit.size)),.c Asn.any] [([],[1]),([0],[]),([],[6]),([],[1]),([3],[]),([],[6]),([4,5],[]),([6],[]),([7],[]),([1,2],[]),([8,9],[])] [10] [[],[],[],[],[],[],[],[],[],[],[]] (fun m cv=>match m with | 0=>[(101,OwnU tapi_Word 54 k1 (M.bareWs v.Head)),(102,OwnU tapi_Word 54 k2 (M.bareWs v.Words)),(3,OwnU tapi_Unit 28 k3 (dn++x :: rs)),(1,(Bx 8 true 28 ((tX (tUT k1) (tUT k2) (tUT k3)).is ({v with Id:=zapi_Id}:api_Unit)) b)),(2,(Bx 8 true 28 (tapi_Unit.is zapi_Unit) b1))] | _=>[(3,OwnU tapi_Unit 28 k3 ((dn++ [y])++rs)),(101,OwnU tapi_Word 54 k1 (M.bareWs v.Head)),(102,OwnU tapi_Word 54 k2 (M.bareWs v.Words)),(1,(Bx 8 true 28 ((tX (tUT k1) (tUT k2) (tUT k3)).is ({v with Id:=zapi_Id}:api_Unit)) b)),(2,(Bx 8 true 28 (tapi_Unit.is zapi_Unit) b1))]) (fun _=>none) Tryd.mixed rfl rfl rfl rfl rfl ⟨fun _ _ _ _=>rfl,⟨fun _ _ _ _=>rfl,⟨fun _ _ _ _=>rfl,⟨fun _ _ _ _=>rfl,⟨fun _ _ _ _=>rfl,⟨fun _ _ _ _=>rfl,⟨fun _ _ _ _=>rfl,⟨fun _ _ _ _=>rfl,⟨fun _ _ _ _=>rfl,⟨fun _ _ _ _=>rfl,⟨fun _ _ _ _=>rfl,trivial⟩⟩⟩⟩⟩⟩⟩⟩⟩⟩⟩ rfl ⟨.inr ⟨fun cv=>[],(fun _ _ _ _=>trivial),fun cv=>Op1.fieldAddrB (o:=0) Tryd.underlying28 rfl (fun w=>⟨0,Tryd.sizeOf26 w⟩) (.tmp rfl) rfl⟩,⟨.inr ⟨fun cv=>[(1,(Bx 8 true 28 ((tX (tUT k1) (tUT k2) (tUT k3)).is ({v with Id:=zapi_Id}:api_Unit)) b))],(AllUpTo.at ⟨(fun _ _=>⟨rfl,rfl,trivial⟩),(fun hw=>absurd hw (by decide))⟩),fun cv=>Op1.weak (Op1.ofUT (Op1.loadBF 1 rfl ⟨ty26.agg,ty26.size⟩ (fX5 (tUT k1) (tUT k2) (tUT k3) rfl rfl) rfl (.tmp rfl))) (fun _ _ h=>by rw [hlen2];exact h)⟩,⟨.inr ⟨fun cv=>[],(fun _ _ _ _=>trivial),fun cv=>Op1.move (.tmp rfl)⟩,⟨.inr ⟨fun cv=>[],(fun _ _ _ _=>trivial),fun cv=>Op1.fieldAddrB (o:=0) Tryd.underlying28 rfl (fun w=>⟨0,Tryd.sizeOf26 w⟩) (.tmp rfl) rfl⟩,⟨.inr ⟨fun cv=>[(1,(Bx 8 true 28 ((tX (tUT k1) (tUT k2) (tUT k3)).is ({v with Id:=zapi_Id}:api_Unit)) b))],(AllUpTo.at ⟨(fun _ _=>⟨rfl,rfl,trivial⟩),(fun hw=>absurd hw (by decide))⟩),fun cv=>Op1.weak (Op1.ofUT (Op1.loadBF 1 rfl ⟨ty26.agg,ty26.size⟩ (fX5 (tUT k1) (tUT k2) (tUT k3) rfl rfl) rfl (.tmp rfl))) (fun _ _ h=>by rw [hlen2];exact h)⟩,⟨.inr ⟨fun cv=>[],(fun _ _ _ _=>trivial),fun cv=>Op1.move (.tmp rfl)⟩,⟨.inr ⟨fun cv=>[],(fun _ _ _ _=>trivial),fun cv=>Op1.idxU (t:=tapi_Unit) (idx_mid dn rs x) Tryd.underlying26 Tryd.sizeOf28 (.tmp rfl) (.tmp rfl)⟩,⟨.inr ⟨fun cv=>[(3,OwnU tapi_Unit 28 k3 (dn++x :: rs))],(AllUpTo.at ⟨(fun _ _=>⟨rfl,rfl,trivial⟩),(fun hw=>absurd hw (by decide))⟩),fun cv=>Op1.loadU 3 (idx_mid dn rs x) ty28 rfl (.tmp rfl)⟩,⟨.inr ⟨fun cv=>[],(fun _ _ _ _=>trivial),fun cv=>Op1.call Tryd.call16 (ih _ _ hfx) ⟨(.tmp rfl),trivial⟩⟩,⟨.inr ⟨fun cv=>[],(fun _ _ _ _=>trivial),fun cv=>Op1.idxU (t:=tapi_Unit) (idx_mid dn rs x) Tryd.underlying26 Tryd.sizeOf28 (.tmp rfl) (.tmp rfl)⟩,⟨.inl rfl,trivial⟩⟩⟩⟩⟩⟩⟩⟩⟩⟩⟩ ⟨⟨_,_,_,[3],(fun cv=>[(3,OwnU tapi_Unit 28 k3 ((dn++ [y])++rs))]),rfl,rfl,rfl,rfl,fun _=>rfl,fun _ _=>rfl,fun cv=>OpR.viaU (OpR.storeU (key:=3) (setC_mid dn rs x y) ty28 (.tmp rfl) (.tmp rfl) rfl)⟩,trivial⟩ (fun cv=>?_)
        refine WN.block ?_
        refine WN.seq ?_
        refine limK 35 rfl fun hlim=>?_
        refine W.region ?_
        refine WL.op rfl (Op1.addI (.tmp rfl) (.int (inR64.2 (by omega))) (inR64.2 (by have:=inR64.1 hlim;omega))) ?_
        refine WL.op rfl (Op1.move (.tmp rfl)) ?_
        refine WL.nil ?_
        exact WN.again rs.length (dn++ [y],rs,ksr2) (by rw [hm2];simp) ⟨rfl,by simp at hlen ⊢;omega,hmk2,by rw [hks];simp⟩ ⟨Ent.w rfl (fun _ _ h=>by simpa using h),Ent.q rfl,Ent.q rfl,Ent.q rfl,trivial⟩ ⟨rfl,rfl,⟨rfl,rfl,⟨rfl,rfl,⟨rfl,rfl,⟨rfl,rfl,trivial⟩⟩⟩⟩⟩
      · have he:rest= []:=by
          cases rest with
          | nil=>rfl
          | cons x rs=>have:=of_decide_eq_false hc12;simp at hlen;omega
        subst he
        cases hmk
        subst hks
        refine W.exit rfl ?_
        refine WN.seq ?_
        refine W.seq ?_
        refine W.region ?_
        refine WL.fixG 101 rfl ?_
        refine WL.fixG 102 rfl ?_
        refine WL.fixG 3 rfl ?_
        refine WL.boxG (tapi_Unit.is r) 1 rfl (fun _ _ hq hA=>?_) ?_
        · subst hr
          refine Le.is iX (CvT.is (s:=(tX (tUT k1) (tUT k2) (tUT k3))) rfl ?_ hA)
          exact CvT.map (CvT.pair CvT.same (CvT.pair CvT.same (CvT.pair CvT.same (CvT.pair (CvT.gr (hq.at (key:=101) rfl) (by simp [M.bareWs])) (CvT.pair (CvT.gr (hq.at (key:=102) rfl) (by simp [M.bareWs])) (CvT.one (CvT.gr (hq.at (key:=3) rfl) (by rw [mapKids_len hv2]))))))))
        refine WL.op rfl (Op1.loadB 1 Tryd.isAgg28 Tryd.sizeOf28 rfl (.tmp rfl)) ?_
        refine WL.opU (OpR.storeB (b:=b1) 2 Tryd.sizeOf28 (Cellable.is tapi_Unit r) rfl (.tmp rfl) (.tmp rfl)) (fun _=>?_)
        refine WL.nil ?_
        refine WN.seq ?_
        exact W.retQ1 () rfl (ResAt.cell 2 Tryd.isAgg28 Tryd.sizeOf28 rfl (.tmp rfl)) trivial
theorem unit_KindName_spec(kind:Int)(r:Str)(hm:M.unit_KindName kind=some r):FSpecR Tryd.prog 33 [(I6.is kind)] [(700000,Gl (tA 8 tS) 0 gv0)] (fun _:Unit=>(tS.is r)) (fun _=>[]):=by
 unfold M.unit_KindName at hm
 refine FSpecR.of Tryd.func33 rfl rfl rfl fun g0=>Aw<|Ao rfl (.assign (.str rfl (by decide)))<|An<|W.seq<|Aw<|Am rfl rfl<|Ao rfl (.ltI (.t rfl) .i64)<|WL.mv rfl rfl ?_
 rcases iteD hm with ⟨hp2,hb1,hm⟩ | ⟨hp2,hb1,hm⟩
 ·refine Ap rfl hb1<|Ap rfl hb1<|Ao rfl (.pickT (.t rfl) hb1 .bool)<|An<|W.condT (.t rfl)<|Aw<|Ao rfl (.assign (.str rfl (by decide)))<|WL.ns ?_
  cases hm
  exact W.ret1 () rfl (.t rfl) trivial
 ·refine Ax rfl hb1 (.move (.t rfl))<|Ax rfl hb1 (.geI (.t rfl) .i64)<|Ao rfl (.pickF (.t rfl) hb1 (.t rfl))<|An<|W.cD hm (.t rfl) (fun hp4 hm=>?_) (fun hp4 hm=>?_)
  ·refine Aw<|Ao rfl (.assign (.str rfl (by decide)))<|WL.ns ?_
   cases hm
   exact W.ret1 () rfl (.t rfl) trivial
  ·refine W.skip<|Aq<|Aw<|WL.mv rfl rfl ?_
   obtain ⟨v,hv5,hm⟩:=Bs hm
   refine WL.addG 900000 700000 rfl<|Ao rfl (.idxA hv5 U99 Z9 (Opd.glob (s:=900000) rfl) (.t rfl))<|Ao rfl (.load ty9 (.t rfl))<|Ag rfl rfl<|WL.ns ?_
   cases hm
   exact W.ret1 () rfl (.t rfl) trivial
theorem strings_indexFunc_spec(n:Nat)(s0_:Str)(f:Int→Option Bool)(truth:Bool)(r:Int)(hm:M.strings_indexFunc n s0_ f truth=some r):FSpec Tryd.prog 95 [(tS.is s0_),(tF Tryd.prog (fun s:Int×Bool=>f s.1=some s.2) (fun s:Int×Bool=>[(tI .i32).is s.1]) (fun s:Int×Bool=>(tB.is s.2))),(tB.is truth)] (I6.is r):=by
 unfold M.strings_indexFunc at hm
 refine FSpec.of Tryd.func95 rfl rfl rfl fun g0=>Aw<|Ao rfl (.assign .i64)<|An<|W.seq<|Aw<|Am rfl rfl<|WL.opR rfl (OpR.range 10 U9 (.t rfl)) fun b=>An<|W.block ?_
 obtain ⟨s1,hs2,hk3⟩:=Bs hm
 clear hm
 refine W.loop (fun m (s:Nat)=>M.strings_indexFunc_loop1 s0_ f truth m s=some s1) (fun s=>[(1,(tF Tryd.prog (fun s:Int×Bool=>f s.1=some s.2) (fun s:Int×Bool=>[(tI .i32).is s.1]) (fun s:Int×Bool=>(tB.is s.2)))),(2,(tB.is truth)),(10,(Bp b 0))]) (fun s=>[(10,It s0_ s b)]) _ 0 hs2 ⟨.q rfl,.q rfl,.q rfl,trivial⟩ ⟨rfl,rfl,trivial⟩ ?_
 rintro n4 v hm
 try dsimp only at hm
 change W _ _ _ _ _ _ _ [(1,(tF Tryd.prog (fun s:Int×Bool=>f s.1=some s.2) (fun s:Int×Bool=>[(tI .i32).is s.1]) (fun s:Int×Bool=>(tB.is s.2)))),(2,(tB.is truth)),(10,(Bp b 0))] [(10,It s0_ v b)]
 cases n4 with
 | zero=>rw [M.strings_indexFunc_loop1.eq_1] at hm;cases hm
 | succ n4=>
  rw [M.strings_indexFunc_loop1.eq_2] at hm
  refine W.sr ?_
  by_cases hp5:v<s0_.length
  ·rw [if_pos hp5] at hm
   refine WL.opR rfl (OpR.nextT (b:=b) 10 hp5 rfl (.t rfl)) fun _=>Ao rfl (.extract30 (.t rfl))<|An<|W.seq<|W.condT (.t rfl)<|W.skip<|Aq<|W.block<|Aw<|Ao rfl (.extract31 (.t rfl))<|Ao rfl (.extract32 (.t rfl))<|Ag rfl rfl<|Ag rfl rfl<|Ar<|Am rfl rfl<|WL.mv rfl rfl ?_
   obtain ⟨v1,hv6,hm⟩:=Bs hm
   refine Ao rfl (.callF (ok:=(fun s:Int×Bool=>f s.1=some s.2)) (As:=(fun s:Int×Bool=>[(tI .i32).is s.1])) (A:=(fun s:Int×Bool=>(tB.is s.2))) (s:=(((runeAt s0_ v).1:Int),v1)) (.t rfl) hv6 ⟨(.t rfl),trivial⟩)<|Am rfl rfl<|Ao rfl (.eqB U4 (.t rfl) (.t rfl))<|An<|W.cB hm (.t rfl) (fun hp8 hm=>?_) (fun hp8 hm=>?_)
   ·refine Aw<|Am rfl rfl<|Ag rfl rfl<|WL.ns ?_
    have hr9:=Si hm
    clear hm
    subst hr9
    have hm:=hk3
    try dsimp only at hm
    cases hm
    exact W.ret1 () rfl (.t rfl) trivial
   ·exact W.skip<|WN.block<|WN.again n4 (v+(runeAt s0_ v).2) (Nat.lt_succ_self n4) hm ⟨.q rfl,.q rfl,.q rfl,trivial⟩ ⟨rfl,rfl,trivial⟩
  ·rw [if_neg hp5] at hm
   refine Ao rfl (.nextF 10 hp5 rfl (.t rfl))<|Ao rfl (.extract10 (.t rfl))<|An<|W.seq<|W.condF (.t rfl)<|W.exit rfl ?_
   have hr10:=Si hm
   clear hm
   subst hr10
   have hm:=hk3
   try dsimp only at hm
   refine Aq<|Aw<|Ao rfl (.assign .i64)<|WL.ns ?_
   cases hm
   exact W.ret1 () rfl (.t rfl) trivial
theorem strings_IndexFunc_spec(n:Nat)(s0_:Str)(f:Int→Option Bool)(r:Int)(hm:M.strings_IndexFunc n s0_ f=some r):FSpec Tryd.prog 86 [(tS.is s0_),(tF Tryd.prog (fun s:Int×Bool=>f s.1=some s.2) (fun s:Int×Bool=>[(tI .i32).is s.1]) (fun s:Int×Bool=>(tB.is s.2)))] (I6.is r):=by
 unfold M.strings_IndexFunc at hm
 refine FSpec.of Tryd.func86 rfl rfl rfl fun g0=>Aw<|Ao rfl (.assign .i64)<|Ar<|Am rfl rfl<|WL.mv rfl rfl ?_
 obtain ⟨indexf,hv1,hm⟩:=Bs hm
 refine Ao rfl (.call C95 (strings_indexFunc_spec _ _ _ _ _ hv1) ⟨(.t rfl),(.t rfl),.bool,trivial⟩)<|Ag rfl rfl<|WL.ns ?_
 cases hm
 exact W.ret1 () rfl (.t rfl) trivial
theorem label_parted_1_spec(b:Int)(r:Bool)(hm:M.label_parted_1 b=some r):FSpec Tryd.prog 87 [((tI .i32).is b)] (tB.is r):=by
 unfold M.label_parted_1 at hm
 refine FSpec.of Tryd.func87 rfl rfl rfl fun g0=>Aw<|Ao rfl (.assign .bool)<|Ar<|Am rfl rfl<|Ao rfl (.ltI (.t rfl) (.int (inR32.2 (by omega))))<|WL.mv rfl rfl ?_
 rcases iteD hm with ⟨hp2,hb1,hm⟩ | ⟨hp2,hb1,hm⟩
 ·refine Ap rfl hb1<|Ap rfl hb1<|Ao rfl (.pickT (.t rfl) hb1 .bool)<|Ag rfl rfl<|WL.ns ?_
  cases hm
  exact W.ret1 () rfl (.t rfl) trivial
 ·refine Ax rfl hb1 (.move (.t rfl))<|Ax rfl hb1 (.gtI (.t rfl) (.int (inR32.2 (by omega))))<|Ao rfl (.pickF (.t rfl) hb1 (.t rfl))<|Ag rfl rfl<|WL.ns ?_
  cases hm
  exact W.ret1 () rfl (.t rfl) trivial
theorem label_parted_spec(n:Nat)(s0_:Str)(r:Str×Str)(hm:M.label_parted n s0_=some r):FSpec Tryd.prog 67 [(tS.is s0_)] (Asn.tuple2 (tS.is r.1) (tS.is r.2)):=by
 unfold M.label_parted at hm
 refine FSpec.of Tryd.func67 rfl rfl rfl fun g0=>Aw<|Ao rfl (.assign (.str rfl (by decide)))<|Ao rfl (.assign (.str rfl (by decide)))<|Ar<|WL.mv rfl rfl ?_
 obtain ⟨indexf,hv1,hm⟩:=Bs hm
 refine Ao rfl (.call C86 (strings_IndexFunc_spec _ _ _ _ hv1) ⟨(.t rfl),(Opd.fn C87 (fun s hs=>label_parted_1_spec _ _ hs)),trivial⟩)<|Ag rfl rfl<|An<|W.seq<|Aw<|Am rfl rfl<|Ao rfl (.ltI (.t rfl) .i64)<|An<|W.cD hm (.t rfl) (fun hp3 hm=>?_) (fun hp3 hm=>?_)
 ·refine Aw<|Am rfl rfl<|Ag rfl rfl<|Ao rfl (.assign (.str rfl (by decide)))<|WL.ns ?_
  cases hm
  exact W.ret2 () rfl rfl (.t rfl) (.t rfl) trivial
 ·refine W.skip<|Aq<|W.seq ?_
  obtain ⟨v,hv4,hm⟩:=Bs hm
  obtain ⟨v1,hv5,hm⟩:=Bs hm
  refine W.draw [.c _,.c _,.c _,.c _,.c _,.c _,.c _,.c _] [([],[0]),([],[4]),([0,1],[]),([],[0]),([],[4]),([3,4],[]),([2],[]),([5],[])] Mx rfl rfl rfl rfl ⟨Dn (.move (.t rfl)),Dn (.move (.t rfl)),Dn (.sslcHi hv4 U9 (.t rfl) (.t rfl)),Dn (.move (.t rfl)),Dn (.move (.t rfl)),Dn (.sslcLo hv5 U9 (.t rfl) (.t rfl)),Dn (.assign (.t rfl)),Dn (.assign (.t rfl)),trivial⟩<|WN.seq ?_
  cases hm
  exact W.ret2 () rfl rfl (.t rfl) (.t rfl) trivial
theorem strings_ContainsFunc_spec(n:Nat)(s0_:Str)(f:Int→Option Bool)(r:Bool)(hm:M.strings_ContainsFunc n s0_ f=some r):FSpec Tryd.prog 69 [(tS.is s0_),(tF Tryd.prog (fun s:Int×Bool=>f s.1=some s.2) (fun s:Int×Bool=>[(tI .i32).is s.1]) (fun s:Int×Bool=>(tB.is s.2)))] (tB.is r):=by
 unfold M.strings_ContainsFunc at hm
 refine FSpec.of Tryd.func69 rfl rfl rfl fun g0=>Aw<|Ao rfl (.assign .bool)<|Ar<|Am rfl rfl<|WL.mv rfl rfl ?_
 obtain ⟨indexf,hv1,hm⟩:=Bs hm
 refine Ao rfl (.call C86 (strings_IndexFunc_spec _ _ _ _ hv1) ⟨(.t rfl),(.t rfl),trivial⟩)<|Ao rfl (.geI (.t rfl) .i64)<|Ag rfl rfl<|WL.ns ?_
 cases hm
 exact W.ret1 () rfl (.t rfl) trivial
theorem label_Valid_1_spec(b:Int)(r:Bool)(hm:M.label_Valid_1 b=some r):FSpec Tryd.prog 68 [((tI .i32).is b)] (tB.is r):=by
 unfold M.label_Valid_1 at hm
 refine FSpec.of Tryd.func68 rfl rfl rfl fun g0=>Aw<|Ao rfl (.assign .bool)<|Ar<|Am rfl rfl<|Ao rfl (.ltI (.t rfl) (.int (inR32.2 (by omega))))<|WL.mv rfl rfl ?_
 rcases iteD hm with ⟨hp2,hb1,hm⟩ | ⟨hp2,hb1,hm⟩
 ·refine Ap rfl hb1<|Ap rfl hb1<|Ao rfl (.pickT (.t rfl) hb1 .bool)<|Ag rfl rfl<|WL.ns ?_
  cases hm
  exact W.ret1 () rfl (.t rfl) trivial
 ·refine Ax rfl hb1 (.move (.t rfl))<|Ax rfl hb1 (.gtI (.t rfl) (.int (inR32.2 (by omega))))<|Ao rfl (.pickF (.t rfl) hb1 (.t rfl))<|Ag rfl rfl<|WL.ns ?_
  cases hm
  exact W.ret1 () rfl (.t rfl) trivial
theorem label_Valid_spec(n:Nat)(s0_:Str)(r:Bool)(hm:M.label_Valid n s0_=some r):FSpec Tryd.prog 45 [(tS.is s0_)] (tB.is r):=by
 unfold M.label_Valid at hm
 refine FSpec.of Tryd.func45 rfl rfl rfl fun g0=>Aw<|Ao rfl (.assign .bool)<|Ar<|WL.mv rfl rfl ?_
 obtain ⟨parted,hv1,hm⟩:=Bs hm
 refine Ao rfl (.call C67 (label_parted_spec _ _ _ hv1) ⟨(.t rfl),trivial⟩)<|Am rfl rfl<|Ao rfl (.extract0 (.t rfl))<|Ao rfl (.extract1 (.t rfl))<|Ag rfl rfl<|Ag rfl rfl<|Ar<|Ao rfl (.assign .func)<|Ar<|Am rfl rfl<|Ao rfl (.lenS U9 (.t rfl))<|Ao rfl (.geI (.t rfl) .i64)<|WL.mv rfl rfl ?_
 rcases iteD hm with ⟨hp3,hb2,hm⟩ | ⟨hp3,hb2,hm⟩
 ·refine Ax rfl hb2 (.move (.t rfl))<|Ax rfl hb2 (.lenS U9 (.t rfl))<|Ax rfl hb2 (.leI (.t rfl) .i64)<|Ao rfl (.pickT (.t rfl) hb2 (.t rfl))<|WL.mv rfl rfl ?_
  rcases iteD hm with ⟨hp5,hb4,hm⟩ | ⟨hp5,hb4,hm⟩
  ·refine Ax rfl hb4 (.move (.t rfl)) ?_
   obtain ⟨b,hv6,hm⟩:=Bs hm
   refine Ax rfl hb4 (.sidx hv6 U9 (.t rfl) .i64)<|Ax rfl hb4 (.neI (.t rfl) (.int (inR8.2 (by omega))))<|Ao rfl (.pickT (.t rfl) hb4 (.t rfl))<|WL.mv rfl rfl ?_
   rcases iteD hm with ⟨hp8,hb7,hm⟩ | ⟨hp8,hb7,hm⟩
   ·refine Ax rfl hb7 (.move (.t rfl))<|Ax rfl hb7 (.lenS U9 (.t rfl))<|Ax rfl hb7 (.leI (.t rfl) .i64)<|Ao rfl (.pickT (.t rfl) hb7 (.t rfl))<|WL.mv rfl rfl ?_
    rcases iteD hm with ⟨hp10,hb9,hm⟩ | ⟨hp10,hb9,hm⟩
    ·refine Ax rfl hb9 (.move (.t rfl))<|Ax rfl hb9 (.move (.t rfl)) ?_
     obtain ⟨contai,hv11,hm⟩:=Bs hm
     refine Ax rfl hb9 (.call C69 (strings_ContainsFunc_spec _ _ _ _ hv11) ⟨(.t rfl),(Opd.fnE (.t rfl) C68 (fun s hs=>label_Valid_1_spec _ _ hs)),trivial⟩)<|Ax rfl hb9 (.notB (.t rfl))<|Ao rfl (.pickT (.t rfl) hb9 (.t rfl))<|Ag rfl rfl<|WL.ns ?_
     cases hm
     exact W.ret1 () rfl (.t rfl) trivial
    ·refine Ap rfl hb9<|Ap rfl hb9<|Ap rfl hb9<|Ap rfl hb9<|Ao rfl (.pickF (.t rfl) hb9 .bool)<|Ag rfl rfl<|WL.ns ?_
     cases hm
     exact W.ret1 () rfl (.t rfl) trivial
   ·refine Ap rfl hb7<|Ap rfl hb7<|Ap rfl hb7<|Ao rfl (.pickF (.t rfl) hb7 .bool)<|Am rfl rfl<|Ap rfl rfl<|Ap rfl rfl<|Ap rfl rfl<|Ap rfl rfl<|Ao rfl (.pickF (.t rfl) rfl .bool)<|Ag rfl rfl<|WL.ns ?_
    cases hm
    exact W.ret1 () rfl (.t rfl) trivial
  ·refine Ap rfl hb4<|Ap rfl hb4<|Ap rfl hb4<|Ao rfl (.pickF (.t rfl) hb4 .bool)<|Am rfl rfl<|Ap rfl rfl<|Ap rfl rfl<|Ap rfl rfl<|Ao rfl (.pickF (.t rfl) rfl .bool)<|Am rfl rfl<|Ap rfl rfl<|Ap rfl rfl<|Ap rfl rfl<|Ap rfl rfl<|Ao rfl (.pickF (.t rfl) rfl .bool)<|WL.gv rfl rfl ?_
   refine WL.ns ?_
   cases hm
   exact W.ret1 () rfl (.t rfl) trivial
 ·refine Ap rfl hb2<|Ap rfl hb2<|Ap rfl hb2<|Ao rfl (.pickF (.t rfl) hb2 .bool)<|Am rfl rfl<|Ap rfl rfl<|Ap rfl rfl<|Ap rfl rfl<|Ao rfl (.pickF (.t rfl) rfl .bool)<|Am rfl rfl<|Ap rfl rfl<|Ap rfl rfl<|Ap rfl rfl<|Ao rfl (.pickF (.t rfl) rfl .bool)<|Am rfl rfl<|Ap rfl rfl ?_
  refine Ap rfl rfl<|Ap rfl rfl<|Ap rfl rfl<|Ao rfl (.pickF (.t rfl) rfl .bool)<|Ag rfl rfl<|WL.ns ?_
  cases hm
  exact W.ret1 () rfl (.t rfl) trivial
theorem slices_IndexFunc_string_string_spec(n:Nat)(s0_:List Str)(f:Str→Option Bool)(r:Int)(hm:M.slices_IndexFunc_string_string n s0_ f=some r):FSpec Tryd.prog 96 [((tL tS).is s0_),(tF Tryd.prog (fun s:Str×Bool=>f s.1=some s.2) (fun s:Str×Bool=>[tS.is s.1]) (fun s:Str×Bool=>(tB.is s.2)))] (I6.is r):=by
 unfold M.slices_IndexFunc_string_string at hm
 refine FSpec.of Tryd.func96 rfl rfl rfl fun g0=>Aw<|Ao rfl (.assign .i64)<|An<|W.seq<|Aw<|Am rfl rfl<|Ao rfl (.lenL U35 (.t rfl))<|Ao rfl (.move .i64)<|An<|W.block ?_
 obtain ⟨s1,hs2,hk3⟩:=Bs hm
 clear hm
 refine W.loop (fun m (s:Int)=>M.slices_IndexFunc_string_string_loop1 s0_ f m s=some s1) (fun s=>[(8,(I6.is s)),(0,((tL tS).is s0_)),(1,(tF Tryd.prog (fun s:Str×Bool=>f s.1=some s.2) (fun s:Str×Bool=>[tS.is s.1]) (fun s:Str×Bool=>(tB.is s.2)))),(7,(I6.is (s0_.length:Int)))]) (fun s=>[]) _ (0:Int) hs2 ⟨.q rfl,.q rfl,.q rfl,.q rfl,trivial⟩ trivial ?_
 rintro n4 v hm
 try dsimp only at hm
 change W _ _ _ _ _ _ _ [(8,(I6.is v)),(0,((tL tS).is s0_)),(1,(tF Tryd.prog (fun s:Str×Bool=>f s.1=some s.2) (fun s:Str×Bool=>[tS.is s.1]) (fun s:Str×Bool=>(tB.is s.2)))),(7,(I6.is (s0_.length:Int)))] []
 cases n4 with
 | zero=>rw [M.slices_IndexFunc_string_string_loop1.eq_1] at hm;cases hm
 | succ n4=>
  rw [M.slices_IndexFunc_string_string_loop1.eq_2] at hm
  refine Aw<|Ao rfl (.ltI (.t rfl) (.t rfl))<|An<|W.seq<|W.cD hm (.t rfl) (fun hp6 hm=>?_) (fun hp6 hm=>?_)
  ·refine W.skip<|Aq<|W.seq<|W.block<|Aw<|Am rfl rfl<|Ag rfl rfl<|Ar<|Am rfl rfl<|Am rfl rfl<|WL.mv rfl rfl ?_
   obtain ⟨v1,hv7,hm⟩:=Bs hm
   refine Ao rfl (.idx hv7 U35 Z9 (.t rfl) (.t rfl))<|Ao rfl (.load ty9 (.t rfl)) ?_
   obtain ⟨v2,hv8,hm⟩:=Bs hm
   refine Ao rfl (.callF (ok:=(fun s:Str×Bool=>f s.1=some s.2)) (As:=(fun s:Str×Bool=>[tS.is s.1])) (A:=(fun s:Str×Bool=>(tB.is s.2))) (s:=(v1,v2)) (.t rfl) hv8 ⟨(.t rfl),trivial⟩)<|An<|W.cB hm (.t rfl) (fun hp10 hm=>?_) (fun hp10 hm=>?_)
   ·refine Aw<|Am rfl rfl<|Ag rfl rfl<|WL.ns ?_
    have hr11:=Si hm
    clear hm
    subst hr11
    have hm:=hk3
    try dsimp only at hm
    cases hm
    exact W.ret1 () rfl (.t rfl) trivial
   ·exact W.skip<|WN.block<|Aq<|W.region<|WL.lenL (s:=0) (.t rfl) fun hl12=>Ao rfl (.addI1 (.t rfl) .i64 hp6 hl12)<|Am rfl rfl<|WL.nil<|WN.again n4 (v+1) (Nat.lt_succ_self n4) hm ⟨.q rfl,.q rfl,.q rfl,.q rfl,trivial⟩ trivial
  ·refine W.exit rfl ?_
   have hr13:=Si hm
   clear hm
   subst hr13
   have hm:=hk3
   try dsimp only at hm
   refine Aq<|Aw<|Ao rfl (.assign .i64)<|WL.ns ?_
   cases hm
   exact W.ret1 () rfl (.t rfl) trivial
theorem slices_ContainsFunc_string_string_spec(n:Nat)(s0_:List Str)(f:Str→Option Bool)(r:Bool)(hm:M.slices_ContainsFunc_string_string n s0_ f=some r):FSpec Tryd.prog 88 [((tL tS).is s0_),(tF Tryd.prog (fun s:Str×Bool=>f s.1=some s.2) (fun s:Str×Bool=>[tS.is s.1]) (fun s:Str×Bool=>(tB.is s.2)))] (tB.is r):=by
 unfold M.slices_ContainsFunc_string_string at hm
 refine FSpec.of Tryd.func88 rfl rfl rfl fun g0=>Aw<|Ao rfl (.assign .bool)<|Ar<|Am rfl rfl<|WL.mv rfl rfl ?_
 obtain ⟨string,hv1,hm⟩:=Bs hm
 refine Ao rfl (.call C96 (slices_IndexFunc_string_string_spec _ _ _ _ hv1) ⟨(.t rfl),(.t rfl),trivial⟩)<|Ao rfl (.geI (.t rfl) .i64)<|Ag rfl rfl<|WL.ns ?_
 cases hm
 exact W.ret1 () rfl (.t rfl) trivial
theorem slices_IndexFunc_byte_byte_spec(n:Nat)(s0_:List Int)(f:Int→Option Bool)(r:Int)(hm:M.slices_IndexFunc_byte_byte n s0_ f=some r):FSpec Tryd.prog 101 [((tL (tI .u8)).is s0_),(tF Tryd.prog (fun s:Int×Bool=>f s.1=some s.2) (fun s:Int×Bool=>[(tI .u8).is s.1]) (fun s:Int×Bool=>(tB.is s.2)))] (I6.is r):=by
 unfold M.slices_IndexFunc_byte_byte at hm
 refine FSpec.of Tryd.func101 rfl rfl rfl fun g0=>Aw<|Ao rfl (.assign .i64)<|An<|W.seq<|Aw<|Am rfl rfl<|Ao rfl (.lenL U59 (.t rfl))<|Ao rfl (.move .i64)<|An<|W.block ?_
 obtain ⟨s1,hs2,hk3⟩:=Bs hm
 clear hm
 refine W.loop (fun m (s:Int)=>M.slices_IndexFunc_byte_byte_loop1 s0_ f m s=some s1) (fun s=>[(8,(I6.is s)),(0,((tL (tI .u8)).is s0_)),(1,(tF Tryd.prog (fun s:Int×Bool=>f s.1=some s.2) (fun s:Int×Bool=>[(tI .u8).is s.1]) (fun s:Int×Bool=>(tB.is s.2)))),(7,(I6.is (s0_.length:Int)))]) (fun s=>[]) _ (0:Int) hs2 ⟨.q rfl,.q rfl,.q rfl,.q rfl,trivial⟩ trivial ?_
 rintro n4 v hm
 try dsimp only at hm
 change W _ _ _ _ _ _ _ [(8,(I6.is v)),(0,((tL (tI .u8)).is s0_)),(1,(tF Tryd.prog (fun s:Int×Bool=>f s.1=some s.2) (fun s:Int×Bool=>[(tI .u8).is s.1]) (fun s:Int×Bool=>(tB.is s.2)))),(7,(I6.is (s0_.length:Int)))] []
 cases n4 with
 | zero=>rw [M.slices_IndexFunc_byte_byte_loop1.eq_1] at hm;cases hm
 | succ n4=>
  rw [M.slices_IndexFunc_byte_byte_loop1.eq_2] at hm
  refine Aw<|Ao rfl (.ltI (.t rfl) (.t rfl))<|An<|W.seq<|W.cD hm (.t rfl) (fun hp6 hm=>?_) (fun hp6 hm=>?_)
  ·refine W.skip<|Aq<|W.seq<|W.block<|Aw<|Am rfl rfl<|Ag rfl rfl<|Ar<|Am rfl rfl<|Am rfl rfl<|WL.mv rfl rfl ?_
   obtain ⟨v1,hv7,hm⟩:=Bs hm
   refine Ao rfl (.idx hv7 U59 Z5 (.t rfl) (.t rfl))<|Ao rfl (.load ty5 (.t rfl)) ?_
   obtain ⟨v2,hv8,hm⟩:=Bs hm
   refine Ao rfl (.callF (ok:=(fun s:Int×Bool=>f s.1=some s.2)) (As:=(fun s:Int×Bool=>[(tI .u8).is s.1])) (A:=(fun s:Int×Bool=>(tB.is s.2))) (s:=(v1,v2)) (.t rfl) hv8 ⟨(.t rfl),trivial⟩)<|An<|W.cB hm (.t rfl) (fun hp10 hm=>?_) (fun hp10 hm=>?_)
   ·refine Aw<|Am rfl rfl<|Ag rfl rfl<|WL.ns ?_
    have hr11:=Si hm
    clear hm
    subst hr11
    have hm:=hk3
    try dsimp only at hm
    cases hm
    exact W.ret1 () rfl (.t rfl) trivial
   ·exact W.skip<|WN.block<|Aq<|W.region<|WL.lenL (s:=0) (.t rfl) fun hl12=>Ao rfl (.addI1 (.t rfl) .i64 hp6 hl12)<|Am rfl rfl<|WL.nil<|WN.again n4 (v+1) (Nat.lt_succ_self n4) hm ⟨.q rfl,.q rfl,.q rfl,.q rfl,trivial⟩ trivial
  ·refine W.exit rfl ?_
   have hr13:=Si hm
   clear hm
   subst hr13
   have hm:=hk3
   try dsimp only at hm
   refine Aq<|Aw<|Ao rfl (.assign .i64)<|WL.ns ?_
   cases hm
   exact W.ret1 () rfl (.t rfl) trivial
theorem slices_ContainsFunc_byte_byte_spec(n:Nat)(s0_:List Int)(f:Int→Option Bool)(r:Bool)(hm:M.slices_ContainsFunc_byte_byte n s0_ f=some r):FSpec Tryd.prog 98 [((tL (tI .u8)).is s0_),(tF Tryd.prog (fun s:Int×Bool=>f s.1=some s.2) (fun s:Int×Bool=>[(tI .u8).is s.1]) (fun s:Int×Bool=>(tB.is s.2)))] (tB.is r):=by
 unfold M.slices_ContainsFunc_byte_byte at hm
 refine FSpec.of Tryd.func98 rfl rfl rfl fun g0=>Aw<|Ao rfl (.assign .bool)<|Ar<|Am rfl rfl<|WL.mv rfl rfl ?_
 obtain ⟨byte,hv1,hm⟩:=Bs hm
 refine Ao rfl (.call C101 (slices_IndexFunc_byte_byte_spec _ _ _ _ hv1) ⟨(.t rfl),(.t rfl),trivial⟩)<|Ao rfl (.geI (.t rfl) .i64)<|Ag rfl rfl<|WL.ns ?_
 cases hm
 exact W.ret1 () rfl (.t rfl) trivial
theorem wordseq_word_1_spec(c:Int)(r:Bool)(hm:M.wordseq_word_1 c=some r):FSpec Tryd.prog 97 [((tI .u8).is c)] (tB.is r):=by
 unfold M.wordseq_word_1 at hm
 refine FSpec.of Tryd.func97 rfl rfl rfl fun g0=>Aw<|Ao rfl (.assign .bool)<|Ar<|Am rfl rfl<|Ao rfl (.ltI (.t rfl) (.int (inR8.2 (by omega))))<|WL.mv rfl rfl ?_
 rcases iteD hm with ⟨hp2,hb1,hm⟩ | ⟨hp2,hb1,hm⟩
 ·refine Ap rfl hb1<|Ap rfl hb1<|Ao rfl (.pickT (.t rfl) hb1 .bool)<|Ag rfl rfl<|WL.ns ?_
  cases hm
  exact W.ret1 () rfl (.t rfl) trivial
 ·refine Ax rfl hb1 (.move (.t rfl))<|Ax rfl hb1 (.gtI (.t rfl) (.int (inR8.2 (by omega))))<|Ao rfl (.pickF (.t rfl) hb1 (.t rfl))<|Ag rfl rfl<|WL.ns ?_
  cases hm
  exact W.ret1 () rfl (.t rfl) trivial
theorem wordseq_word_spec(n:Nat)(s0_:Str)(r:Bool)(hm:M.wordseq_word n s0_=some r):FSpec Tryd.prog 90 [(tS.is s0_)] (tB.is r):=by
 unfold M.wordseq_word at hm
 refine FSpec.of Tryd.func90 rfl rfl rfl fun g0=>Aw<|Ao rfl (.assign .bool)<|Ar<|Ao rfl (.assign .func)<|Ar<|Am rfl rfl<|Ao rfl (.neS (.t rfl) (.str rfl (by decide)))<|WL.mv rfl rfl ?_
 rcases iteB hm with ⟨hp2,hb1,hm⟩ | ⟨hp2,hb1,hm⟩
 ·refine Ax rfl hb1 (.move (.t rfl))<|Ax rfl hb1 (.lenS U9 (.t rfl))<|Ax rfl hb1 (.leI (.t rfl) .i64)<|Ao rfl (.pickT (.t rfl) hb1 (.t rfl))<|WL.mv rfl rfl ?_
  rcases iteD hm with ⟨hp4,hb3,hm⟩ | ⟨hp4,hb3,hm⟩
  ·refine Ax rfl hb3 (.move (.t rfl))<|Ax rfl hb3 (.bytes U9 U59 U5 (.t rfl))<|Ax rfl hb3 (.move (.t rfl)) ?_
   obtain ⟨byte,hv5,hm⟩:=Bs hm
   refine Ax rfl hb3 (.call C98 (slices_ContainsFunc_byte_byte_spec _ _ _ _ hv5) ⟨(.t rfl),(Opd.fnE (.t rfl) C97 (fun s hs=>wordseq_word_1_spec _ _ hs)),trivial⟩)<|Ax rfl hb3 (.notB (.t rfl))<|Ao rfl (.pickT (.t rfl) hb3 (.t rfl))<|Ag rfl rfl<|WL.ns ?_
   cases hm
   exact W.ret1 () rfl (.t rfl) trivial
  ·refine Ap rfl hb3<|Ap rfl hb3<|Ap rfl hb3<|Ap rfl hb3<|Ap rfl hb3<|Ao rfl (.pickF (.t rfl) hb3 .bool)<|Ag rfl rfl<|WL.ns ?_
   cases hm
   exact W.ret1 () rfl (.t rfl) trivial
 ·refine Ap rfl hb1<|Ap rfl hb1<|Ap rfl hb1<|Ao rfl (.pickF (.t rfl) hb1 .bool)<|Am rfl rfl<|Ap rfl rfl<|Ap rfl rfl<|Ap rfl rfl<|Ap rfl rfl<|Ap rfl rfl<|Ao rfl (.pickF (.t rfl) rfl .bool)<|Ag rfl rfl<|WL.ns ?_
  cases hm
  exact W.ret1 () rfl (.t rfl) trivial
theorem wordseq_Valid_1_spec(n:Nat)(s0_:Str)(r:Bool)(hm:M.wordseq_Valid_1 n s0_=some r):FSpec Tryd.prog 89 [(tS.is s0_)] (tB.is r):=by
 unfold M.wordseq_Valid_1 at hm
 refine FSpec.of Tryd.func89 rfl rfl rfl fun g0=>Aw<|Ao rfl (.assign .bool)<|Ar<|WL.mv rfl rfl ?_
 obtain ⟨word,hv1,hm⟩:=Bs hm
 refine Ao rfl (.call C90 (wordseq_word_spec _ _ _ hv1) ⟨(.t rfl),trivial⟩)<|Ao rfl (.notB (.t rfl))<|Ag rfl rfl<|WL.ns ?_
 cases hm
 exact W.ret1 () rfl (.t rfl) trivial
theorem wordseq_Valid_spec(n:Nat)(l:List Str)(r:Bool)(hm:M.wordseq_Valid n l=some r):FSpec Tryd.prog 70 [((tL tS).is l)] (tB.is r):=by
 unfold M.wordseq_Valid at hm
 refine FSpec.of Tryd.func70 rfl rfl rfl fun g0=>Aw<|Ao rfl (.assign .bool)<|Ar<|Am rfl rfl<|Ao rfl (.lenL U35 (.t rfl))<|Ao rfl (.leI (.t rfl) .i64)<|WL.mv rfl rfl ?_
 rcases iteD hm with ⟨hp2,hb1,hm⟩ | ⟨hp2,hb1,hm⟩
 ·refine Ax rfl hb1 (.move (.t rfl)) ?_
  obtain ⟨string,hv3,hm⟩:=Bs hm
  refine Ax rfl hb1 (.call C88 (slices_ContainsFunc_string_string_spec _ _ _ _ hv3) ⟨(.t rfl),(Opd.fn C89 (fun s hs=>wordseq_Valid_1_spec _ _ _ hs)),trivial⟩)<|Ax rfl hb1 (.notB (.t rfl))<|Ao rfl (.pickT (.t rfl) hb1 (.t rfl))<|Ag rfl rfl<|WL.ns ?_
  cases hm
  exact W.ret1 () rfl (.t rfl) trivial
 ·refine Ap rfl hb1<|Ap rfl hb1<|Ap rfl hb1<|Ao rfl (.pickF (.t rfl) hb1 .bool)<|Ag rfl rfl<|WL.ns ?_
  cases hm
  exact W.ret1 () rfl (.t rfl) trivial
theorem unit_row_spec(n:Nat)(l:List api_Word)(r:Bool)(hm:M.unit_row n l=some r):FSpec Tryd.prog 46 [((tL tapi_Word).is l)] (tB.is r):=by
 unfold M.unit_row at hm
 refine FSpec.of Tryd.func46 rfl rfl rfl fun g0=>Aw<|Ao rfl (.assign .bool)<|Ar<|WL.addNil (t:=tS) (E:=9) 3<|Ao rfl (.assign (Opd.nilO (t:=tS)))<|An<|W.seq<|Aw<|Am rfl rfl<|Ao rfl (.lenL U25 (.t rfl))<|Ao rfl (.move .i64)<|An<|W.block ?_
 obtain ⟨s1,hs2,hk3⟩:=Bs hm
 clear hm
 refine W.loop (fun m (s:Int×List api_Word×List api_Word×(((List Str))×Tok))=>m=s.2.2.1.length∧l=s.2.1++s.2.2.1∧s.1=(s.2.1.length:Int)∧M.unit_row_loop1 s.2.2.1 s.2.2.2.1=some s1) (fun s=>[(8,(I6.is s.1)),(3,(tO tS s.2.2.2.2 s.2.2.2.1)),(0,((tL tapi_Word).is l)),(6,((tL tapi_Word).is l)),(7,(I6.is (l.length:Int)))]) (fun s=>[(3,Dec.Own tS 9 s.2.2.2.2 s.2.2.2.1.length)]) l.length ((0:Int),[],l,(([]:List Str),(none:Tok))) ⟨rfl,rfl,rfl,hs2⟩ ⟨.q rfl,.q rfl,.q rfl,.q rfl,.q rfl,trivial⟩ ⟨rfl,rfl,trivial⟩ ?_
 rintro m ⟨i,pre,rest1,⟨texts,k⟩⟩ ⟨hn7,hxs4,hi5,hm⟩
 try dsimp only at hn7 hxs4 hi5 hm
 change W _ _ _ _ _ _ _ [(8,(I6.is i)),(3,(tO tS k texts)),(0,((tL tapi_Word).is l)),(6,((tL tapi_Word).is l)),(7,(I6.is (l.length:Int)))] [(3,Dec.Own tS 9 k texts.length)]
 refine W.lenL (s:=6) (.t rfl) fun hlen6=>Aw<|Ao rfl (.ltI (.t rfl) (.t rfl))<|An<|W.seq<|W.cond (.t rfl) (fun hc9=>?_) (fun hc9=>?_)
 ·have hp10:=of_decide_eq_true hc9
  obtain ⟨e,es,hrest12⟩:=range_more hxs4 hi5 hp10
  subst hrest12
  rw [M.unit_row_loop1.eq_2] at hm
  refine W.skip<|Aq<|W.seq<|W.block<|Aw<|Ao rfl (.idxPre hxs4 hi5 U25 Z54 (.t rfl) (.t rfl))<|Ao rfl (.load ty54 (.t rfl))<|WL.opR rfl (OpR.alloc 5 ze54) fun b=>WL.opU (OpR.storeB (b:=b) 5 Z54 (Cellable.is tapi_Word e) rfl (.t rfl) (.t rfl)) fun _=>WL.sealed (t:=tapi_Word) (u:=e) 5 5 rfl rfl<|WL.nr1<|Am rfl rfl<|Ao rfl (.fieldAddr U54 rfl J9 fapi_Word_0 (.t rfl))<|Ao rfl (.load ty9 (.t rfl))<|Ao rfl (.buildSlice (n:=1) (ys:=[(0,e.Text)]) (z:=([]:Str)) (xs:=[e.Text]) U35 el9 ze9 ⟨rfl,(.t rfl),trivial⟩ (by simp) (by decide) rfl) ?_
  obtain ⟨texts1,hv13,hm⟩:=Bs hm
  exact WL.opR rfl (OpR.appC (key:=3) hv13 U35 el9 (.t rfl) (.t rfl) rfl) fun k1=>Ag rfl rfl<|WL.nil<|WN.block<|Aq<|W.region<|Ao rfl (.addI (.t rfl) .i64 (range_inR hi5 hp10 hlen6))<|Am rfl rfl<|WL.nil<|WN.again es.length (i+1,pre++ [e],es,(texts1,k1)) (range_lt hn7) ⟨rfl,range_step hxs4,range_idx hi5,hm⟩ ⟨.q rfl,.q rfl,.q rfl,.q rfl,.q rfl,trivial⟩ ⟨rfl,rfl,trivial⟩
 ·have hrest12:=range_end hxs4 hi5 (of_decide_eq_false hc9)
  subst hrest12
  rw [M.unit_row_loop1.eq_1] at hm
  refine W.exit rfl ?_
  have hr14:=Si hm
  clear hm
  subst hr14
  have hm:=hk3
  try dsimp only at hm
  refine Aq<|Aw<|Am rfl rfl<|Ao rfl (.lenL U25 (.t rfl))<|Ao rfl (.leI (.t rfl) .i64)<|WL.mv rfl rfl ?_
  rcases iteD hm with ⟨hp16,hb15,hm⟩ | ⟨hp16,hb15,hm⟩
  ·refine Ax rfl hb15 (.move (.t rfl)) ?_
   obtain ⟨valid,hv17,hm⟩:=Bs hm
   refine Ax rfl hb15 (.call C70 (wordseq_Valid_spec _ _ _ hv17) ⟨(Opd.own (.t rfl)),trivial⟩)<|Ao rfl (.pickT (.t rfl) hb15 (.t rfl))<|Ag rfl rfl<|WL.ns ?_
   cases hm
   exact W.ret1 () rfl (.t rfl) trivial
  ·refine Ap rfl hb15<|Ap rfl hb15<|Ao rfl (.pickF (.t rfl) hb15 .bool)<|Ag rfl rfl<|WL.ns ?_
   cases hm
   exact W.ret1 () rfl (.t rfl) trivial
theorem slices_Index_int_int_spec(n:Nat)(s0_:List Int)(v:Int)(r:Int)(hm:M.slices_Index_int_int n s0_ v=some r):FSpec Tryd.prog 85 [((tL I6).is s0_),(I6.is v)] (I6.is r):=by
 unfold M.slices_Index_int_int at hm
 refine FSpec.of Tryd.func85 rfl rfl rfl fun g0=>Aw<|Ao rfl (.assign .i64)<|An<|W.seq<|Aw<|Am rfl rfl<|Ao rfl (.lenL U111 (.t rfl))<|Ao rfl (.move .i64)<|An<|W.block ?_
 obtain ⟨s1,hs2,hk3⟩:=Bs hm
 clear hm
 refine W.loop (fun m (s:Int)=>M.slices_Index_int_int_loop1 s0_ v m s=some s1) (fun s=>[(8,(I6.is s)),(0,((tL I6).is s0_)),(1,(I6.is v)),(7,(I6.is (s0_.length:Int)))]) (fun s=>[]) _ (0:Int) hs2 ⟨.q rfl,.q rfl,.q rfl,.q rfl,trivial⟩ trivial ?_
 rintro n4 v1 hm
 try dsimp only at hm
 change W _ _ _ _ _ _ _ [(8,(I6.is v1)),(0,((tL I6).is s0_)),(1,(I6.is v)),(7,(I6.is (s0_.length:Int)))] []
 cases n4 with
 | zero=>rw [M.slices_Index_int_int_loop1.eq_1] at hm;cases hm
 | succ n4=>
  rw [M.slices_Index_int_int_loop1.eq_2] at hm
  refine Aw<|Ao rfl (.ltI (.t rfl) (.t rfl))<|An<|W.seq<|W.cD hm (.t rfl) (fun hp6 hm=>?_) (fun hp6 hm=>?_)
  ·refine W.skip<|Aq<|W.seq<|W.block<|Aw<|Am rfl rfl<|Ag rfl rfl<|Ar<|Am rfl rfl<|Am rfl rfl<|WL.mv rfl rfl ?_
   obtain ⟨v2,hv7,hm⟩:=Bs hm
   refine Ao rfl (.idx hv7 U111 Z3 (.t rfl) (.t rfl))<|Ao rfl (.load ty3 (.t rfl))<|Ao rfl (.eqI (.t rfl) (.t rfl))<|An<|W.cD hm (.t rfl) (fun hp9 hm=>?_) (fun hp9 hm=>?_)
   ·refine Aw<|Am rfl rfl<|Ag rfl rfl<|WL.ns ?_
    have hr10:=Si hm
    clear hm
    subst hr10
    have hm:=hk3
    try dsimp only at hm
    cases hm
    exact W.ret1 () rfl (.t rfl) trivial
   ·exact W.skip<|WN.block<|Aq<|W.region<|WL.lenL (s:=0) (.t rfl) fun hl11=>Ao rfl (.addI1 (.t rfl) .i64 hp6 hl11)<|Am rfl rfl<|WL.nil<|WN.again n4 (v1+1) (Nat.lt_succ_self n4) hm ⟨.q rfl,.q rfl,.q rfl,.q rfl,trivial⟩ trivial
  ·refine W.exit rfl ?_
   have hr12:=Si hm
   clear hm
   subst hr12
   have hm:=hk3
   try dsimp only at hm
   refine Aq<|Aw<|Ao rfl (.assign .i64)<|WL.ns ?_
   cases hm
   exact W.ret1 () rfl (.t rfl) trivial
theorem slices_Contains_int_int_spec(n:Nat)(s0_:List Int)(v:Int)(r:Bool)(hm:M.slices_Contains_int_int n s0_ v=some r):FSpec Tryd.prog 64 [((tL I6).is s0_),(I6.is v)] (tB.is r):=by
 unfold M.slices_Contains_int_int at hm
 refine FSpec.of Tryd.func64 rfl rfl rfl fun g0=>Aw<|Ao rfl (.assign .bool)<|Ar<|Am rfl rfl<|WL.mv rfl rfl ?_
 obtain ⟨int,hv1,hm⟩:=Bs hm
 refine Ao rfl (.call C85 (slices_Index_int_int_spec _ _ _ _ hv1) ⟨(.t rfl),(.t rfl),trivial⟩)<|Ao rfl (.geI (.t rfl) .i64)<|Ag rfl rfl<|WL.ns ?_
 cases hm
 exact W.ret1 () rfl (.t rfl) trivial
theorem unit_CanContain_spec(n:Nat)(parent:Int)(kind:Int)(r:Bool)(hm:M.unit_CanContain n parent kind=some r):FSpecR Tryd.prog 42 [(I6.is parent),(I6.is kind)] [(700002,Gl (tA 8 (tL I6)) 2 gv2)] (fun _:Unit=>(tB.is r)) (fun _=>[]):=by
 unfold M.unit_CanContain at hm
 refine FSpecR.of Tryd.func42 rfl rfl rfl fun g0=>Aw<|Ao rfl (.assign .bool)<|Ar<|Am rfl rfl<|Ao rfl (.geI (.t rfl) .i64)<|WL.mv rfl rfl ?_
 rcases iteD hm with ⟨hp2,hb1,hm⟩ | ⟨hp2,hb1,hm⟩
 ·refine Ax rfl hb1 (.move (.t rfl))<|Ax rfl hb1 (.ltI (.t rfl) .i64)<|Ao rfl (.pickT (.t rfl) hb1 (.t rfl))<|WL.mv rfl rfl ?_
  rcases iteD hm with ⟨hp4,hb3,hm⟩ | ⟨hp4,hb3,hm⟩
  ·refine Ax rfl hb3 (.move (.t rfl)) ?_
   obtain ⟨v,hv5,hm⟩:=Bs hm
   refine WL.addG 900002 700002 rfl<|Ax rfl hb3 (.idxA hv5 U112 Z111 (Opd.glob (s:=900002) rfl) (.t rfl))<|Ax rfl hb3 (.load ty111 (.t rfl))<|Ax rfl hb3 (.move (.t rfl)) ?_
   obtain ⟨int,hv6,hm⟩:=Bs hm
   refine Ax rfl hb3 (.call C64 (slices_Contains_int_int_spec _ _ _ _ hv6) ⟨(.t rfl),(.t rfl),trivial⟩)<|Ao rfl (.pickT (.t rfl) hb3 (.t rfl))<|Ag rfl rfl<|WL.ns ?_
   cases hm
   exact W.ret1 () rfl (.t rfl) trivial
  ·refine Ap rfl hb3<|Ap rfl hb3<|Ap rfl hb3<|Ap rfl hb3<|Ap rfl hb3<|Ao rfl (.pickF (.t rfl) hb3 .bool)<|Ag rfl rfl<|WL.ns ?_
   cases hm
   exact W.ret1 () rfl (.t rfl) trivial
 ·refine Ap rfl hb1<|Ap rfl hb1<|Ao rfl (.pickF (.t rfl) hb1 .bool)<|Am rfl rfl<|Ap rfl rfl<|Ap rfl rfl<|Ap rfl rfl<|Ap rfl rfl<|Ap rfl rfl<|Ao rfl (.pickF (.t rfl) rfl .bool)<|Ag rfl rfl<|WL.ns ?_
  cases hm
  exact W.ret1 () rfl (.t rfl) trivial
theorem unit_alone_spec(n:Nat)(u:api_Unit)(r:Bool)(hm:M.unit_alone n u=some r):FSpecR Tryd.prog 26 [(tapi_Unit.is u)] [(700000,Gl (tA 8 tS) 0 gv0),(700002,Gl (tA 8 (tL I6)) 2 gv2)] (fun _:Unit=>(tB.is r)) (fun _=>[]):=by
 unfold M.unit_alone at hm
 refine FSpecR.of Tryd.func26 rfl rfl rfl fun g0=>Aw<|Ao rfl (.box (.t rfl))<|Ao rfl (.assign .bool)<|WL.ns ?_
 obtain ⟨s1,hs2,hk3⟩:=Bs hm
 clear hm
 refine W.join (fun s:Unit=>(Sum.inl s:Unit ⊕ Bool)=s1) (fun s=>[(1,(tapi_Unit.ptr u))]) (fun s=>[(700000,Gl (tA 8 tS) 0 gv0),(700002,Gl (tA 8 (tL I6)) 2 gv2)]) ?_ ?_
 ·rintro _ hj49
  try dsimp only at hj49
  subst hj49
  have hm:=hk3
  clear hk3
  try dsimp only at hm
  change W _ _ _ _ _ _ _ [(1,(tapi_Unit.ptr u))] [(700000,Gl (tA 8 tS) 0 gv0),(700002,Gl (tA 8 (tL I6)) 2 gv2)]
  refine Aw<|WL.opR rfl (OpR.makeMap tunit_called tB 45) fun b=>Ag rfl rfl<|An<|W.seq<|Aw<|Ao rfl (.fieldAddr U28 rfl J26 fapi_Unit_5 (.t rfl))<|Ao rfl (.load ty26 (.t rfl))<|Ao rfl (.lenL U26 (.t rfl))<|Ao rfl (.move .i64)<|An<|W.block ?_
  obtain ⟨s29,hs30,hk31⟩:=Bs hm
  clear hm
  refine W.loop (fun m (s:Int×List api_Unit×List api_Unit×((List (unit_called×Bool))))=>m=s.2.2.1.length∧u.Kids=s.2.1++s.2.2.1∧s.1=(s.2.1.length:Int)∧M.unit_alone_loop1 n u s.2.2.1 s.2.2.2=some s29) (fun s=>[(49,(I6.is s.1)),(1,(tapi_Unit.ptr u)),(3,(Mv b)),(47,((tL tapi_Unit).is u.Kids)),(48,(I6.is (u.Kids.length:Int)))]) (fun s=>[(45,Mp tunit_called tB s.2.2.2 b),(700000,Gl (tA 8 tS) 0 gv0),(700002,Gl (tA 8 (tL I6)) 2 gv2)]) u.Kids.length ((0:Int),[],u.Kids,([]:List (unit_called×Bool))) ⟨rfl,rfl,rfl,hs30⟩ ⟨.q rfl,.q rfl,.q rfl,.q rfl,.q rfl,trivial⟩ ⟨rfl,rfl,⟨rfl,rfl,⟨rfl,rfl,trivial⟩⟩⟩ ?_
  rintro m ⟨i,pre,rest1,v1⟩ ⟨hn35,hxs32,hi33,hm⟩
  try dsimp only at hn35 hxs32 hi33 hm
  change W _ _ _ _ _ _ _ [(49,(I6.is i)),(1,(tapi_Unit.ptr u)),(3,(Mv b)),(47,((tL tapi_Unit).is u.Kids)),(48,(I6.is (u.Kids.length:Int)))] [(45,Mp tunit_called tB v1 b),(700000,Gl (tA 8 tS) 0 gv0),(700002,Gl (tA 8 (tL I6)) 2 gv2)]
  refine W.lenL (s:=47) (.t rfl) fun hlen34=>Aw<|Ao rfl (.ltI (.t rfl) (.t rfl))<|An<|W.seq<|W.cond (.t rfl) (fun hc37=>?_) (fun hc37=>?_)
  ·have hp38:=of_decide_eq_true hc37
   obtain ⟨e,es,hrest40⟩:=range_more hxs32 hi33 hp38
   subst hrest40
   rw [M.unit_alone_loop1.eq_2] at hm
   refine W.skip<|Aq<|W.seq<|W.block<|Aw<|Ao rfl (.idxPre hxs32 hi33 U26 Z28 (.t rfl) (.t rfl))<|Ao rfl (.load ty28 (.t rfl))<|WL.opR rfl (OpR.alloc 5 ze28) fun b1=>WL.opU (OpR.storeB (b:=b1) 5 Z28 (Cellable.is tapi_Unit e) rfl (.t rfl) (.t rfl)) fun _=>WL.sealed (t:=tapi_Unit) (u:=e) 5 5 rfl rfl<|Ar<|Ao rfl (.fieldAddr U28 rfl J3 fapi_Unit_1 (.t rfl))<|Ao rfl (.load ty3 (.t rfl))<|Ao rfl (.fieldAddr U28 rfl J9 fapi_Unit_2 (.t rfl))<|Ao rfl (.load ty9 (.t rfl))<|Ao rfl (.build (s:=tunit_called) (x:=(⟨e.Kind,e.Label⟩:unit_called)) zunit_called_f rfl Tryd.underlying89 (zunit_called_sz _ Tryd.underlying89) ze89 ⟨_,I6,e.Kind,_,_,rfl,Z3,(.t rfl),sunit_called_0,⟨_,tS,e.Label,_,_,rfl,Z9,(.t rfl),sunit_called_1,rfl⟩⟩) ?_
   refine WL.opR rfl (OpR.alloc 6 ze89) fun b2=>WL.opU (OpR.storeB (b:=b2) 6 Z89 (Cellable.is tunit_called (⟨e.Kind,e.Label⟩:unit_called)) rfl (.t rfl) (.t rfl)) fun _=>WL.sealed (t:=tunit_called) (u:=(⟨e.Kind,e.Label⟩:unit_called)) 6 6 rfl rfl<|An<|W.seq<|Aw<|Ao rfl (.fieldAddr U28 rfl J3 fapi_Unit_1 (.t rfl))<|Ao rfl (.load ty3 (.t rfl))<|Ao rfl (.fieldAddr U28 rfl J3 fapi_Unit_1 (.t rfl))<|Ao rfl (.load ty3 (.t rfl)) ?_
   obtain ⟨cancon,hv41,hm⟩:=Bs hm
   refine Ao rfl (.callG (rin:=[(700002,Gl (tA 8 (tL I6)) 2 gv2)]) C42 (unit_CanContain_spec _ _ _ _ hv41) ⟨rfl,trivial⟩ ⟨rfl,rfl,trivial⟩ ⟨(.t rfl),(.t rfl),trivial⟩)<|Ao rfl (.notB (.t rfl))<|WL.mv rfl rfl ?_
   rcases iteR hm with ⟨hp43,hb42,hm⟩ | ⟨hp43,hb42,hm⟩
   ·refine Ap rfl hb42<|Ap rfl hb42<|Ap rfl hb42<|Ao rfl (.pickT (.t rfl) hb42 .bool)<|An<|W.condT (.t rfl)<|Aw<|Ao rfl (.assign .bool)<|WL.ns ?_
    have hr44:=Si hm
    clear hm
    subst hr44
    have hm:=hk31
    try dsimp only at hm
    cases hm
    exact W.ret1 () rfl (.t rfl) trivial
   ·refine Ax rfl hb42 (.move (.t rfl))<|Ax rfl hb42 (.load ty89 (.t rfl))<|Ax rfl hb42 (.lookup 45 U87 kt89 ze4 rfl (.t rfl) (.t rfl))<|Ao rfl (.pickF (.t rfl) hb42 (.t rfl))<|An<|W.cB hm (.t rfl) (fun hp46 hm=>?_) (fun hp46 hm=>?_)
    ·refine Aw<|Ao rfl (.assign .bool)<|WL.ns ?_
     have hr47:=Si hm
     clear hm
     subst hr47
     have hm:=hk31
     try dsimp only at hm
     cases hm
     exact W.ret1 () rfl (.t rfl) trivial
    ·exact W.skip<|Aq<|W.region<|Am rfl rfl<|Ao rfl (.load ty89 (.t rfl))<|WL.opU (OpR.mapUpdate (b:=b) (v:=true) 45 U87 kt89 rfl (.t rfl) (.t rfl) .bool) fun _=>WL.nil<|WN.block<|Aq<|W.region<|Ao rfl (.addI (.t rfl) .i64 (range_inR hi33 hp38 hlen34))<|Am rfl rfl<|WL.nil<|WN.again es.length (i+1,pre++ [e],es,mset v1 (⟨e.Kind,e.Label⟩:unit_called) true) (range_lt hn35) ⟨rfl,range_step hxs32,range_idx hi33,hm⟩ ⟨.q rfl,.q rfl,.q rfl,.q rfl,.q rfl,trivial⟩ ⟨rfl,rfl,⟨rfl,rfl,⟨rfl,rfl,trivial⟩⟩⟩
  ·have hrest40:=range_end hxs32 hi33 (of_decide_eq_false hc37)
   subst hrest40
   rw [M.unit_alone_loop1.eq_1] at hm
   refine W.exit rfl ?_
   have hr48:=Si hm
   clear hm
   subst hr48
   have hm:=hk31
   try dsimp only at hm
   refine Aq<|Aw<|Ao rfl (.fieldAddr U28 rfl J26 fapi_Unit_5 (.t rfl))<|Ao rfl (.load ty26 (.t rfl))<|Ao rfl (.lenL U26 (.t rfl))<|Ao rfl (.leI (.t rfl) .i64)<|Ag rfl rfl<|WL.ns ?_
   cases hm
   exact W.ret1 () rfl (.t rfl) trivial
 ·have hm:=hs2
  clear hs2
  refine Aw<|Ao rfl (.fieldAddr U28 rfl J3 fapi_Unit_1 (.t rfl))<|Ao rfl (.load ty3 (.t rfl))<|Ao rfl (.eqI (.t rfl) .i64)<|An<|W.cD hm (.t rfl) (fun hp5 hm=>?_) (fun hp5 hm=>?_)
  ·refine Aw<|Ao rfl (.fieldAddr U28 rfl J9 fapi_Unit_2 (.t rfl))<|Ao rfl (.load ty9 (.t rfl))<|Ao rfl (.neS (.t rfl) (.str rfl (by decide)))<|WL.mv rfl rfl ?_
   rcases iteB hm with ⟨hp7,hb6,hm⟩ | ⟨hp7,hb6,hm⟩
   ·refine Ap rfl hb6<|Ap rfl hb6<|Ap rfl hb6<|Ap rfl hb6<|Ap rfl hb6<|Ap rfl hb6<|Ap rfl hb6<|Ap rfl hb6<|Ao rfl (.pickT (.t rfl) hb6 .bool)<|An<|W.condT (.t rfl)<|Aw<|Ao rfl (.assign .bool)<|WL.ns ?_
    have hr8:=Si hm
    clear hm
    subst hr8
    have hm:=hk3
    try dsimp only at hm
    cases hm
    exact W.ret1 () rfl (.t rfl) trivial
   ·refine Ax rfl hb6 (.fieldAddr U28 rfl J25 fapi_Unit_3 (.t rfl))<|Ax rfl hb6 (.load ty25 (.t rfl))<|Ax rfl hb6 (.lenL U25 (.t rfl))<|Ax rfl hb6 (.fieldAddr U28 rfl J25 fapi_Unit_4 (.t rfl))<|Ax rfl hb6 (.load ty25 (.t rfl))<|Ax rfl hb6 (.lenL U25 (.t rfl)) ?_
    obtain ⟨v,hv9,hm⟩:=Bs hm
    refine Ax rfl hb6 (.addC hv9 (.t rfl) (.t rfl))<|Ax rfl hb6 (.gtI (.t rfl) .i64)<|Ao rfl (.pickF (.t rfl) hb6 (.t rfl))<|An<|W.cD hm (.t rfl) (fun hp11 hm=>?_) (fun hp11 hm=>?_)
    ·refine Aw<|Ao rfl (.assign .bool)<|WL.ns ?_
     have hr12:=Si hm
     clear hm
     subst hr12
     have hm:=hk3
     try dsimp only at hm
     cases hm
     exact W.ret1 () rfl (.t rfl) trivial
    ·exact W.skip<|WN.meet () (Si hm) ⟨.q rfl,trivial⟩ ⟨rfl,rfl,⟨rfl,rfl,trivial⟩⟩
  ·refine Aw<|Ao rfl (.fieldAddr U28 rfl J3 fapi_Unit_1 (.t rfl))<|Ao rfl (.load ty3 (.t rfl)) ?_
   obtain ⟨kindna,hv13,hm⟩:=Bs hm
   refine Ao rfl (.callG (rin:=[(700000,Gl (tA 8 tS) 0 gv0)]) C33 (unit_KindName_spec _ _ hv13) ⟨rfl,trivial⟩ ⟨rfl,rfl,trivial⟩ ⟨(.t rfl),trivial⟩)<|Ao rfl (.eqS (.t rfl) (.str rfl (by decide)))<|WL.mv rfl rfl ?_
   rcases iteB hm with ⟨hp15,hb14,hm⟩ | ⟨hp15,hb14,hm⟩
   ·refine Ap rfl hb14<|Ap rfl hb14<|Ap rfl hb14<|Ap rfl hb14<|Ao rfl (.pickT (.t rfl) hb14 .bool)<|Am rfl rfl<|Ap rfl rfl<|Ap rfl rfl<|Ap rfl rfl<|Ap rfl rfl<|Ao rfl (.pickT (.t rfl) rfl .bool)<|Am rfl rfl<|Ap rfl rfl<|Ap rfl rfl<|Ap rfl rfl<|Ap rfl rfl ?_
    refine Ao rfl (.pickT (.t rfl) rfl .bool)<|An<|W.condT (.t rfl)<|Aw<|Ao rfl (.assign .bool)<|WL.ns ?_
    have hr16:=Si hm
    clear hm
    subst hr16
    have hm:=hk3
    try dsimp only at hm
    cases hm
    exact W.ret1 () rfl (.t rfl) trivial
   ·refine Ax rfl hb14 (.fieldAddr U28 rfl J9 fapi_Unit_2 (.t rfl))<|Ax rfl hb14 (.load ty9 (.t rfl)) ?_
    obtain ⟨valid,hv17,hm⟩:=Bs hm
    refine Ax rfl hb14 (.call C45 (label_Valid_spec _ _ _ hv17) ⟨(.t rfl),trivial⟩)<|Ax rfl hb14 (.notB (.t rfl))<|Ao rfl (.pickF (.t rfl) hb14 (.t rfl))<|WL.mv rfl rfl ?_
    rcases iteR hm with ⟨hp19,hb18,hm⟩ | ⟨hp19,hb18,hm⟩
    ·refine Ap rfl hb18<|Ap rfl hb18<|Ap rfl hb18<|Ap rfl hb18<|Ao rfl (.pickT (.t rfl) hb18 .bool)<|Am rfl rfl<|Ap rfl rfl<|Ap rfl rfl<|Ap rfl rfl<|Ap rfl rfl<|Ao rfl (.pickT (.t rfl) rfl .bool)<|An<|W.condT (.t rfl)<|Aw<|Ao rfl (.assign .bool)<|WL.ns ?_
     have hr20:=Si hm
     clear hm
     subst hr20
     have hm:=hk3
     try dsimp only at hm
     cases hm
     exact W.ret1 () rfl (.t rfl) trivial
    ·refine Ax rfl hb18 (.fieldAddr U28 rfl J25 fapi_Unit_3 (.t rfl))<|Ax rfl hb18 (.load ty25 (.t rfl)) ?_
     obtain ⟨row,hv21,hm⟩:=Bs hm
     refine Ax rfl hb18 (.call C46 (unit_row_spec _ _ _ hv21) ⟨(.t rfl),trivial⟩)<|Ax rfl hb18 (.notB (.t rfl))<|Ao rfl (.pickF (.t rfl) hb18 (.t rfl))<|WL.mv rfl rfl ?_
     rcases iteR hm with ⟨hp23,hb22,hm⟩ | ⟨hp23,hb22,hm⟩
     ·refine Ap rfl hb22<|Ap rfl hb22<|Ap rfl hb22<|Ap rfl hb22<|Ao rfl (.pickT (.t rfl) hb22 .bool)<|An<|W.condT (.t rfl)<|Aw<|Ao rfl (.assign .bool)<|WL.ns ?_
      have hr24:=Si hm
      clear hm
      subst hr24
      have hm:=hk3
      try dsimp only at hm
      cases hm
      exact W.ret1 () rfl (.t rfl) trivial
     ·refine Ax rfl hb22 (.fieldAddr U28 rfl J25 fapi_Unit_4 (.t rfl))<|Ax rfl hb22 (.load ty25 (.t rfl)) ?_
      obtain ⟨row1,hv25,hm⟩:=Bs hm
      refine Ax rfl hb22 (.call C46 (unit_row_spec _ _ _ hv25) ⟨(.t rfl),trivial⟩)<|Ax rfl hb22 (.notB (.t rfl))<|Ao rfl (.pickF (.t rfl) hb22 (.t rfl))<|An<|W.cR hm (.t rfl) (fun hp27 hm=>?_) (fun hp27 hm=>?_)
      ·refine Aw<|Ao rfl (.assign .bool)<|WL.ns ?_
       have hr28:=Si hm
       clear hm
       subst hr28
       have hm:=hk3
       try dsimp only at hm
       cases hm
       exact W.ret1 () rfl (.t rfl) trivial
      ·exact W.skip<|WN.meet () (Si hm) ⟨.q rfl,trivial⟩ ⟨rfl,rfl,⟨rfl,rfl,trivial⟩⟩
theorem unit_every_i0_spec:∀ (n:Nat) (u:api_Unit) (r:Bool),M.unit_every_i0 n u=some r→FSpecR Tryd.prog 25 [(tapi_Unit.is u),(cloA 26 [])] [(700000,Gl (tA 8 tS) 0 gv0),(700002,Gl (tA 8 (tL I6)) 2 gv2)] (fun kx:Unit=>(tB.is r)) (fun kx:Unit=>[(700000,Gl (tA 8 tS) 0 gv0),(700002,Gl (tA 8 (tL I6)) 2 gv2)]):=by
 intro n
 induction n with
 | zero=>intro u r hm;cases hm
 | succ n ih=>
  intro u r hm
  rw [M.unit_every_i0.eq_2] at hm
  refine FSpecR.of Tryd.func25 rfl rfl rfl fun g0=>Aw<|Ao rfl (.box (.t rfl))<|Ao rfl (.assign .bool)<|An<|W.seq<|Aw<|Am rfl rfl<|Ao rfl (.load ty28 (.t rfl)) ?_
  obtain ⟨alone,hv1,hm⟩:=Bs hm
  refine Ao rfl (.callCloG (As:=[tapi_Unit.is u]) (rin:=[(700000,Gl (tA 8 tS) 0 gv0),(700002,Gl (tA 8 (tL I6)) 2 gv2)]) C26 (.t rfl) (unit_alone_spec _ _ _ hv1) ⟨rfl,rfl,trivial⟩ ⟨rfl,rfl,⟨rfl,rfl,trivial⟩⟩ ⟨(.t rfl),trivial⟩)<|Ao rfl (.notB (.t rfl))<|An<|W.cR hm (.t rfl) (fun hp3 hm=>?_) (fun hp3 hm=>?_)
  ·refine Aw<|Ao rfl (.assign .bool)<|WL.ns ?_
   cases hm
   exact W.ret1 () rfl (.t rfl) ⟨rfl,rfl,⟨rfl,rfl,trivial⟩⟩
  ·refine W.skip<|Aq<|W.seq<|Aw<|Ao rfl (.fieldAddr U28 rfl J26 fapi_Unit_5 (.t rfl))<|Ao rfl (.load ty26 (.t rfl))<|Ao rfl (.lenL U26 (.t rfl))<|Ao rfl (.move .i64)<|An<|W.block ?_
   obtain ⟨s4,hs5,hk6⟩:=Bs hm
   clear hm
   refine W.loop (fun m (s:Int×List api_Unit×List api_Unit×Unit)=>m=s.2.2.1.length∧u.Kids=s.2.1++s.2.2.1∧s.1=(s.2.1.length:Int)∧M.unit_every_i0_loop1 (M.unit_every_i0 n) s.2.2.1=some s4) (fun s=>[(14,(I6.is s.1)),(1,(cloA 26 [])),(12,((tL tapi_Unit).is u.Kids)),(13,(I6.is (u.Kids.length:Int)))]) (fun s=>[(700000,Gl (tA 8 tS) 0 gv0),(700002,Gl (tA 8 (tL I6)) 2 gv2)]) u.Kids.length ((0:Int),[],u.Kids,()) ⟨rfl,rfl,rfl,hs5⟩ ⟨.q rfl,.q rfl,.q rfl,.q rfl,trivial⟩ ⟨rfl,rfl,⟨rfl,rfl,trivial⟩⟩ ?_
   rintro m ⟨i,pre,rest1,_⟩ ⟨hn10,hxs7,hi8,hm⟩
   try dsimp only at hn10 hxs7 hi8 hm
   change W _ _ _ _ _ _ _ [(14,(I6.is i)),(1,(cloA 26 [])),(12,((tL tapi_Unit).is u.Kids)),(13,(I6.is (u.Kids.length:Int)))] [(700000,Gl (tA 8 tS) 0 gv0),(700002,Gl (tA 8 (tL I6)) 2 gv2)]
   refine W.lenL (s:=12) (.t rfl) fun hlen9=>Aw<|Ao rfl (.ltI (.t rfl) (.t rfl))<|An<|W.seq<|W.cond (.t rfl) (fun hc12=>?_) (fun hc12=>?_)
   ·have hp13:=of_decide_eq_true hc12
    obtain ⟨e,es,hrest15⟩:=range_more hxs7 hi8 hp13
    subst hrest15
    rw [M.unit_every_i0_loop1.eq_2] at hm
    refine W.skip<|Aq<|W.seq<|W.block<|Aw<|Ao rfl (.idxPre hxs7 hi8 U26 Z28 (.t rfl) (.t rfl))<|Ao rfl (.load ty28 (.t rfl))<|WL.opR rfl (OpR.alloc 6 ze28) fun b=>WL.opU (OpR.storeB (b:=b) 6 Z28 (Cellable.is tapi_Unit e) rfl (.t rfl) (.t rfl)) fun _=>WL.sealed (t:=tapi_Unit) (u:=e) 6 6 rfl rfl<|Ar<|Ao rfl (.load ty28 (.t rfl))<|WL.mv rfl rfl ?_
    obtain ⟨every,hv16,hm⟩:=Bs hm
    refine Ao rfl (.callG (rin:=[(700000,Gl (tA 8 tS) 0 gv0),(700002,Gl (tA 8 (tL I6)) 2 gv2)]) C25 (ih _ _ hv16) ⟨rfl,rfl,trivial⟩ ⟨rfl,rfl,⟨rfl,rfl,trivial⟩⟩ ⟨(.t rfl),(.t rfl),trivial⟩)<|Ao rfl (.notB (.t rfl))<|An<|W.cR hm (.t rfl) (fun hp18 hm=>?_) (fun hp18 hm=>?_)
    ·refine Aw<|Ao rfl (.assign .bool)<|WL.ns ?_
     have hr19:=Si hm
     clear hm
     subst hr19
     have hm:=hk6
     try dsimp only at hm
     cases hm
     exact W.ret1 () rfl (.t rfl) ⟨rfl,rfl,⟨rfl,rfl,trivial⟩⟩
    ·exact W.skip<|WN.block<|Aq<|W.region<|Ao rfl (.addI (.t rfl) .i64 (range_inR hi8 hp13 hlen9))<|Am rfl rfl<|WL.nil<|WN.again es.length (i+1,pre++ [e],es,()) (range_lt hn10) ⟨rfl,range_step hxs7,range_idx hi8,hm⟩ ⟨.q rfl,.q rfl,.q rfl,.q rfl,trivial⟩ ⟨rfl,rfl,⟨rfl,rfl,trivial⟩⟩
   ·have hrest15:=range_end hxs7 hi8 (of_decide_eq_false hc12)
    subst hrest15
    rw [M.unit_every_i0_loop1.eq_1] at hm
    refine W.exit rfl ?_
    have hr20:=Si hm
    clear hm
    subst hr20
    have hm:=hk6
    try dsimp only at hm
    refine Aq<|Aw<|Ao rfl (.assign .bool)<|WL.ns ?_
    cases hm
    exact W.ret1 () rfl (.t rfl) ⟨rfl,rfl,⟨rfl,rfl,trivial⟩⟩
theorem unit_Depth_spec:∀ (n:Nat) (u:api_Unit) (r:Int),M.unit_Depth n u=some r→FSpec Tryd.prog 27 [(tapi_Unit.is u)] (I6.is r):=by
 intro n
 induction n with
 | zero=>intro u r hm;cases hm
 | succ n ih=>
  intro u r hm
  rw [M.unit_Depth.eq_2] at hm
  refine FSpec.of Tryd.func27 rfl rfl rfl fun g0=>Aw<|Ao rfl (.box (.t rfl))<|Ao rfl (.assign .i64)<|Ar<|Ao rfl (.assign .i64)<|An<|W.seq<|Aw<|Ao rfl (.fieldAddr U28 rfl J26 fapi_Unit_5 (.t rfl))<|Ao rfl (.load ty26 (.t rfl))<|Ao rfl (.lenL U26 (.t rfl))<|Ao rfl (.move .i64)<|An<|W.block ?_
  obtain ⟨s1,hs2,hk3⟩:=Bs hm
  clear hm
  refine W.loop (fun m (s:Int×List api_Unit×List api_Unit×Int)=>m=s.2.2.1.length∧u.Kids=s.2.1++s.2.2.1∧s.1=(s.2.1.length:Int)∧M.unit_Depth_loop1 (M.unit_Depth n) s.2.2.1 s.2.2.2=some s1) (fun s=>[(9,(I6.is s.1)),(3,(I6.is s.2.2.2)),(7,((tL tapi_Unit).is u.Kids)),(8,(I6.is (u.Kids.length:Int)))]) (fun s=>[]) u.Kids.length ((0:Int),[],u.Kids,(0:Int)) ⟨rfl,rfl,rfl,hs2⟩ ⟨.q rfl,.q rfl,.q rfl,.q rfl,trivial⟩ trivial ?_
  rintro m ⟨i,pre,rest1,deep⟩ ⟨hn7,hxs4,hi5,hm⟩
  try dsimp only at hn7 hxs4 hi5 hm
  change W _ _ _ _ _ _ _ [(9,(I6.is i)),(3,(I6.is deep)),(7,((tL tapi_Unit).is u.Kids)),(8,(I6.is (u.Kids.length:Int)))] []
  refine W.lenL (s:=7) (.t rfl) fun hlen6=>Aw<|Ao rfl (.ltI (.t rfl) (.t rfl))<|An<|W.seq<|W.cond (.t rfl) (fun hc9=>?_) (fun hc9=>?_)
  ·have hp10:=of_decide_eq_true hc9
   obtain ⟨e,es,hrest12⟩:=range_more hxs4 hi5 hp10
   subst hrest12
   rw [M.unit_Depth_loop1.eq_2] at hm
   refine W.skip<|Aq<|W.seq<|W.block<|Aw<|Ao rfl (.idxPre hxs4 hi5 U26 Z28 (.t rfl) (.t rfl))<|Ao rfl (.load ty28 (.t rfl))<|WL.opR rfl (OpR.alloc 5 ze28) fun b=>WL.opU (OpR.storeB (b:=b) 5 Z28 (Cellable.is tapi_Unit e) rfl (.t rfl) (.t rfl)) fun _=>WL.sealed (t:=tapi_Unit) (u:=e) 5 5 rfl rfl<|WL.nr1<|Am rfl rfl<|Ao rfl (.load ty28 (.t rfl)) ?_
   obtain ⟨depth,hv13,hm⟩:=Bs hm
   refine Ao rfl (.call C27 (ih _ _ hv13) ⟨(.t rfl),trivial⟩) ?_
   obtain ⟨v,hv14,hm⟩:=Bs hm
   exact Ao rfl (.addC hv14 .i64 (.t rfl))<|Ao rfl (.maxI (.t rfl) (.t rfl))<|Ag rfl rfl<|WL.nil<|WN.block<|Aq<|W.region<|Ao rfl (.addI (.t rfl) .i64 (range_inR hi5 hp10 hlen6))<|Am rfl rfl<|WL.nil<|WN.again es.length (i+1,pre++ [e],es,max deep v) (range_lt hn7) ⟨rfl,range_step hxs4,range_idx hi5,hm⟩ ⟨.q rfl,.q rfl,.q rfl,.q rfl,trivial⟩ trivial
  ·have hrest12:=range_end hxs4 hi5 (of_decide_eq_false hc9)
   subst hrest12
   rw [M.unit_Depth_loop1.eq_1] at hm
   refine W.exit rfl ?_
   have hr15:=Si hm
   clear hm
   subst hr15
   have hm:=hk3
   try dsimp only at hm
   refine Aq<|Aw<|Am rfl rfl<|Ag rfl rfl<|WL.ns ?_
   cases hm
   exact W.ret1 () rfl (.t rfl) trivial
theorem unit_Count_1_spec(a:api_Unit)(c:Int)(b:Nat)(r:Bool×Int)(hm:M.unit_Count_1 a c=some r):FSpecR Tryd.prog 47 [(tapi_Unit.is a),(Bp b 0)] [(1,(Bx 1 false 3 (I6.is c) b))] (fun kx:Unit=>(tB.is r.1)) (fun kx:Unit=>[(1,(Bx 1 false 3 (I6.is r.2) b))]):=by
 unfold M.unit_Count_1 at hm
 refine FSpecR.of Tryd.func47 rfl rfl rfl fun g0=>Aw<|Ao rfl (.box (.t rfl))<|Ao rfl (.assign .bool)<|Ar<|Ao rfl (.loadB 1 Y3 Z3 rfl (.t rfl)) ?_
 obtain ⟨v,hv1,hm⟩:=Bs hm
 refine Ao rfl (.addC hv1 (.t rfl) .i64)<|WL.opU (OpR.storeB (b:=b) 1 Z3 (Cellable.is I6 v) rfl (.t rfl) (.t rfl)) fun _=>Ar<|Ao rfl (.assign .bool)<|WL.ns ?_
 cases hm
 exact W.ret1 () rfl (.t rfl) ⟨rfl,rfl,trivial⟩
theorem unit_every_i1_spec:∀ (n:Nat) (u:api_Unit) (c:Int) (b:Nat) (r:Bool×Int),M.unit_every_i1 n u c=some r→FSpecR Tryd.prog 25 [(tapi_Unit.is u),(cloA 47 [(Bp b 0)])] [(500100,(Bx 1 false 3 (I6.is c) b))] (fun kx:Unit=>(tB.is r.1)) (fun kx:Unit=>[(500100,(Bx 1 false 3 (I6.is r.2) b))]):=by
 intro n
 induction n with
 | zero=>intro u c b r hm;cases hm
 | succ n ih=>
  intro u c b r hm
  rw [M.unit_every_i1.eq_2] at hm
  refine FSpecR.of Tryd.func25 rfl rfl rfl fun g0=>Aw<|Ao rfl (.box (.t rfl))<|Ao rfl (.assign .bool)<|An<|W.seq<|Aw<|Am rfl rfl<|Ao rfl (.load ty28 (.t rfl)) ?_
  obtain ⟨⟨v1_,w⟩,hv1,hm⟩:=Bs hm
  dsimp only at hm
  refine WL.weakR (res':=[(500100,(Bx 1 false 3 (I6.is c) b))]) ⟨rfl,rfl,trivial⟩<|WL.opR rfl (OpR.callClo (us:=[500100]) (A:=fun kx:Unit=>(tB.is v1_)) (As:=[tapi_Unit.is u]) C47 (.t rfl) (FSpecR.keys (rin':=[(500100,(Bx 1 false 3 (I6.is c) b))]) (out':=fun kx:Unit=>[(500100,(Bx 1 false 3 (I6.is w) b))]) (unit_Count_1_spec _ _ _ _ hv1) rfl (fun _=>rfl)) rfl ⟨(.t rfl),trivial⟩) fun _=>Ao rfl (.notB (.t rfl))<|An<|W.cR hm (.t rfl) (fun hp3 hm=>?_) (fun hp3 hm=>?_)
  ·refine Aw<|Ao rfl (.assign .bool)<|WL.ns ?_
   cases hm
   exact W.ret1 () rfl (.t rfl) ⟨rfl,rfl,trivial⟩
  ·refine W.skip<|Aq<|W.seq<|Aw<|Ao rfl (.fieldAddr U28 rfl J26 fapi_Unit_5 (.t rfl))<|Ao rfl (.load ty26 (.t rfl))<|Ao rfl (.lenL U26 (.t rfl))<|Ao rfl (.move .i64)<|An<|W.block ?_
   obtain ⟨s4,hs5,hk6⟩:=Bs hm
   clear hm
   refine W.loop (fun m (s:Int×List api_Unit×List api_Unit×Int)=>m=s.2.2.1.length∧u.Kids=s.2.1++s.2.2.1∧s.1=(s.2.1.length:Int)∧M.unit_every_i1_loop1 (M.unit_every_i1 n) s.2.2.1 s.2.2.2=some s4) (fun s=>[(14,(I6.is s.1)),(1,(cloA 47 [(Bp b 0)])),(12,((tL tapi_Unit).is u.Kids)),(13,(I6.is (u.Kids.length:Int)))]) (fun s=>[(500100,(Bx 1 false 3 (I6.is s.2.2.2) b))]) u.Kids.length ((0:Int),[],u.Kids,w) ⟨rfl,rfl,rfl,hs5⟩ ⟨.q rfl,.q rfl,.q rfl,.q rfl,trivial⟩ ⟨rfl,rfl,trivial⟩ ?_
   rintro m ⟨i,pre,rest1,v⟩ ⟨hn10,hxs7,hi8,hm⟩
   try dsimp only at hn10 hxs7 hi8 hm
   change W _ _ _ _ _ _ _ [(14,(I6.is i)),(1,(cloA 47 [(Bp b 0)])),(12,((tL tapi_Unit).is u.Kids)),(13,(I6.is (u.Kids.length:Int)))] [(500100,(Bx 1 false 3 (I6.is v) b))]
   refine W.lenL (s:=12) (.t rfl) fun hlen9=>Aw<|Ao rfl (.ltI (.t rfl) (.t rfl))<|An<|W.seq<|W.cond (.t rfl) (fun hc12=>?_) (fun hc12=>?_)
   ·have hp13:=of_decide_eq_true hc12
    obtain ⟨e,es,hrest15⟩:=range_more hxs7 hi8 hp13
    subst hrest15
    rw [M.unit_every_i1_loop1.eq_2] at hm
    refine W.skip<|Aq<|W.seq<|W.block<|Aw<|Ao rfl (.idxPre hxs7 hi8 U26 Z28 (.t rfl) (.t rfl))<|Ao rfl (.load ty28 (.t rfl))<|WL.opR rfl (OpR.alloc 6 ze28) fun b1=>WL.opU (OpR.storeB (b:=b1) 6 Z28 (Cellable.is tapi_Unit e) rfl (.t rfl) (.t rfl)) fun _=>WL.sealed (t:=tapi_Unit) (u:=e) 6 6 rfl rfl<|Ar<|Ao rfl (.load ty28 (.t rfl))<|WL.mv rfl rfl ?_
    obtain ⟨⟨every,w1⟩,hv16,hm⟩:=Bs hm
    dsimp only at hm
    refine WL.weakR (res':=[(500100,(Bx 1 false 3 (I6.is v) b))]) ⟨rfl,rfl,trivial⟩<|WL.opR rfl (OpR.call (us:=[500100]) (A:=fun kx:Unit=>(tB.is every)) C25 (FSpecR.keys (rin':=[(500100,(Bx 1 false 3 (I6.is v) b))]) (out':=fun kx:Unit=>[(500100,(Bx 1 false 3 (I6.is w1) b))]) (ih _ _ _ _ hv16) rfl (fun _=>rfl)) rfl ⟨(.t rfl),(.t rfl),trivial⟩) fun _=>Ao rfl (.notB (.t rfl))<|An<|W.cR hm (.t rfl) (fun hp18 hm=>?_) (fun hp18 hm=>?_)
    ·refine Aw<|Ao rfl (.assign .bool)<|WL.ns ?_
     have hr19:=Si hm
     clear hm
     subst hr19
     have hm:=hk6
     try dsimp only at hm
     cases hm
     exact W.ret1 () rfl (.t rfl) ⟨rfl,rfl,trivial⟩
    ·exact W.skip<|WN.block<|Aq<|W.region<|Ao rfl (.addI (.t rfl) .i64 (range_inR hi8 hp13 hlen9))<|Am rfl rfl<|WL.nil<|WN.again es.length (i+1,pre++ [e],es,w1) (range_lt hn10) ⟨rfl,range_step hxs7,range_idx hi8,hm⟩ ⟨.q rfl,.q rfl,.q rfl,.q rfl,trivial⟩ ⟨rfl,rfl,trivial⟩
   ·have hrest15:=range_end hxs7 hi8 (of_decide_eq_false hc12)
    subst hrest15
    rw [M.unit_every_i1_loop1.eq_1] at hm
    refine W.exit rfl ?_
    have hr20:=Si hm
    clear hm
    subst hr20
    have hm:=hk6
    try dsimp only at hm
    refine Aq<|Aw<|Ao rfl (.assign .bool)<|WL.ns ?_
    cases hm
    exact W.ret1 () rfl (.t rfl) ⟨rfl,rfl,trivial⟩
theorem unit_Count_spec(n:Nat)(u:api_Unit)(r:Int)(hm:M.unit_Count n u=some r):FSpec Tryd.prog 28 [(tapi_Unit.is u)] (I6.is r):=by
 unfold M.unit_Count at hm
 refine FSpec.of Tryd.func28 rfl rfl rfl fun g0=>Aw<|Ao rfl (.box (.t rfl))<|Ao rfl (.assign .i64)<|Ar<|WL.opR rfl (OpR.alloc 3 ze3) fun b=>WL.opU (OpR.storeB (b:=b) 3 Z3 (Cellable.is I6 (0:Int)) rfl (.t rfl) .i64) fun _=>Ar<|Ao rfl (.load ty28 (.t rfl))<|Ao rfl (.makeClo (Cs:=[(Bp b 0)]) (cap:=[.tmp 3]) ⟨(.t rfl),trivial⟩) ?_
 obtain ⟨⟨every,n0_⟩,hv1,hm⟩:=Bs hm
 dsimp only at hm
 refine WL.weakR (res':=[(3,(Bx 1 false 3 (I6.is (0:Int)) b))]) ⟨rfl,rfl,trivial⟩<|WL.opR rfl (OpR.call (us:=[3]) (A:=fun kx:Unit=>(tB.is every)) C25 (FSpecR.keys (rin':=[(3,(Bx 1 false 3 (I6.is (0:Int)) b))]) (out':=fun kx:Unit=>[(3,(Bx 1 false 3 (I6.is n0_) b))]) (unit_every_i1_spec _ _ _ _ _ hv1) rfl (fun _=>rfl)) rfl ⟨(.t rfl),(.t rfl),trivial⟩) fun _=>Ar<|Ao rfl (.loadB 3 Y3 Z3 rfl (.t rfl))<|Ag rfl rfl<|WL.ns ?_
 cases hm
 exact W.ret1 () rfl (.t rfl) trivial
theorem unit_IDs_1_spec(x:api_Unit)(c:List api_Id)(b:Nat)(k:Tok)(r:Bool×(List api_Id))(hm:M.unit_IDs_1 x c=some r):FSpecR Tryd.prog 71 [(tapi_Unit.is x),(Bp b 0)] [(1,(Bx 1 false 90 (tO tapi_Id k c) b)),(1000001,Dec.Own tapi_Id 24 k c.length)] (fun kx:Tok=>(tB.is r.1)) (fun kx:Tok=>[(1,(Bx 1 false 90 (tO tapi_Id kx r.2) b)),(1000001,Dec.Own tapi_Id 24 kx r.2.length)]):=by
 unfold M.unit_IDs_1 at hm
 refine FSpecR.of Tryd.func71 rfl rfl rfl fun g0=>Aw<|Ao rfl (.box (.t rfl))<|Ao rfl (.assign .bool)<|Ar<|Ao rfl (.loadB 1 Y90 Z90 rfl (.t rfl))<|Ao rfl (.fieldAddr U28 rfl J24 fapi_Unit_0 (.t rfl))<|Ao rfl (.load ty24 (.t rfl))<|Ao rfl (.buildSlice (n:=1) (ys:=[(0,x.Id)]) (z:=zapi_Id) (xs:=[x.Id]) U90 el24 ze24 ⟨rfl,(.t rfl),trivial⟩ (by simp) (by decide) rfl) ?_
 obtain ⟨out,hv1,hm⟩:=Bs hm
 refine WL.opR rfl (OpR.appC (key:=1000001) hv1 U90 el24 (.t rfl) (.t rfl) rfl) fun k1=>WL.opU (OpR.storeB (b:=b) 1 Z90 (Cellable.o tapi_Id k1 out) rfl (.t rfl) (.t rfl)) fun _=>Ar<|Ao rfl (.assign .bool)<|WL.ns ?_
 cases hm
 exact W.ret1 k1 rfl (.t rfl) ⟨rfl,rfl,⟨rfl,rfl,trivial⟩⟩
theorem unit_every_i2_spec:∀ (n:Nat) (u:api_Unit) (c:List api_Id) (b:Nat) (k:Tok) (r:Bool×(List api_Id)),M.unit_every_i2 n u c=some r→FSpecR Tryd.prog 25 [(tapi_Unit.is u),(cloA 71 [(Bp b 0)])] [(500100,(Bx 1 false 90 (tO tapi_Id k c) b)),(1500100,Dec.Own tapi_Id 24 k c.length)] (fun kx:Tok=>(tB.is r.1)) (fun kx:Tok=>[(500100,(Bx 1 false 90 (tO tapi_Id kx r.2) b)),(1500100,Dec.Own tapi_Id 24 kx r.2.length)]):=by
 intro n
 induction n with
 | zero=>intro u c b k r hm;cases hm
 | succ n ih=>
  intro u c b k r hm
  rw [M.unit_every_i2.eq_2] at hm
  refine FSpecR.of Tryd.func25 rfl rfl rfl fun g0=>Aw<|Ao rfl (.box (.t rfl))<|Ao rfl (.assign .bool)<|An<|W.seq<|Aw<|Am rfl rfl<|Ao rfl (.load ty28 (.t rfl)) ?_
  obtain ⟨⟨v1_,w⟩,hv1,hm⟩:=Bs hm
  dsimp only at hm
  refine WL.weakR (res':=[(500100,(Bx 1 false 90 (tO tapi_Id k c) b)),(1500100,Dec.Own tapi_Id 24 k c.length)]) ⟨rfl,rfl,⟨rfl,rfl,trivial⟩⟩<|WL.opR rfl (OpR.callClo (us:=[500100,1500100]) (A:=fun kx:Tok=>(tB.is v1_)) (As:=[tapi_Unit.is u]) C71 (.t rfl) (FSpecR.keys (rin':=[(500100,(Bx 1 false 90 (tO tapi_Id k c) b)),(1500100,Dec.Own tapi_Id 24 k c.length)]) (out':=fun kx:Tok=>[(500100,(Bx 1 false 90 (tO tapi_Id kx w) b)),(1500100,Dec.Own tapi_Id 24 kx w.length)]) (unit_IDs_1_spec _ _ _ _ _ hv1) rfl (fun _=>rfl)) rfl ⟨(.t rfl),trivial⟩) fun k1=>Ao rfl (.notB (.t rfl))<|An<|W.cR hm (.t rfl) (fun hp3 hm=>?_) (fun hp3 hm=>?_)
  ·refine Aw<|Ao rfl (.assign .bool)<|WL.ns ?_
   cases hm
   exact W.ret1 k1 rfl (.t rfl) ⟨rfl,rfl,⟨rfl,rfl,trivial⟩⟩
  ·refine W.skip<|Aq<|W.seq<|Aw<|Ao rfl (.fieldAddr U28 rfl J26 fapi_Unit_5 (.t rfl))<|Ao rfl (.load ty26 (.t rfl))<|Ao rfl (.lenL U26 (.t rfl))<|Ao rfl (.move .i64)<|An<|W.block ?_
   obtain ⟨s4,hs5,hk6⟩:=Bs hm
   clear hm
   refine W.loop (fun m (s:Int×List api_Unit×List api_Unit×(((List api_Id))×Tok))=>m=s.2.2.1.length∧u.Kids=s.2.1++s.2.2.1∧s.1=(s.2.1.length:Int)∧M.unit_every_i2_loop1 (M.unit_every_i2 n) s.2.2.1 s.2.2.2.1=some s4) (fun s=>[(14,(I6.is s.1)),(1,(cloA 71 [(Bp b 0)])),(12,((tL tapi_Unit).is u.Kids)),(13,(I6.is (u.Kids.length:Int)))]) (fun s=>[(1500100,Dec.Own tapi_Id 24 s.2.2.2.2 s.2.2.2.1.length),(500100,(Bx 1 false 90 (tO tapi_Id s.2.2.2.2 s.2.2.2.1) b))]) u.Kids.length ((0:Int),[],u.Kids,(w,k1)) ⟨rfl,rfl,rfl,hs5⟩ ⟨.q rfl,.q rfl,.q rfl,.q rfl,trivial⟩ ⟨rfl,rfl,⟨rfl,rfl,trivial⟩⟩ ?_
   rintro m ⟨i,pre,rest1,⟨v,k2⟩⟩ ⟨hn10,hxs7,hi8,hm⟩
   try dsimp only at hn10 hxs7 hi8 hm
   change W _ _ _ _ _ _ _ [(14,(I6.is i)),(1,(cloA 71 [(Bp b 0)])),(12,((tL tapi_Unit).is u.Kids)),(13,(I6.is (u.Kids.length:Int)))] [(1500100,Dec.Own tapi_Id 24 k2 v.length),(500100,(Bx 1 false 90 (tO tapi_Id k2 v) b))]
   refine W.lenL (s:=12) (.t rfl) fun hlen9=>Aw<|Ao rfl (.ltI (.t rfl) (.t rfl))<|An<|W.seq<|W.cond (.t rfl) (fun hc12=>?_) (fun hc12=>?_)
   ·have hp13:=of_decide_eq_true hc12
    obtain ⟨e,es,hrest15⟩:=range_more hxs7 hi8 hp13
    subst hrest15
    rw [M.unit_every_i2_loop1.eq_2] at hm
    refine W.skip<|Aq<|W.seq<|W.block<|Aw<|Ao rfl (.idxPre hxs7 hi8 U26 Z28 (.t rfl) (.t rfl))<|Ao rfl (.load ty28 (.t rfl))<|WL.opR rfl (OpR.alloc 6 ze28) fun b1=>WL.opU (OpR.storeB (b:=b1) 6 Z28 (Cellable.is tapi_Unit e) rfl (.t rfl) (.t rfl)) fun _=>WL.sealed (t:=tapi_Unit) (u:=e) 6 6 rfl rfl<|Ar<|Ao rfl (.load ty28 (.t rfl))<|WL.mv rfl rfl ?_
    obtain ⟨⟨every,w1⟩,hv16,hm⟩:=Bs hm
    dsimp only at hm
    refine WL.weakR (res':=[(500100,(Bx 1 false 90 (tO tapi_Id k2 v) b)),(1500100,Dec.Own tapi_Id 24 k2 v.length)]) ⟨rfl,rfl,⟨rfl,rfl,trivial⟩⟩<|WL.opR rfl (OpR.call (us:=[500100,1500100]) (A:=fun kx:Tok=>(tB.is every)) C25 (FSpecR.keys (rin':=[(500100,(Bx 1 false 90 (tO tapi_Id k2 v) b)),(1500100,Dec.Own tapi_Id 24 k2 v.length)]) (out':=fun kx:Tok=>[(500100,(Bx 1 false 90 (tO tapi_Id kx w1) b)),(1500100,Dec.Own tapi_Id 24 kx w1.length)]) (ih _ _ _ _ _ hv16) rfl (fun _=>rfl)) rfl ⟨(.t rfl),(.t rfl),trivial⟩) fun k3=>Ao rfl (.notB (.t rfl))<|An<|W.cR hm (.t rfl) (fun hp18 hm=>?_) (fun hp18 hm=>?_)
    ·refine Aw<|Ao rfl (.assign .bool)<|WL.ns ?_
     have hr19:=Si hm
     clear hm
     subst hr19
     have hm:=hk6
     try dsimp only at hm
     cases hm
     exact W.ret1 k3 rfl (.t rfl) ⟨rfl,rfl,⟨rfl,rfl,trivial⟩⟩
    ·exact W.skip<|WN.block<|Aq<|W.region<|Ao rfl (.addI (.t rfl) .i64 (range_inR hi8 hp13 hlen9))<|Am rfl rfl<|WL.nil<|WN.again es.length (i+1,pre++ [e],es,(w1,k3)) (range_lt hn10) ⟨rfl,range_step hxs7,range_idx hi8,hm⟩ ⟨.q rfl,.q rfl,.q rfl,.q rfl,trivial⟩ ⟨rfl,rfl,⟨rfl,rfl,trivial⟩⟩
   ·have hrest15:=range_end hxs7 hi8 (of_decide_eq_false hc12)
    subst hrest15
    rw [M.unit_every_i2_loop1.eq_1] at hm
    refine W.exit rfl ?_
    have hr20:=Si hm
    clear hm
    subst hr20
    have hm:=hk6
    try dsimp only at hm
    refine Aq<|Aw<|Ao rfl (.assign .bool)<|WL.ns ?_
    cases hm
    exact W.ret1 k2 rfl (.t rfl) ⟨rfl,rfl,⟨rfl,rfl,trivial⟩⟩
theorem unit_IDs_spec(n:Nat)(u:api_Unit)(r:(List api_Id))(hm:M.unit_IDs n u=some r):FSpec Tryd.prog 48 [(tapi_Unit.is u)] ((tL tapi_Id).is r):=by
 unfold M.unit_IDs at hm
 refine FSpec.of Tryd.func48 rfl rfl rfl fun g0=>Aw<|Ao rfl (.box (.t rfl))<|Ao rfl (.assign (.nil (t:=tapi_Id)))<|Ar<|WL.addNil (t:=tapi_Id) (E:=24) 1000003<|WL.opR rfl (OpR.allocO (t:=tapi_Id) 3 Tryd.zeroValue90) fun b=>Ar<|Ao rfl (.load ty28 (.t rfl))<|Ao rfl (.makeClo (Cs:=[(Bp b 0)]) (cap:=[.tmp 3]) ⟨(.t rfl),trivial⟩) ?_
 obtain ⟨⟨every,out⟩,hv1,hm⟩:=Bs hm
 dsimp only at hm
 refine WL.weakR (res':=[(3,(Bx 1 false 90 (tO tapi_Id (none:Tok) ([]:List api_Id)) b)),(1000003,Dec.Own tapi_Id 24 (none:Tok) ([]:List api_Id).length)]) ⟨rfl,rfl,⟨rfl,rfl,trivial⟩⟩<|WL.opR rfl (OpR.call (us:=[3,1000003]) (A:=fun kx:Tok=>(tB.is every)) C25 (FSpecR.keys (rin':=[(3,(Bx 1 false 90 (tO tapi_Id (none:Tok) ([]:List api_Id)) b)),(1000003,Dec.Own tapi_Id 24 (none:Tok) ([]:List api_Id).length)]) (out':=fun kx:Tok=>[(3,(Bx 1 false 90 (tO tapi_Id kx out) b)),(1000003,Dec.Own tapi_Id 24 kx out.length)]) (unit_every_i2_spec _ _ _ _ _ _ hv1) rfl (fun _=>rfl)) rfl ⟨(.t rfl),(.t rfl),trivial⟩) fun k=>Ar<|Ao rfl (.loadB 3 Y90 Z90 rfl (.t rfl))<|Ag rfl rfl<|WL.ns ?_
 cases hm
 exact W.ret1 () rfl (Opd.own (.t rfl)) trivial
theorem unit_ids_spec(n:Nat)(u:api_Unit)(r:Bool)(hm:M.unit_ids n u=some r):FSpec Tryd.prog 29 [(tapi_Unit.is u)] (tB.is r):=by
 unfold M.unit_ids at hm
 refine FSpec.of Tryd.func29 rfl rfl rfl fun g0=>Aw<|Ao rfl (.box (.t rfl))<|Ao rfl (.assign .bool)<|Ar<|Ao rfl (.load ty28 (.t rfl)) ?_
 obtain ⟨ids,hv1,hm⟩:=Bs hm
 refine Ao rfl (.call C48 (unit_IDs_spec _ _ _ hv1) ⟨(.t rfl),trivial⟩)<|Ag rfl rfl<|Ar<|WL.opR rfl (OpR.makeMap tapi_Id tB 10) fun b=>Ag rfl rfl<|An<|W.seq<|Aw<|Am rfl rfl<|Ao rfl (.lenL U90 (.t rfl))<|Ao rfl (.move .i64)<|An<|W.block ?_
 obtain ⟨s2,hs3,hk4⟩:=Bs hm
 clear hm
 refine W.loop (fun m (s:Int×List api_Id×List api_Id×((List (api_Id×Bool))))=>m=s.2.2.1.length∧ids=s.2.1++s.2.2.1∧s.1=(s.2.1.length:Int)∧M.unit_ids_loop1 s.2.2.1 s.2.2.2=some s2) (fun s=>[(13,(I6.is s.1)),(1,(tapi_Unit.ptr u)),(3,((tL tapi_Id).is ids)),(4,(Mv b)),(11,((tL tapi_Id).is ids)),(12,(I6.is (ids.length:Int)))]) (fun s=>[(10,Mp tapi_Id tB s.2.2.2 b)]) ids.length ((0:Int),[],ids,([]:List (api_Id×Bool))) ⟨rfl,rfl,rfl,hs3⟩ ⟨.q rfl,.q rfl,.q rfl,.q rfl,.q rfl,.q rfl,trivial⟩ ⟨rfl,rfl,trivial⟩ ?_
 rintro m ⟨i,pre,rest1,v⟩ ⟨hn8,hxs5,hi6,hm⟩
 try dsimp only at hn8 hxs5 hi6 hm
 change W _ _ _ _ _ _ _ [(13,(I6.is i)),(1,(tapi_Unit.ptr u)),(3,((tL tapi_Id).is ids)),(4,(Mv b)),(11,((tL tapi_Id).is ids)),(12,(I6.is (ids.length:Int)))] [(10,Mp tapi_Id tB v b)]
 refine W.lenL (s:=11) (.t rfl) fun hlen7=>Aw<|Ao rfl (.ltI (.t rfl) (.t rfl))<|An<|W.seq<|W.cond (.t rfl) (fun hc10=>?_) (fun hc10=>?_)
 ·have hp11:=of_decide_eq_true hc10
  obtain ⟨e,es,hrest13⟩:=range_more hxs5 hi6 hp11
  subst hrest13
  rw [M.unit_ids_loop1.eq_2] at hm
  refine W.skip<|Aq<|W.seq<|W.block<|Aw<|Ao rfl (.idxPre hxs5 hi6 U90 Z24 (.t rfl) (.t rfl))<|Ao rfl (.load ty24 (.t rfl))<|WL.opR rfl (OpR.alloc 6 ze24) fun b1=>WL.opU (OpR.storeB (b:=b1) 6 Z24 (Cellable.is tapi_Id e) rfl (.t rfl) (.t rfl)) fun _=>WL.sealed (t:=tapi_Id) (u:=e) 6 6 rfl rfl<|WL.nr1<|Am rfl rfl<|Ao rfl (.load ty24 (.t rfl))<|WL.opU (OpR.mapUpdate (b:=b) (v:=true) 10 U92 kt24 rfl (.t rfl) (.t rfl) .bool) fun _=>WL.nil<|WN.block ?_
  exact Aq<|W.region<|Ao rfl (.addI (.t rfl) .i64 (range_inR hi6 hp11 hlen7))<|Am rfl rfl<|WL.nil<|WN.again es.length (i+1,pre++ [e],es,mset v e true) (range_lt hn8) ⟨rfl,range_step hxs5,range_idx hi6,hm⟩ ⟨.q rfl,.q rfl,.q rfl,.q rfl,.q rfl,.q rfl,trivial⟩ ⟨rfl,rfl,trivial⟩
 ·have hrest13:=range_end hxs5 hi6 (of_decide_eq_false hc10)
  subst hrest13
  rw [M.unit_ids_loop1.eq_1] at hm
  refine W.exit rfl ?_
  have hr14:=Si hm
  clear hm
  subst hr14
  have hm:=hk4
  try dsimp only at hm
  refine Aq<|Aw<|Am rfl rfl<|Ao rfl (.build (s:=tapi_Id) (x:=(⟨(0:Int),(0:Int),(0:Int)⟩:api_Id)) zapi_Id_f rfl U24 (zapi_Id_sz _ U24) ze24 rfl)<|Ao rfl (.lookup 10 U92 kt24 ze4 rfl (.t rfl) (.t rfl))<|Ag rfl rfl<|An<|W.seq ?_
  rcases iteB hm with ⟨hp16,hb15,hm⟩ | ⟨hp16,hb15,hm⟩
  ·obtain ⟨_,hv17,hm⟩:=Bs hm
   rcases iteD hm with ⟨hp19,hb18,hm⟩ | ⟨hp19,hb18,hm⟩
   ·refine W.draw [.c _,.c _,.c _,.c _,.c _,.c _,.c _,.c _,.c _,.c _,.c _,.c _,.c _,.c _,.c _,.c _,.c _,.c _,.c _,.c _,.c _,.c _,.c _,.c _] [([],[7]),([0],[]),([1],[4]),([1,2],[]),([1,3],[]),([1,4],[]),([5],[]),([6],[4]),([6,7],[]),([6],[3]),([6,9],[]),([6,8,10],[]),([6,11],[]),([12],[1]),([12,13],[]),([12,14],[]),([12],[1]),([12,16],[]),([12],[]),([12,17,18],[]),([12,15,19],[]),([6,12,20],[]),([6,21],[]),([22],[])] Mx rfl rfl rfl rfl (by exact ⟨Dn (.move (.t rfl)),Dn (.move (.t rfl)),Dr rfl hb15 (.move (.t rfl)),Dr rfl hb15 (.lenM 10 U92 rfl (.t rfl) (growC_lim hv17)),Dr rfl hb15 (.eqI (.t rfl) .i64),Dn (.pickT (.t rfl) hb15 (.t rfl)),Dn (.move (.t rfl)),Dp rfl hb18,Dp rfl hb18,Dp rfl hb18,Dp rfl hb18,Dp rfl hb18,Dp rfl hb18,.inr ⟨_,_,true,rfl,rfl,.inr ⟨rfl,rfl⟩⟩,.inr ⟨_,_,true,rfl,rfl,.inr ⟨rfl,rfl⟩⟩,.inr ⟨_,_,true,rfl,rfl,.inr ⟨rfl,rfl⟩⟩,.inr ⟨_,_,true,rfl,rfl,.inr ⟨rfl,rfl⟩⟩,.inr ⟨_,_,true,rfl,rfl,.inr ⟨rfl,rfl⟩⟩,.inr ⟨_,_,true,rfl,rfl,.inr ⟨rfl,rfl⟩⟩,.inr ⟨_,_,true,rfl,rfl,.inr ⟨rfl,rfl⟩⟩,.inr ⟨_,_,true,rfl,rfl,.inr ⟨rfl,rfl⟩⟩,Dp rfl hb18,Dn (.pickT (.t rfl) hb18 .bool),Dn (.assign (.t rfl)),trivial⟩)<|WN.seq ?_
    cases hm
    exact W.ret1 () rfl (.t rfl) trivial
   ·obtain ⟨_,hv20,hm⟩:=Bs hm
    rcases iteD hm with ⟨hp22,hb21,hm⟩ | ⟨hp22,hb21,hm⟩
    ·refine W.draw [.c _,.c _,.c _,.c _,.c _,.c _,.c _,.c _,.c _,.c _,.c _,.c _,.c _,.c _,.c _,.c _,.c _,.c _,.c _,.c _,.c _,.c _,.c _,.c _] [([],[7]),([0],[]),([1],[4]),([1,2],[]),([1,3],[]),([1,4],[]),([5],[]),([6],[4]),([6,7],[]),([6],[3]),([6,9],[]),([6,8,10],[]),([6,11],[]),([12],[1]),([12,13],[]),([12,14],[]),([12],[1]),([12,16],[]),([12],[]),([12,17,18],[]),([12,15,19],[]),([6,12,20],[]),([6,21],[]),([22],[])] Mx rfl rfl rfl rfl (by exact ⟨Dn (.move (.t rfl)),Dn (.move (.t rfl)),Dr rfl hb15 (.move (.t rfl)),Dr rfl hb15 (.lenM 10 U92 rfl (.t rfl) (growC_lim hv17)),Dr rfl hb15 (.eqI (.t rfl) .i64),Dn (.pickT (.t rfl) hb15 (.t rfl)),Dn (.move (.t rfl)),Dr rfl hb18 (.move (.t rfl)),Dr rfl hb18 (.lenM 10 U92 rfl (.t rfl) (growC_lim hv20)),Dr rfl hb18 (.move (.t rfl)),Dr rfl hb18 (.lenL U90 (.t rfl)),Dr rfl hb18 (.eqI (.t rfl) (.t rfl)),Dr rfl hb18 (.move (.t rfl)),Dr rfl hb21 (.fieldAddr U28 rfl J3 fapi_Unit_1 (.t rfl)),Dr rfl hb21 (.load ty3 (.t rfl)),Dr rfl hb21 (.eqI (.t rfl) .i64),Dr rfl hb21 (.fieldAddr U28 rfl J24 fapi_Unit_0 (.t rfl)),Dr rfl hb21 (.load ty24 (.t rfl)),Dr rfl hb21 (.build (s:=tapi_Id) (x:=(⟨(0:Int),(0:Int),(0:Int)⟩:api_Id)) zapi_Id_f rfl U24 (zapi_Id_sz _ U24) ze24 rfl),Dr rfl hb21 (.eqSt (D:=2) rfl (by decide) eg24 eq24 (.t rfl) (.t rfl)),Dr rfl hb21 (.eqB U4 (.t rfl) (.t rfl)),Dr rfl hb18 (.pickT (.t rfl) hb21 (.t rfl)),Dn (.pickF (.t rfl) hb18 (.t rfl)),Dn (.assign (.t rfl)),trivial⟩)<|WN.seq ?_
     cases hm
     exact W.ret1 () rfl (.t rfl) trivial
    ·refine W.draw [.c _,.c _,.c _,.c _,.c _,.c _,.c _,.c _,.c _,.c _,.c _,.c _,.c _,.c _,.c _,.c _,.c _,.c _,.c _,.c _,.c _,.c _,.c _,.c _] [([],[7]),([0],[]),([1],[4]),([1,2],[]),([1,3],[]),([1,4],[]),([5],[]),([6],[4]),([6,7],[]),([6],[3]),([6,9],[]),([6,8,10],[]),([6,11],[]),([12],[1]),([12,13],[]),([12,14],[]),([12],[1]),([12,16],[]),([12],[]),([12,17,18],[]),([12,15,19],[]),([6,12,20],[]),([6,21],[]),([22],[])] Mx rfl rfl rfl rfl (by exact ⟨Dn (.move (.t rfl)),Dn (.move (.t rfl)),Dr rfl hb15 (.move (.t rfl)),Dr rfl hb15 (.lenM 10 U92 rfl (.t rfl) (growC_lim hv17)),Dr rfl hb15 (.eqI (.t rfl) .i64),Dn (.pickT (.t rfl) hb15 (.t rfl)),Dn (.move (.t rfl)),Dr rfl hb18 (.move (.t rfl)),Dr rfl hb18 (.lenM 10 U92 rfl (.t rfl) (growC_lim hv20)),Dr rfl hb18 (.move (.t rfl)),Dr rfl hb18 (.lenL U90 (.t rfl)),Dr rfl hb18 (.eqI (.t rfl) (.t rfl)),Dr rfl hb18 (.move (.t rfl)),Dp rfl hb21,Dp rfl hb21,Dp rfl hb21,Dp rfl hb21,Dp rfl hb21,Dp rfl hb21,Dp rfl hb21,Dp rfl hb21,Dr rfl hb18 (.pickF (.t rfl) hb21 .bool),Dn (.pickF (.t rfl) hb18 (.t rfl)),Dn (.assign (.t rfl)),trivial⟩)<|WN.seq ?_
     cases hm
     exact W.ret1 () rfl (.t rfl) trivial
  ·obtain ⟨_,hv23,hm⟩:=Bs hm
   rcases iteD hm with ⟨hp25,hb24,hm⟩ | ⟨hp25,hb24,hm⟩
   ·refine W.draw [.c (tB.is (mget v (⟨(0:Int),(0:Int),(0:Int)⟩:api_Id) false)),.c (tB.is (mget v (⟨(0:Int),(0:Int),(0:Int)⟩:api_Id) false)),.c _,.c _,.c _,.c (tB.is false),.c (tB.is false),.c _,.c _,.c _,.c _,.c (tB.is (decide ((v.length:Int)=(ids.length:Int)))),.c (tB.is (decide ((v.length:Int)=(ids.length:Int)))),.c _,.c _,.c (tB.is (decide (u.Kind=(0:Int)))),.c _,.c _,.c _,.c (tB.is (decide (u.Id=(⟨(0:Int),(0:Int),(0:Int)⟩:api_Id)))),.c (tB.is ((decide (u.Kind=(0:Int)))==(decide (u.Id=(⟨(0:Int),(0:Int),(0:Int)⟩:api_Id))))),.c (tB.is ((decide (u.Kind=(0:Int)))==(decide (u.Id=(⟨(0:Int),(0:Int),(0:Int)⟩:api_Id))))),.c (tB.is ((decide (u.Kind=(0:Int)))==(decide (u.Id=(⟨(0:Int),(0:Int),(0:Int)⟩:api_Id))))),.c (tB.is ((decide (u.Kind=(0:Int)))==(decide (u.Id=(⟨(0:Int),(0:Int),(0:Int)⟩:api_Id)))))] [([],[7]),([0],[]),([1],[4]),([1,2],[]),([1,3],[]),([1,4],[]),([5],[]),([6],[4]),([6,7],[]),([6],[3]),([6,9],[]),([6,8,10],[]),([6,11],[]),([12],[1]),([12,13],[]),([12,14],[]),([12],[1]),([12,16],[]),([12],[]),([12,17,18],[]),([12,15,19],[]),([6,12,20],[]),([6,21],[]),([22],[])] Mx rfl rfl rfl rfl (by exact ⟨Dn (.move (.t rfl)),Dn (.move (.t rfl)),Dp rfl hb15,Dp rfl hb15,Dp rfl hb15,Dn (.pickF (.t rfl) hb15 .bool),Dn (.move (.t rfl)),Dr rfl rfl (.move (.t rfl)),Dr rfl rfl (.lenM 10 U92 rfl (.t rfl) (growC_lim hv23)),Dr rfl rfl (.move (.t rfl)),Dr rfl rfl (.lenL U90 (.t rfl)),Dr rfl rfl (.eqI (.t rfl) (.t rfl)),Dr rfl rfl (.move (.t rfl)),Dr rfl hb24 (.fieldAddr U28 rfl J3 fapi_Unit_1 (.t rfl)),Dr rfl hb24 (.load ty3 (.t rfl)),Dr rfl hb24 (.eqI (.t rfl) .i64),Dr rfl hb24 (.fieldAddr U28 rfl J24 fapi_Unit_0 (.t rfl)),Dr rfl hb24 (.load ty24 (.t rfl)),Dr rfl hb24 (.build (s:=tapi_Id) (x:=(⟨(0:Int),(0:Int),(0:Int)⟩:api_Id)) zapi_Id_f rfl U24 (zapi_Id_sz _ U24) ze24 rfl),Dr rfl hb24 (.eqSt (D:=2) rfl (by decide) eg24 eq24 (.t rfl) (.t rfl)),Dr rfl hb24 (.eqB U4 (.t rfl) (.t rfl)),Dr rfl rfl (.pickT (.t rfl) hb24 (.t rfl)),Dn (.pickF (.t rfl) rfl (.t rfl)),Dn (.assign (.t rfl)),trivial⟩)<|WN.seq ?_
    cases hm
    exact W.ret1 () rfl (.t rfl) trivial
   ·refine W.draw [.c (tB.is (mget v (⟨(0:Int),(0:Int),(0:Int)⟩:api_Id) false)),.c (tB.is (mget v (⟨(0:Int),(0:Int),(0:Int)⟩:api_Id) false)),.c _,.c _,.c _,.c (tB.is false),.c (tB.is false),.c _,.c _,.c _,.c _,.c (tB.is (decide ((v.length:Int)=(ids.length:Int)))),.c (tB.is (decide ((v.length:Int)=(ids.length:Int)))),.c _,.c _,.c _,.c _,.c _,.c _,.c _,.c _,.c (tB.is false),.c (tB.is false),.c (tB.is false)] [([],[7]),([0],[]),([1],[4]),([1,2],[]),([1,3],[]),([1,4],[]),([5],[]),([6],[4]),([6,7],[]),([6],[3]),([6,9],[]),([6,8,10],[]),([6,11],[]),([12],[1]),([12,13],[]),([12,14],[]),([12],[1]),([12,16],[]),([12],[]),([12,17,18],[]),([12,15,19],[]),([6,12,20],[]),([6,21],[]),([22],[])] Mx rfl rfl rfl rfl (by exact ⟨Dn (.move (.t rfl)),Dn (.move (.t rfl)),Dp rfl hb15,Dp rfl hb15,Dp rfl hb15,Dn (.pickF (.t rfl) hb15 .bool),Dn (.move (.t rfl)),Dr rfl rfl (.move (.t rfl)),Dr rfl rfl (.lenM 10 U92 rfl (.t rfl) (growC_lim hv23)),Dr rfl rfl (.move (.t rfl)),Dr rfl rfl (.lenL U90 (.t rfl)),Dr rfl rfl (.eqI (.t rfl) (.t rfl)),Dr rfl rfl (.move (.t rfl)),Dp rfl hb24,Dp rfl hb24,Dp rfl hb24,Dp rfl hb24,Dp rfl hb24,Dp rfl hb24,Dp rfl hb24,Dp rfl hb24,Dr rfl rfl (.pickF (.t rfl) hb24 .bool),Dn (.pickF (.t rfl) rfl (.t rfl)),Dn (.assign (.t rfl)),trivial⟩)<|WN.seq ?_
    cases hm
    exact W.ret1 () rfl (.t rfl) trivial
theorem unit_Valid_spec(n:Nat)(u:api_Unit)(r:Bool)(hm:M.unit_Valid n u=some r):FSpecR Tryd.prog 15 [(tapi_Unit.is u)] [(700000,Gl (tA 8 tS) 0 gv0),(700002,Gl (tA 8 (tL I6)) 2 gv2)] (fun _:Unit=>(tB.is r)) (fun _=>[]):=by
 unfold M.unit_Valid at hm
 refine FSpecR.of Tryd.func15 rfl rfl rfl fun g0=>Aw<|Ao rfl (.box (.t rfl))<|Ao rfl (.assign .bool)<|Ar<|Ao rfl (.load ty28 (.t rfl)) ?_
 obtain ⟨every,hv1,hm⟩:=Bs hm
 refine Ao rfl (.callG (rin:=[(700000,Gl (tA 8 tS) 0 gv0),(700002,Gl (tA 8 (tL I6)) 2 gv2)]) C25 (unit_every_i0_spec _ _ _ hv1) ⟨rfl,rfl,trivial⟩ ⟨rfl,rfl,⟨rfl,rfl,trivial⟩⟩ ⟨(.t rfl),Opd.cloFn,trivial⟩)<|WL.mv rfl rfl ?_
 rcases iteB hm with ⟨hp3,hb2,hm⟩ | ⟨hp3,hb2,hm⟩
 ·refine Ax rfl hb2 (.load ty28 (.t rfl)) ?_
  obtain ⟨depth,hv4,hm⟩:=Bs hm
  refine Ax rfl hb2 (.call C27 (unit_Depth_spec _ _ _ hv4) ⟨(.t rfl),trivial⟩)<|Ax rfl hb2 (.leI (.t rfl) .i64)<|Ao rfl (.pickT (.t rfl) hb2 (.t rfl))<|WL.mv rfl rfl ?_
  rcases iteD hm with ⟨hp6,hb5,hm⟩ | ⟨hp6,hb5,hm⟩
  ·refine Ax rfl hb5 (.load ty28 (.t rfl)) ?_
   obtain ⟨count,hv7,hm⟩:=Bs hm
   refine Ax rfl hb5 (.call C28 (unit_Count_spec _ _ _ hv7) ⟨(.t rfl),trivial⟩)<|Ax rfl hb5 (.leI (.t rfl) .i64)<|Ao rfl (.pickT (.t rfl) hb5 (.t rfl))<|WL.mv rfl rfl ?_
   rcases iteD hm with ⟨hp9,hb8,hm⟩ | ⟨hp9,hb8,hm⟩
   ·refine Ax rfl hb8 (.load ty28 (.t rfl)) ?_
    obtain ⟨ids,hv10,hm⟩:=Bs hm
    refine Ax rfl hb8 (.call C29 (unit_ids_spec _ _ _ hv10) ⟨(.t rfl),trivial⟩)<|Ao rfl (.pickT (.t rfl) hb8 (.t rfl))<|Ag rfl rfl<|WL.ns ?_
    cases hm
    exact W.ret1 () rfl (.t rfl) trivial
   ·refine Ap rfl hb8<|Ap rfl hb8<|Ao rfl (.pickF (.t rfl) hb8 .bool)<|Ag rfl rfl<|WL.ns ?_
    cases hm
    exact W.ret1 () rfl (.t rfl) trivial
  ·refine Ap rfl hb5<|Ap rfl hb5<|Ap rfl hb5<|Ao rfl (.pickF (.t rfl) hb5 .bool)<|Am rfl rfl<|Ap rfl rfl<|Ap rfl rfl<|Ao rfl (.pickF (.t rfl) rfl .bool)<|Ag rfl rfl<|WL.ns ?_
   cases hm
   exact W.ret1 () rfl (.t rfl) trivial
 ·refine Ap rfl hb2<|Ap rfl hb2<|Ap rfl hb2<|Ao rfl (.pickF (.t rfl) hb2 .bool)<|Am rfl rfl<|Ap rfl rfl<|Ap rfl rfl<|Ap rfl rfl<|Ao rfl (.pickF (.t rfl) rfl .bool)<|Am rfl rfl<|Ap rfl rfl<|Ap rfl rfl<|Ao rfl (.pickF (.t rfl) rfl .bool)<|Ag rfl rfl<|WL.ns ?_
  cases hm
  exact W.ret1 () rfl (.t rfl) trivial
theorem plaintext_may_spec(n:Nat)(u:api_Unit)(depth:Int)(r:Bool)(hm:M.plaintext_may n u depth=some r):FSpecR Tryd.prog 31 [(tapi_Unit.is u),(I6.is depth)] [(700000,Gl (tA 8 tS) 0 gv0),(700002,Gl (tA 8 (tL I6)) 2 gv2)] (fun _:Unit=>(tB.is r)) (fun _=>[]):=by
 unfold M.plaintext_may at hm
 refine FSpecR.of Tryd.func31 rfl rfl rfl fun g0=>Aw<|WL.opR rfl (OpR.boxB 2 (Cellable.is tapi_Unit u) (.t rfl)) fun b=>Ao rfl (.assign .bool)<|Ar<|Ao rfl (.build (s:=tapi_Id) (x:=(⟨(0:Int),(0:Int),(0:Int)⟩:api_Id)) zapi_Id_f rfl U24 (zapi_Id_sz _ U24) ze24 rfl)<|Ao rfl (.fieldAddrB (o:=0) U28 rfl J24 (.t rfl) rfl)<|WL.opU (OpR.storeBF (b:=b) 2 rfl ty24 sapi_Unit_0 rfl (by decide) (.t rfl) (.t rfl)) fun _=>Ao rfl (.fieldAddrB (o:=0) U28 rfl J26 (.t rfl) rfl)<|WL.opU (OpR.storeBF (b:=b) 2 rfl ty26 sapi_Unit_5 rfl (by decide) (.t rfl) (.nil (t:=tapi_Unit))) fun _=>Ar<|Am rfl rfl<|Ao rfl (.geI (.t rfl) .i64)<|WL.mv rfl rfl ?_
 rcases iteD hm with ⟨hp2,hb1,hm⟩ | ⟨hp2,hb1,hm⟩
 ·refine Ax rfl hb1 (.move (.t rfl))<|Ax rfl hb1 (.leI (.t rfl) .i64)<|Ao rfl (.pickT (.t rfl) hb1 (.t rfl))<|WL.mv rfl rfl ?_
  rcases iteD hm with ⟨hp4,hb3,hm⟩ | ⟨hp4,hb3,hm⟩
  ·refine Ax rfl hb3 (.loadB 2 Y28 Z28 rfl (.t rfl)) ?_
   obtain ⟨strip,hv5,hm⟩:=Bs hm
   refine Ax rfl hb3 (.call C16 (unit_Strip_spec _ _ _ hv5) ⟨(.t rfl),trivial⟩) ?_
   obtain ⟨valid,hv6,hm⟩:=Bs hm
   refine Ax rfl hb3 (.callG (rin:=[(700000,Gl (tA 8 tS) 0 gv0),(700002,Gl (tA 8 (tL I6)) 2 gv2)]) C15 (unit_Valid_spec _ _ _ hv6) ⟨rfl,rfl,trivial⟩ ⟨rfl,rfl,⟨rfl,rfl,trivial⟩⟩ ⟨(.t rfl),trivial⟩)<|Ao rfl (.pickT (.t rfl) hb3 (.t rfl))<|Ag rfl rfl<|WL.ns ?_
   cases hm
   exact W.ret1 () rfl (.t rfl) trivial
  ·refine Ap rfl hb3<|Ap rfl hb3<|Ap rfl hb3<|Ao rfl (.pickF (.t rfl) hb3 .bool)<|Ag rfl rfl<|WL.ns ?_
   cases hm
   exact W.ret1 () rfl (.t rfl) trivial
 ·refine Ap rfl hb1<|Ap rfl hb1<|Ao rfl (.pickF (.t rfl) hb1 .bool)<|Am rfl rfl<|Ap rfl rfl<|Ap rfl rfl<|Ap rfl rfl<|Ao rfl (.pickF (.t rfl) rfl .bool)<|Ag rfl rfl<|WL.ns ?_
  cases hm
  exact W.ret1 () rfl (.t rfl) trivial
theorem strings_Repeat_spec(s:Str)(n r:_)(hm:repeatM s n=some r):FSpec Tryd.prog 32 [tS.is s,I6.is n] (tS.is r):=
 repeat_spec (fun s c w hc hl=>Tryd.strings_Repeat s c w hc hl) s n r hm
theorem plaintext_put_spec(line:Str)(w:List api_Word)(r:Str)(hm:M.plaintext_put line w=some r):FSpec Tryd.prog 34 [(tS.is line),((tL tapi_Word).is w)] (tS.is r):=by
 unfold M.plaintext_put at hm
 refine FSpec.of Tryd.func34 rfl rfl rfl fun g0=>Aw<|Ao rfl (.assign (.str rfl (by decide)))<|An<|W.seq<|Aw<|Am rfl rfl<|Ao rfl (.lenL U25 (.t rfl))<|Ao rfl (.move .i64)<|An<|W.block ?_
 obtain ⟨s1,hs2,hk3⟩:=Bs hm
 clear hm
 refine W.loop (fun m (s:Int×List api_Word×List api_Word×Str)=>m=s.2.2.1.length∧w=s.2.1++s.2.2.1∧s.1=(s.2.1.length:Int)∧M.plaintext_put_loop1 s.2.2.1 s.2.2.2=some s1) (fun s=>[(9,(I6.is s.1)),(0,(tS.is s.2.2.2)),(7,((tL tapi_Word).is w)),(8,(I6.is (w.length:Int)))]) (fun s=>[]) w.length ((0:Int),[],w,line) ⟨rfl,rfl,rfl,hs2⟩ ⟨.q rfl,.q rfl,.q rfl,.q rfl,trivial⟩ trivial ?_
 rintro m ⟨i,pre,rest1,line1⟩ ⟨hn7,hxs4,hi5,hm⟩
 try dsimp only at hn7 hxs4 hi5 hm
 change W _ _ _ _ _ _ _ [(9,(I6.is i)),(0,(tS.is line1)),(7,((tL tapi_Word).is w)),(8,(I6.is (w.length:Int)))] []
 refine W.lenL (s:=7) (.t rfl) fun hlen6=>Aw<|Ao rfl (.ltI (.t rfl) (.t rfl))<|An<|W.seq<|W.cond (.t rfl) (fun hc9=>?_) (fun hc9=>?_)
 ·have hp10:=of_decide_eq_true hc9
  obtain ⟨e,es,hrest12⟩:=range_more hxs4 hi5 hp10
  subst hrest12
  rw [M.plaintext_put_loop1.eq_2] at hm
  refine W.skip<|Aq<|W.seq<|W.block<|Aw<|Ao rfl (.idxPre hxs4 hi5 U25 Z54 (.t rfl) (.t rfl))<|Ao rfl (.load ty54 (.t rfl))<|WL.opR rfl (OpR.alloc 6 ze54) fun b=>WL.opU (OpR.storeB (b:=b) 6 Z54 (Cellable.is tapi_Word e) rfl (.t rfl) (.t rfl)) fun _=>WL.sealed (t:=tapi_Word) (u:=e) 6 6 rfl rfl<|Ar<|WL.mv rfl rfl ?_
  obtain ⟨v,hv13,hm⟩:=Bs hm
  refine Ao rfl (.catC hv13 (.t rfl) (.str rfl (by decide)))<|Ag rfl rfl<|An<|W.seq ?_
  obtain ⟨s14,hs15,hk16⟩:=Bs hm
  clear hm
  refine W.join (fun s:Bool=>s=s14) (fun s=>[(24,(tB.is s)),(0,(tS.is v)),(6,(tapi_Word.ptr e)),(7,((tL tapi_Word).is w)),(8,(I6.is (w.length:Int))),(9,(I6.is i))]) (fun s=>[]) ?_ ?_
  ·rintro v1 hj26
   try dsimp only at hj26
   subst hj26
   have hm:=hk16
   clear hk16
   try dsimp only at hm
   change W _ _ _ _ _ _ _ [(24,(tB.is v1)),(0,(tS.is v)),(6,(tapi_Word.ptr e)),(7,((tL tapi_Word).is w)),(8,(I6.is (w.length:Int))),(9,(I6.is i))] []
   refine W.cB hm (.t rfl) (fun hp22 hm=>?_) (fun hp22 hm=>?_)
   ·refine W.region<|WL.mv rfl rfl ?_
    obtain ⟨v2,hv23,hm⟩:=Bs hm
    refine Ao rfl (.catC hv23 (.t rfl) (.str rfl (by decide)))<|Ag rfl rfl<|WL.nr1<|Am rfl rfl<|Ao rfl (.fieldAddr U54 rfl J9 fapi_Word_0 (.t rfl))<|Ao rfl (.load ty9 (.t rfl)) ?_
    obtain ⟨v3,hv24,hm⟩:=Bs hm
    exact Ao rfl (.catC hv24 (.t rfl) (.t rfl))<|Ag rfl rfl<|WL.nil<|WN.block<|Aq<|W.region<|Ao rfl (.addI (.t rfl) .i64 (range_inR hi5 hp10 hlen6))<|Am rfl rfl<|WL.nil<|WN.again es.length (i+1,pre++ [e],es,v3) (range_lt hn7) ⟨rfl,range_step hxs4,range_idx hi5,hm⟩ ⟨.q rfl,.q rfl,.q rfl,.q rfl,trivial⟩ trivial
   ·refine W.skip<|Aq<|W.region<|Am rfl rfl<|Ao rfl (.fieldAddr U54 rfl J9 fapi_Word_0 (.t rfl))<|Ao rfl (.load ty9 (.t rfl)) ?_
    obtain ⟨v4,hv25,hm⟩:=Bs hm
    exact Ao rfl (.catC hv25 (.t rfl) (.t rfl))<|Ag rfl rfl<|WL.nil<|WN.block<|Aq<|W.region<|Ao rfl (.addI (.t rfl) .i64 (range_inR hi5 hp10 hlen6))<|Am rfl rfl<|WL.nil<|WN.again es.length (i+1,pre++ [e],es,v4) (range_lt hn7) ⟨rfl,range_step hxs4,range_idx hi5,hm⟩ ⟨.q rfl,.q rfl,.q rfl,.q rfl,trivial⟩ trivial
  ·have hm:=hs15
   clear hs15
   refine W.region<|Ao rfl (.fieldAddr U54 rfl J9 fapi_Word_0 (.t rfl))<|Ao rfl (.load ty9 (.t rfl)) ?_
   obtain ⟨b1,hv17,hm⟩:=Bs hm
   refine Ao rfl (.sidx hv17 U9 (.t rfl) .i64)<|Ao rfl (.eqI (.t rfl) (.int (inR8.2 (by omega))))<|WL.mv rfl rfl ?_
   rcases iteD hm with ⟨hp19,hb18,hm⟩ | ⟨hp19,hb18,hm⟩
   ·exact Ap rfl hb18<|Ap rfl hb18<|Ap rfl hb18<|Ap rfl hb18<|Ao rfl (.pickT (.t rfl) hb18 .bool)<|WL.nil<|WN.meet true (Si hm) ⟨.q rfl,.q rfl,.q rfl,.q rfl,.q rfl,.q rfl,trivial⟩ trivial
   ·refine Ax rfl hb18 (.fieldAddr U54 rfl J9 fapi_Word_0 (.t rfl))<|Ax rfl hb18 (.load ty9 (.t rfl)) ?_
    obtain ⟨b2,hv20,hm⟩:=Bs hm
    exact Ax rfl hb18 (.sidx hv20 U9 (.t rfl) .i64)<|Ax rfl hb18 (.eqI (.t rfl) (.int (inR8.2 (by omega))))<|Ao rfl (.pickF (.t rfl) hb18 (.t rfl))<|WL.nil<|WN.meet (decide ((b2.toNat:Int)=(92:Int))) (Si hm) ⟨.q rfl,.q rfl,.q rfl,.q rfl,.q rfl,.q rfl,trivial⟩ trivial
 ·have hrest12:=range_end hxs4 hi5 (of_decide_eq_false hc9)
  subst hrest12
  rw [M.plaintext_put_loop1.eq_1] at hm
  refine W.exit rfl ?_
  have hr27:=Si hm
  clear hm
  subst hr27
  have hm:=hk3
  try dsimp only at hm
  refine Aq<|Aw<|Am rfl rfl<|Ag rfl rfl<|WL.ns ?_
  cases hm
  exact W.ret1 () rfl (.t rfl) trivial
theorem plaintext_FormatLine_spec(n:Nat)(u:api_Unit)(depth:Int)(r:Str)(hm:M.plaintext_FormatLine n u depth=some r):FSpecR Tryd.prog 18 [(tapi_Unit.is u),(I6.is depth)] [(700000,Gl (tA 8 tS) 0 gv0),(700002,Gl (tA 8 (tL I6)) 2 gv2)] (fun _:Unit=>(tS.is r)) (fun _=>[]):=by
 unfold M.plaintext_FormatLine at hm
 refine FSpecR.of Tryd.func18 rfl rfl rfl fun g0=>Aw<|Ao rfl (.box (.t rfl))<|Ao rfl (.assign (.str rfl (by decide)))<|An<|W.seq<|Aw<|Ao rfl (.load ty28 (.t rfl))<|WL.mv rfl rfl ?_
 obtain ⟨may,hv1,hm⟩:=Bs hm
 refine Ao rfl (.callG (rin:=[(700000,Gl (tA 8 tS) 0 gv0),(700002,Gl (tA 8 (tL I6)) 2 gv2)]) C31 (plaintext_may_spec _ _ _ _ hv1) ⟨rfl,rfl,trivial⟩ ⟨rfl,rfl,⟨rfl,rfl,trivial⟩⟩ ⟨(.t rfl),(.t rfl),trivial⟩)<|Ao rfl (.notB (.t rfl))<|An<|W.cR hm (.t rfl) (fun hp3 hm=>?_) (fun hp3 hm=>?_)
 ·refine Aw<|Ao rfl (.assign (.str rfl (by decide)))<|WL.ns ?_
  cases hm
  exact W.ret1 () rfl (.t rfl) trivial
 ·refine W.skip<|Aq<|W.seq ?_
  obtain ⟨repeat0_,hv4,hm⟩:=Bs hm
  obtain ⟨kindna,hv5,hm⟩:=Bs hm
  obtain ⟨v,hv6,hm⟩:=Bs hm
  refine W.draw [.c _,.c _,.c _,.c _,.c _,.c _,.c _] [([],[1]),([0],[]),([],[2]),([2],[]),([3],[]),([1,4],[]),([5],[])] Mx rfl rfl rfl rfl ⟨Dn (.move (.t rfl)),Dn (.call C32 (strings_Repeat_spec _ _ _ hv4) ⟨(.str rfl (by decide)),(.t rfl),trivial⟩),Dn (.fieldAddr U28 rfl J3 fapi_Unit_1 (.t rfl)),Dn (.load ty3 (.t rfl)),Dn (.callG (rin:=[(700000,Gl (tA 8 tS) 0 gv0)]) C33 (unit_KindName_spec _ _ hv5) ⟨rfl,trivial⟩ ⟨rfl,rfl,trivial⟩ ⟨(.t rfl),trivial⟩),Dn (.catC hv6 (.t rfl) (.t rfl)),Dn (.assign (.t rfl)),trivial⟩<|WN.seq ?_
  obtain ⟨s7,hs8,hk9⟩:=Bs hm
  clear hm
  refine W.join (fun s:Str=>s=s7) (fun s=>[(5,(tS.is s)),(2,(tapi_Unit.ptr u))]) (fun s=>[(700000,Gl (tA 8 tS) 0 gv0),(700002,Gl (tA 8 (tL I6)) 2 gv2)]) ?_ ?_
  ·rintro s0_ hj26
   try dsimp only at hj26
   subst hj26
   have hm:=hk9
   clear hk9
   try dsimp only at hm
   change W _ _ _ _ _ _ _ [(5,(tS.is s0_)),(2,(tapi_Unit.ptr u))] [(700000,Gl (tA 8 tS) 0 gv0),(700002,Gl (tA 8 (tL I6)) 2 gv2)]
   obtain ⟨s14,hs15,hk16⟩:=Bs hm
   clear hm
   refine W.join (fun s:Str=>s=s14) (fun s=>[(5,(tS.is s)),(2,(tapi_Unit.ptr u))]) (fun s=>[(700000,Gl (tA 8 tS) 0 gv0),(700002,Gl (tA 8 (tL I6)) 2 gv2)]) ?_ ?_
   ·rintro s0_1 hj25
    try dsimp only at hj25
    subst hj25
    have hm:=hk16
    clear hk16
    try dsimp only at hm
    change W _ _ _ _ _ _ _ [(5,(tS.is s0_1)),(2,(tapi_Unit.ptr u))] [(700000,Gl (tA 8 tS) 0 gv0),(700002,Gl (tA 8 (tL I6)) 2 gv2)]
    refine W.seq<|Aw<|Ao rfl (.fieldAddr U28 rfl J25 fapi_Unit_4 (.t rfl))<|Ao rfl (.load ty25 (.t rfl))<|Ao rfl (.lenL U25 (.t rfl))<|Ao rfl (.gtI (.t rfl) .i64)<|An<|W.cD hm (.t rfl) (fun hp22 hm=>?_) (fun hp22 hm=>?_)
    ·refine W.region<|WL.mv rfl rfl ?_
     obtain ⟨v4,hv23,hm⟩:=Bs hm
     refine Ao rfl (.catC hv23 (.t rfl) (.str rfl (by decide)))<|Ao rfl (.fieldAddr U28 rfl J25 fapi_Unit_4 (.t rfl))<|Ao rfl (.load ty25 (.t rfl)) ?_
     obtain ⟨put1,hv24,hm⟩:=Bs hm
     refine Ao rfl (.call C34 (plaintext_put_spec _ _ _ hv24) ⟨(.t rfl),(.t rfl),trivial⟩)<|Ag rfl rfl<|Ar<|Am rfl rfl<|Ag rfl rfl<|WL.ns ?_
     cases hm
     exact W.ret1 () rfl (.t rfl) trivial
    ·refine W.skip<|Aq<|Aw<|Am rfl rfl<|Ag rfl rfl<|WL.ns ?_
     cases hm
     exact W.ret1 () rfl (.t rfl) trivial
   ·have hm:=hs15
    clear hs15
    refine Aw<|Ao rfl (.fieldAddr U28 rfl J25 fapi_Unit_3 (.t rfl))<|Ao rfl (.load ty25 (.t rfl))<|Ao rfl (.lenL U25 (.t rfl))<|Ao rfl (.gtI (.t rfl) .i64)<|An<|W.cD hm (.t rfl) (fun hp18 hm=>?_) (fun hp18 hm=>?_)
    ·refine W.region<|WL.mv rfl rfl ?_
     obtain ⟨v3,hv19,hm⟩:=Bs hm
     refine Ao rfl (.catC hv19 (.t rfl) (.str rfl (by decide)))<|Ao rfl (.fieldAddr U28 rfl J25 fapi_Unit_3 (.t rfl))<|Ao rfl (.load ty25 (.t rfl)) ?_
     obtain ⟨put,hv20,hm⟩:=Bs hm
     exact Ao rfl (.call C34 (plaintext_put_spec _ _ _ hv20) ⟨(.t rfl),(.t rfl),trivial⟩)<|Ag rfl rfl<|WL.nil<|WN.meet put (Si hm) ⟨.q rfl,.q rfl,trivial⟩ ⟨rfl,rfl,⟨rfl,rfl,trivial⟩⟩
    ·exact W.skip<|WN.meet s0_ (Si hm) ⟨.q rfl,.q rfl,trivial⟩ ⟨rfl,rfl,⟨rfl,rfl,trivial⟩⟩
  ·have hm:=hs8
   clear hs8
   refine Aw<|Ao rfl (.fieldAddr U28 rfl J3 fapi_Unit_1 (.t rfl))<|Ao rfl (.load ty3 (.t rfl))<|Ao rfl (.neI (.t rfl) .i64)<|An<|W.cD hm (.t rfl) (fun hp11 hm=>?_) (fun hp11 hm=>?_)
   ·refine W.region<|Am rfl rfl<|Ao rfl (.fieldAddr U28 rfl J9 fapi_Unit_2 (.t rfl))<|Ao rfl (.load ty9 (.t rfl)) ?_
    obtain ⟨v1,hv12,hm⟩:=Bs hm
    refine Ao rfl (.catC hv12 (.str rfl (by decide)) (.t rfl)) ?_
    obtain ⟨v2,hv13,hm⟩:=Bs hm
    exact Ao rfl (.catC hv13 (.t rfl) (.t rfl))<|Ag rfl rfl<|WL.nil<|WN.meet v2 (Si hm) ⟨.q rfl,.q rfl,trivial⟩ ⟨rfl,rfl,⟨rfl,rfl,trivial⟩⟩
   ·exact W.skip<|WN.meet v (Si hm) ⟨.q rfl,.q rfl,trivial⟩ ⟨rfl,rfl,⟨rfl,rfl,trivial⟩⟩
theorem plaintext_Lines_1_spec:∀ (n:Nat) (u:api_Unit) (depth:Int) (c:List Str) (b:Nat) (k:Tok) (b1:Nat) (r:List Str),M.plaintext_Lines_1 n u depth c=some r→FSpecR Tryd.prog 17 [(tapi_Unit.is u),(I6.is depth),(Bp b 0),(Bp b1 0)] [(2,(Bx 1 false 35 (tO tS k c) b)),(1000002,Dec.Own tS 9 k c.length),(3,(Bx 1 false 49 (cloA 17 [(Bp b 0),(Bp b1 0)]) b1)),(700000,Gl (tA 8 tS) 0 gv0),(700002,Gl (tA 8 (tL I6)) 2 gv2)] (fun kx:Tok=>(Asn.eq (.tuple #[]))) (fun kx:Tok=>[(2,(Bx 1 false 35 (tO tS kx r) b)),(1000002,Dec.Own tS 9 kx r.length),(3,(Bx 1 false 49 (cloA 17 [(Bp b 0),(Bp b1 0)]) b1)),(700000,Gl (tA 8 tS) 0 gv0),(700002,Gl (tA 8 (tL I6)) 2 gv2)]):=by
 intro n
 induction n with
 | zero=>intro u depth c b k b1 r hm;cases hm
 | succ n ih=>
  intro u depth c b k b1 r hm
  rw [M.plaintext_Lines_1.eq_2] at hm
  refine FSpecR.of Tryd.func17 rfl rfl rfl fun g0=>Aw<|Ao rfl (.box (.t rfl))<|An<|W.seq ?_
  obtain ⟨format,hv1,hm⟩:=Bs hm
  obtain ⟨out,hv2,hm⟩:=Bs hm
  refine W.weakR (res':=[(1000002,Dec.Own tS 9 k c.length),(2,(Bx 1 false 35 (tO tS k c) b)),(3,(Bx 1 false 49 (cloA 17 [(Bp b 0),(Bp b1 0)]) b1)),(700000,Gl (tA 8 tS) 0 gv0),(700002,Gl (tA 8 (tL I6)) 2 gv2)]) ⟨rfl,rfl,⟨rfl,rfl,⟨rfl,rfl,⟨rfl,rfl,⟨rfl,rfl,trivial⟩⟩⟩⟩⟩<|W.drawM [.c (tO tS k c),.c (tapi_Unit.is u),.c (I6.is depth),.c (tS.is format),.c ((tL tS).is [format]),.f (fun cv=>(tO tS (cv 0) out)),.c Asn.any] [([],[2]),([],[4]),([],[1]),([1,2],[]),([3],[]),([0,4],[]),([5],[2])] [5,6] [[],[],[],[],[],[true],[]] (fun m cv=>match m with | 0=>[(1000002,Dec.Own tS 9 k c.length),(2,(Bx 1 false 35 (tO tS k c) b)),(3,(Bx 1 false 49 (cloA 17 [(Bp b 0),(Bp b1 0)]) b1)),(700000,Gl (tA 8 tS) 0 gv0),(700002,Gl (tA 8 (tL I6)) 2 gv2)] | 1=>[(1000002,Dec.Own tS 9 (cv 0) out.length),(2,(Bx 1 false 35 (tO tS k c) b)),(3,(Bx 1 false 49 (cloA 17 [(Bp b 0),(Bp b1 0)]) b1)),(700000,Gl (tA 8 tS) 0 gv0),(700002,Gl (tA 8 (tL I6)) 2 gv2)] | _=>[(2,(Bx 1 false 35 (tO tS (cv 0) out) b)),(1000002,Dec.Own tS 9 (cv 0) out.length),(3,(Bx 1 false 49 (cloA 17 [(Bp b 0),(Bp b1 0)]) b1)),(700000,Gl (tA 8 tS) 0 gv0),(700002,Gl (tA 8 (tL I6)) 2 gv2)]) (fun _=>none) Mx rfl rfl rfl rfl rfl ⟨fun _ _ _ _=>rfl,⟨fun _ _ _ _=>rfl,⟨fun _ _ _ _=>rfl,⟨fun _ _ _ _=>rfl,⟨fun _ _ _ _=>rfl,⟨fun m hm c t=>by simp only [DA.at,upd_dep (r:=[true]) (j:=0) rfl hm],⟨fun _ _ _ _=>rfl,trivial⟩⟩⟩⟩⟩⟩⟩ rfl ⟨.inr ⟨fun cv=>[(2,(Bx 1 false 35 (tO tS k c) b))],(AllUpTo.at ⟨⟨(fun _ _=>⟨rfl,rfl,trivial⟩),(fun hw=>absurd hw (by decide))⟩,(fun hw=>absurd hw (by decide))⟩),fun cv=>Op1.loadB 2 Y35 Z35 rfl (.t rfl)⟩,⟨mo fun cv=>Op1.load ty28 (.t rfl),⟨mo fun cv=>Op1.move (.t rfl),⟨.inr ⟨fun cv=>[(700000,Gl (tA 8 tS) 0 gv0),(700002,Gl (tA 8 (tL I6)) 2 gv2)],(AllUpTo.at ⟨⟨(fun _ _=>⟨rfl,rfl,⟨rfl,rfl,trivial⟩⟩),(fun hw=>absurd hw (by decide))⟩,(fun hw=>absurd hw (by decide))⟩),fun cv=>Op1.callG (rin:=[(700000,Gl (tA 8 tS) 0 gv0),(700002,Gl (tA 8 (tL I6)) 2 gv2)]) C18 (plaintext_FormatLine_spec _ _ _ _ hv1) ⟨rfl,rfl,trivial⟩ ⟨rfl,rfl,⟨rfl,rfl,trivial⟩⟩ ⟨(.t rfl),(.t rfl),trivial⟩⟩,⟨mo fun cv=>Op1.buildSlice (n:=1) (ys:=[(0,format)]) (z:=([]:Str)) (xs:=[format]) U35 el9 ze9 ⟨rfl,(.t rfl),trivial⟩ (by simp) (by decide) rfl,⟨.inl rfl,⟨.inl rfl,trivial⟩⟩⟩⟩⟩⟩⟩ ⟨⟨_,_,_,[1000002],(fun cv=>[(1000002,Dec.Own tS 9 (cv 0) out.length)]),rfl,rfl,rfl,rfl,fun _=>rfl,fun _ _=>rfl,fun cv=>OpR.appC (key:=1000002) hv2 U35 el9 (.t rfl) (.t rfl) rfl⟩,⟨⟨_,_,_,[2],(fun cv=>[(2,(Bx 1 false 35 (tO tS (cv 0) out) b))]),rfl,rfl,rfl,rfl,fun _=>rfl,fun _ _=>rfl,fun cv=>OpR.viaU (OpR.storeB (b:=b) 2 Z35 (Cellable.o tS (cv 0) out) rfl (.t rfl) (.t rfl))⟩,trivial⟩⟩ fun cv=>Aq<|Aw<|Ao rfl (.fieldAddr U28 rfl J26 fapi_Unit_5 (.t rfl))<|Ao rfl (.load ty26 (.t rfl))<|Ao rfl (.lenL U26 (.t rfl))<|Ao rfl (.move .i64)<|An<|W.block ?_
  obtain ⟨s3,hs4,hk5⟩:=Bs hm
  clear hm
  refine W.loop (fun m (s:Int×List api_Unit×List api_Unit×(((List Str))×Tok))=>m=s.2.2.1.length∧u.Kids=s.2.1++s.2.2.1∧s.1=(s.2.1.length:Int)∧M.plaintext_Lines_1_loop1 depth (M.plaintext_Lines_1 n) s.2.2.1 s.2.2.2.1=some s3) (fun s=>[(17,(I6.is s.1)),(1,(I6.is depth)),(3,(Bp b1 0)),(15,((tL tapi_Unit).is u.Kids)),(16,(I6.is (u.Kids.length:Int)))]) (fun s=>[(1000002,Dec.Own tS 9 s.2.2.2.2 s.2.2.2.1.length),(2,(Bx 1 false 35 (tO tS s.2.2.2.2 s.2.2.2.1) b)),(3,(Bx 1 false 49 (cloA 17 [(Bp b 0),(Bp b1 0)]) b1)),(700000,Gl (tA 8 tS) 0 gv0),(700002,Gl (tA 8 (tL I6)) 2 gv2)]) u.Kids.length ((0:Int),[],u.Kids,(out,(cv 0))) ⟨rfl,rfl,rfl,hs4⟩ ⟨.q rfl,.q rfl,.q rfl,.q rfl,.q rfl,trivial⟩ ⟨rfl,rfl,⟨rfl,rfl,⟨rfl,rfl,⟨rfl,rfl,⟨rfl,rfl,trivial⟩⟩⟩⟩⟩ ?_
  rintro m ⟨i,pre,rest1,⟨v,k1⟩⟩ ⟨hn9,hxs6,hi7,hm⟩
  try dsimp only at hn9 hxs6 hi7 hm
  change W _ _ _ _ _ _ _ [(17,(I6.is i)),(1,(I6.is depth)),(3,(Bp b1 0)),(15,((tL tapi_Unit).is u.Kids)),(16,(I6.is (u.Kids.length:Int)))] [(1000002,Dec.Own tS 9 k1 v.length),(2,(Bx 1 false 35 (tO tS k1 v) b)),(3,(Bx 1 false 49 (cloA 17 [(Bp b 0),(Bp b1 0)]) b1)),(700000,Gl (tA 8 tS) 0 gv0),(700002,Gl (tA 8 (tL I6)) 2 gv2)]
  refine W.lenL (s:=15) (.t rfl) fun hlen8=>Aw<|Ao rfl (.ltI (.t rfl) (.t rfl))<|An<|W.seq<|W.cond (.t rfl) (fun hc11=>?_) (fun hc11=>?_)
  ·have hp12:=of_decide_eq_true hc11
   obtain ⟨e,es,hrest14⟩:=range_more hxs6 hi7 hp12
   subst hrest14
   rw [M.plaintext_Lines_1_loop1.eq_2] at hm
   refine W.skip<|Aq<|W.seq<|W.block<|Aw<|Ao rfl (.idxPre hxs6 hi7 U26 Z28 (.t rfl) (.t rfl))<|Ao rfl (.load ty28 (.t rfl))<|WL.opR rfl (OpR.alloc 7 ze28) fun b2=>WL.opU (OpR.storeB (b:=b2) 7 Z28 (Cellable.is tapi_Unit e) rfl (.t rfl) (.t rfl)) fun _=>WL.sealed (t:=tapi_Unit) (u:=e) 7 7 rfl rfl<|WL.nr1<|Ao rfl (.loadB 3 Y49 Z49 rfl (.t rfl))<|Ao rfl (.load ty28 (.t rfl))<|WL.mv rfl rfl ?_
   obtain ⟨v1,hv15,hm⟩:=Bs hm
   refine Ao rfl (.addC hv15 (.t rfl) .i64) ?_
   obtain ⟨w,hv16,hm⟩:=Bs hm
   exact WL.weakR (res':=[(2,(Bx 1 false 35 (tO tS k1 v) b)),(1000002,Dec.Own tS 9 k1 v.length),(3,(Bx 1 false 49 (cloA 17 [(Bp b 0),(Bp b1 0)]) b1)),(700000,Gl (tA 8 tS) 0 gv0),(700002,Gl (tA 8 (tL I6)) 2 gv2)]) ⟨rfl,rfl,⟨rfl,rfl,⟨rfl,rfl,⟨rfl,rfl,⟨rfl,rfl,trivial⟩⟩⟩⟩⟩<|WL.opR rfl (OpR.callClo (us:=[2,1000002,3,700000,700002]) (A:=fun kx:Tok=>(Asn.eq (.tuple #[]))) (As:=[tapi_Unit.is e,I6.is v1]) C17 (.t rfl) (FSpecR.keys (rin':=[(2,(Bx 1 false 35 (tO tS k1 v) b)),(1000002,Dec.Own tS 9 k1 v.length),(3,(Bx 1 false 49 (cloA 17 [(Bp b 0),(Bp b1 0)]) b1)),(700000,Gl (tA 8 tS) 0 gv0),(700002,Gl (tA 8 (tL I6)) 2 gv2)]) (out':=fun kx:Tok=>[(2,(Bx 1 false 35 (tO tS kx w) b)),(1000002,Dec.Own tS 9 kx w.length),(3,(Bx 1 false 49 (cloA 17 [(Bp b 0),(Bp b1 0)]) b1)),(700000,Gl (tA 8 tS) 0 gv0),(700002,Gl (tA 8 (tL I6)) 2 gv2)]) (ih _ _ _ _ _ _ _ hv16) rfl (fun _=>rfl)) rfl ⟨(.t rfl),(.t rfl),trivial⟩) fun k2=>WL.nil<|WN.block<|Aq<|W.region<|Ao rfl (.addI (.t rfl) .i64 (range_inR hi7 hp12 hlen8))<|Am rfl rfl<|WL.nil<|WN.again es.length (i+1,pre++ [e],es,(w,k2)) (range_lt hn9) ⟨rfl,range_step hxs6,range_idx hi7,hm⟩ ⟨.q rfl,.q rfl,.q rfl,.q rfl,.q rfl,trivial⟩ ⟨rfl,rfl,⟨rfl,rfl,⟨rfl,rfl,⟨rfl,rfl,⟨rfl,rfl,trivial⟩⟩⟩⟩⟩
  ·have hrest14:=range_end hxs6 hi7 (of_decide_eq_false hc11)
   subst hrest14
   rw [M.plaintext_Lines_1_loop1.eq_1] at hm
   refine W.exit rfl ?_
   have hr17:=Si hm
   clear hm
   subst hr17
   have hm:=hk5
   try dsimp only at hm
   have hr:=Si hm
   clear hm
   subst hr
   exact WN.fin k1 rfl (fun _=>rfl) ⟨rfl,rfl,⟨rfl,rfl,⟨rfl,rfl,⟨rfl,rfl,⟨rfl,rfl,trivial⟩⟩⟩⟩⟩
theorem plaintext_Lines_spec(n:Nat)(u:api_Unit)(r:(List Str))(hm:M.plaintext_Lines n u=some r):FSpecR Tryd.prog 8 [(tapi_Unit.is u)] [(700000,Gl (tA 8 tS) 0 gv0),(700002,Gl (tA 8 (tL I6)) 2 gv2)] (fun _:Unit=>((tL tS).is r)) (fun _=>[]):=by
 unfold M.plaintext_Lines at hm
 refine FSpecR.of Tryd.func8 rfl rfl rfl fun g0=>Aw<|Ao rfl (.box (.t rfl))<|Ao rfl (.assign (.nil (t:=tS)))<|An<|W.seq<|Aw<|Ao rfl (.load ty28 (.t rfl)) ?_
 obtain ⟨strip,hv1,hm⟩:=Bs hm
 refine Ao rfl (.call C16 (unit_Strip_spec _ _ _ hv1) ⟨(.t rfl),trivial⟩) ?_
 obtain ⟨valid,hv2,hm⟩:=Bs hm
 refine Ao rfl (.callG (rin:=[(700000,Gl (tA 8 tS) 0 gv0),(700002,Gl (tA 8 (tL I6)) 2 gv2)]) C15 (unit_Valid_spec _ _ _ hv2) ⟨rfl,rfl,trivial⟩ ⟨rfl,rfl,⟨rfl,rfl,trivial⟩⟩ ⟨(.t rfl),trivial⟩)<|Ao rfl (.notB (.t rfl))<|An<|W.cR hm (.t rfl) (fun hp4 hm=>?_) (fun hp4 hm=>?_)
 ·refine Aw<|Ao rfl (.assign (.nil (t:=tS)))<|WL.ns ?_
  cases hm
  exact W.ret1 () rfl (.t rfl) trivial
 ·refine W.skip<|Aq<|Aw<|WL.addNil (t:=tS) (E:=9) 1000003<|WL.opR rfl (OpR.allocO (t:=tS) 3 Tryd.zeroValue35) fun b=>Ar<|WL.opR rfl (OpR.allocF 4 Tryd.zeroValue49) fun b1=>Ar<|Ao rfl (.makeClo (Cs:=[(Bp b 0),(Bp b1 0)]) (cap:=[.tmp 3,.tmp 4]) ⟨(.t rfl),(.t rfl),trivial⟩)<|WL.opU (OpR.storeB (b:=b1) 4 Z49 (Cellable.clo 17 _) rfl (.t rfl) (.t rfl)) fun _=>Ar<|Ao rfl (.loadB 4 Y49 Z49 rfl (.t rfl))<|Ao rfl (.load ty28 (.t rfl)) ?_
  obtain ⟨out,hv5,hm⟩:=Bs hm
  refine WL.weakR (res':=[(3,(Bx 1 false 35 (tO tS (none:Tok) ([]:List Str)) b)),(1000003,Dec.Own tS 9 (none:Tok) ([]:List Str).length),(4,(Bx 1 false 49 (cloA 17 [(Bp b 0),(Bp b1 0)]) b1)),(700000,Gl (tA 8 tS) 0 gv0),(700002,Gl (tA 8 (tL I6)) 2 gv2)]) ⟨rfl,rfl,⟨rfl,rfl,⟨rfl,rfl,⟨rfl,rfl,⟨rfl,rfl,trivial⟩⟩⟩⟩⟩<|WL.opR rfl (OpR.callClo (us:=[3,1000003,4,700000,700002]) (A:=fun kx:Tok=>(Asn.eq (.tuple #[]))) (As:=[tapi_Unit.is u,I6.is (0:Int)]) C17 (.t rfl) (FSpecR.keys (rin':=[(3,(Bx 1 false 35 (tO tS (none:Tok) ([]:List Str)) b)),(1000003,Dec.Own tS 9 (none:Tok) ([]:List Str).length),(4,(Bx 1 false 49 (cloA 17 [(Bp b 0),(Bp b1 0)]) b1)),(700000,Gl (tA 8 tS) 0 gv0),(700002,Gl (tA 8 (tL I6)) 2 gv2)]) (out':=fun kx:Tok=>[(3,(Bx 1 false 35 (tO tS kx out) b)),(1000003,Dec.Own tS 9 kx out.length),(4,(Bx 1 false 49 (cloA 17 [(Bp b 0),(Bp b1 0)]) b1)),(700000,Gl (tA 8 tS) 0 gv0),(700002,Gl (tA 8 (tL I6)) 2 gv2)]) (plaintext_Lines_1_spec _ _ _ _ _ _ _ _ hv5) rfl (fun _=>rfl)) rfl ⟨(.t rfl),.i64,trivial⟩) fun k=>Ar<|Ao rfl (.loadB 3 Y35 Z35 rfl (.t rfl))<|Ag rfl rfl<|WL.ns ?_
  cases hm
  exact W.ret1 () rfl (Opd.own (.t rfl)) trivial
theorem strings_Builder_Grow_spec(n:Int)(b:Nat){u:Unit}(hm:growC n=some u):FSpecR Tryd.prog 22 [Bp b 0,I6.is n] [(0,Bx 2 true 61 (bldA none [] b) b),(1,Dec.Own (tI .u8) 5 none 0)] (fun _:Tok=>Asn.eq (.tuple #[])) (fun k=>[(0,Bx 2 true 61 (bldA k [] b) b),(1,Dec.Own (tI .u8) 5 k 0)]):=
 FSpecR.bldGrow bld_used bld_fresh bld_Grow 0 1 n b hm
theorem strings_Builder_WriteString_spec(l m r:Str)(k:Tok)(b:Nat)(hm:appC l m=some r):FSpecR Tryd.prog 23 [Bp b 0,tS.is m] [(0,Bx 2 true 61 (bldA k l b) b),(1,Dec.Own (tI .u8) 5 k l.length)] (fun _:Tok=>Asn.any) (fun kx=>[(0,Bx 2 true 61 (bldA kx r b) b),(1,Dec.Own (tI .u8) 5 kx r.length)]):=by
 refine FSpecR.of Tryd.func23 rfl rfl rfl fun g0=>Aw<|Ao rfl (.assign Opd.const)<|Ao rfl (.assign Opd.const)<|Ar<|Am rfl rfl<|WL.opR rfl (OpR.call (us:=[0]) C43 (FSpecR.bldCheck bld_used bld_fresh 0 k l b) rfl ⟨(.t rfl),trivial⟩) fun _=>Ar<|Am rfl rfl<|Am rfl rfl<|Ao rfl (.nilCheckB (.t rfl))<|Ao rfl (.fieldAddrB (o:=0) Tryd.underlying61 rfl J59 (.t rfl) rfl)<|Ao rfl (.loadBld 0 Y59 Z59 rfl (.t rfl))<|Am rfl rfl<|WL.opR rfl (OpR.appendS (key:=1) hm U59 U9 el5 (.t rfl) (.t rfl) rfl) fun k2=>Ao rfl (.nilCheckB (.t rfl)) ?_
 exact Ao rfl (.fieldAddrB (o:=0) Tryd.underlying61 rfl J59 (.t rfl) rfl)<|WL.opU (OpR.storeBld (b:=b) 0 Z59 rfl (.t rfl) (.t rfl)) fun _=>Ar<|Am rfl rfl<|Ao rfl (.lenS U9 (.t rfl))<|Ag rfl rfl<|Ao rfl (.assign Opd.const)<|WL.nil<|Aq<|W.boxV (A':=bldA k2 r b) 0 rfl (fun _ _=>bldU_A)<|W.retAny2 k2 rfl rfl ⟨rfl,rfl,rfl,rfl,trivial⟩
theorem strings_Builder_String_spec(k:Tok)(l:Str)(b:Nat):FSpecR Tryd.prog 24 [Bp b 0] [(0,Bx 2 true 61 (bldA k l b) b),(1,Dec.Own (tI .u8) 5 k l.length)] (fun _:Unit=>tS.is l) (fun _=>[]):=
 FSpecR.bldString U85 (by kernel_rfl) bld_str 0 1 k l b
theorem strings_Join_spec(elems:List Str)(sep:Str)(r:Str)(hm:M.strings_Join elems sep=some r):FSpec Tryd.prog 14 [((tL tS).is elems),(tS.is sep)] (tS.is r):=by
 unfold M.strings_Join at hm
 refine FSpec.of Tryd.func14 rfl rfl rfl fun g0=>Aw<|Ao rfl (.assign (.str rfl (by decide)))<|An<|W.seq<|Aw<|Am rfl rfl<|Ao rfl (.lenL U35 (.t rfl))<|An<|W.block<|Aw<|Ao rfl (.eqI (.t rfl) .i64)<|Ag rfl rfl<|An<|W.cD hm (.t rfl) (fun hp2 hm=>?_) (fun hp2 hm=>?_)
 ·refine Aw<|Ao rfl (.assign (.str rfl (by decide)))<|WL.ns ?_
  cases hm
  exact W.ret1 () rfl (.t rfl) trivial
 ·refine Aw<|Ao rfl (.eqI (.t rfl) .i64)<|Ag rfl rfl<|An<|W.cD hm (.t rfl) (fun hp4 hm=>?_) (fun hp4 hm=>?_)
  ·refine Aw<|WL.mv rfl rfl ?_
   obtain ⟨v,hv5,hm⟩:=Bs hm
   refine Ao rfl (.idx hv5 U35 Z9 (.t rfl) .i64)<|Ao rfl (.load ty9 (.t rfl))<|Ag rfl rfl<|WL.ns ?_
   cases hm
   exact W.ret1 () rfl (.t rfl) trivial
  ·refine W.skip<|WN.block<|Aq<|Aw<|Ao rfl (.assign .i64)<|WL.ns ?_
   obtain ⟨s6,hs7,hk8⟩:=Bs hm
   clear hm
   refine W.join (fun s:Int=>s=s6) (fun s=>[(5,(I6.is s)),(0,((tL tS).is elems)),(1,(tS.is sep))]) (fun s=>[]) ?_ ?_
   ·rintro n0_ hj58
    try dsimp only at hj58
    subst hj58
    have hm:=hk8
    clear hk8
    try dsimp only at hm
    change W _ _ _ _ _ _ _ [(5,(I6.is n0_)),(0,((tL tS).is elems)),(1,(tS.is sep))] []
    refine W.seq<|Aw<|Am rfl rfl<|Ao rfl (.lenL U35 (.t rfl))<|Ao rfl (.move .i64)<|An<|W.block ?_
    obtain ⟨s22,hs23,hk24⟩:=Bs hm
    clear hm
    refine W.loop (fun m (s:Int×List Str×List Str×Int)=>m=s.2.2.1.length∧elems=s.2.1++s.2.2.1∧s.1=(s.2.1.length:Int)∧M.strings_Join_loop1 s.2.2.1 s.2.2.2=some s22) (fun s=>[(41,(I6.is s.1)),(5,(I6.is s.2.2.2)),(0,((tL tS).is elems)),(1,(tS.is sep)),(39,((tL tS).is elems)),(40,(I6.is (elems.length:Int)))]) (fun s=>[]) elems.length ((0:Int),[],elems,n0_) ⟨rfl,rfl,rfl,hs23⟩ ⟨.q rfl,.q rfl,.q rfl,.q rfl,.q rfl,.q rfl,trivial⟩ trivial ?_
    rintro m ⟨i,pre,rest3,n0_1⟩ ⟨hn28,hxs25,hi26,hm⟩
    try dsimp only at hn28 hxs25 hi26 hm
    change W _ _ _ _ _ _ _ [(41,(I6.is i)),(5,(I6.is n0_1)),(0,((tL tS).is elems)),(1,(tS.is sep)),(39,((tL tS).is elems)),(40,(I6.is (elems.length:Int)))] []
    refine W.lenL (s:=39) (.t rfl) fun hlen27=>Aw<|Ao rfl (.ltI (.t rfl) (.t rfl))<|An<|W.seq<|W.cond (.t rfl) (fun hc30=>?_) (fun hc30=>?_)
    ·have hp31:=of_decide_eq_true hc30
     obtain ⟨e,es,hrest33⟩:=range_more hxs25 hi26 hp31
     subst hrest33
     rw [M.strings_Join_loop1.eq_2] at hm
     refine W.skip<|Aq<|W.seq<|W.block<|Aw<|Ao rfl (.idxPre hxs25 hi26 U35 Z9 (.t rfl) (.t rfl))<|Ao rfl (.load ty9 (.t rfl))<|Ag rfl rfl<|An<|W.seq<|Aw<|Am rfl rfl<|Ao rfl (.lenS U9 (.t rfl))<|WL.mv rfl rfl ?_
     obtain ⟨v6,hv34,hm⟩:=Bs hm
     refine Ao rfl (.subC hv34 .i64 (.t rfl))<|Ao rfl (.gtI (.t rfl) (.t rfl))<|An<|W.cD hm (.t rfl) (fun hp36 hm=>?_) (fun hp36 hm=>?_)
     ·cases hm
     ·refine W.skip<|Aq<|W.region<|Am rfl rfl<|Am rfl rfl<|Ao rfl (.lenS U9 (.t rfl)) ?_
      obtain ⟨v7,hv37,hm⟩:=Bs hm
      exact Ao rfl (.addC hv37 (.t rfl) (.t rfl))<|Ag rfl rfl<|WL.nil<|WN.block<|Aq<|W.region<|Ao rfl (.addI (.t rfl) .i64 (range_inR hi26 hp31 hlen27))<|Am rfl rfl<|WL.nil<|WN.again es.length (i+1,pre++ [e],es,v7) (range_lt hn28) ⟨rfl,range_step hxs25,range_idx hi26,hm⟩ ⟨.q rfl,.q rfl,.q rfl,.q rfl,.q rfl,.q rfl,trivial⟩ trivial
    ·have hrest33:=range_end hxs25 hi26 (of_decide_eq_false hc30)
     subst hrest33
     rw [M.strings_Join_loop1.eq_1] at hm
     refine W.exit rfl ?_
     have hr38:=Si hm
     clear hm
     subst hr38
     have hm:=hk24
     try dsimp only at hm
     refine Aq<|Aw<|WL.addNil (t:=(tI .u8)) (E:=5) 1000008<|WL.opR rfl (OpR.allocBld 8 Tryd.zeroValue61) fun b=>Ar<|WL.mv rfl rfl ?_
     obtain ⟨_,hv39,hm⟩:=Bs hm
     refine WL.weakR (res':=[(8,(Bx 2 true 61 (bldA (none:Tok) ([]:Str) b) b)),(1000008,Dec.Own (tI .u8) 5 (none:Tok) ([]:Str).length)]) ⟨rfl,rfl,⟨rfl,rfl,trivial⟩⟩<|WL.opR rfl (OpR.call (us:=[8,1000008]) (A:=fun kx:Tok=>(Asn.eq (.tuple #[]))) C22 (FSpecR.keys (rin':=[(8,(Bx 2 true 61 (bldA (none:Tok) ([]:Str) b) b)),(1000008,Dec.Own (tI .u8) 5 (none:Tok) ([]:Str).length)]) (out':=fun kx:Tok=>[(8,(Bx 2 true 61 (bldA kx ([]:Str) b) b)),(1000008,Dec.Own (tI .u8) 5 kx ([]:Str).length)]) (strings_Builder_Grow_spec _ _ hv39) rfl (fun _=>rfl)) rfl ⟨(.t rfl),(.t rfl),trivial⟩) fun k=>Ar<|WL.mv rfl rfl ?_
     obtain ⟨v8,hv40,hm⟩:=Bs hm
     refine Ao rfl (.idx hv40 U35 Z9 (.t rfl) .i64)<|Ao rfl (.load ty9 (.t rfl)) ?_
     obtain ⟨b1,hv41,hm⟩:=Bs hm
     refine WL.weakR (res':=[(8,(Bx 2 true 61 (bldA k ([]:Str) b) b)),(1000008,Dec.Own (tI .u8) 5 k ([]:Str).length)]) ⟨rfl,rfl,⟨rfl,rfl,trivial⟩⟩<|WL.opR rfl (OpR.call (us:=[8,1000008]) (A:=fun kx:Tok=>Asn.any) C23 (FSpecR.keys (rin':=[(8,(Bx 2 true 61 (bldA k ([]:Str) b) b)),(1000008,Dec.Own (tI .u8) 5 k ([]:Str).length)]) (out':=fun kx:Tok=>[(8,(Bx 2 true 61 (bldA kx b1 b) b)),(1000008,Dec.Own (tI .u8) 5 kx b1.length)]) (strings_Builder_WriteString_spec _ _ _ _ _ hv41) rfl (fun _=>rfl)) rfl ⟨(.t rfl),(.t rfl),trivial⟩) fun k1=>An<|W.seq<|Aw<|WL.mv rfl rfl ?_
     obtain ⟨v9,hv42,hm⟩:=Bs hm
     refine Ao rfl (.slcLo hv42 U35 Z9 (.t rfl) .i64)<|Ao rfl (.lenL U35 (.t rfl))<|Ao rfl (.move .i64)<|An<|W.block ?_
     obtain ⟨s43,hs44,hk45⟩:=Bs hm
     clear hm
     refine W.loop (fun m (s:Int×List Str×List Str×((Str)×Tok))=>m=s.2.2.1.length∧v9=s.2.1++s.2.2.1∧s.1=(s.2.1.length:Int)∧M.strings_Join_loop2 sep s.2.2.1 s.2.2.2.1=some s43) (fun s=>[(65,(I6.is s.1)),(1,(tS.is sep)),(8,(Bp b 0)),(63,((tL tS).is v9)),(64,(I6.is (v9.length:Int)))]) (fun s=>[(1000008,Dec.Own (tI .u8) 5 s.2.2.2.2 s.2.2.2.1.length),(8,(Bx 2 true 61 (bldA s.2.2.2.2 s.2.2.2.1 b) b))]) v9.length ((0:Int),[],v9,(b1,k1)) ⟨rfl,rfl,rfl,hs44⟩ ⟨.q rfl,.q rfl,.q rfl,.q rfl,.q rfl,trivial⟩ ⟨rfl,rfl,⟨rfl,rfl,trivial⟩⟩ ?_
     rintro m ⟨i1,pre1,rest2,⟨b2,k2⟩⟩ ⟨hn49,hxs46,hi47,hm⟩
     try dsimp only at hn49 hxs46 hi47 hm
     change W _ _ _ _ _ _ _ [(65,(I6.is i1)),(1,(tS.is sep)),(8,(Bp b 0)),(63,((tL tS).is v9)),(64,(I6.is (v9.length:Int)))] [(1000008,Dec.Own (tI .u8) 5 k2 b2.length),(8,(Bx 2 true 61 (bldA k2 b2 b) b))]
     refine W.lenL (s:=63) (.t rfl) fun hlen48=>Aw<|Ao rfl (.ltI (.t rfl) (.t rfl))<|An<|W.seq<|W.cond (.t rfl) (fun hc51=>?_) (fun hc51=>?_)
     ·have hp52:=of_decide_eq_true hc51
      obtain ⟨e1,es1,hrest54⟩:=range_more hxs46 hi47 hp52
      subst hrest54
      rw [M.strings_Join_loop2.eq_2] at hm
      refine W.skip<|Aq<|W.seq<|W.block<|Aw<|Ao rfl (.idxPre hxs46 hi47 U35 Z9 (.t rfl) (.t rfl))<|Ao rfl (.load ty9 (.t rfl))<|Ag rfl rfl<|Ar<|WL.mv rfl rfl ?_
      obtain ⟨b3,hv55,hm⟩:=Bs hm
      refine WL.weakR (res':=[(8,(Bx 2 true 61 (bldA k2 b2 b) b)),(1000008,Dec.Own (tI .u8) 5 k2 b2.length)]) ⟨rfl,rfl,⟨rfl,rfl,trivial⟩⟩<|WL.opR rfl (OpR.call (us:=[8,1000008]) (A:=fun kx:Tok=>Asn.any) C23 (FSpecR.keys (rin':=[(8,(Bx 2 true 61 (bldA k2 b2 b) b)),(1000008,Dec.Own (tI .u8) 5 k2 b2.length)]) (out':=fun kx:Tok=>[(8,(Bx 2 true 61 (bldA kx b3 b) b)),(1000008,Dec.Own (tI .u8) 5 kx b3.length)]) (strings_Builder_WriteString_spec _ _ _ _ _ hv55) rfl (fun _=>rfl)) rfl ⟨(.t rfl),(.t rfl),trivial⟩) fun k3=>WL.nr1<|WL.mv rfl rfl ?_
      obtain ⟨b4,hv56,hm⟩:=Bs hm
      exact WL.weakR (res':=[(8,(Bx 2 true 61 (bldA k3 b3 b) b)),(1000008,Dec.Own (tI .u8) 5 k3 b3.length)]) ⟨rfl,rfl,⟨rfl,rfl,trivial⟩⟩<|WL.opR rfl (OpR.call (us:=[8,1000008]) (A:=fun kx:Tok=>Asn.any) C23 (FSpecR.keys (rin':=[(8,(Bx 2 true 61 (bldA k3 b3 b) b)),(1000008,Dec.Own (tI .u8) 5 k3 b3.length)]) (out':=fun kx:Tok=>[(8,(Bx 2 true 61 (bldA kx b4 b) b)),(1000008,Dec.Own (tI .u8) 5 kx b4.length)]) (strings_Builder_WriteString_spec _ _ _ _ _ hv56) rfl (fun _=>rfl)) rfl ⟨(.t rfl),(.t rfl),trivial⟩) fun k4=>WL.nil<|WN.block<|Aq<|W.region<|Ao rfl (.addI (.t rfl) .i64 (range_inR hi47 hp52 hlen48))<|Am rfl rfl<|WL.nil<|WN.again es1.length (i1+1,pre1++ [e1],es1,(b4,k4)) (range_lt hn49) ⟨rfl,range_step hxs46,range_idx hi47,hm⟩ ⟨.q rfl,.q rfl,.q rfl,.q rfl,.q rfl,trivial⟩ ⟨rfl,rfl,⟨rfl,rfl,trivial⟩⟩
     ·have hrest54:=range_end hxs46 hi47 (of_decide_eq_false hc51)
      subst hrest54
      rw [M.strings_Join_loop2.eq_1] at hm
      refine W.exit rfl ?_
      have hr57:=Si hm
      clear hm
      subst hr57
      have hm:=hk45
      try dsimp only at hm
      refine Aq<|Aw<|WL.weakR (res':=[(8,(Bx 2 true 61 (bldA k2 b2 b) b)),(1000008,Dec.Own (tI .u8) 5 k2 b2.length)]) ⟨rfl,rfl,⟨rfl,rfl,trivial⟩⟩<|WL.opR rfl (OpR.call (us:=[8,1000008]) (A:=fun kx:Unit=>tS.is b2) C24 (FSpecR.keys (rin':=[(8,(Bx 2 true 61 (bldA k2 b2 b) b)),(1000008,Dec.Own (tI .u8) 5 k2 b2.length)]) (out':=fun kx:Unit=>[]) (strings_Builder_String_spec _ _ _) rfl (fun _=>rfl)) rfl ⟨(.t rfl),trivial⟩) fun _=>Ag rfl rfl<|WL.ns ?_
      cases hm
      exact W.ret1 () rfl (.t rfl) trivial
   ·have hm:=hs7
    clear hs7
    refine Aw<|Am rfl rfl<|Ao rfl (.lenS U9 (.t rfl))<|Ao rfl (.gtI (.t rfl) .i64)<|An<|W.cD hm (.t rfl) (fun hp10 hm=>?_) (fun hp10 hm=>?_)
    ·obtain ⟨s11,hs12,hk13⟩:=Bs hm
     clear hm
     refine W.join (fun s:Unit=>s=s11) (fun s=>[(0,((tL tS).is elems)),(1,(tS.is sep)),(5,(I6.is (0:Int)))]) (fun s=>[]) ?_ ?_
     ·rintro _ hj21
      try dsimp only at hj21
      subst hj21
      have hm:=hk13
      clear hk13
      try dsimp only at hm
      change W _ _ _ _ _ _ _ [(0,((tL tS).is elems)),(1,(tS.is sep)),(5,(I6.is (0:Int)))] []
      refine W.region<|Am rfl rfl<|Am rfl rfl<|Ao rfl (.lenS U9 (.t rfl))<|Am rfl rfl<|Ao rfl (.lenL U35 (.t rfl)) ?_
      obtain ⟨v3,hv18,hm⟩:=Bs hm
      refine Ao rfl (.subC hv18 (.t rfl) .i64) ?_
      obtain ⟨v4,hv19,hm⟩:=Bs hm
      refine Ao rfl (.mulC hv19 (.t rfl) (.t rfl)) ?_
      obtain ⟨v5,hv20,hm⟩:=Bs hm
      exact Ao rfl (.addC hv20 (.t rfl) (.t rfl))<|Ag rfl rfl<|WL.nil<|WN.meet v5 (Si hm) ⟨.q rfl,.q rfl,.q rfl,trivial⟩ trivial
     ·have hm:=hs12
      clear hs12
      refine Aw<|Am rfl rfl<|Ao rfl (.lenS U9 (.t rfl))<|Am rfl rfl<|Ao rfl (.lenL U35 (.t rfl)) ?_
      obtain ⟨v1,hv14,hm⟩:=Bs hm
      refine Ao rfl (.subC hv14 (.t rfl) .i64) ?_
      obtain ⟨v2,hv15,hm⟩:=Bs hm
      refine Ao rfl (.quoC hv15 .i64 (.t rfl))<|Ao rfl (.geI (.t rfl) (.t rfl))<|An<|W.cD hm (.t rfl) (fun hp17 hm=>?_) (fun hp17 hm=>?_)
      ·cases hm
      ·exact W.skip<|WN.meet () (Si hm) ⟨.q rfl,.q rfl,.q rfl,trivial⟩ trivial
    ·exact W.skip<|WN.meet (0:Int) (Si hm) ⟨.q rfl,.q rfl,.q rfl,trivial⟩ trivial
theorem plaintext_Format_spec(n:Nat)(u:api_Unit)(r:Str×Int)(hm:M.plaintext_Format n u=some r):FSpecR Tryd.prog 7 [(tapi_Unit.is u)] [(700000,Gl (tA 8 tS) 0 gv0),(700002,Gl (tA 8 (tL I6)) 2 gv2)] (fun _:Unit=>(Asn.tuple2 (tS.is r.1) (I6.is r.2))) (fun _=>[]):=by
 unfold M.plaintext_Format at hm
 refine FSpecR.of Tryd.func7 rfl rfl rfl fun g0=>Aw<|Ao rfl (.box (.t rfl))<|Ao rfl (.assign (.str rfl (by decide)))<|Ao rfl (.assign .i64)<|Ar<|Ao rfl (.load ty28 (.t rfl)) ?_
 obtain ⟨lines,hv1,hm⟩:=Bs hm
 refine Ao rfl (.callG (rin:=[(700000,Gl (tA 8 tS) 0 gv0),(700002,Gl (tA 8 (tL I6)) 2 gv2)]) C8 (plaintext_Lines_spec _ _ _ hv1) ⟨rfl,rfl,trivial⟩ ⟨rfl,rfl,⟨rfl,rfl,trivial⟩⟩ ⟨(.t rfl),trivial⟩)<|Ag rfl rfl<|An<|W.seq<|Aw<|Am rfl rfl<|Ao rfl (.lenL U35 (.t rfl))<|Ao rfl (.eqI (.t rfl) .i64)<|An<|W.cD hm (.t rfl) (fun hp3 hm=>?_) (fun hp3 hm=>?_)
 ·refine Aw<|Ao rfl (.assign (.str rfl (by decide)))<|Ao rfl (.assign .i64)<|WL.ns ?_
  cases hm
  exact W.ret2 () rfl rfl (.t rfl) (.t rfl) trivial
 ·refine W.skip<|Aq<|Aw<|WL.mv rfl rfl ?_
  obtain ⟨join,hv4,hm⟩:=Bs hm
  refine Ao rfl (.call C14 (strings_Join_spec _ _ _ hv4) ⟨(.t rfl),(.str rfl (by decide)),trivial⟩) ?_
  obtain ⟨v,hv5,hm⟩:=Bs hm
  refine Ao rfl (.catC hv5 (.t rfl) (.str rfl (by decide)))<|Ag rfl rfl<|An<|W.seq<|Aw<|Am rfl rfl<|Ao rfl (.lenS U9 (.t rfl))<|Ao rfl (.gtI (.t rfl) .i64)<|An<|W.cD hm (.t rfl) (fun hp7 hm=>?_) (fun hp7 hm=>?_)
  ·refine Aw<|Ao rfl (.assign (.str rfl (by decide)))<|Ao rfl (.assign .i64)<|WL.ns ?_
   cases hm
   exact W.ret2 () rfl rfl (.t rfl) (.t rfl) trivial
  ·refine W.skip<|Aq<|Aw<|Am rfl rfl<|Ag rfl rfl<|Ao rfl (.assign .i64)<|WL.ns ?_
   cases hm
   exact W.ret2 () rfl rfl (.t rfl) (.t rfl) trivial
theorem strings_trimLeftByte_spec(n:Nat)(s0_:Str)(c:Int)(r:Str)(hm:M.strings_trimLeftByte n s0_ c=some r):FSpec Tryd.prog 57 [(tS.is s0_),((tI .u8).is c)] (tS.is r):=by
 unfold M.strings_trimLeftByte at hm
 refine FSpec.of Tryd.func57 rfl rfl rfl fun g0=>Aw<|Ao rfl (.assign (.str rfl (by decide)))<|An<|W.seq<|W.block ?_
 obtain ⟨s1,hs2,hk3⟩:=Bs hm
 clear hm
 refine W.loop (fun m (s:Str)=>M.strings_trimLeftByte_loop1 c m s=some s1) (fun s=>[(0,(tS.is s)),(1,((tI .u8).is c))]) (fun s=>[]) _ s0_ hs2 ⟨.q rfl,.q rfl,trivial⟩ trivial ?_
 rintro n4 s0_1 hm
 try dsimp only at hm
 change W _ _ _ _ _ _ _ [(0,(tS.is s0_1)),(1,((tI .u8).is c))] []
 cases n4 with
 | zero=>rw [M.strings_trimLeftByte_loop1.eq_1] at hm;cases hm
 | succ n4=>
  rw [M.strings_trimLeftByte_loop1.eq_2] at hm
  refine W.seq<|Aw<|Am rfl rfl<|Ao rfl (.lenS U9 (.t rfl))<|Ao rfl (.gtI (.t rfl) .i64)<|WL.mv rfl rfl ?_
  rcases iteD hm with ⟨hp6,hb5,hm⟩ | ⟨hp6,hb5,hm⟩
  ·refine Ax rfl hb5 (.move (.t rfl)) ?_
   obtain ⟨b,hv7,hm⟩:=Bs hm
   refine Ax rfl hb5 (.sidx hv7 U9 (.t rfl) .i64)<|Ax rfl hb5 (.move (.t rfl))<|Ax rfl hb5 (.eqI (.t rfl) (.t rfl))<|Ao rfl (.pickT (.t rfl) hb5 (.t rfl))<|An<|W.cD hm (.t rfl) (fun hp9 hm=>?_) (fun hp9 hm=>?_)
   ·refine W.skip<|Aq<|W.block<|W.region<|WL.mv rfl rfl ?_
    obtain ⟨v,hv10,hm⟩:=Bs hm
    exact Ao rfl (.sslcLo hv10 U9 (.t rfl) .i64)<|Ag rfl rfl<|WL.nil<|WN.block<|WN.again n4 v (Nat.lt_succ_self n4) hm ⟨.q rfl,.q rfl,trivial⟩ trivial
   ·refine W.exit rfl ?_
    have hr11:=Si hm
    clear hm
    subst hr11
    have hm:=hk3
    try dsimp only at hm
    refine Aq<|Aw<|Am rfl rfl<|Ag rfl rfl<|WL.ns ?_
    cases hm
    exact W.ret1 () rfl (.t rfl) trivial
  ·refine Ap rfl hb5<|Ap rfl hb5<|Ap rfl hb5<|Ap rfl hb5<|Ao rfl (.pickF (.t rfl) hb5 .bool)<|An<|W.condF (.t rfl)<|W.exit rfl ?_
   have hr12:=Si hm
   clear hm
   subst hr12
   have hm:=hk3
   try dsimp only at hm
   refine Aq<|Aw<|Am rfl rfl<|Ag rfl rfl<|WL.ns ?_
   cases hm
   exact W.ret1 () rfl (.t rfl) trivial
end Go.Proofs.YtofaogkcifaioaaDoor
