/-
  How the types of the program are read.
-/
import Derived.Test.YtalogjkalmkpjaaGreatDoorDec21
import Derived.Test.YtalogjkalmkpjaaGreatDoorDec19
import Derived.Test.YtalogjkalmkpjaaGreatDoorDec29
import Derived.Test.YtalogjkalmkpjaaGreatDoorSh
import Derived.Test.YtalogjkalmkpjaaGreatDoorDec39
import Derived.Test.YtalogjkalmkpjaaGreatDoorDec41
import Derived.Test.YtalogjkalmkpjaaGreatDoorMdl
import Derived.Test.YtalogjkalmkpjaaGreatDoorProg
import Derived.KernelRfl
set_option maxRecDepth 100000
namespace Go.Proofs.YtalogjkalmkpjaaGreatDoor
open Go Go.Dec
theorem Tryz.mixed:Tryz.prog.follows .mixedOrders=true:=by kernel_rfl
def aj:Ty au:=tMap (tP (tI .i64) (tP (tI .i64) (tOne (tI .i64)))) (fun x:au=>(x.Act,x.Item,x.N))
theorem qL:Fld aj 0 (tI .i64) (fun x=>x.Act):=(Fld.map (m:=(fun x:au=>(x.Act,x.Item,x.N))) (Fld.here (tI .i64) (tP (tI .i64) (tOne (tI .i64))))).cast rfl rfl
theorem zV:az aj 0 (tI .i64) (fun x y=>{x with Act:=y}):=(az.map (m:=(fun x:au=>(x.Act,x.Item,x.N))) (f':=fun x y=>{x with Act:=y}) (az.here (tI .i64) (tP (tI .i64) (tOne (tI .i64)))) (fun _ _=>rfl)).cast rfl rfl
theorem qM:Fld aj 1 (tI .i64) (fun x=>x.Item):=(Fld.map (m:=(fun x:au=>(x.Act,x.Item,x.N))) (Fld.next (s:=(tI .i64)) (Fld.here (tI .i64) (tOne (tI .i64))))).cast rfl rfl
theorem Fs:az aj 1 (tI .i64) (fun x y=>{x with Item:=y}):=(az.map (m:=(fun x:au=>(x.Act,x.Item,x.N))) (f':=fun x y=>{x with Item:=y}) (az.next (s:=(tI .i64)) (az.here (tI .i64) (tOne (tI .i64)))) (fun _ _=>rfl)).cast rfl rfl
theorem qN:Fld aj 2 (tI .i64) (fun x=>x.N):=(Fld.map (m:=(fun x:au=>(x.Act,x.Item,x.N))) (Fld.next (s:=(tI .i64)) (Fld.next (s:=(tI .i64)) (Fld.one (tI .i64))))).cast rfl rfl
theorem zW:az aj 2 (tI .i64) (fun x y=>{x with N:=y}):=(az.map (m:=(fun x:au=>(x.Act,x.Item,x.N))) (f':=fun x y=>{x with N:=y}) (az.next (s:=(tI .i64)) (az.next (s:=(tI .i64)) (az.one (tI .i64)))) (fun _ _=>rfl)).cast rfl rfl
def mJ(fd:Field):Nat:=if fd.type=3 then 1 else 0
theorem mi:∀ fs,Tryz.prog.underlying 23=some (.struct fs)→∀ fd,fd∈fs→∀ w,(sizeOf fd.type).run Tryz.prog w= .ok (mJ fd) w:=by
 intro fs h;rw [Tryz.underlying23] at h;cases h;intro fd hfd w;simp only [List.mem_toArray,List.mem_cons,List.not_mem_nil,or_false] at hfd;rcases hfd with rfl | rfl | rfl
 ·exact Tryz.sizeOf3 w
 ·exact Tryz.sizeOf3 w
 ·exact Tryz.sizeOf3 w
def ul:Ty mP:=tMap (tP (tI .i64) (tP (tI .i64) (tOne (tI .i64)))) (fun x:mP=>(x.Act,x.Item,x.At))
def aD:Ty aH:=tMap (tP tS (tOne ul)) (fun x:aH=>(x.Text,x.By))
theorem qm:Fld aD 0 tS (fun x=>x.Text):=(Fld.map (m:=(fun x:aH=>(x.Text,x.By))) (Fld.here tS (tOne ul))).cast rfl rfl
theorem CB:az aD 0 tS (fun x y=>{x with Text:=y}):=(az.map (m:=(fun x:aH=>(x.Text,x.By))) (f':=fun x y=>{x with Text:=y}) (az.here tS (tOne ul)) (fun _ _=>rfl)).cast rfl rfl
def xC(fd:Field):Nat:=if fd.type=9 then 1 else if fd.type=118 then 3 else 0
theorem Bj:∀ fs,Tryz.prog.underlying 120=some (.struct fs)→∀ fd,fd∈fs→∀ w,(sizeOf fd.type).run Tryz.prog w= .ok (xC fd) w:=by
 intro fs h;rw [Tryz.underlying120] at h;cases h;intro fd hfd w;simp only [List.mem_toArray,List.mem_cons,List.not_mem_nil,or_false] at hfd;rcases hfd with rfl | rfl
 ·exact Tryz.sizeOf9 w
 ·exact Tryz.sizeOf118 w
def zX(X:Ty af):Ty af:=tMap (tP aj (tP (tI .i64) (tP tS (tP (tL aD) (tP (tL aD) (tOne (tL X))))))) (fun x:af=>(x.Id,x.Kind,x.Label,x.Head,x.Words,x.Kids))
theorem Fu:Cont zX:=Cont.map (fun x:af=>(x.Id,x.Kind,x.Label,x.Head,x.Words,x.Kids)) (Cont.pair (Cont.const _) (Cont.pair (Cont.const _) (Cont.pair (Cont.const _) (Cont.pair (Cont.const _) (Cont.pair (Cont.const _) (Cont.one ((Cont.list Cont.id))))))))
theorem jw:Rec zX 8:=⟨Fu,rfl,rfl⟩
def ai:Ty af:=tFix jw
theorem bq:Fld ai 0 aj (fun x=>x.Id):=Fld.le jw.out ((Fld.map (m:=(fun x:af=>(x.Id,x.Kind,x.Label,x.Head,x.Words,x.Kids))) (Fld.here aj (tP (tI .i64) (tP tS (tP (tL aD) (tP (tL aD) (tOne (tL ai)))))))).cast rfl rfl)
theorem bQ:Fld ai 3 (tI .i64) (fun x=>x.Kind):=Fld.le jw.out ((Fld.map (m:=(fun x:af=>(x.Id,x.Kind,x.Label,x.Head,x.Words,x.Kids))) (Fld.next (s:=aj) (Fld.here (tI .i64) (tP tS (tP (tL aD) (tP (tL aD) (tOne (tL ai)))))))).cast rfl rfl)
theorem eG:Fld ai 4 tS (fun x=>x.Label):=Fld.le jw.out ((Fld.map (m:=(fun x:af=>(x.Id,x.Kind,x.Label,x.Head,x.Words,x.Kids))) (Fld.next (s:=aj) (Fld.next (s:=(tI .i64)) (Fld.here tS (tP (tL aD) (tP (tL aD) (tOne (tL ai)))))))).cast rfl rfl)
theorem iA:Fld ai 5 (tL aD) (fun x=>x.Head):=Fld.le jw.out ((Fld.map (m:=(fun x:af=>(x.Id,x.Kind,x.Label,x.Head,x.Words,x.Kids))) (Fld.next (s:=aj) (Fld.next (s:=(tI .i64)) (Fld.next (s:=tS) (Fld.here (tL aD) (tP (tL aD) (tOne (tL ai)))))))).cast rfl rfl)
theorem jo:Fld ai 6 (tL aD) (fun x=>x.Words):=Fld.le jw.out ((Fld.map (m:=(fun x:af=>(x.Id,x.Kind,x.Label,x.Head,x.Words,x.Kids))) (Fld.next (s:=aj) (Fld.next (s:=(tI .i64)) (Fld.next (s:=tS) (Fld.next (s:=(tL aD)) (Fld.here (tL aD) (tOne (tL ai)))))))).cast rfl rfl)
theorem dx:Fld ai 7 (tL ai) (fun x=>x.Kids):=Fld.le jw.out ((Fld.map (m:=(fun x:af=>(x.Id,x.Kind,x.Label,x.Head,x.Words,x.Kids))) (Fld.next (s:=aj) (Fld.next (s:=(tI .i64)) (Fld.next (s:=tS) (Fld.next (s:=(tL aD)) (Fld.next (s:=(tL aD)) (Fld.one (tL ai)))))))).cast rfl rfl)
def qo(fd:Field):Nat:=if fd.type=3 then 1 else if fd.type=9 then 1 else if fd.type=23 then 3 else if fd.type=24 then 1 else if fd.type=25 then 1 else 0
theorem rQ:∀ fs,Tryz.prog.underlying 27=some (.struct fs)→∀ fd,fd∈fs→∀ w,(sizeOf fd.type).run Tryz.prog w= .ok (qo fd) w:=by
 intro fs h;rw [Tryz.underlying27] at h;cases h;intro fd hfd w;simp only [List.mem_toArray,List.mem_cons,List.not_mem_nil,or_false] at hfd;rcases hfd with rfl | rfl | rfl | rfl | rfl | rfl
 ·exact Tryz.sizeOf23 w
 ·exact Tryz.sizeOf3 w
 ·exact Tryz.sizeOf9 w
 ·exact Tryz.sizeOf24 w
 ·exact Tryz.sizeOf24 w
 ·exact Tryz.sizeOf25 w
def aA(k:Tok):Ty af:=tMap (tP aj (tP (tI .i64) (tP tS (tP (tL aD) (tP (tL aD) (tOne (tOT ai k))))))) (fun x:af=>(x.Id,x.Kind,x.Label,x.Head,x.Words,x.Kids))
theorem sI(k:Tok):az (aA k) 0 aj (fun x y=>{x with Id:=y}):=(az.map (m:=(fun x:af=>(x.Id,x.Kind,x.Label,x.Head,x.Words,x.Kids))) (f':=fun x y=>{x with Id:=y}) (az.here aj (tP (tI .i64) (tP tS (tP (tL aD) (tP (tL aD) (tOne (tOT ai k))))))) (fun _ _=>rfl)).cast rfl rfl
theorem sJ(k:Tok):az (aA k) 3 (tI .i64) (fun x y=>{x with Kind:=y}):=(az.map (m:=(fun x:af=>(x.Id,x.Kind,x.Label,x.Head,x.Words,x.Kids))) (f':=fun x y=>{x with Kind:=y}) (az.next (s:=aj) (az.here (tI .i64) (tP tS (tP (tL aD) (tP (tL aD) (tOne (tOT ai k))))))) (fun _ _=>rfl)).cast rfl rfl
theorem pz(k:Tok):az (aA k) 4 tS (fun x y=>{x with Label:=y}):=(az.map (m:=(fun x:af=>(x.Id,x.Kind,x.Label,x.Head,x.Words,x.Kids))) (f':=fun x y=>{x with Label:=y}) (az.next (s:=aj) (az.next (s:=(tI .i64)) (az.here tS (tP (tL aD) (tP (tL aD) (tOne (tOT ai k))))))) (fun _ _=>rfl)).cast rfl rfl
theorem sK(k:Tok):az (aA k) 5 (tL aD) (fun x y=>{x with Head:=y}):=(az.map (m:=(fun x:af=>(x.Id,x.Kind,x.Label,x.Head,x.Words,x.Kids))) (f':=fun x y=>{x with Head:=y}) (az.next (s:=aj) (az.next (s:=(tI .i64)) (az.next (s:=tS) (az.here (tL aD) (tP (tL aD) (tOne (tOT ai k))))))) (fun _ _=>rfl)).cast rfl rfl
theorem sM(k:Tok):az (aA k) 6 (tL aD) (fun x y=>{x with Words:=y}):=(az.map (m:=(fun x:af=>(x.Id,x.Kind,x.Label,x.Head,x.Words,x.Kids))) (f':=fun x y=>{x with Words:=y}) (az.next (s:=aj) (az.next (s:=(tI .i64)) (az.next (s:=tS) (az.next (s:=(tL aD)) (az.here (tL aD) (tOne (tOT ai k))))))) (fun _ _=>rfl)).cast rfl rfl
theorem pE(k:Tok):Fld (aA k) 7 (tOT ai k) (fun x=>x.Kids):=(Fld.map (m:=(fun x:af=>(x.Id,x.Kind,x.Label,x.Head,x.Words,x.Kids))) (Fld.next (s:=aj) (Fld.next (s:=(tI .i64)) (Fld.next (s:=tS) (Fld.next (s:=(tL aD)) (Fld.next (s:=(tL aD)) (Fld.one (tOT ai k)))))))).cast rfl rfl
theorem qx(k k2:Tok):bz (aA k) (aA k2) 7 (tOT ai k2) (fun x y=>{x with Kids:=y}):=(bz.map (m:=(fun x:af=>(x.Id,x.Kind,x.Label,x.Head,x.Words,x.Kids))) (f':=fun x y=>{x with Kids:=y}) (bz.next (s:=aj) (bz.next (s:=(tI .i64)) (bz.next (s:=tS) (bz.next (s:=(tL aD)) (bz.next (s:=(tL aD)) (bz.one (tOT ai k) (tOT ai k2) rfl)))))) (fun _ _=>rfl)).cast rfl rfl
theorem uC(k:Tok):Le (aA k) ai:=Le.trans (Le.mapT (Le.pair (Le.refl _) (Le.pair (Le.refl _) (Le.pair (Le.refl _) (Le.pair (Le.refl _) (Le.pair (Le.refl _) (Le.one (Ga _ _))))))) _) jw.into
theorem jq:eT Tryz.prog 27 (aA none) aB:=⟨_,Tryz.zeroValue27,fun _=>⟨_,⟨_,_,rfl,⟨_,_,rfl,⟨rfl,inR64.2 ⟨by decide,by decide⟩⟩,_,_,rfl,⟨rfl,inR64.2 ⟨by decide,by decide⟩⟩,rfl,inR64.2 ⟨by decide,by decide⟩⟩,_,_,rfl,⟨rfl,inR64.2 ⟨by decide,by decide⟩⟩,_,_,rfl,⟨rfl,by decide⟩,_,_,rfl,⟨none,0,rfl,Nat.le_refl _,Nat.zero_le _,fun _=>rfl,rfl⟩,_,_,rfl,⟨none,0,rfl,Nat.le_refl _,Nat.zero_le _,fun _=>rfl,rfl⟩,_,rfl,rfl,Nat.le_refl _,Nat.zero_le _,rfl⟩,rfl⟩⟩
def ak:Ty ah:=tMap (tP (tI .i64) (tOne tS)) (fun x:ah=>(x.State,x.Text))
theorem eO:Fld ak 0 (tI .i64) (fun x=>x.State):=(Fld.map (m:=(fun x:ah=>(x.State,x.Text))) (Fld.here (tI .i64) (tOne tS))).cast rfl rfl
theorem kD:az ak 0 (tI .i64) (fun x y=>{x with State:=y}):=(az.map (m:=(fun x:ah=>(x.State,x.Text))) (f':=fun x y=>{x with State:=y}) (az.here (tI .i64) (tOne tS)) (fun _ _=>rfl)).cast rfl rfl
theorem kG:Fld ak 1 tS (fun x=>x.Text):=(Fld.map (m:=(fun x:ah=>(x.State,x.Text))) (Fld.next (s:=(tI .i64)) (Fld.one tS))).cast rfl rfl
theorem jE:az ak 1 tS (fun x y=>{x with Text:=y}):=(az.map (m:=(fun x:ah=>(x.State,x.Text))) (f':=fun x y=>{x with Text:=y}) (az.next (s:=(tI .i64)) (az.one tS)) (fun _ _=>rfl)).cast rfl rfl
def iG(fd:Field):Nat:=if fd.type=3 then 1 else if fd.type=9 then 1 else 0
theorem jc:∀ fs,Tryz.prog.underlying 53=some (.struct fs)→∀ fd,fd∈fs→∀ w,(sizeOf fd.type).run Tryz.prog w= .ok (iG fd) w:=by
 intro fs h;rw [Tryz.underlying53] at h;cases h;intro fd hfd w;simp only [List.mem_toArray,List.mem_cons,List.not_mem_nil,or_false] at hfd;rcases hfd with rfl | rfl
 ·exact Tryz.sizeOf3 w
 ·exact Tryz.sizeOf9 w
def qO(X:Ty aa):Ty aa:=tMap (tP (tI .i64) (tP (tI .i64) (tP aj (tP tS (tP tS (tP tB (tP (tL ak) (tP (tL ak) (tOne (tL X)))))))))) (fun x:aa=>(x.State,x.Kind,x.Id,x.Label,x.Was,x.Moved,x.Head,x.Words,x.Kids))
theorem wQ:Cont qO:=Cont.map (fun x:aa=>(x.State,x.Kind,x.Id,x.Label,x.Was,x.Moved,x.Head,x.Words,x.Kids)) (Cont.pair (Cont.const _) (Cont.pair (Cont.const _) (Cont.pair (Cont.const _) (Cont.pair (Cont.const _) (Cont.pair (Cont.const _) (Cont.pair (Cont.const _) (Cont.pair (Cont.const _) (Cont.pair (Cont.const _) (Cont.one ((Cont.list Cont.id)))))))))))
theorem aS:Rec qO 11:=⟨wQ,rfl,rfl⟩
def ae:Ty aa:=tFix aS
theorem bN:Fld ae 0 (tI .i64) (fun x=>x.State):=Fld.le aS.out ((Fld.map (m:=(fun x:aa=>(x.State,x.Kind,x.Id,x.Label,x.Was,x.Moved,x.Head,x.Words,x.Kids))) (Fld.here (tI .i64) (tP (tI .i64) (tP aj (tP tS (tP tS (tP tB (tP (tL ak) (tP (tL ak) (tOne (tL ae))))))))))).cast rfl rfl)
theorem pG:az ae 0 (tI .i64) (fun x y=>{x with State:=y}):=az.le aS.out aS.into ((az.map (m:=(fun x:aa=>(x.State,x.Kind,x.Id,x.Label,x.Was,x.Moved,x.Head,x.Words,x.Kids))) (f':=fun x y=>{x with State:=y}) (az.here (tI .i64) (tP (tI .i64) (tP aj (tP tS (tP tS (tP tB (tP (tL ak) (tP (tL ak) (tOne (tL ae)))))))))) (fun _ _=>rfl)).cast rfl rfl)
theorem dN:Fld ae 1 (tI .i64) (fun x=>x.Kind):=Fld.le aS.out ((Fld.map (m:=(fun x:aa=>(x.State,x.Kind,x.Id,x.Label,x.Was,x.Moved,x.Head,x.Words,x.Kids))) (Fld.next (s:=(tI .i64)) (Fld.here (tI .i64) (tP aj (tP tS (tP tS (tP tB (tP (tL ak) (tP (tL ak) (tOne (tL ae))))))))))).cast rfl rfl)
theorem pI:az ae 1 (tI .i64) (fun x y=>{x with Kind:=y}):=az.le aS.out aS.into ((az.map (m:=(fun x:aa=>(x.State,x.Kind,x.Id,x.Label,x.Was,x.Moved,x.Head,x.Words,x.Kids))) (f':=fun x y=>{x with Kind:=y}) (az.next (s:=(tI .i64)) (az.here (tI .i64) (tP aj (tP tS (tP tS (tP tB (tP (tL ak) (tP (tL ak) (tOne (tL ae)))))))))) (fun _ _=>rfl)).cast rfl rfl)
theorem dA:Fld ae 2 aj (fun x=>x.Id):=Fld.le aS.out ((Fld.map (m:=(fun x:aa=>(x.State,x.Kind,x.Id,x.Label,x.Was,x.Moved,x.Head,x.Words,x.Kids))) (Fld.next (s:=(tI .i64)) (Fld.next (s:=(tI .i64)) (Fld.here aj (tP tS (tP tS (tP tB (tP (tL ak) (tP (tL ak) (tOne (tL ae))))))))))).cast rfl rfl)
theorem pJ:az ae 2 aj (fun x y=>{x with Id:=y}):=az.le aS.out aS.into ((az.map (m:=(fun x:aa=>(x.State,x.Kind,x.Id,x.Label,x.Was,x.Moved,x.Head,x.Words,x.Kids))) (f':=fun x y=>{x with Id:=y}) (az.next (s:=(tI .i64)) (az.next (s:=(tI .i64)) (az.here aj (tP tS (tP tS (tP tB (tP (tL ak) (tP (tL ak) (tOne (tL ae)))))))))) (fun _ _=>rfl)).cast rfl rfl)
theorem cK:Fld ae 5 tS (fun x=>x.Label):=Fld.le aS.out ((Fld.map (m:=(fun x:aa=>(x.State,x.Kind,x.Id,x.Label,x.Was,x.Moved,x.Head,x.Words,x.Kids))) (Fld.next (s:=(tI .i64)) (Fld.next (s:=(tI .i64)) (Fld.next (s:=aj) (Fld.here tS (tP tS (tP tB (tP (tL ak) (tP (tL ak) (tOne (tL ae))))))))))).cast rfl rfl)
theorem pK:az ae 5 tS (fun x y=>{x with Label:=y}):=az.le aS.out aS.into ((az.map (m:=(fun x:aa=>(x.State,x.Kind,x.Id,x.Label,x.Was,x.Moved,x.Head,x.Words,x.Kids))) (f':=fun x y=>{x with Label:=y}) (az.next (s:=(tI .i64)) (az.next (s:=(tI .i64)) (az.next (s:=aj) (az.here tS (tP tS (tP tB (tP (tL ak) (tP (tL ak) (tOne (tL ae)))))))))) (fun _ _=>rfl)).cast rfl rfl)
theorem dF:Fld ae 6 tS (fun x=>x.Was):=Fld.le aS.out ((Fld.map (m:=(fun x:aa=>(x.State,x.Kind,x.Id,x.Label,x.Was,x.Moved,x.Head,x.Words,x.Kids))) (Fld.next (s:=(tI .i64)) (Fld.next (s:=(tI .i64)) (Fld.next (s:=aj) (Fld.next (s:=tS) (Fld.here tS (tP tB (tP (tL ak) (tP (tL ak) (tOne (tL ae))))))))))).cast rfl rfl)
theorem pM:az ae 6 tS (fun x y=>{x with Was:=y}):=az.le aS.out aS.into ((az.map (m:=(fun x:aa=>(x.State,x.Kind,x.Id,x.Label,x.Was,x.Moved,x.Head,x.Words,x.Kids))) (f':=fun x y=>{x with Was:=y}) (az.next (s:=(tI .i64)) (az.next (s:=(tI .i64)) (az.next (s:=aj) (az.next (s:=tS) (az.here tS (tP tB (tP (tL ak) (tP (tL ak) (tOne (tL ae)))))))))) (fun _ _=>rfl)).cast rfl rfl)
theorem dO:Fld ae 7 tB (fun x=>x.Moved):=Fld.le aS.out ((Fld.map (m:=(fun x:aa=>(x.State,x.Kind,x.Id,x.Label,x.Was,x.Moved,x.Head,x.Words,x.Kids))) (Fld.next (s:=(tI .i64)) (Fld.next (s:=(tI .i64)) (Fld.next (s:=aj) (Fld.next (s:=tS) (Fld.next (s:=tS) (Fld.here tB (tP (tL ak) (tP (tL ak) (tOne (tL ae))))))))))).cast rfl rfl)
theorem uM:az ae 7 tB (fun x y=>{x with Moved:=y}):=az.le aS.out aS.into ((az.map (m:=(fun x:aa=>(x.State,x.Kind,x.Id,x.Label,x.Was,x.Moved,x.Head,x.Words,x.Kids))) (f':=fun x y=>{x with Moved:=y}) (az.next (s:=(tI .i64)) (az.next (s:=(tI .i64)) (az.next (s:=aj) (az.next (s:=tS) (az.next (s:=tS) (az.here tB (tP (tL ak) (tP (tL ak) (tOne (tL ae)))))))))) (fun _ _=>rfl)).cast rfl rfl)
theorem fJ:Fld ae 8 (tL ak) (fun x=>x.Head):=Fld.le aS.out ((Fld.map (m:=(fun x:aa=>(x.State,x.Kind,x.Id,x.Label,x.Was,x.Moved,x.Head,x.Words,x.Kids))) (Fld.next (s:=(tI .i64)) (Fld.next (s:=(tI .i64)) (Fld.next (s:=aj) (Fld.next (s:=tS) (Fld.next (s:=tS) (Fld.next (s:=tB) (Fld.here (tL ak) (tP (tL ak) (tOne (tL ae))))))))))).cast rfl rfl)
theorem uN:az ae 8 (tL ak) (fun x y=>{x with Head:=y}):=az.le aS.out aS.into ((az.map (m:=(fun x:aa=>(x.State,x.Kind,x.Id,x.Label,x.Was,x.Moved,x.Head,x.Words,x.Kids))) (f':=fun x y=>{x with Head:=y}) (az.next (s:=(tI .i64)) (az.next (s:=(tI .i64)) (az.next (s:=aj) (az.next (s:=tS) (az.next (s:=tS) (az.next (s:=tB) (az.here (tL ak) (tP (tL ak) (tOne (tL ae)))))))))) (fun _ _=>rfl)).cast rfl rfl)
theorem fK:Fld ae 9 (tL ak) (fun x=>x.Words):=Fld.le aS.out ((Fld.map (m:=(fun x:aa=>(x.State,x.Kind,x.Id,x.Label,x.Was,x.Moved,x.Head,x.Words,x.Kids))) (Fld.next (s:=(tI .i64)) (Fld.next (s:=(tI .i64)) (Fld.next (s:=aj) (Fld.next (s:=tS) (Fld.next (s:=tS) (Fld.next (s:=tB) (Fld.next (s:=(tL ak)) (Fld.here (tL ak) (tOne (tL ae))))))))))).cast rfl rfl)
theorem pO:az ae 9 (tL ak) (fun x y=>{x with Words:=y}):=az.le aS.out aS.into ((az.map (m:=(fun x:aa=>(x.State,x.Kind,x.Id,x.Label,x.Was,x.Moved,x.Head,x.Words,x.Kids))) (f':=fun x y=>{x with Words:=y}) (az.next (s:=(tI .i64)) (az.next (s:=(tI .i64)) (az.next (s:=aj) (az.next (s:=tS) (az.next (s:=tS) (az.next (s:=tB) (az.next (s:=(tL ak)) (az.here (tL ak) (tOne (tL ae)))))))))) (fun _ _=>rfl)).cast rfl rfl)
theorem eP:Fld ae 10 (tL ae) (fun x=>x.Kids):=Fld.le aS.out ((Fld.map (m:=(fun x:aa=>(x.State,x.Kind,x.Id,x.Label,x.Was,x.Moved,x.Head,x.Words,x.Kids))) (Fld.next (s:=(tI .i64)) (Fld.next (s:=(tI .i64)) (Fld.next (s:=aj) (Fld.next (s:=tS) (Fld.next (s:=tS) (Fld.next (s:=tB) (Fld.next (s:=(tL ak)) (Fld.next (s:=(tL ak)) (Fld.one (tL ae))))))))))).cast rfl rfl)
theorem uO:az ae 10 (tL ae) (fun x y=>{x with Kids:=y}):=az.le aS.out aS.into ((az.map (m:=(fun x:aa=>(x.State,x.Kind,x.Id,x.Label,x.Was,x.Moved,x.Head,x.Words,x.Kids))) (f':=fun x y=>{x with Kids:=y}) (az.next (s:=(tI .i64)) (az.next (s:=(tI .i64)) (az.next (s:=aj) (az.next (s:=tS) (az.next (s:=tS) (az.next (s:=tB) (az.next (s:=(tL ak)) (az.next (s:=(tL ak)) (az.one (tL ae)))))))))) (fun _ _=>rfl)).cast rfl rfl)
def bE(fd:Field):Nat:=if fd.type=3 then 1 else if fd.type=4 then 1 else if fd.type=9 then 1 else if fd.type=23 then 3 else if fd.type=30 then 1 else if fd.type=31 then 1 else 0
theorem bC:∀ fs,Tryz.prog.underlying 33=some (.struct fs)→∀ fd,fd∈fs→∀ w,(sizeOf fd.type).run Tryz.prog w= .ok (bE fd) w:=by
 intro fs h;rw [Tryz.underlying33] at h;cases h;intro fd hfd w;simp only [List.mem_toArray,List.mem_cons,List.not_mem_nil,or_false] at hfd;rcases hfd with rfl | rfl | rfl | rfl | rfl | rfl | rfl | rfl | rfl
 ·exact Tryz.sizeOf3 w
 ·exact Tryz.sizeOf3 w
 ·exact Tryz.sizeOf23 w
 ·exact Tryz.sizeOf9 w
 ·exact Tryz.sizeOf9 w
 ·exact Tryz.sizeOf4 w
 ·exact Tryz.sizeOf30 w
 ·exact Tryz.sizeOf30 w
 ·exact Tryz.sizeOf31 w
def ax(k:Tok):Ty aa:=tMap (tP (tI .i64) (tP (tI .i64) (tP aj (tP tS (tP tS (tP tB (tP (tL ak) (tP (tL ak) (tOne (tOT ae k)))))))))) (fun x:aa=>(x.State,x.Kind,x.Id,x.Label,x.Was,x.Moved,x.Head,x.Words,x.Kids))
theorem gB(k:Tok):az (ax k) 0 (tI .i64) (fun x y=>{x with State:=y}):=(az.map (m:=(fun x:aa=>(x.State,x.Kind,x.Id,x.Label,x.Was,x.Moved,x.Head,x.Words,x.Kids))) (f':=fun x y=>{x with State:=y}) (az.here (tI .i64) (tP (tI .i64) (tP aj (tP tS (tP tS (tP tB (tP (tL ak) (tP (tL ak) (tOne (tOT ae k)))))))))) (fun _ _=>rfl)).cast rfl rfl
theorem nz(k:Tok):az (ax k) 1 (tI .i64) (fun x y=>{x with Kind:=y}):=(az.map (m:=(fun x:aa=>(x.State,x.Kind,x.Id,x.Label,x.Was,x.Moved,x.Head,x.Words,x.Kids))) (f':=fun x y=>{x with Kind:=y}) (az.next (s:=(tI .i64)) (az.here (tI .i64) (tP aj (tP tS (tP tS (tP tB (tP (tL ak) (tP (tL ak) (tOne (tOT ae k)))))))))) (fun _ _=>rfl)).cast rfl rfl
theorem kZ(k:Tok):az (ax k) 2 aj (fun x y=>{x with Id:=y}):=(az.map (m:=(fun x:aa=>(x.State,x.Kind,x.Id,x.Label,x.Was,x.Moved,x.Head,x.Words,x.Kids))) (f':=fun x y=>{x with Id:=y}) (az.next (s:=(tI .i64)) (az.next (s:=(tI .i64)) (az.here aj (tP tS (tP tS (tP tB (tP (tL ak) (tP (tL ak) (tOne (tOT ae k)))))))))) (fun _ _=>rfl)).cast rfl rfl
theorem lc(k:Tok):az (ax k) 5 tS (fun x y=>{x with Label:=y}):=(az.map (m:=(fun x:aa=>(x.State,x.Kind,x.Id,x.Label,x.Was,x.Moved,x.Head,x.Words,x.Kids))) (f':=fun x y=>{x with Label:=y}) (az.next (s:=(tI .i64)) (az.next (s:=(tI .i64)) (az.next (s:=aj) (az.here tS (tP tS (tP tB (tP (tL ak) (tP (tL ak) (tOne (tOT ae k)))))))))) (fun _ _=>rfl)).cast rfl rfl
theorem nA(k:Tok):az (ax k) 6 tS (fun x y=>{x with Was:=y}):=(az.map (m:=(fun x:aa=>(x.State,x.Kind,x.Id,x.Label,x.Was,x.Moved,x.Head,x.Words,x.Kids))) (f':=fun x y=>{x with Was:=y}) (az.next (s:=(tI .i64)) (az.next (s:=(tI .i64)) (az.next (s:=aj) (az.next (s:=tS) (az.here tS (tP tB (tP (tL ak) (tP (tL ak) (tOne (tOT ae k)))))))))) (fun _ _=>rfl)).cast rfl rfl
theorem lg(k:Tok):az (ax k) 7 tB (fun x y=>{x with Moved:=y}):=(az.map (m:=(fun x:aa=>(x.State,x.Kind,x.Id,x.Label,x.Was,x.Moved,x.Head,x.Words,x.Kids))) (f':=fun x y=>{x with Moved:=y}) (az.next (s:=(tI .i64)) (az.next (s:=(tI .i64)) (az.next (s:=aj) (az.next (s:=tS) (az.next (s:=tS) (az.here tB (tP (tL ak) (tP (tL ak) (tOne (tOT ae k)))))))))) (fun _ _=>rfl)).cast rfl rfl
theorem nC(k:Tok):az (ax k) 8 (tL ak) (fun x y=>{x with Head:=y}):=(az.map (m:=(fun x:aa=>(x.State,x.Kind,x.Id,x.Label,x.Was,x.Moved,x.Head,x.Words,x.Kids))) (f':=fun x y=>{x with Head:=y}) (az.next (s:=(tI .i64)) (az.next (s:=(tI .i64)) (az.next (s:=aj) (az.next (s:=tS) (az.next (s:=tS) (az.next (s:=tB) (az.here (tL ak) (tP (tL ak) (tOne (tOT ae k)))))))))) (fun _ _=>rfl)).cast rfl rfl
theorem nD(k:Tok):az (ax k) 9 (tL ak) (fun x y=>{x with Words:=y}):=(az.map (m:=(fun x:aa=>(x.State,x.Kind,x.Id,x.Label,x.Was,x.Moved,x.Head,x.Words,x.Kids))) (f':=fun x y=>{x with Words:=y}) (az.next (s:=(tI .i64)) (az.next (s:=(tI .i64)) (az.next (s:=aj) (az.next (s:=tS) (az.next (s:=tS) (az.next (s:=tB) (az.next (s:=(tL ak)) (az.here (tL ak) (tOne (tOT ae k)))))))))) (fun _ _=>rfl)).cast rfl rfl
theorem nE(k:Tok):Fld (ax k) 10 (tOT ae k) (fun x=>x.Kids):=(Fld.map (m:=(fun x:aa=>(x.State,x.Kind,x.Id,x.Label,x.Was,x.Moved,x.Head,x.Words,x.Kids))) (Fld.next (s:=(tI .i64)) (Fld.next (s:=(tI .i64)) (Fld.next (s:=aj) (Fld.next (s:=tS) (Fld.next (s:=tS) (Fld.next (s:=tB) (Fld.next (s:=(tL ak)) (Fld.next (s:=(tL ak)) (Fld.one (tOT ae k))))))))))).cast rfl rfl
theorem sN(k k2:Tok):bz (ax k) (ax k2) 10 (tOT ae k2) (fun x y=>{x with Kids:=y}):=(bz.map (m:=(fun x:aa=>(x.State,x.Kind,x.Id,x.Label,x.Was,x.Moved,x.Head,x.Words,x.Kids))) (f':=fun x y=>{x with Kids:=y}) (bz.next (s:=(tI .i64)) (bz.next (s:=(tI .i64)) (bz.next (s:=aj) (bz.next (s:=tS) (bz.next (s:=tS) (bz.next (s:=tB) (bz.next (s:=(tL ak)) (bz.next (s:=(tL ak)) (bz.one (tOT ae k) (tOT ae k2) rfl))))))))) (fun _ _=>rfl)).cast rfl rfl
theorem eH(k:Tok):Le (ax k) ae:=Le.trans (Le.mapT (Le.pair (Le.refl _) (Le.pair (Le.refl _) (Le.pair (Le.refl _) (Le.pair (Le.refl _) (Le.pair (Le.refl _) (Le.pair (Le.refl _) (Le.pair (Le.refl _) (Le.pair (Le.refl _) (Le.one (Ga _ _)))))))))) _) aS.into
theorem bX:eT Tryz.prog 33 (ax none) av:=⟨_,Tryz.zeroValue33,fun _=>⟨_,⟨_,_,rfl,⟨rfl,inR64.2 ⟨by decide,by decide⟩⟩,_,_,rfl,⟨rfl,inR64.2 ⟨by decide,by decide⟩⟩,_,_,rfl,⟨_,_,rfl,⟨rfl,inR64.2 ⟨by decide,by decide⟩⟩,_,_,rfl,⟨rfl,inR64.2 ⟨by decide,by decide⟩⟩,rfl,inR64.2 ⟨by decide,by decide⟩⟩,_,_,rfl,⟨rfl,by decide⟩,_,_,rfl,⟨rfl,by decide⟩,_,_,rfl,rfl,_,_,rfl,⟨none,0,rfl,Nat.le_refl _,Nat.zero_le _,fun _=>rfl,rfl⟩,_,_,rfl,⟨none,0,rfl,Nat.le_refl _,Nat.zero_le _,fun _=>rfl,rfl⟩,_,rfl,rfl,Nat.le_refl _,Nat.zero_le _,rfl⟩,rfl⟩⟩
def aT:Ty ay:=tMap (tP (tQ aj ai) (tP (tQ aj ai) (tOne (tQ aj tB)))) (fun x:ay=>(x.a_,x.b_,x.moved_))
theorem wS:Fld aT 0 (tQ aj ai) (fun x=>x.a_):=(Fld.map (m:=(fun x:ay=>(x.a_,x.b_,x.moved_))) (Fld.here (tQ aj ai) (tP (tQ aj ai) (tOne (tQ aj tB))))).cast rfl rfl
theorem qP:Fld aT 1 (tQ aj ai) (fun x=>x.b_):=(Fld.map (m:=(fun x:ay=>(x.a_,x.b_,x.moved_))) (Fld.next (s:=(tQ aj ai)) (Fld.here (tQ aj ai) (tOne (tQ aj tB))))).cast rfl rfl
theorem qQ:Fld aT 2 (tQ aj tB) (fun x=>x.moved_):=(Fld.map (m:=(fun x:ay=>(x.a_,x.b_,x.moved_))) (Fld.next (s:=(tQ aj ai)) (Fld.next (s:=(tQ aj ai)) (Fld.one (tQ aj tB))))).cast rfl rfl
def qR(fd:Field):Nat:=if fd.type=56 then 1 else if fd.type=57 then 1 else 0
theorem vO:∀ fs,Tryz.prog.underlying 59=some (.struct fs)→∀ fd,fd∈fs→∀ w,(sizeOf fd.type).run Tryz.prog w= .ok (qR fd) w:=by
 intro fs h;rw [Tryz.underlying59] at h;cases h;intro fd hfd w;simp only [List.mem_toArray,List.mem_cons,List.not_mem_nil,or_false] at hfd;rcases hfd with rfl | rfl | rfl
 ·exact Tryz.sizeOf56 w
 ·exact Tryz.sizeOf56 w
 ·exact Tryz.sizeOf57 w
def fV:Ty bO:=tMap (tP (tI .i64) (tOne tS)) (fun x:bO=>(x.kind_,x.label_))
theorem sO:Fld fV 0 (tI .i64) (fun x=>x.kind_):=(Fld.map (m:=(fun x:bO=>(x.kind_,x.label_))) (Fld.here (tI .i64) (tOne tS))).cast rfl rfl
theorem yE:az fV 0 (tI .i64) (fun x y=>{x with kind_:=y}):=(az.map (m:=(fun x:bO=>(x.kind_,x.label_))) (f':=fun x y=>{x with kind_:=y}) (az.here (tI .i64) (tOne tS)) (fun _ _=>rfl)).cast rfl rfl
theorem sP:Fld fV 1 tS (fun x=>x.label_):=(Fld.map (m:=(fun x:bO=>(x.kind_,x.label_))) (Fld.next (s:=(tI .i64)) (Fld.one tS))).cast rfl rfl
theorem yF:az fV 1 tS (fun x y=>{x with label_:=y}):=(az.map (m:=(fun x:bO=>(x.kind_,x.label_))) (f':=fun x y=>{x with label_:=y}) (az.next (s:=(tI .i64)) (az.one tS)) (fun _ _=>rfl)).cast rfl rfl
def sQ(fd:Field):Nat:=if fd.type=3 then 1 else if fd.type=9 then 1 else 0
theorem xH:∀ fs,Tryz.prog.underlying 166=some (.struct fs)→∀ fd,fd∈fs→∀ w,(sizeOf fd.type).run Tryz.prog w= .ok (sQ fd) w:=by
 intro fs h;rw [Tryz.underlying166] at h;cases h;intro fd hfd w;simp only [List.mem_toArray,List.mem_cons,List.not_mem_nil,or_false] at hfd;rcases hfd with rfl | rfl
 ·exact Tryz.sizeOf3 w
 ·exact Tryz.sizeOf9 w
def aJ:Ty aC:=tMap (tP aj (tP (tI .i64) (tOne ai))) (fun x:aC=>(x.parent_,x.at_,x.unit_))
theorem zC:Fld aJ 0 aj (fun x=>x.parent_):=(Fld.map (m:=(fun x:aC=>(x.parent_,x.at_,x.unit_))) (Fld.here aj (tP (tI .i64) (tOne ai)))).cast rfl rfl
theorem zD:az aJ 0 aj (fun x y=>{x with parent_:=y}):=(az.map (m:=(fun x:aC=>(x.parent_,x.at_,x.unit_))) (f':=fun x y=>{x with parent_:=y}) (az.here aj (tP (tI .i64) (tOne ai))) (fun _ _=>rfl)).cast rfl rfl
theorem zG:Fld aJ 3 (tI .i64) (fun x=>x.at_):=(Fld.map (m:=(fun x:aC=>(x.parent_,x.at_,x.unit_))) (Fld.next (s:=aj) (Fld.here (tI .i64) (tOne ai)))).cast rfl rfl
theorem zH:az aJ 3 (tI .i64) (fun x y=>{x with at_:=y}):=(az.map (m:=(fun x:aC=>(x.parent_,x.at_,x.unit_))) (f':=fun x y=>{x with at_:=y}) (az.next (s:=aj) (az.here (tI .i64) (tOne ai))) (fun _ _=>rfl)).cast rfl rfl
theorem uD:Fld aJ 4 ai (fun x=>x.unit_):=(Fld.map (m:=(fun x:aC=>(x.parent_,x.at_,x.unit_))) (Fld.next (s:=aj) (Fld.next (s:=(tI .i64)) (Fld.one ai)))).cast rfl rfl
theorem uE:az aJ 4 ai (fun x y=>{x with unit_:=y}):=(az.map (m:=(fun x:aC=>(x.parent_,x.at_,x.unit_))) (f':=fun x y=>{x with unit_:=y}) (az.next (s:=aj) (az.next (s:=(tI .i64)) (az.one ai))) (fun _ _=>rfl)).cast rfl rfl
def qy(fd:Field):Nat:=if fd.type=3 then 1 else if fd.type=23 then 3 else if fd.type=27 then 8 else 0
theorem sS:∀ fs,Tryz.prog.underlying 171=some (.struct fs)→∀ fd,fd∈fs→∀ w,(sizeOf fd.type).run Tryz.prog w= .ok (qy fd) w:=by
 intro fs h;rw [Tryz.underlying171] at h;cases h;intro fd hfd w;simp only [List.mem_toArray,List.mem_cons,List.not_mem_nil,or_false] at hfd;rcases hfd with rfl | rfl | rfl
 ·exact Tryz.sizeOf23 w
 ·exact Tryz.sizeOf3 w
 ·exact Tryz.sizeOf27 w
def bn:Ty aW:=tMap (tP ai (tP ai (tP (tQ aj aJ) (tOne (tQ aj aJ))))) (fun x:aW=>(x.a_,x.b_,x.p_,x.q_))
theorem Bl:az bn 0 ai (fun x y=>{x with a_:=y}):=(az.map (m:=(fun x:aW=>(x.a_,x.b_,x.p_,x.q_))) (f':=fun x y=>{x with a_:=y}) (az.here ai (tP ai (tP (tQ aj aJ) (tOne (tQ aj aJ))))) (fun _ _=>rfl)).cast rfl rfl
theorem Bn:Fld bn 8 ai (fun x=>x.b_):=(Fld.map (m:=(fun x:aW=>(x.a_,x.b_,x.p_,x.q_))) (Fld.next (s:=ai) (Fld.here ai (tP (tQ aj aJ) (tOne (tQ aj aJ)))))).cast rfl rfl
theorem Bq:az bn 8 ai (fun x y=>{x with b_:=y}):=(az.map (m:=(fun x:aW=>(x.a_,x.b_,x.p_,x.q_))) (f':=fun x y=>{x with b_:=y}) (az.next (s:=ai) (az.here ai (tP (tQ aj aJ) (tOne (tQ aj aJ))))) (fun _ _=>rfl)).cast rfl rfl
theorem oM:Fld bn 16 (tQ aj aJ) (fun x=>x.p_):=(Fld.map (m:=(fun x:aW=>(x.a_,x.b_,x.p_,x.q_))) (Fld.next (s:=ai) (Fld.next (s:=ai) (Fld.here (tQ aj aJ) (tOne (tQ aj aJ)))))).cast rfl rfl
theorem Br:az bn 16 (tQ aj aJ) (fun x y=>{x with p_:=y}):=(az.map (m:=(fun x:aW=>(x.a_,x.b_,x.p_,x.q_))) (f':=fun x y=>{x with p_:=y}) (az.next (s:=ai) (az.next (s:=ai) (az.here (tQ aj aJ) (tOne (tQ aj aJ))))) (fun _ _=>rfl)).cast rfl rfl
theorem Bt:Fld bn 17 (tQ aj aJ) (fun x=>x.q_):=(Fld.map (m:=(fun x:aW=>(x.a_,x.b_,x.p_,x.q_))) (Fld.next (s:=ai) (Fld.next (s:=ai) (Fld.next (s:=(tQ aj aJ)) (Fld.one (tQ aj aJ)))))).cast rfl rfl
theorem Bu:az bn 17 (tQ aj aJ) (fun x y=>{x with q_:=y}):=(az.map (m:=(fun x:aW=>(x.a_,x.b_,x.p_,x.q_))) (f':=fun x y=>{x with q_:=y}) (az.next (s:=ai) (az.next (s:=ai) (az.next (s:=(tQ aj aJ)) (az.one (tQ aj aJ))))) (fun _ _=>rfl)).cast rfl rfl
def oN(fd:Field):Nat:=if fd.type=27 then 8 else if fd.type=127 then 1 else 0
theorem qz:∀ fs,Tryz.prog.underlying 129=some (.struct fs)→∀ fd,fd∈fs→∀ w,(sizeOf fd.type).run Tryz.prog w= .ok (oN fd) w:=by
 intro fs h;rw [Tryz.underlying129] at h;cases h;intro fd hfd w;simp only [List.mem_toArray,List.mem_cons,List.not_mem_nil,or_false] at hfd;rcases hfd with rfl | rfl | rfl | rfl
 ·exact Tryz.sizeOf27 w
 ·exact Tryz.sizeOf27 w
 ·exact Tryz.sizeOf127 w
 ·exact Tryz.sizeOf127 w
def aN:Ty aI:=tMap (tP (tI .i64) (tOne (tI .i64))) (fun x:aI=>(x.A,x.B))
theorem oo:Fld aN 0 (tI .i64) (fun x=>x.A):=(Fld.map (m:=(fun x:aI=>(x.A,x.B))) (Fld.here (tI .i64) (tOne (tI .i64)))).cast rfl rfl
theorem oq:az aN 0 (tI .i64) (fun x y=>{x with A:=y}):=(az.map (m:=(fun x:aI=>(x.A,x.B))) (f':=fun x y=>{x with A:=y}) (az.here (tI .i64) (tOne (tI .i64))) (fun _ _=>rfl)).cast rfl rfl
theorem ou:Fld aN 1 (tI .i64) (fun x=>x.B):=(Fld.map (m:=(fun x:aI=>(x.A,x.B))) (Fld.next (s:=(tI .i64)) (Fld.one (tI .i64)))).cast rfl rfl
theorem ow:az aN 1 (tI .i64) (fun x y=>{x with B:=y}):=(az.map (m:=(fun x:aI=>(x.A,x.B))) (f':=fun x y=>{x with B:=y}) (az.next (s:=(tI .i64)) (az.one (tI .i64))) (fun _ _=>rfl)).cast rfl rfl
def mK(fd:Field):Nat:=if fd.type=3 then 1 else 0
theorem mW:∀ fs,Tryz.prog.underlying 94=some (.struct fs)→∀ fd,fd∈fs→∀ w,(sizeOf fd.type).run Tryz.prog w= .ok (mK fd) w:=by
 intro fs h;rw [Tryz.underlying94] at h;cases h;intro fd hfd w;simp only [List.mem_toArray,List.mem_cons,List.not_mem_nil,or_false] at hfd;rcases hfd with rfl | rfl
 ·exact Tryz.sizeOf3 w
 ·exact Tryz.sizeOf3 w
def yG:Ty bB:=tMap (tP (tQ aj ae) (tOne (tQ aj tB))) (fun x:bB=>(x.moved_,x.met_))
def qU(fd:Field):Nat:=if fd.type=57 then 1 else if fd.type=76 then 1 else 0
theorem vP:∀ fs,Tryz.prog.underlying 79=some (.struct fs)→∀ fd,fd∈fs→∀ w,(sizeOf fd.type).run Tryz.prog w= .ok (qU fd) w:=by
 intro fs h;rw [Tryz.underlying79] at h;cases h;intro fd hfd w;simp only [List.mem_toArray,List.mem_cons,List.not_mem_nil,or_false] at hfd;rcases hfd with rfl | rfl
 ·exact Tryz.sizeOf76 w
 ·exact Tryz.sizeOf57 w
theorem ty3:TyAt Tryz.prog 3 (tI .i64):=⟨Tryz.isAgg3,Tryz.sizeOf3⟩
theorem el3:ElAt Tryz.prog 3 (tI .i64):=⟨⟨Tryz.t3,_,Tryz.type3,rfl,rfl,by decide,rfl⟩,by decide⟩
theorem ze3:eT Tryz.prog 3 (tI .i64) (0:Int):=⟨_,Tryz.zeroValue3,fun _=>⟨_,⟨rfl,inR64.2 ⟨by decide,by decide⟩⟩,rfl⟩⟩
theorem ty4:TyAt Tryz.prog 4 tB:=⟨Tryz.isAgg4,Tryz.sizeOf4⟩
theorem ze4:eT Tryz.prog 4 tB false:=⟨_,Tryz.zeroValue4,fun _=>⟨_,rfl,rfl⟩⟩
theorem ty5:TyAt Tryz.prog 5 (tI .u8):=⟨Tryz.isAgg5,Tryz.sizeOf5⟩
theorem el5:ElAt Tryz.prog 5 (tI .u8):=⟨⟨Tryz.t5,_,Tryz.type5,rfl,rfl,by decide,rfl⟩,by decide⟩
theorem ty9:TyAt Tryz.prog 9 tS:=⟨Tryz.isAgg9,Tryz.sizeOf9⟩
theorem el9:ElAt Tryz.prog 9 tS:=⟨⟨Tryz.t9,_,Tryz.type9,rfl,rfl,by decide,rfl⟩,by decide⟩
theorem ze9:eT Tryz.prog 9 tS ([]:Str):=⟨_,Tryz.zeroValue9,fun _=>⟨_,⟨rfl,by decide⟩,rfl⟩⟩
theorem ty23:TyAt Tryz.prog 23 aj:=⟨Tryz.isAgg23,Tryz.sizeOf23⟩
theorem el23:ElAt Tryz.prog 23 aj:=⟨⟨Tryz.t23,_,Tryz.type23,rfl,rfl,by decide,rfl⟩,by decide⟩
theorem ze23:eT Tryz.prog 23 aj cu:=⟨_,Tryz.zeroValue23,fun _=>⟨_,⟨_,_,rfl,⟨rfl,inR64.2 ⟨by decide,by decide⟩⟩,_,_,rfl,⟨rfl,inR64.2 ⟨by decide,by decide⟩⟩,rfl,inR64.2 ⟨by decide,by decide⟩⟩,rfl⟩⟩
theorem ty24:TyAt Tryz.prog 24 (tL aD):=⟨Tryz.isAgg24,Tryz.sizeOf24⟩
theorem ty25:TyAt Tryz.prog 25 (tL ai):=⟨Tryz.isAgg25,Tryz.sizeOf25⟩
theorem ty27:TyAt Tryz.prog 27 ai:=⟨Tryz.isAgg27,Tryz.sizeOf27⟩
theorem el27:ElAt Tryz.prog 27 ai:=⟨⟨Tryz.t27,_,Tryz.type27,rfl,rfl,by decide,rfl⟩,by decide⟩
theorem ze27:eT Tryz.prog 27 ai aB:=⟨_,Tryz.zeroValue27,fun _=>⟨_,(jw.into.rep _ _ _ ⟨_,_,rfl,⟨_,_,rfl,⟨rfl,inR64.2 ⟨by decide,by decide⟩⟩,_,_,rfl,⟨rfl,inR64.2 ⟨by decide,by decide⟩⟩,rfl,inR64.2 ⟨by decide,by decide⟩⟩,_,_,rfl,⟨rfl,inR64.2 ⟨by decide,by decide⟩⟩,_,_,rfl,⟨rfl,by decide⟩,_,_,rfl,⟨none,0,rfl,Nat.le_refl _,Nat.zero_le _,fun _=>rfl,rfl⟩,_,_,rfl,⟨none,0,rfl,Nat.le_refl _,Nat.zero_le _,fun _=>rfl,rfl⟩,none,0,rfl,Nat.le_refl _,Nat.zero_le _,fun _=>rfl,rfl⟩),rfl⟩⟩
theorem ty30:TyAt Tryz.prog 30 (tL ak):=⟨Tryz.isAgg30,Tryz.sizeOf30⟩
theorem ty31:TyAt Tryz.prog 31 (tL ae):=⟨Tryz.isAgg31,Tryz.sizeOf31⟩
theorem ty33:TyAt Tryz.prog 33 ae:=⟨Tryz.isAgg33,Tryz.sizeOf33⟩
theorem el33:ElAt Tryz.prog 33 ae:=⟨⟨Tryz.t33,_,Tryz.type33,rfl,rfl,by decide,rfl⟩,by decide⟩
theorem ze33:eT Tryz.prog 33 ae av:=⟨_,Tryz.zeroValue33,fun _=>⟨_,(aS.into.rep _ _ _ ⟨_,_,rfl,⟨rfl,inR64.2 ⟨by decide,by decide⟩⟩,_,_,rfl,⟨rfl,inR64.2 ⟨by decide,by decide⟩⟩,_,_,rfl,⟨_,_,rfl,⟨rfl,inR64.2 ⟨by decide,by decide⟩⟩,_,_,rfl,⟨rfl,inR64.2 ⟨by decide,by decide⟩⟩,rfl,inR64.2 ⟨by decide,by decide⟩⟩,_,_,rfl,⟨rfl,by decide⟩,_,_,rfl,⟨rfl,by decide⟩,_,_,rfl,rfl,_,_,rfl,⟨none,0,rfl,Nat.le_refl _,Nat.zero_le _,fun _=>rfl,rfl⟩,_,_,rfl,⟨none,0,rfl,Nat.le_refl _,Nat.zero_le _,fun _=>rfl,rfl⟩,none,0,rfl,Nat.le_refl _,Nat.zero_le _,fun _=>rfl,rfl⟩),rfl⟩⟩
theorem ty38:TyAt Tryz.prog 38 (tL tS):=⟨Tryz.isAgg38,Tryz.sizeOf38⟩
theorem el38:ElAt Tryz.prog 38 (tL tS):=⟨⟨Tryz.t38,_,Tryz.type38,rfl,rfl,by decide,rfl⟩,by decide⟩
theorem ze38:eT Tryz.prog 38 (tL tS) ([]:List Str):=⟨_,Tryz.zeroValue38,fun _=>⟨_,⟨none,0,rfl,Nat.le_refl _,Nat.zero_le _,fun _=>rfl,rfl⟩,rfl⟩⟩
theorem ty53:TyAt Tryz.prog 53 ak:=⟨Tryz.isAgg53,Tryz.sizeOf53⟩
theorem el53:ElAt Tryz.prog 53 ak:=⟨⟨Tryz.t53,_,Tryz.type53,rfl,rfl,by decide,rfl⟩,by decide⟩
theorem ze53:eT Tryz.prog 53 ak jv:=⟨_,Tryz.zeroValue53,fun _=>⟨_,⟨_,_,rfl,⟨rfl,inR64.2 ⟨by decide,by decide⟩⟩,rfl,by decide⟩,rfl⟩⟩
theorem ty56:TyAt Tryz.prog 56 (tQ aj ai):=⟨Tryz.isAgg56,Tryz.sizeOf56⟩
theorem ty57:TyAt Tryz.prog 57 (tQ aj tB):=⟨Tryz.isAgg57,Tryz.sizeOf57⟩
theorem ze57:eT Tryz.prog 57 (tQ aj tB) ([]:List (au×Bool)):=⟨_,Tryz.zeroValue57,fun _=>⟨_,(.inl ⟨rfl,rfl⟩),rfl⟩⟩
theorem ty59:TyAt Tryz.prog 59 aT:=⟨Tryz.isAgg59,Tryz.sizeOf59⟩
theorem ze59:eT Tryz.prog 59 aT jy:=⟨_,Tryz.zeroValue59,fun _=>⟨_,⟨_,_,rfl,(.inl ⟨rfl,rfl⟩),_,_,rfl,(.inl ⟨rfl,rfl⟩),(.inl ⟨rfl,rfl⟩)⟩,rfl⟩⟩
theorem ty76:TyAt Tryz.prog 76 (tQ aj ae):=⟨Tryz.isAgg76,Tryz.sizeOf76⟩
theorem ze79:eT Tryz.prog 79 yG gD:=⟨_,Tryz.zeroValue79,fun _=>⟨_,⟨_,_,rfl,(.inl ⟨rfl,rfl⟩),(.inl ⟨rfl,rfl⟩)⟩,rfl⟩⟩
theorem ty94:TyAt Tryz.prog 94 aN:=⟨Tryz.isAgg94,Tryz.sizeOf94⟩
theorem el94:ElAt Tryz.prog 94 aN:=⟨⟨Tryz.t94,_,Tryz.type94,rfl,rfl,by decide,rfl⟩,by decide⟩
theorem ze94:eT Tryz.prog 94 aN lJ:=⟨_,Tryz.zeroValue94,fun _=>⟨_,⟨_,_,rfl,⟨rfl,inR64.2 ⟨by decide,by decide⟩⟩,rfl,inR64.2 ⟨by decide,by decide⟩⟩,rfl⟩⟩
theorem ty120:TyAt Tryz.prog 120 aD:=⟨Tryz.isAgg120,Tryz.sizeOf120⟩
theorem el120:ElAt Tryz.prog 120 aD:=⟨⟨Tryz.t120,_,Tryz.type120,rfl,rfl,by decide,rfl⟩,by decide⟩
theorem ze120:eT Tryz.prog 120 aD zU:=⟨_,Tryz.zeroValue120,fun _=>⟨_,⟨_,_,rfl,⟨rfl,by decide⟩,_,_,rfl,⟨rfl,inR64.2 ⟨by decide,by decide⟩⟩,_,_,rfl,⟨rfl,inR64.2 ⟨by decide,by decide⟩⟩,rfl,inR64.2 ⟨by decide,by decide⟩⟩,rfl⟩⟩
theorem ty127:TyAt Tryz.prog 127 (tQ aj aJ):=⟨Tryz.isAgg127,Tryz.sizeOf127⟩
theorem ze127:eT Tryz.prog 127 (tQ aj aJ) ([]:List (au×aC)):=⟨_,Tryz.zeroValue127,fun _=>⟨_,(.inl ⟨rfl,rfl⟩),rfl⟩⟩
theorem ty129:TyAt Tryz.prog 129 bn:=⟨Tryz.isAgg129,Tryz.sizeOf129⟩
theorem ze129:eT Tryz.prog 129 bn ky:=⟨_,Tryz.zeroValue129,fun _=>⟨_,⟨_,_,rfl,(jw.into.rep _ _ _ ⟨_,_,rfl,⟨_,_,rfl,⟨rfl,inR64.2 ⟨by decide,by decide⟩⟩,_,_,rfl,⟨rfl,inR64.2 ⟨by decide,by decide⟩⟩,rfl,inR64.2 ⟨by decide,by decide⟩⟩,_,_,rfl,⟨rfl,inR64.2 ⟨by decide,by decide⟩⟩,_,_,rfl,⟨rfl,by decide⟩,_,_,rfl,⟨none,0,rfl,Nat.le_refl _,Nat.zero_le _,fun _=>rfl,rfl⟩,_,_,rfl,⟨none,0,rfl,Nat.le_refl _,Nat.zero_le _,fun _=>rfl,rfl⟩,none,0,rfl,Nat.le_refl _,Nat.zero_le _,fun _=>rfl,rfl⟩),_,_,rfl,(jw.into.rep _ _ _ ⟨_,_,rfl,⟨_,_,rfl,⟨rfl,inR64.2 ⟨by decide,by decide⟩⟩,_,_,rfl,⟨rfl,inR64.2 ⟨by decide,by decide⟩⟩,rfl,inR64.2 ⟨by decide,by decide⟩⟩,_,_,rfl,⟨rfl,inR64.2 ⟨by decide,by decide⟩⟩,_,_,rfl,⟨rfl,by decide⟩,_,_,rfl,⟨none,0,rfl,Nat.le_refl _,Nat.zero_le _,fun _=>rfl,rfl⟩,_,_,rfl,⟨none,0,rfl,Nat.le_refl _,Nat.zero_le _,fun _=>rfl,rfl⟩,none,0,rfl,Nat.le_refl _,Nat.zero_le _,fun _=>rfl,rfl⟩),_,_,rfl,(.inl ⟨rfl,rfl⟩),(.inl ⟨rfl,rfl⟩)⟩,rfl⟩⟩
theorem ty133:TyAt Tryz.prog 133 (tFun Tryz.prog (fun (f:Str→Option ah)=>(fun s:Str×ah=>f s.1=some s.2)) (fun s:Str×ah=>[tS.is s.1]) (fun s:Str×ah=>(ak.is s.2))):=⟨Tryz.isAgg133,Tryz.sizeOf133⟩
theorem ty161:TyAt Tryz.prog 161 (tL (tI .i64)):=⟨Tryz.isAgg161,Tryz.sizeOf161⟩
theorem ze161:eT Tryz.prog 161 (tL (tI .i64)) ([]:List Int):=⟨_,Tryz.zeroValue161,fun _=>⟨_,⟨none,0,rfl,Nat.le_refl _,Nat.zero_le _,fun _=>rfl,rfl⟩,rfl⟩⟩
theorem ty166:TyAt Tryz.prog 166 fV:=⟨Tryz.isAgg166,Tryz.sizeOf166⟩
theorem ze166:eT Tryz.prog 166 fV Bi:=⟨_,Tryz.zeroValue166,fun _=>⟨_,⟨_,_,rfl,⟨rfl,inR64.2 ⟨by decide,by decide⟩⟩,rfl,by decide⟩,rfl⟩⟩
theorem ze171:eT Tryz.prog 171 aJ aY:=⟨_,Tryz.zeroValue171,fun _=>⟨_,⟨_,_,rfl,⟨_,_,rfl,⟨rfl,inR64.2 ⟨by decide,by decide⟩⟩,_,_,rfl,⟨rfl,inR64.2 ⟨by decide,by decide⟩⟩,rfl,inR64.2 ⟨by decide,by decide⟩⟩,_,_,rfl,⟨rfl,inR64.2 ⟨by decide,by decide⟩⟩,(jw.into.rep _ _ _ ⟨_,_,rfl,⟨_,_,rfl,⟨rfl,inR64.2 ⟨by decide,by decide⟩⟩,_,_,rfl,⟨rfl,inR64.2 ⟨by decide,by decide⟩⟩,rfl,inR64.2 ⟨by decide,by decide⟩⟩,_,_,rfl,⟨rfl,inR64.2 ⟨by decide,by decide⟩⟩,_,_,rfl,⟨rfl,by decide⟩,_,_,rfl,⟨none,0,rfl,Nat.le_refl _,Nat.zero_le _,fun _=>rfl,rfl⟩,_,_,rfl,⟨none,0,rfl,Nat.le_refl _,Nat.zero_le _,fun _=>rfl,rfl⟩,none,0,rfl,Nat.le_refl _,Nat.zero_le _,fun _=>rfl,rfl⟩)⟩,rfl⟩⟩
theorem ty177:TyAt Tryz.prog 177 (tFun Tryz.prog (fun (f:Int→Int→Option Int)=>(fun s:Int×Int×Int=>f s.1 s.2.1=some s.2.2)) (fun s:Int×Int×Int=>[(tI .i64).is s.1,(tI .i64).is s.2.1]) (fun s:Int×Int×Int=>((tI .i64).is s.2.2))):=⟨Tryz.isAgg177,Tryz.sizeOf177⟩
theorem ze151:eT Tryz.prog 151 (tA 256 tB) (List.replicate 256 false):=eT.array ze4 Tryz.zeroValue4 Tryz.zeroValue151 rfl default
theorem ze202:eT Tryz.prog 202 (tA 3 (tI .i64)) (List.replicate 3 (0:Int)):=eT.array ze3 Tryz.zeroValue3 Tryz.zeroValue202 rfl default
theorem eq23:EqT (α:=au) (P:=Tryz.prog) (T:=23) (t:=aj) (D:=2):=EqT.struct (D:=1) rfl Tryz.underlying23 (by kernel_rfl) ⟨_,inferInstance,_,_,_,by decide,ty3,qL,((EqT.int Tryz.underlying3).up (by decide)),⟨_,inferInstance,_,_,_,by decide,ty3,qM,((EqT.int Tryz.underlying3).up (by decide)),⟨_,inferInstance,_,_,_,by decide,ty3,qN,((EqT.int Tryz.underlying3).up (by decide)),rfl,rfl⟩,rfl⟩,rfl⟩ (fun x y=>by cases x;cases y;simp)
theorem eg23:Tryz.prog.eqGuardType Tryz.prog.depth 23=false:=by kernel_rfl
theorem eq166:EqT (α:=bO) (P:=Tryz.prog) (T:=166) (t:=fV) (D:=2):=EqT.struct (D:=1) rfl Tryz.underlying166 (by kernel_rfl) ⟨_,inferInstance,_,_,_,by decide,ty3,sO,((EqT.int Tryz.underlying3).up (by decide)),⟨_,inferInstance,_,_,_,by decide,ty9,sP,((EqT.string Tryz.underlying9).up (by decide)),rfl,rfl⟩,rfl⟩ (fun x y=>by cases x;cases y;simp)
theorem fl3:Flat (tI .i64):=Flat.I
theorem kt23:KeyT Tryz.prog 23 aj:=KeyT.struct eq23 (by decide) rfl Tryz.underlying23 ⟨⟨_,_,_,ty3,qL,(fun h e w=>Ba Tryz.underlying3 9998 h e w)⟩,⟨_,_,_,ty3,qM,(fun h e w=>Ba Tryz.underlying3 9998 h e w)⟩,⟨_,_,_,ty3,qN,(fun h e w=>Ba Tryz.underlying3 9998 h e w)⟩,trivial⟩
theorem kt166:KeyT Tryz.prog 166 fV:=KeyT.struct eq166 (by decide) rfl Tryz.underlying166 ⟨⟨_,_,_,ty3,sO,(fun h e w=>Ba Tryz.underlying3 9998 h e w)⟩,⟨_,_,_,ty9,sP,(fun h e w=>Fb Tryz.underlying9 9998 h e w)⟩,trivial⟩
abbrev I6:Ty Int:=tI .i64
theorem Mx:Tryz.prog.follows .mixedOrders=true:=Tryz.mixed
theorem C6(xs:Array Value)(w:World):(callFunc 6 xs).run Tryz.prog w= .ok (.enter 6 xs) w:=Tryz.call6 xs w
theorem C7(xs:Array Value)(w:World):(callFunc 7 xs).run Tryz.prog w= .ok (.enter 7 xs) w:=Tryz.call7 xs w
theorem C8(xs:Array Value)(w:World):(callFunc 8 xs).run Tryz.prog w= .ok (.enter 8 xs) w:=Tryz.call8 xs w
theorem C9(xs:Array Value)(w:World):(callFunc 9 xs).run Tryz.prog w= .ok (.enter 9 xs) w:=Tryz.call9 xs w
theorem C10(xs:Array Value)(w:World):(callFunc 10 xs).run Tryz.prog w= .ok (.enter 10 xs) w:=Tryz.call10 xs w
theorem C14(xs:Array Value)(w:World):(callFunc 14 xs).run Tryz.prog w= .ok (.enter 14 xs) w:=Tryz.call14 xs w
theorem C16(xs:Array Value)(w:World):(callFunc 16 xs).run Tryz.prog w= .ok (.enter 16 xs) w:=Tryz.call16 xs w
theorem C18(xs:Array Value)(w:World):(callFunc 18 xs).run Tryz.prog w= .ok (.enter 18 xs) w:=Tryz.call18 xs w
theorem C20(xs:Array Value)(w:World):(callFunc 20 xs).run Tryz.prog w= .ok (.enter 20 xs) w:=Tryz.call20 xs w
theorem C21(xs:Array Value)(w:World):(callFunc 21 xs).run Tryz.prog w= .ok (.enter 21 xs) w:=Tryz.call21 xs w
theorem C22(xs:Array Value)(w:World):(callFunc 22 xs).run Tryz.prog w= .ok (.enter 22 xs) w:=Tryz.call22 xs w
theorem C23(xs:Array Value)(w:World):(callFunc 23 xs).run Tryz.prog w= .ok (.enter 23 xs) w:=Tryz.call23 xs w
theorem C24(xs:Array Value)(w:World):(callFunc 24 xs).run Tryz.prog w= .ok (.enter 24 xs) w:=Tryz.call24 xs w
theorem C25(xs:Array Value)(w:World):(callFunc 25 xs).run Tryz.prog w= .ok (.enter 25 xs) w:=Tryz.call25 xs w
theorem C26(xs:Array Value)(w:World):(callFunc 26 xs).run Tryz.prog w= .ok (.enter 26 xs) w:=Tryz.call26 xs w
theorem C27(xs:Array Value)(w:World):(callFunc 27 xs).run Tryz.prog w= .ok (.enter 27 xs) w:=Tryz.call27 xs w
theorem C28(xs:Array Value)(w:World):(callFunc 28 xs).run Tryz.prog w= .ok (.enter 28 xs) w:=Tryz.call28 xs w
theorem C29(xs:Array Value)(w:World):(callFunc 29 xs).run Tryz.prog w= .ok (.enter 29 xs) w:=Tryz.call29 xs w
theorem C30(xs:Array Value)(w:World):(callFunc 30 xs).run Tryz.prog w= .ok (.enter 30 xs) w:=Tryz.call30 xs w
theorem C31(xs:Array Value)(w:World):(callFunc 31 xs).run Tryz.prog w= .ok (.enter 31 xs) w:=Tryz.call31 xs w
theorem C33(xs:Array Value)(w:World):(callFunc 33 xs).run Tryz.prog w= .ok (.enter 33 xs) w:=Tryz.call33 xs w
theorem C35(xs:Array Value)(w:World):(callFunc 35 xs).run Tryz.prog w= .ok (.enter 35 xs) w:=Tryz.call35 xs w
theorem C37(xs:Array Value)(w:World):(callFunc 37 xs).run Tryz.prog w= .ok (.enter 37 xs) w:=Tryz.call37 xs w
theorem C39(xs:Array Value)(w:World):(callFunc 39 xs).run Tryz.prog w= .ok (.enter 39 xs) w:=Tryz.call39 xs w
theorem C40(xs:Array Value)(w:World):(callFunc 40 xs).run Tryz.prog w= .ok (.enter 40 xs) w:=Tryz.call40 xs w
theorem C41(xs:Array Value)(w:World):(callFunc 41 xs).run Tryz.prog w= .ok (.enter 41 xs) w:=Tryz.call41 xs w
theorem C42(xs:Array Value)(w:World):(callFunc 42 xs).run Tryz.prog w= .ok (.enter 42 xs) w:=Tryz.call42 xs w
theorem C43(xs:Array Value)(w:World):(callFunc 43 xs).run Tryz.prog w= .ok (.enter 43 xs) w:=Tryz.call43 xs w
theorem C44(xs:Array Value)(w:World):(callFunc 44 xs).run Tryz.prog w= .ok (.enter 44 xs) w:=Tryz.call44 xs w
theorem C45(xs:Array Value)(w:World):(callFunc 45 xs).run Tryz.prog w= .ok (.enter 45 xs) w:=Tryz.call45 xs w
theorem C46(xs:Array Value)(w:World):(callFunc 46 xs).run Tryz.prog w= .ok (.enter 46 xs) w:=Tryz.call46 xs w
theorem C47(xs:Array Value)(w:World):(callFunc 47 xs).run Tryz.prog w= .ok (.enter 47 xs) w:=Tryz.call47 xs w
theorem C48(xs:Array Value)(w:World):(callFunc 48 xs).run Tryz.prog w= .ok (.enter 48 xs) w:=Tryz.call48 xs w
theorem C49(xs:Array Value)(w:World):(callFunc 49 xs).run Tryz.prog w= .ok (.enter 49 xs) w:=Tryz.call49 xs w
theorem C50(xs:Array Value)(w:World):(callFunc 50 xs).run Tryz.prog w= .ok (.enter 50 xs) w:=Tryz.call50 xs w
theorem C51(xs:Array Value)(w:World):(callFunc 51 xs).run Tryz.prog w= .ok (.enter 51 xs) w:=Tryz.call51 xs w
theorem C52(xs:Array Value)(w:World):(callFunc 52 xs).run Tryz.prog w= .ok (.enter 52 xs) w:=Tryz.call52 xs w
theorem C53(xs:Array Value)(w:World):(callFunc 53 xs).run Tryz.prog w= .ok (.enter 53 xs) w:=Tryz.call53 xs w
theorem C54(xs:Array Value)(w:World):(callFunc 54 xs).run Tryz.prog w= .ok (.enter 54 xs) w:=Tryz.call54 xs w
theorem C55(xs:Array Value)(w:World):(callFunc 55 xs).run Tryz.prog w= .ok (.enter 55 xs) w:=Tryz.call55 xs w
theorem C56(xs:Array Value)(w:World):(callFunc 56 xs).run Tryz.prog w= .ok (.enter 56 xs) w:=Tryz.call56 xs w
theorem C57(xs:Array Value)(w:World):(callFunc 57 xs).run Tryz.prog w= .ok (.enter 57 xs) w:=Tryz.call57 xs w
theorem C58(xs:Array Value)(w:World):(callFunc 58 xs).run Tryz.prog w= .ok (.enter 58 xs) w:=Tryz.call58 xs w
theorem C59(xs:Array Value)(w:World):(callFunc 59 xs).run Tryz.prog w= .ok (.enter 59 xs) w:=Tryz.call59 xs w
theorem C60(xs:Array Value)(w:World):(callFunc 60 xs).run Tryz.prog w= .ok (.enter 60 xs) w:=Tryz.call60 xs w
theorem C61(xs:Array Value)(w:World):(callFunc 61 xs).run Tryz.prog w= .ok (.enter 61 xs) w:=Tryz.call61 xs w
theorem C62(xs:Array Value)(w:World):(callFunc 62 xs).run Tryz.prog w= .ok (.enter 62 xs) w:=Tryz.call62 xs w
theorem C63(xs:Array Value)(w:World):(callFunc 63 xs).run Tryz.prog w= .ok (.enter 63 xs) w:=Tryz.call63 xs w
theorem C64(xs:Array Value)(w:World):(callFunc 64 xs).run Tryz.prog w= .ok (.enter 64 xs) w:=Tryz.call64 xs w
theorem C65(xs:Array Value)(w:World):(callFunc 65 xs).run Tryz.prog w= .ok (.enter 65 xs) w:=Tryz.call65 xs w
theorem C66(xs:Array Value)(w:World):(callFunc 66 xs).run Tryz.prog w= .ok (.enter 66 xs) w:=Tryz.call66 xs w
theorem C67(xs:Array Value)(w:World):(callFunc 67 xs).run Tryz.prog w= .ok (.enter 67 xs) w:=Tryz.call67 xs w
theorem C68(xs:Array Value)(w:World):(callFunc 68 xs).run Tryz.prog w= .ok (.enter 68 xs) w:=Tryz.call68 xs w
theorem C71(xs:Array Value)(w:World):(callFunc 71 xs).run Tryz.prog w= .ok (.enter 71 xs) w:=Tryz.call71 xs w
theorem C72(xs:Array Value)(w:World):(callFunc 72 xs).run Tryz.prog w= .ok (.enter 72 xs) w:=Tryz.call72 xs w
theorem C73(xs:Array Value)(w:World):(callFunc 73 xs).run Tryz.prog w= .ok (.enter 73 xs) w:=Tryz.call73 xs w
theorem C74(xs:Array Value)(w:World):(callFunc 74 xs).run Tryz.prog w= .ok (.enter 74 xs) w:=Tryz.call74 xs w
theorem C75(xs:Array Value)(w:World):(callFunc 75 xs).run Tryz.prog w= .ok (.enter 75 xs) w:=Tryz.call75 xs w
theorem C76(xs:Array Value)(w:World):(callFunc 76 xs).run Tryz.prog w= .ok (.enter 76 xs) w:=Tryz.call76 xs w
theorem C77(xs:Array Value)(w:World):(callFunc 77 xs).run Tryz.prog w= .ok (.enter 77 xs) w:=Tryz.call77 xs w
theorem C78(xs:Array Value)(w:World):(callFunc 78 xs).run Tryz.prog w= .ok (.enter 78 xs) w:=Tryz.call78 xs w
theorem C79(xs:Array Value)(w:World):(callFunc 79 xs).run Tryz.prog w= .ok (.enter 79 xs) w:=Tryz.call79 xs w
theorem C80(xs:Array Value)(w:World):(callFunc 80 xs).run Tryz.prog w= .ok (.enter 80 xs) w:=Tryz.call80 xs w
theorem C81(xs:Array Value)(w:World):(callFunc 81 xs).run Tryz.prog w= .ok (.enter 81 xs) w:=Tryz.call81 xs w
theorem C82(xs:Array Value)(w:World):(callFunc 82 xs).run Tryz.prog w= .ok (.enter 82 xs) w:=Tryz.call82 xs w
theorem C83(xs:Array Value)(w:World):(callFunc 83 xs).run Tryz.prog w= .ok (.enter 83 xs) w:=Tryz.call83 xs w
theorem C84(xs:Array Value)(w:World):(callFunc 84 xs).run Tryz.prog w= .ok (.enter 84 xs) w:=Tryz.call84 xs w
theorem C85(xs:Array Value)(w:World):(callFunc 85 xs).run Tryz.prog w= .ok (.enter 85 xs) w:=Tryz.call85 xs w
theorem C86(xs:Array Value)(w:World):(callFunc 86 xs).run Tryz.prog w= .ok (.enter 86 xs) w:=Tryz.call86 xs w
theorem C87(xs:Array Value)(w:World):(callFunc 87 xs).run Tryz.prog w= .ok (.enter 87 xs) w:=Tryz.call87 xs w
theorem C88(xs:Array Value)(w:World):(callFunc 88 xs).run Tryz.prog w= .ok (.enter 88 xs) w:=Tryz.call88 xs w
theorem C89(xs:Array Value)(w:World):(callFunc 89 xs).run Tryz.prog w= .ok (.enter 89 xs) w:=Tryz.call89 xs w
theorem C90(xs:Array Value)(w:World):(callFunc 90 xs).run Tryz.prog w= .ok (.enter 90 xs) w:=Tryz.call90 xs w
theorem C91(xs:Array Value)(w:World):(callFunc 91 xs).run Tryz.prog w= .ok (.enter 91 xs) w:=Tryz.call91 xs w
theorem C92(xs:Array Value)(w:World):(callFunc 92 xs).run Tryz.prog w= .ok (.enter 92 xs) w:=Tryz.call92 xs w
theorem C93(xs:Array Value)(w:World):(callFunc 93 xs).run Tryz.prog w= .ok (.enter 93 xs) w:=Tryz.call93 xs w
theorem C94(xs:Array Value)(w:World):(callFunc 94 xs).run Tryz.prog w= .ok (.enter 94 xs) w:=Tryz.call94 xs w
theorem C95(xs:Array Value)(w:World):(callFunc 95 xs).run Tryz.prog w= .ok (.enter 95 xs) w:=Tryz.call95 xs w
theorem C96(xs:Array Value)(w:World):(callFunc 96 xs).run Tryz.prog w= .ok (.enter 96 xs) w:=Tryz.call96 xs w
theorem C100(xs:Array Value)(w:World):(callFunc 100 xs).run Tryz.prog w= .ok (.enter 100 xs) w:=Tryz.call100 xs w
theorem C101(xs:Array Value)(w:World):(callFunc 101 xs).run Tryz.prog w= .ok (.enter 101 xs) w:=Tryz.call101 xs w
theorem C108(xs:Array Value)(w:World):(callFunc 108 xs).run Tryz.prog w= .ok (.enter 108 xs) w:=Tryz.call108 xs w
theorem C109(xs:Array Value)(w:World):(callFunc 109 xs).run Tryz.prog w= .ok (.enter 109 xs) w:=Tryz.call109 xs w
theorem C110(xs:Array Value)(w:World):(callFunc 110 xs).run Tryz.prog w= .ok (.enter 110 xs) w:=Tryz.call110 xs w
theorem C112(xs:Array Value)(w:World):(callFunc 112 xs).run Tryz.prog w= .ok (.enter 112 xs) w:=Tryz.call112 xs w
theorem C113(xs:Array Value)(w:World):(callFunc 113 xs).run Tryz.prog w= .ok (.enter 113 xs) w:=Tryz.call113 xs w
theorem C114(xs:Array Value)(w:World):(callFunc 114 xs).run Tryz.prog w= .ok (.enter 114 xs) w:=Tryz.call114 xs w
theorem C115(xs:Array Value)(w:World):(callFunc 115 xs).run Tryz.prog w= .ok (.enter 115 xs) w:=Tryz.call115 xs w
theorem C116(xs:Array Value)(w:World):(callFunc 116 xs).run Tryz.prog w= .ok (.enter 116 xs) w:=Tryz.call116 xs w
theorem C117(xs:Array Value)(w:World):(callFunc 117 xs).run Tryz.prog w= .ok (.enter 117 xs) w:=Tryz.call117 xs w
theorem C118(xs:Array Value)(w:World):(callFunc 118 xs).run Tryz.prog w= .ok (.enter 118 xs) w:=Tryz.call118 xs w
theorem C119(xs:Array Value)(w:World):(callFunc 119 xs).run Tryz.prog w= .ok (.enter 119 xs) w:=Tryz.call119 xs w
theorem C120(xs:Array Value)(w:World):(callFunc 120 xs).run Tryz.prog w= .ok (.enter 120 xs) w:=Tryz.call120 xs w
theorem C121(xs:Array Value)(w:World):(callFunc 121 xs).run Tryz.prog w= .ok (.enter 121 xs) w:=Tryz.call121 xs w
theorem C122(xs:Array Value)(w:World):(callFunc 122 xs).run Tryz.prog w= .ok (.enter 122 xs) w:=Tryz.call122 xs w
theorem C123(xs:Array Value)(w:World):(callFunc 123 xs).run Tryz.prog w= .ok (.enter 123 xs) w:=Tryz.call123 xs w
theorem C124(xs:Array Value)(w:World):(callFunc 124 xs).run Tryz.prog w= .ok (.enter 124 xs) w:=Tryz.call124 xs w
theorem C125(xs:Array Value)(w:World):(callFunc 125 xs).run Tryz.prog w= .ok (.enter 125 xs) w:=Tryz.call125 xs w
theorem C126(xs:Array Value)(w:World):(callFunc 126 xs).run Tryz.prog w= .ok (.enter 126 xs) w:=Tryz.call126 xs w
theorem C127(xs:Array Value)(w:World):(callFunc 127 xs).run Tryz.prog w= .ok (.enter 127 xs) w:=Tryz.call127 xs w
theorem C128(xs:Array Value)(w:World):(callFunc 128 xs).run Tryz.prog w= .ok (.enter 128 xs) w:=Tryz.call128 xs w
theorem C129(xs:Array Value)(w:World):(callFunc 129 xs).run Tryz.prog w= .ok (.enter 129 xs) w:=Tryz.call129 xs w
theorem C130(xs:Array Value)(w:World):(callFunc 130 xs).run Tryz.prog w= .ok (.enter 130 xs) w:=Tryz.call130 xs w
theorem C131(xs:Array Value)(w:World):(callFunc 131 xs).run Tryz.prog w= .ok (.enter 131 xs) w:=Tryz.call131 xs w
theorem C132(xs:Array Value)(w:World):(callFunc 132 xs).run Tryz.prog w= .ok (.enter 132 xs) w:=Tryz.call132 xs w
theorem C133(xs:Array Value)(w:World):(callFunc 133 xs).run Tryz.prog w= .ok (.enter 133 xs) w:=Tryz.call133 xs w
theorem C134(xs:Array Value)(w:World):(callFunc 134 xs).run Tryz.prog w= .ok (.enter 134 xs) w:=Tryz.call134 xs w
theorem C135(xs:Array Value)(w:World):(callFunc 135 xs).run Tryz.prog w= .ok (.enter 135 xs) w:=Tryz.call135 xs w
theorem C138(xs:Array Value)(w:World):(callFunc 138 xs).run Tryz.prog w= .ok (.enter 138 xs) w:=Tryz.call138 xs w
theorem C148(xs:Array Value)(w:World):(callFunc 148 xs).run Tryz.prog w= .ok (.enter 148 xs) w:=Tryz.call148 xs w
theorem C152(xs:Array Value)(w:World):(callFunc 152 xs).run Tryz.prog w= .ok (.enter 152 xs) w:=Tryz.call152 xs w
theorem C153(xs:Array Value)(w:World):(callFunc 153 xs).run Tryz.prog w= .ok (.enter 153 xs) w:=Tryz.call153 xs w
theorem C154(xs:Array Value)(w:World):(callFunc 154 xs).run Tryz.prog w= .ok (.enter 154 xs) w:=Tryz.call154 xs w
theorem C155(xs:Array Value)(w:World):(callFunc 155 xs).run Tryz.prog w= .ok (.enter 155 xs) w:=Tryz.call155 xs w
theorem C156(xs:Array Value)(w:World):(callFunc 156 xs).run Tryz.prog w= .ok (.enter 156 xs) w:=Tryz.call156 xs w
theorem C158(xs:Array Value)(w:World):(callFunc 158 xs).run Tryz.prog w= .ok (.enter 158 xs) w:=Tryz.call158 xs w
theorem C159(xs:Array Value)(w:World):(callFunc 159 xs).run Tryz.prog w= .ok (.enter 159 xs) w:=Tryz.call159 xs w
theorem C160(xs:Array Value)(w:World):(callFunc 160 xs).run Tryz.prog w= .ok (.enter 160 xs) w:=Tryz.call160 xs w
theorem C161(xs:Array Value)(w:World):(callFunc 161 xs).run Tryz.prog w= .ok (.enter 161 xs) w:=Tryz.call161 xs w
theorem C162(xs:Array Value)(w:World):(callFunc 162 xs).run Tryz.prog w= .ok (.enter 162 xs) w:=Tryz.call162 xs w
theorem C163(xs:Array Value)(w:World):(callFunc 163 xs).run Tryz.prog w= .ok (.enter 163 xs) w:=Tryz.call163 xs w
theorem C164(xs:Array Value)(w:World):(callFunc 164 xs).run Tryz.prog w= .ok (.enter 164 xs) w:=Tryz.call164 xs w
theorem C165(xs:Array Value)(w:World):(callFunc 165 xs).run Tryz.prog w= .ok (.enter 165 xs) w:=Tryz.call165 xs w
theorem C166(xs:Array Value)(w:World):(callFunc 166 xs).run Tryz.prog w= .ok (.enter 166 xs) w:=Tryz.call166 xs w
theorem C167(xs:Array Value)(w:World):(callFunc 167 xs).run Tryz.prog w= .ok (.enter 167 xs) w:=Tryz.call167 xs w
theorem C175(xs:Array Value)(w:World):(callFunc 175 xs).run Tryz.prog w= .ok (.enter 175 xs) w:=Tryz.call175 xs w
theorem C178(xs:Array Value)(w:World):(callFunc 178 xs).run Tryz.prog w= .ok (.enter 178 xs) w:=Tryz.call178 xs w
theorem C179(xs:Array Value)(w:World):(callFunc 179 xs).run Tryz.prog w= .ok (.enter 179 xs) w:=Tryz.call179 xs w
theorem C180(xs:Array Value)(w:World):(callFunc 180 xs).run Tryz.prog w= .ok (.enter 180 xs) w:=Tryz.call180 xs w
theorem C181(xs:Array Value)(w:World):(callFunc 181 xs).run Tryz.prog w= .ok (.enter 181 xs) w:=Tryz.call181 xs w
theorem C182(xs:Array Value)(w:World):(callFunc 182 xs).run Tryz.prog w= .ok (.enter 182 xs) w:=Tryz.call182 xs w
theorem C183(xs:Array Value)(w:World):(callFunc 183 xs).run Tryz.prog w= .ok (.enter 183 xs) w:=Tryz.call183 xs w
theorem C197(xs:Array Value)(w:World):(callFunc 197 xs).run Tryz.prog w= .ok (.enter 197 xs) w:=Tryz.call197 xs w
theorem J3(w:World):∃ m,(sizeOf 3).run Tryz.prog w= .ok (m+1) w:=⟨0,Tryz.sizeOf3 w⟩
theorem J4(w:World):∃ m,(sizeOf 4).run Tryz.prog w= .ok (m+1) w:=⟨0,Tryz.sizeOf4 w⟩
theorem J9(w:World):∃ m,(sizeOf 9).run Tryz.prog w= .ok (m+1) w:=⟨0,Tryz.sizeOf9 w⟩
theorem J23(w:World):∃ m,(sizeOf 23).run Tryz.prog w= .ok (m+1) w:=⟨2,Tryz.sizeOf23 w⟩
theorem J24(w:World):∃ m,(sizeOf 24).run Tryz.prog w= .ok (m+1) w:=⟨0,Tryz.sizeOf24 w⟩
theorem J25(w:World):∃ m,(sizeOf 25).run Tryz.prog w= .ok (m+1) w:=⟨0,Tryz.sizeOf25 w⟩
theorem J27(w:World):∃ m,(sizeOf 27).run Tryz.prog w= .ok (m+1) w:=⟨7,Tryz.sizeOf27 w⟩
theorem J30(w:World):∃ m,(sizeOf 30).run Tryz.prog w= .ok (m+1) w:=⟨0,Tryz.sizeOf30 w⟩
theorem J31(w:World):∃ m,(sizeOf 31).run Tryz.prog w= .ok (m+1) w:=⟨0,Tryz.sizeOf31 w⟩
theorem J56(w:World):∃ m,(sizeOf 56).run Tryz.prog w= .ok (m+1) w:=⟨0,Tryz.sizeOf56 w⟩
theorem J57(w:World):∃ m,(sizeOf 57).run Tryz.prog w= .ok (m+1) w:=⟨0,Tryz.sizeOf57 w⟩
theorem J76(w:World):∃ m,(sizeOf 76).run Tryz.prog w= .ok (m+1) w:=⟨0,Tryz.sizeOf76 w⟩
theorem J103(w:World):∃ m,(sizeOf 103).run Tryz.prog w= .ok (m+1) w:=⟨0,Tryz.sizeOf103 w⟩
theorem J127(w:World):∃ m,(sizeOf 127).run Tryz.prog w= .ok (m+1) w:=⟨0,Tryz.sizeOf127 w⟩
theorem U4:Tryz.prog.underlying 4=some (.bool):=Tryz.underlying4
theorem U5:Tryz.prog.underlying 5=some (.int .u8):=Tryz.underlying5
theorem U9:Tryz.prog.underlying 9=some (.string):=Tryz.underlying9
theorem U23:Tryz.prog.underlying 23=some (.struct #[⟨ "Act",3,0,false,"","",0⟩,⟨ "Item",3,1,false,"","",8⟩,⟨ "N",3,2,false,"","",16⟩]):=Tryz.underlying23
theorem U24:Tryz.prog.underlying 24=some (.slice 120):=Tryz.underlying24
theorem U25:Tryz.prog.underlying 25=some (.slice 27):=Tryz.underlying25
theorem U27:Tryz.prog.underlying 27=some (.struct #[⟨ "Id",23,0,false,"","",0⟩,⟨ "Kind",3,3,false,"","",24⟩,⟨ "Label",9,4,false,"","",32⟩,⟨ "Head",24,5,false,"","",48⟩,⟨ "Words",24,6,false,"","",72⟩,⟨ "Kids",25,7,false,"","",96⟩]):=Tryz.underlying27
theorem U30:Tryz.prog.underlying 30=some (.slice 53):=Tryz.underlying30
theorem U31:Tryz.prog.underlying 31=some (.slice 33):=Tryz.underlying31
theorem U33:Tryz.prog.underlying 33=some (.struct #[⟨ "State",3,0,false,"","",0⟩,⟨ "Kind",3,1,false,"","",8⟩,⟨ "Id",23,2,false,"","",16⟩,⟨ "Label",9,5,false,"","",40⟩,⟨ "Was",9,6,false,"","",56⟩,⟨ "Moved",4,7,false,"","",72⟩,⟨ "Head",30,8,false,"","",80⟩,⟨ "Words",30,9,false,"","",104⟩,⟨ "Kids",31,10,false,"","",128⟩]):=Tryz.underlying33
theorem U38:Tryz.prog.underlying 38=some (.slice 9):=Tryz.underlying38
theorem U53:Tryz.prog.underlying 53=some (.struct #[⟨ "State",3,0,false,"","",0⟩,⟨ "Text",9,1,false,"","",8⟩]):=Tryz.underlying53
theorem U56:Tryz.prog.underlying 56=some (.map 23 27):=Tryz.underlying56
theorem U57:Tryz.prog.underlying 57=some (.map 23 4):=Tryz.underlying57
theorem U76:Tryz.prog.underlying 76=some (.map 23 33):=Tryz.underlying76
theorem U83:Tryz.prog.underlying 83=some (.array 3 9):=Tryz.underlying83
theorem U88:Tryz.prog.underlying 88=some (.slice 23):=Tryz.underlying88
theorem U91:Tryz.prog.underlying 91=some (.slice 94):=Tryz.underlying91
theorem U94:Tryz.prog.underlying 94=some (.struct #[⟨ "A",3,0,false,"","",0⟩,⟨ "B",3,1,false,"","",8⟩]):=Tryz.underlying94
theorem U103:Tryz.prog.underlying 103=some (.slice 5):=Tryz.underlying103
theorem U120:Tryz.prog.underlying 120=some (.struct #[⟨ "Text",9,0,false,"","",0⟩,⟨ "By",118,1,false,"","",16⟩]):=Tryz.underlying120
theorem U127:Tryz.prog.underlying 127=some (.map 23 171):=Tryz.underlying127
theorem U145:Tryz.prog.underlying 145=some (.array 8 9):=Tryz.underlying145
theorem U146:Tryz.prog.underlying 146=some (.pointer 5):=Tryz.underlying146
theorem U151:Tryz.prog.underlying 151=some (.array 256 4):=Tryz.underlying151
theorem U161:Tryz.prog.underlying 161=some (.slice 3):=Tryz.underlying161
theorem U164:Tryz.prog.underlying 164=some (.map 166 4):=Tryz.underlying164
theorem U202:Tryz.prog.underlying 202=some (.array 3 3):=Tryz.underlying202
theorem U205:Tryz.prog.underlying 205=some (.array 8 161):=Tryz.underlying205
theorem U208:Tryz.prog.underlying 208=some (.slice 38):=Tryz.underlying208
theorem Y3(w:World):(isAgg 3).run Tryz.prog w= .ok false w:=Tryz.isAgg3 w
theorem Y23(w:World):(isAgg 23).run Tryz.prog w= .ok true w:=Tryz.isAgg23 w
theorem Y27(w:World):(isAgg 27).run Tryz.prog w= .ok true w:=Tryz.isAgg27 w
theorem Y33(w:World):(isAgg 33).run Tryz.prog w= .ok true w:=Tryz.isAgg33 w
theorem Y38(w:World):(isAgg 38).run Tryz.prog w= .ok false w:=Tryz.isAgg38 w
theorem Y53(w:World):(isAgg 53).run Tryz.prog w= .ok true w:=Tryz.isAgg53 w
theorem Y59(w:World):(isAgg 59).run Tryz.prog w= .ok true w:=Tryz.isAgg59 w
theorem Y63(w:World):(isAgg 63).run Tryz.prog w= .ok false w:=Tryz.isAgg63 w
theorem Y79(w:World):(isAgg 79).run Tryz.prog w= .ok true w:=Tryz.isAgg79 w
theorem Y88(w:World):(isAgg 88).run Tryz.prog w= .ok false w:=Tryz.isAgg88 w
theorem Y94(w:World):(isAgg 94).run Tryz.prog w= .ok true w:=Tryz.isAgg94 w
theorem Y103(w:World):(isAgg 103).run Tryz.prog w= .ok false w:=Tryz.isAgg103 w
theorem Y129(w:World):(isAgg 129).run Tryz.prog w= .ok true w:=Tryz.isAgg129 w
theorem Y151(w:World):(isAgg 151).run Tryz.prog w= .ok true w:=Tryz.isAgg151 w
theorem Y161(w:World):(isAgg 161).run Tryz.prog w= .ok false w:=Tryz.isAgg161 w
theorem Y206(w:World):(isAgg 206).run Tryz.prog w= .ok false w:=Tryz.isAgg206 w
theorem Z3(w:World):(sizeOf 3).run Tryz.prog w= .ok 1 w:=Tryz.sizeOf3 w
theorem Z4(w:World):(sizeOf 4).run Tryz.prog w= .ok 1 w:=Tryz.sizeOf4 w
theorem Z5(w:World):(sizeOf 5).run Tryz.prog w= .ok 1 w:=Tryz.sizeOf5 w
theorem Z9(w:World):(sizeOf 9).run Tryz.prog w= .ok 1 w:=Tryz.sizeOf9 w
theorem Z23(w:World):(sizeOf 23).run Tryz.prog w= .ok 3 w:=Tryz.sizeOf23 w
theorem Z24(w:World):(sizeOf 24).run Tryz.prog w= .ok 1 w:=Tryz.sizeOf24 w
theorem Z27(w:World):(sizeOf 27).run Tryz.prog w= .ok 8 w:=Tryz.sizeOf27 w
theorem Z30(w:World):(sizeOf 30).run Tryz.prog w= .ok 1 w:=Tryz.sizeOf30 w
theorem Z33(w:World):(sizeOf 33).run Tryz.prog w= .ok 11 w:=Tryz.sizeOf33 w
theorem Z38(w:World):(sizeOf 38).run Tryz.prog w= .ok 1 w:=Tryz.sizeOf38 w
theorem Z53(w:World):(sizeOf 53).run Tryz.prog w= .ok 2 w:=Tryz.sizeOf53 w
theorem Z56(w:World):(sizeOf 56).run Tryz.prog w= .ok 1 w:=Tryz.sizeOf56 w
theorem Z57(w:World):(sizeOf 57).run Tryz.prog w= .ok 1 w:=Tryz.sizeOf57 w
theorem Z59(w:World):(sizeOf 59).run Tryz.prog w= .ok 3 w:=Tryz.sizeOf59 w
theorem Z63(w:World):(sizeOf 63).run Tryz.prog w= .ok 1 w:=Tryz.sizeOf63 w
theorem Z76(w:World):(sizeOf 76).run Tryz.prog w= .ok 1 w:=Tryz.sizeOf76 w
theorem Z79(w:World):(sizeOf 79).run Tryz.prog w= .ok 2 w:=Tryz.sizeOf79 w
theorem Z88(w:World):(sizeOf 88).run Tryz.prog w= .ok 1 w:=Tryz.sizeOf88 w
theorem Z94(w:World):(sizeOf 94).run Tryz.prog w= .ok 2 w:=Tryz.sizeOf94 w
theorem Z103(w:World):(sizeOf 103).run Tryz.prog w= .ok 1 w:=Tryz.sizeOf103 w
theorem Z120(w:World):(sizeOf 120).run Tryz.prog w= .ok 4 w:=Tryz.sizeOf120 w
theorem Z127(w:World):(sizeOf 127).run Tryz.prog w= .ok 1 w:=Tryz.sizeOf127 w
theorem Z129(w:World):(sizeOf 129).run Tryz.prog w= .ok 18 w:=Tryz.sizeOf129 w
theorem Z133(w:World):(sizeOf 133).run Tryz.prog w= .ok 1 w:=Tryz.sizeOf133 w
theorem Z151(w:World):(sizeOf 151).run Tryz.prog w= .ok 256 w:=Tryz.sizeOf151 w
theorem Z161(w:World):(sizeOf 161).run Tryz.prog w= .ok 1 w:=Tryz.sizeOf161 w
theorem Z166(w:World):(sizeOf 166).run Tryz.prog w= .ok 2 w:=Tryz.sizeOf166 w
theorem Z171(w:World):(sizeOf 171).run Tryz.prog w= .ok 12 w:=Tryz.sizeOf171 w
theorem Z177(w:World):(sizeOf 177).run Tryz.prog w= .ok 1 w:=Tryz.sizeOf177 w
theorem Z206(w:World):(sizeOf 206).run Tryz.prog w= .ok 1 w:=Tryz.sizeOf206 w
end Go.Proofs.YtalogjkalmkpjaaGreatDoor
