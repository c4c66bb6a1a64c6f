/-
  How the types of the program are read.
-/
import Derived.Test.YtofaogkcifaioaaGreatDoorDec21
import Derived.Test.YtofaogkcifaioaaGreatDoorDec19
import Derived.Test.YtofaogkcifaioaaGreatDoorDec24
import Derived.Test.YtofaogkcifaioaaGreatDoorSh
import Derived.Test.YtofaogkcifaioaaGreatDoorDec26
import Derived.Test.YtofaogkcifaioaaGreatDoorDec27
import Derived.Test.YtofaogkcifaioaaGreatDoorDec28
import Derived.Test.YtofaogkcifaioaaGreatDoorDec29
import Derived.Test.YtofaogkcifaioaaGreatDoorDec31
import Derived.Test.YtofaogkcifaioaaGreatDoorDec30
import Derived.Test.YtofaogkcifaioaaGreatDoorDec32
import Derived.Test.YtofaogkcifaioaaGreatDoorDec33
import Derived.Test.YtofaogkcifaioaaGreatDoorDec34
import Derived.Test.YtofaogkcifaioaaGreatDoorDec35
import Derived.Test.YtofaogkcifaioaaGreatDoorMdl
import Derived.Test.YtofaogkcifaioaaGreatDoorProg
import Derived.KernelRfl
set_option maxRecDepth 100000
namespace Go.Proofs.YtofaogkcifaioaaGreatDoor
open Go Go.Dec
theorem Tryz.mixed:Tryz.prog.follows .mixedOrders=true:=by kernel_rfl
def tapi_Id:Ty api_Id:=tMap (tP (tI .i64) (tP (tI .i64) (tOne (tI .i64)))) (fun x:api_Id=>(x.Act,x.Item,x.N))
theorem fapi_Id_0:Fld tapi_Id 0 (tI .i64) (fun x=>x.Act):=(Fld.map (m:=(fun x:api_Id=>(x.Act,x.Item,x.N))) (Fld.here (tI .i64) (tP (tI .i64) (tOne (tI .i64))))).cast rfl rfl
theorem sapi_Id_0:FldSet tapi_Id 0 (tI .i64) (fun x y=>{x with Act:=y}):=(FldSet.map (m:=(fun x:api_Id=>(x.Act,x.Item,x.N))) (f':=fun x y=>{x with Act:=y}) (FldSet.here (tI .i64) (tP (tI .i64) (tOne (tI .i64)))) (fun _ _=>rfl)).cast rfl rfl
theorem fapi_Id_1:Fld tapi_Id 1 (tI .i64) (fun x=>x.Item):=(Fld.map (m:=(fun x:api_Id=>(x.Act,x.Item,x.N))) (Fld.next (s:=(tI .i64)) (Fld.here (tI .i64) (tOne (tI .i64))))).cast rfl rfl
theorem sapi_Id_1:FldSet tapi_Id 1 (tI .i64) (fun x y=>{x with Item:=y}):=(FldSet.map (m:=(fun x:api_Id=>(x.Act,x.Item,x.N))) (f':=fun x y=>{x with Item:=y}) (FldSet.next (s:=(tI .i64)) (FldSet.here (tI .i64) (tOne (tI .i64)))) (fun _ _=>rfl)).cast rfl rfl
theorem fapi_Id_2:Fld tapi_Id 2 (tI .i64) (fun x=>x.N):=(Fld.map (m:=(fun x:api_Id=>(x.Act,x.Item,x.N))) (Fld.next (s:=(tI .i64)) (Fld.next (s:=(tI .i64)) (Fld.one (tI .i64))))).cast rfl rfl
theorem sapi_Id_2:FldSet tapi_Id 2 (tI .i64) (fun x y=>{x with N:=y}):=(FldSet.map (m:=(fun x:api_Id=>(x.Act,x.Item,x.N))) (f':=fun x y=>{x with N:=y}) (FldSet.next (s:=(tI .i64)) (FldSet.next (s:=(tI .i64)) (FldSet.one (tI .i64)))) (fun _ _=>rfl)).cast rfl rfl
def zapi_Id_f(fd:Field):Nat:=if fd.type=3 then 1 else 0
theorem zapi_Id_sz:∀ fs,Tryz.prog.underlying 23=some (.struct fs)→∀ fd,fd∈fs→∀ w,(sizeOf fd.type).run Tryz.prog w= .ok (zapi_Id_f fd) w:=by
 intro fs h
 rw [Tryz.underlying23] at h
 cases h
 intro fd hfd w
 simp only [List.mem_toArray,List.mem_cons,List.not_mem_nil,or_false] at hfd
 rcases hfd with rfl | rfl | rfl
 ·exact Tryz.sizeOf3 w
 ·exact Tryz.sizeOf3 w
 ·exact Tryz.sizeOf3 w
def tapi_Mark:Ty api_Mark:=tMap (tP (tI .i64) (tP (tI .i64) (tOne (tI .i64)))) (fun x:api_Mark=>(x.Act,x.Item,x.At))
theorem fapi_Mark_0:Fld tapi_Mark 0 (tI .i64) (fun x=>x.Act):=(Fld.map (m:=(fun x:api_Mark=>(x.Act,x.Item,x.At))) (Fld.here (tI .i64) (tP (tI .i64) (tOne (tI .i64))))).cast rfl rfl
theorem sapi_Mark_0:FldSet tapi_Mark 0 (tI .i64) (fun x y=>{x with Act:=y}):=(FldSet.map (m:=(fun x:api_Mark=>(x.Act,x.Item,x.At))) (f':=fun x y=>{x with Act:=y}) (FldSet.here (tI .i64) (tP (tI .i64) (tOne (tI .i64)))) (fun _ _=>rfl)).cast rfl rfl
theorem fapi_Mark_1:Fld tapi_Mark 1 (tI .i64) (fun x=>x.Item):=(Fld.map (m:=(fun x:api_Mark=>(x.Act,x.Item,x.At))) (Fld.next (s:=(tI .i64)) (Fld.here (tI .i64) (tOne (tI .i64))))).cast rfl rfl
theorem fapi_Mark_2:Fld tapi_Mark 2 (tI .i64) (fun x=>x.At):=(Fld.map (m:=(fun x:api_Mark=>(x.Act,x.Item,x.At))) (Fld.next (s:=(tI .i64)) (Fld.next (s:=(tI .i64)) (Fld.one (tI .i64))))).cast rfl rfl
theorem sapi_Mark_2:FldSet tapi_Mark 2 (tI .i64) (fun x y=>{x with At:=y}):=(FldSet.map (m:=(fun x:api_Mark=>(x.Act,x.Item,x.At))) (f':=fun x y=>{x with At:=y}) (FldSet.next (s:=(tI .i64)) (FldSet.next (s:=(tI .i64)) (FldSet.one (tI .i64)))) (fun _ _=>rfl)).cast rfl rfl
def zapi_Mark_f(fd:Field):Nat:=if fd.type=3 then 1 else 0
theorem zapi_Mark_sz:∀ fs,Tryz.prog.underlying 66=some (.struct fs)→∀ fd,fd∈fs→∀ w,(sizeOf fd.type).run Tryz.prog w= .ok (zapi_Mark_f fd) w:=by
 intro fs h
 rw [Tryz.underlying66] at h
 cases h
 intro fd hfd w
 simp only [List.mem_toArray,List.mem_cons,List.not_mem_nil,or_false] at hfd
 rcases hfd with rfl | rfl | rfl
 ·exact Tryz.sizeOf3 w
 ·exact Tryz.sizeOf3 w
 ·exact Tryz.sizeOf3 w
def tapi_Word:Ty api_Word:=tMap (tP tS (tOne tapi_Mark)) (fun x:api_Word=>(x.Text,x.By))
theorem fapi_Word_0:Fld tapi_Word 0 tS (fun x=>x.Text):=(Fld.map (m:=(fun x:api_Word=>(x.Text,x.By))) (Fld.here tS (tOne tapi_Mark))).cast rfl rfl
theorem sapi_Word_0:FldSet tapi_Word 0 tS (fun x y=>{x with Text:=y}):=(FldSet.map (m:=(fun x:api_Word=>(x.Text,x.By))) (f':=fun x y=>{x with Text:=y}) (FldSet.here tS (tOne tapi_Mark)) (fun _ _=>rfl)).cast rfl rfl
theorem fapi_Word_1:Fld tapi_Word 1 tapi_Mark (fun x=>x.By):=(Fld.map (m:=(fun x:api_Word=>(x.Text,x.By))) (Fld.next (s:=tS) (Fld.one tapi_Mark))).cast rfl rfl
theorem sapi_Word_1:FldSet tapi_Word 1 tapi_Mark (fun x y=>{x with By:=y}):=(FldSet.map (m:=(fun x:api_Word=>(x.Text,x.By))) (f':=fun x y=>{x with By:=y}) (FldSet.next (s:=tS) (FldSet.one tapi_Mark)) (fun _ _=>rfl)).cast rfl rfl
def zapi_Word_f(fd:Field):Nat:=if fd.type=9 then 1 else if fd.type=66 then 3 else 0
theorem zapi_Word_sz:∀ fs,Tryz.prog.underlying 68=some (.struct fs)→∀ fd,fd∈fs→∀ w,(sizeOf fd.type).run Tryz.prog w= .ok (zapi_Word_f fd) w:=by
 intro fs h
 rw [Tryz.underlying68] at h
 cases h
 intro fd hfd w
 simp only [List.mem_toArray,List.mem_cons,List.not_mem_nil,or_false] at hfd
 rcases hfd with rfl | rfl
 ·exact Tryz.sizeOf9 w
 ·exact Tryz.sizeOf66 w
def Fapi_Unit(X:Ty api_Unit):Ty api_Unit:=tMap (tP tapi_Id (tP (tI .i64) (tP tS (tP (tL tapi_Word) (tP (tL tapi_Word) (tOne (tL X))))))) (fun x:api_Unit=>(x.Id,x.Kind,x.Label,x.Head,x.Words,x.Kids))
theorem capi_Unit:Cont Fapi_Unit:=Cont.map (fun x:api_Unit=>(x.Id,x.Kind,x.Label,x.Head,x.Words,x.Kids)) (Cont.pair (Cont.const _) (Cont.pair (Cont.const _) (Cont.pair (Cont.const _) (Cont.pair (Cont.const _) (Cont.pair (Cont.const _) (Cont.one ((Cont.list Cont.id))))))))
theorem rapi_Unit:Rec Fapi_Unit 8:=⟨capi_Unit,rfl,rfl⟩
def tapi_Unit:Ty api_Unit:=tFix rapi_Unit
theorem fapi_Unit_0:Fld tapi_Unit 0 tapi_Id (fun x=>x.Id):=Fld.le rapi_Unit.out ((Fld.map (m:=(fun x:api_Unit=>(x.Id,x.Kind,x.Label,x.Head,x.Words,x.Kids))) (Fld.here tapi_Id (tP (tI .i64) (tP tS (tP (tL tapi_Word) (tP (tL tapi_Word) (tOne (tL tapi_Unit)))))))).cast rfl rfl)
theorem sapi_Unit_0:FldSet tapi_Unit 0 tapi_Id (fun x y=>{x with Id:=y}):=FldSet.le rapi_Unit.out rapi_Unit.into ((FldSet.map (m:=(fun x:api_Unit=>(x.Id,x.Kind,x.Label,x.Head,x.Words,x.Kids))) (f':=fun x y=>{x with Id:=y}) (FldSet.here tapi_Id (tP (tI .i64) (tP tS (tP (tL tapi_Word) (tP (tL tapi_Word) (tOne (tL tapi_Unit))))))) (fun _ _=>rfl)).cast rfl rfl)
theorem fapi_Unit_1:Fld tapi_Unit 3 (tI .i64) (fun x=>x.Kind):=Fld.le rapi_Unit.out ((Fld.map (m:=(fun x:api_Unit=>(x.Id,x.Kind,x.Label,x.Head,x.Words,x.Kids))) (Fld.next (s:=tapi_Id) (Fld.here (tI .i64) (tP tS (tP (tL tapi_Word) (tP (tL tapi_Word) (tOne (tL tapi_Unit)))))))).cast rfl rfl)
theorem sapi_Unit_1:FldSet tapi_Unit 3 (tI .i64) (fun x y=>{x with Kind:=y}):=FldSet.le rapi_Unit.out rapi_Unit.into ((FldSet.map (m:=(fun x:api_Unit=>(x.Id,x.Kind,x.Label,x.Head,x.Words,x.Kids))) (f':=fun x y=>{x with Kind:=y}) (FldSet.next (s:=tapi_Id) (FldSet.here (tI .i64) (tP tS (tP (tL tapi_Word) (tP (tL tapi_Word) (tOne (tL tapi_Unit))))))) (fun _ _=>rfl)).cast rfl rfl)
theorem fapi_Unit_2:Fld tapi_Unit 4 tS (fun x=>x.Label):=Fld.le rapi_Unit.out ((Fld.map (m:=(fun x:api_Unit=>(x.Id,x.Kind,x.Label,x.Head,x.Words,x.Kids))) (Fld.next (s:=tapi_Id) (Fld.next (s:=(tI .i64)) (Fld.here tS (tP (tL tapi_Word) (tP (tL tapi_Word) (tOne (tL tapi_Unit)))))))).cast rfl rfl)
theorem sapi_Unit_2:FldSet tapi_Unit 4 tS (fun x y=>{x with Label:=y}):=FldSet.le rapi_Unit.out rapi_Unit.into ((FldSet.map (m:=(fun x:api_Unit=>(x.Id,x.Kind,x.Label,x.Head,x.Words,x.Kids))) (f':=fun x y=>{x with Label:=y}) (FldSet.next (s:=tapi_Id) (FldSet.next (s:=(tI .i64)) (FldSet.here tS (tP (tL tapi_Word) (tP (tL tapi_Word) (tOne (tL tapi_Unit))))))) (fun _ _=>rfl)).cast rfl rfl)
theorem fapi_Unit_3:Fld tapi_Unit 5 (tL tapi_Word) (fun x=>x.Head):=Fld.le rapi_Unit.out ((Fld.map (m:=(fun x:api_Unit=>(x.Id,x.Kind,x.Label,x.Head,x.Words,x.Kids))) (Fld.next (s:=tapi_Id) (Fld.next (s:=(tI .i64)) (Fld.next (s:=tS) (Fld.here (tL tapi_Word) (tP (tL tapi_Word) (tOne (tL tapi_Unit)))))))).cast rfl rfl)
theorem sapi_Unit_3:FldSet tapi_Unit 5 (tL tapi_Word) (fun x y=>{x with Head:=y}):=FldSet.le rapi_Unit.out rapi_Unit.into ((FldSet.map (m:=(fun x:api_Unit=>(x.Id,x.Kind,x.Label,x.Head,x.Words,x.Kids))) (f':=fun x y=>{x with Head:=y}) (FldSet.next (s:=tapi_Id) (FldSet.next (s:=(tI .i64)) (FldSet.next (s:=tS) (FldSet.here (tL tapi_Word) (tP (tL tapi_Word) (tOne (tL tapi_Unit))))))) (fun _ _=>rfl)).cast rfl rfl)
theorem fapi_Unit_4:Fld tapi_Unit 6 (tL tapi_Word) (fun x=>x.Words):=Fld.le rapi_Unit.out ((Fld.map (m:=(fun x:api_Unit=>(x.Id,x.Kind,x.Label,x.Head,x.Words,x.Kids))) (Fld.next (s:=tapi_Id) (Fld.next (s:=(tI .i64)) (Fld.next (s:=tS) (Fld.next (s:=(tL tapi_Word)) (Fld.here (tL tapi_Word) (tOne (tL tapi_Unit)))))))).cast rfl rfl)
theorem sapi_Unit_4:FldSet tapi_Unit 6 (tL tapi_Word) (fun x y=>{x with Words:=y}):=FldSet.le rapi_Unit.out rapi_Unit.into ((FldSet.map (m:=(fun x:api_Unit=>(x.Id,x.Kind,x.Label,x.Head,x.Words,x.Kids))) (f':=fun x y=>{x with Words:=y}) (FldSet.next (s:=tapi_Id) (FldSet.next (s:=(tI .i64)) (FldSet.next (s:=tS) (FldSet.next (s:=(tL tapi_Word)) (FldSet.here (tL tapi_Word) (tOne (tL tapi_Unit))))))) (fun _ _=>rfl)).cast rfl rfl)
theorem fapi_Unit_5:Fld tapi_Unit 7 (tL tapi_Unit) (fun x=>x.Kids):=Fld.le rapi_Unit.out ((Fld.map (m:=(fun x:api_Unit=>(x.Id,x.Kind,x.Label,x.Head,x.Words,x.Kids))) (Fld.next (s:=tapi_Id) (Fld.next (s:=(tI .i64)) (Fld.next (s:=tS) (Fld.next (s:=(tL tapi_Word)) (Fld.next (s:=(tL tapi_Word)) (Fld.one (tL tapi_Unit)))))))).cast rfl rfl)
theorem sapi_Unit_5:FldSet tapi_Unit 7 (tL tapi_Unit) (fun x y=>{x with Kids:=y}):=FldSet.le rapi_Unit.out rapi_Unit.into ((FldSet.map (m:=(fun x:api_Unit=>(x.Id,x.Kind,x.Label,x.Head,x.Words,x.Kids))) (f':=fun x y=>{x with Kids:=y}) (FldSet.next (s:=tapi_Id) (FldSet.next (s:=(tI .i64)) (FldSet.next (s:=tS) (FldSet.next (s:=(tL tapi_Word)) (FldSet.next (s:=(tL tapi_Word)) (FldSet.one (tL tapi_Unit))))))) (fun _ _=>rfl)).cast rfl rfl)
def zapi_Unit_f(fd:Field):Nat:=if fd.type=3 then 1 else if fd.type=9 then 1 else if fd.type=23 then 3 else if fd.type=24 then 1 else if fd.type=25 then 1 else 0
theorem zapi_Unit_sz:∀ fs,Tryz.prog.underlying 27=some (.struct fs)→∀ fd,fd∈fs→∀ w,(sizeOf fd.type).run Tryz.prog w= .ok (zapi_Unit_f fd) w:=by
 intro fs h
 rw [Tryz.underlying27] at h
 cases h
 intro fd hfd w
 simp only [List.mem_toArray,List.mem_cons,List.not_mem_nil,or_false] at hfd
 rcases hfd with rfl | rfl | rfl | rfl | rfl | rfl
 ·exact Tryz.sizeOf23 w
 ·exact Tryz.sizeOf3 w
 ·exact Tryz.sizeOf9 w
 ·exact Tryz.sizeOf24 w
 ·exact Tryz.sizeOf24 w
 ·exact Tryz.sizeOf25 w
def tapi_Unit_k5(k:Tok):Ty api_Unit:=tMap (tP tapi_Id (tP (tI .i64) (tP tS (tP (tL tapi_Word) (tP (tL tapi_Word) (tOne (tOT tapi_Unit k))))))) (fun x:api_Unit=>(x.Id,x.Kind,x.Label,x.Head,x.Words,x.Kids))
theorem fapi_Unit_k5_1(k:Tok):Fld (tapi_Unit_k5 k) 3 (tI .i64) (fun x=>x.Kind):=(Fld.map (m:=(fun x:api_Unit=>(x.Id,x.Kind,x.Label,x.Head,x.Words,x.Kids))) (Fld.next (s:=tapi_Id) (Fld.here (tI .i64) (tP tS (tP (tL tapi_Word) (tP (tL tapi_Word) (tOne (tOT tapi_Unit k)))))))).cast rfl rfl
theorem sapi_Unit_k5_1(k:Tok):FldSet (tapi_Unit_k5 k) 3 (tI .i64) (fun x y=>{x with Kind:=y}):=(FldSet.map (m:=(fun x:api_Unit=>(x.Id,x.Kind,x.Label,x.Head,x.Words,x.Kids))) (f':=fun x y=>{x with Kind:=y}) (FldSet.next (s:=tapi_Id) (FldSet.here (tI .i64) (tP tS (tP (tL tapi_Word) (tP (tL tapi_Word) (tOne (tOT tapi_Unit k))))))) (fun _ _=>rfl)).cast rfl rfl
theorem fapi_Unit_k5_2(k:Tok):Fld (tapi_Unit_k5 k) 4 tS (fun x=>x.Label):=(Fld.map (m:=(fun x:api_Unit=>(x.Id,x.Kind,x.Label,x.Head,x.Words,x.Kids))) (Fld.next (s:=tapi_Id) (Fld.next (s:=(tI .i64)) (Fld.here tS (tP (tL tapi_Word) (tP (tL tapi_Word) (tOne (tOT tapi_Unit k)))))))).cast rfl rfl
theorem sapi_Unit_k5_2(k:Tok):FldSet (tapi_Unit_k5 k) 4 tS (fun x y=>{x with Label:=y}):=(FldSet.map (m:=(fun x:api_Unit=>(x.Id,x.Kind,x.Label,x.Head,x.Words,x.Kids))) (f':=fun x y=>{x with Label:=y}) (FldSet.next (s:=tapi_Id) (FldSet.next (s:=(tI .i64)) (FldSet.here tS (tP (tL tapi_Word) (tP (tL tapi_Word) (tOne (tOT tapi_Unit k))))))) (fun _ _=>rfl)).cast rfl rfl
theorem sapi_Unit_k5_3(k:Tok):FldSet (tapi_Unit_k5 k) 5 (tL tapi_Word) (fun x y=>{x with Head:=y}):=(FldSet.map (m:=(fun x:api_Unit=>(x.Id,x.Kind,x.Label,x.Head,x.Words,x.Kids))) (f':=fun x y=>{x with Head:=y}) (FldSet.next (s:=tapi_Id) (FldSet.next (s:=(tI .i64)) (FldSet.next (s:=tS) (FldSet.here (tL tapi_Word) (tP (tL tapi_Word) (tOne (tOT tapi_Unit k))))))) (fun _ _=>rfl)).cast rfl rfl
theorem sapi_Unit_k5_4(k:Tok):FldSet (tapi_Unit_k5 k) 6 (tL tapi_Word) (fun x y=>{x with Words:=y}):=(FldSet.map (m:=(fun x:api_Unit=>(x.Id,x.Kind,x.Label,x.Head,x.Words,x.Kids))) (f':=fun x y=>{x with Words:=y}) (FldSet.next (s:=tapi_Id) (FldSet.next (s:=(tI .i64)) (FldSet.next (s:=tS) (FldSet.next (s:=(tL tapi_Word)) (FldSet.here (tL tapi_Word) (tOne (tOT tapi_Unit k))))))) (fun _ _=>rfl)).cast rfl rfl
theorem fapi_Unit_k5_5(k:Tok):Fld (tapi_Unit_k5 k) 7 (tOT tapi_Unit k) (fun x=>x.Kids):=(Fld.map (m:=(fun x:api_Unit=>(x.Id,x.Kind,x.Label,x.Head,x.Words,x.Kids))) (Fld.next (s:=tapi_Id) (Fld.next (s:=(tI .i64)) (Fld.next (s:=tS) (Fld.next (s:=(tL tapi_Word)) (Fld.next (s:=(tL tapi_Word)) (Fld.one (tOT tapi_Unit k)))))))).cast rfl rfl
theorem sTapi_Unit_k5(k k2:Tok):FldSetT (tapi_Unit_k5 k) (tapi_Unit_k5 k2) 7 (tOT tapi_Unit k2) (fun x y=>{x with Kids:=y}):=(FldSetT.map (m:=(fun x:api_Unit=>(x.Id,x.Kind,x.Label,x.Head,x.Words,x.Kids))) (f':=fun x y=>{x with Kids:=y}) (FldSetT.next (s:=tapi_Id) (FldSetT.next (s:=(tI .i64)) (FldSetT.next (s:=tS) (FldSetT.next (s:=(tL tapi_Word)) (FldSetT.next (s:=(tL tapi_Word)) (FldSetT.one (tOT tapi_Unit k) (tOT tapi_Unit k2) rfl)))))) (fun _ _=>rfl)).cast rfl rfl
theorem leapi_Unit_k5(k:Tok):Le (tapi_Unit_k5 k) tapi_Unit:=Le.trans (Le.mapT (Le.pair (Le.refl _) (Le.pair (Le.refl _) (Le.pair (Le.refl _) (Le.pair (Le.refl _) (Le.pair (Le.refl _) (Le.one (tOT_le _ _))))))) _) rapi_Unit.into
theorem zeapi_Unit_k5:ZeroAt Tryz.prog 27 (tapi_Unit_k5 none) zapi_Unit:=⟨_,Tryz.zeroValue27,fun _=>⟨_,⟨_,_,rfl,⟨_,_,rfl,⟨rfl,inR64.2 ⟨by decide,by decide⟩⟩,⟨_,_,rfl,⟨rfl,inR64.2 ⟨by decide,by decide⟩⟩,⟨rfl,inR64.2 ⟨by decide,by decide⟩⟩⟩⟩,⟨_,_,rfl,⟨rfl,inR64.2 ⟨by decide,by decide⟩⟩,⟨_,_,rfl,⟨rfl,by decide⟩,⟨_,_,rfl,⟨none,0,rfl,Nat.le_refl _,Nat.zero_le _,fun _=>rfl,rfl⟩,⟨_,_,rfl,⟨none,0,rfl,Nat.le_refl _,Nat.zero_le _,fun _=>rfl,rfl⟩,⟨_,rfl,⟨rfl,Nat.le_refl _,Nat.zero_le _,rfl⟩⟩⟩⟩⟩⟩⟩,rfl⟩⟩
def tunit_called:Ty unit_called:=tMap (tP (tI .i64) (tOne tS)) (fun x:unit_called=>(x.kind_,x.label_))
theorem funit_called_0:Fld tunit_called 0 (tI .i64) (fun x=>x.kind_):=(Fld.map (m:=(fun x:unit_called=>(x.kind_,x.label_))) (Fld.here (tI .i64) (tOne tS))).cast rfl rfl
theorem sunit_called_0:FldSet tunit_called 0 (tI .i64) (fun x y=>{x with kind_:=y}):=(FldSet.map (m:=(fun x:unit_called=>(x.kind_,x.label_))) (f':=fun x y=>{x with kind_:=y}) (FldSet.here (tI .i64) (tOne tS)) (fun _ _=>rfl)).cast rfl rfl
theorem funit_called_1:Fld tunit_called 1 tS (fun x=>x.label_):=(Fld.map (m:=(fun x:unit_called=>(x.kind_,x.label_))) (Fld.next (s:=(tI .i64)) (Fld.one tS))).cast rfl rfl
theorem sunit_called_1:FldSet tunit_called 1 tS (fun x y=>{x with label_:=y}):=(FldSet.map (m:=(fun x:unit_called=>(x.kind_,x.label_))) (f':=fun x y=>{x with label_:=y}) (FldSet.next (s:=(tI .i64)) (FldSet.one tS)) (fun _ _=>rfl)).cast rfl rfl
def zunit_called_f(fd:Field):Nat:=if fd.type=3 then 1 else if fd.type=9 then 1 else 0
theorem zunit_called_sz:∀ fs,Tryz.prog.underlying 136=some (.struct fs)→∀ fd,fd∈fs→∀ w,(sizeOf fd.type).run Tryz.prog w= .ok (zunit_called_f fd) w:=by
 intro fs h
 rw [Tryz.underlying136] at h
 cases h
 intro fd hfd w
 simp only [List.mem_toArray,List.mem_cons,List.not_mem_nil,or_false] at hfd
 rcases hfd with rfl | rfl
 ·exact Tryz.sizeOf3 w
 ·exact Tryz.sizeOf9 w
def tpandectref11_node:Ty pandectref11_node:=tMap (tP (tapi_Unit_k5 none) (tP (tI .i64) (tOne (tI .i64)))) (fun x:pandectref11_node=>(x.u_,x.depth_,x.parent_))
theorem fpandectref11_node_0:Fld tpandectref11_node 0 (tapi_Unit_k5 none) (fun x=>x.u_):=(Fld.map (m:=(fun x:pandectref11_node=>(x.u_,x.depth_,x.parent_))) (Fld.here (tapi_Unit_k5 none) (tP (tI .i64) (tOne (tI .i64))))).cast rfl rfl
theorem spandectref11_node_0:FldSet tpandectref11_node 0 (tapi_Unit_k5 none) (fun x y=>{x with u_:=y}):=(FldSet.map (m:=(fun x:pandectref11_node=>(x.u_,x.depth_,x.parent_))) (f':=fun x y=>{x with u_:=y}) (FldSet.here (tapi_Unit_k5 none) (tP (tI .i64) (tOne (tI .i64)))) (fun _ _=>rfl)).cast rfl rfl
theorem fpandectref11_node_1:Fld tpandectref11_node 8 (tI .i64) (fun x=>x.depth_):=(Fld.map (m:=(fun x:pandectref11_node=>(x.u_,x.depth_,x.parent_))) (Fld.next (s:=(tapi_Unit_k5 none)) (Fld.here (tI .i64) (tOne (tI .i64))))).cast rfl rfl
theorem spandectref11_node_1:FldSet tpandectref11_node 8 (tI .i64) (fun x y=>{x with depth_:=y}):=(FldSet.map (m:=(fun x:pandectref11_node=>(x.u_,x.depth_,x.parent_))) (f':=fun x y=>{x with depth_:=y}) (FldSet.next (s:=(tapi_Unit_k5 none)) (FldSet.here (tI .i64) (tOne (tI .i64)))) (fun _ _=>rfl)).cast rfl rfl
theorem fpandectref11_node_2:Fld tpandectref11_node 9 (tI .i64) (fun x=>x.parent_):=(Fld.map (m:=(fun x:pandectref11_node=>(x.u_,x.depth_,x.parent_))) (Fld.next (s:=(tapi_Unit_k5 none)) (Fld.next (s:=(tI .i64)) (Fld.one (tI .i64))))).cast rfl rfl
theorem spandectref11_node_2:FldSet tpandectref11_node 9 (tI .i64) (fun x y=>{x with parent_:=y}):=(FldSet.map (m:=(fun x:pandectref11_node=>(x.u_,x.depth_,x.parent_))) (f':=fun x y=>{x with parent_:=y}) (FldSet.next (s:=(tapi_Unit_k5 none)) (FldSet.next (s:=(tI .i64)) (FldSet.one (tI .i64)))) (fun _ _=>rfl)).cast rfl rfl
def zpandectref11_node_f(fd:Field):Nat:=if fd.type=3 then 1 else if fd.type=27 then 8 else 0
theorem zpandectref11_node_sz:∀ fs,Tryz.prog.underlying 60=some (.struct fs)→∀ fd,fd∈fs→∀ w,(sizeOf fd.type).run Tryz.prog w= .ok (zpandectref11_node_f fd) w:=by
 intro fs h
 rw [Tryz.underlying60] at h
 cases h
 intro fd hfd w
 simp only [List.mem_toArray,List.mem_cons,List.not_mem_nil,or_false] at hfd
 rcases hfd with rfl | rfl | rfl
 ·exact Tryz.sizeOf27 w
 ·exact Tryz.sizeOf3 w
 ·exact Tryz.sizeOf3 w
theorem ty3:TyAt Tryz.prog 3 (tI .i64):=⟨Tryz.isAgg3,Tryz.sizeOf3⟩
theorem ze3:ZeroAt Tryz.prog 3 (tI .i64) (0:Int):=⟨_,Tryz.zeroValue3,fun _=>⟨_,⟨rfl,inR64.2 ⟨by decide,by decide⟩⟩,rfl⟩⟩
theorem ty4:TyAt Tryz.prog 4 tB:=⟨Tryz.isAgg4,Tryz.sizeOf4⟩
theorem ze4:ZeroAt Tryz.prog 4 tB false:=⟨_,Tryz.zeroValue4,fun _=>⟨_,rfl,rfl⟩⟩
theorem ty5:TyAt Tryz.prog 5 (tI .u8):=⟨Tryz.isAgg5,Tryz.sizeOf5⟩
theorem el5:ElAt Tryz.prog 5 (tI .u8):=⟨⟨Tryz.t5,_,Tryz.type5,rfl,rfl,by decide,rfl⟩,by decide⟩
theorem ty9:TyAt Tryz.prog 9 tS:=⟨Tryz.isAgg9,Tryz.sizeOf9⟩
theorem el9:ElAt Tryz.prog 9 tS:=⟨⟨Tryz.t9,_,Tryz.type9,rfl,rfl,by decide,rfl⟩,by decide⟩
theorem ze9:ZeroAt Tryz.prog 9 tS ([]:Str):=⟨_,Tryz.zeroValue9,fun _=>⟨_,⟨rfl,by decide⟩,rfl⟩⟩
theorem ty23:TyAt Tryz.prog 23 tapi_Id:=⟨Tryz.isAgg23,Tryz.sizeOf23⟩
theorem el23:ElAt Tryz.prog 23 tapi_Id:=⟨⟨Tryz.t23,_,Tryz.type23,rfl,rfl,by decide,rfl⟩,by decide⟩
theorem ze23:ZeroAt Tryz.prog 23 tapi_Id zapi_Id:=⟨_,Tryz.zeroValue23,fun _=>⟨_,⟨_,_,rfl,⟨rfl,inR64.2 ⟨by decide,by decide⟩⟩,⟨_,_,rfl,⟨rfl,inR64.2 ⟨by decide,by decide⟩⟩,⟨rfl,inR64.2 ⟨by decide,by decide⟩⟩⟩⟩,rfl⟩⟩
theorem ty24:TyAt Tryz.prog 24 (tL tapi_Word):=⟨Tryz.isAgg24,Tryz.sizeOf24⟩
theorem el24:ElAt Tryz.prog 24 (tL tapi_Word):=⟨⟨Tryz.t24,_,Tryz.type24,rfl,rfl,by decide,rfl⟩,by decide⟩
theorem ty25:TyAt Tryz.prog 25 (tL tapi_Unit):=⟨Tryz.isAgg25,Tryz.sizeOf25⟩
theorem ty27:TyAt Tryz.prog 27 tapi_Unit:=⟨Tryz.isAgg27,Tryz.sizeOf27⟩
theorem el27:ElAt Tryz.prog 27 tapi_Unit:=⟨⟨Tryz.t27,_,Tryz.type27,rfl,rfl,by decide,rfl⟩,by decide⟩
theorem ze27:ZeroAt Tryz.prog 27 tapi_Unit zapi_Unit:=⟨_,Tryz.zeroValue27,fun _=>⟨_,(rapi_Unit.into.rep _ _ _ ⟨_,_,rfl,⟨_,_,rfl,⟨rfl,inR64.2 ⟨by decide,by decide⟩⟩,⟨_,_,rfl,⟨rfl,inR64.2 ⟨by decide,by decide⟩⟩,⟨rfl,inR64.2 ⟨by decide,by decide⟩⟩⟩⟩,⟨_,_,rfl,⟨rfl,inR64.2 ⟨by decide,by decide⟩⟩,⟨_,_,rfl,⟨rfl,by decide⟩,⟨_,_,rfl,⟨none,0,rfl,Nat.le_refl _,Nat.zero_le _,fun _=>rfl,rfl⟩,⟨_,_,rfl,⟨none,0,rfl,Nat.le_refl _,Nat.zero_le _,fun _=>rfl,rfl⟩,⟨none,0,rfl,Nat.le_refl _,Nat.zero_le _,fun _=>rfl,rfl⟩⟩⟩⟩⟩⟩),rfl⟩⟩
theorem el60:ElAt Tryz.prog 60 tpandectref11_node:=⟨⟨Tryz.t60,_,Tryz.type60,rfl,rfl,by decide,rfl⟩,by decide⟩
theorem ze60:ZeroAt Tryz.prog 60 tpandectref11_node zpandectref11_node:=⟨_,Tryz.zeroValue60,fun _=>⟨_,⟨_,_,rfl,⟨_,_,rfl,⟨_,_,rfl,⟨rfl,inR64.2 ⟨by decide,by decide⟩⟩,⟨_,_,rfl,⟨rfl,inR64.2 ⟨by decide,by decide⟩⟩,⟨rfl,inR64.2 ⟨by decide,by decide⟩⟩⟩⟩,⟨_,_,rfl,⟨rfl,inR64.2 ⟨by decide,by decide⟩⟩,⟨_,_,rfl,⟨rfl,by decide⟩,⟨_,_,rfl,⟨none,0,rfl,Nat.le_refl _,Nat.zero_le _,fun _=>rfl,rfl⟩,⟨_,_,rfl,⟨none,0,rfl,Nat.le_refl _,Nat.zero_le _,fun _=>rfl,rfl⟩,⟨_,rfl,⟨rfl,Nat.le_refl _,Nat.zero_le _,rfl⟩⟩⟩⟩⟩⟩⟩,⟨_,_,rfl,⟨rfl,inR64.2 ⟨by decide,by decide⟩⟩,⟨rfl,inR64.2 ⟨by decide,by decide⟩⟩⟩⟩,rfl⟩⟩
theorem ty66:TyAt Tryz.prog 66 tapi_Mark:=⟨Tryz.isAgg66,Tryz.sizeOf66⟩
theorem ze66:ZeroAt Tryz.prog 66 tapi_Mark zapi_Mark:=⟨_,Tryz.zeroValue66,fun _=>⟨_,⟨_,_,rfl,⟨rfl,inR64.2 ⟨by decide,by decide⟩⟩,⟨_,_,rfl,⟨rfl,inR64.2 ⟨by decide,by decide⟩⟩,⟨rfl,inR64.2 ⟨by decide,by decide⟩⟩⟩⟩,rfl⟩⟩
theorem ty68:TyAt Tryz.prog 68 tapi_Word:=⟨Tryz.isAgg68,Tryz.sizeOf68⟩
theorem el68:ElAt Tryz.prog 68 tapi_Word:=⟨⟨Tryz.t68,_,Tryz.type68,rfl,rfl,by decide,rfl⟩,by decide⟩
theorem ze68:ZeroAt Tryz.prog 68 tapi_Word zapi_Word:=⟨_,Tryz.zeroValue68,fun _=>⟨_,⟨_,_,rfl,⟨rfl,by decide⟩,⟨_,_,rfl,⟨rfl,inR64.2 ⟨by decide,by decide⟩⟩,⟨_,_,rfl,⟨rfl,inR64.2 ⟨by decide,by decide⟩⟩,⟨rfl,inR64.2 ⟨by decide,by decide⟩⟩⟩⟩⟩,rfl⟩⟩
theorem ty136:TyAt Tryz.prog 136 tunit_called:=⟨Tryz.isAgg136,Tryz.sizeOf136⟩
theorem ze136:ZeroAt Tryz.prog 136 tunit_called zunit_called:=⟨_,Tryz.zeroValue136,fun _=>⟨_,⟨_,_,rfl,⟨rfl,inR64.2 ⟨by decide,by decide⟩⟩,⟨rfl,by decide⟩⟩,rfl⟩⟩
theorem ty147:TyAt Tryz.prog 147 (tL (tI .i64)):=⟨Tryz.isAgg147,Tryz.sizeOf147⟩
theorem ze113:ZeroAt Tryz.prog 113 (tA 256 tB) (List.replicate 256 false):=ZeroAt.array ze4 Tryz.zeroValue4 Tryz.zeroValue113 rfl default
theorem eq23:EqT (α:=api_Id) (P:=Tryz.prog) (T:=23) (t:=tapi_Id) (D:=2):=EqT.struct (D:=1) rfl Tryz.underlying23 (by kernel_rfl) ⟨_,inferInstance,_,_,_,by decide,ty3,fapi_Id_0,((EqT.int Tryz.underlying3).up (by decide)),⟨_,inferInstance,_,_,_,by decide,ty3,fapi_Id_1,((EqT.int Tryz.underlying3).up (by decide)),⟨_,inferInstance,_,_,_,by decide,ty3,fapi_Id_2,((EqT.int Tryz.underlying3).up (by decide)),rfl,rfl⟩,rfl⟩,rfl⟩ (fun x y=>by cases x;cases y;simp)
theorem eg23:Tryz.prog.eqGuardType Tryz.prog.depth 23=false:=by kernel_rfl
theorem eq66:EqT (α:=api_Mark) (P:=Tryz.prog) (T:=66) (t:=tapi_Mark) (D:=2):=EqT.struct (D:=1) rfl Tryz.underlying66 (by kernel_rfl) ⟨_,inferInstance,_,_,_,by decide,ty3,fapi_Mark_0,((EqT.int Tryz.underlying3).up (by decide)),⟨_,inferInstance,_,_,_,by decide,ty3,fapi_Mark_1,((EqT.int Tryz.underlying3).up (by decide)),⟨_,inferInstance,_,_,_,by decide,ty3,fapi_Mark_2,((EqT.int Tryz.underlying3).up (by decide)),rfl,rfl⟩,rfl⟩,rfl⟩ (fun x y=>by cases x;cases y;simp)
theorem eg66:Tryz.prog.eqGuardType Tryz.prog.depth 66=false:=by kernel_rfl
theorem eq136:EqT (α:=unit_called) (P:=Tryz.prog) (T:=136) (t:=tunit_called) (D:=2):=EqT.struct (D:=1) rfl Tryz.underlying136 (by kernel_rfl) ⟨_,inferInstance,_,_,_,by decide,ty3,funit_called_0,((EqT.int Tryz.underlying3).up (by decide)),⟨_,inferInstance,_,_,_,by decide,ty9,funit_called_1,((EqT.string Tryz.underlying9).up (by decide)),rfl,rfl⟩,rfl⟩ (fun x y=>by cases x;cases y;simp)
theorem fl68:Flat tapi_Word:=(Flat.map (Flat.pair Flat.S (Flat.one (Flat.map (Flat.pair Flat.I (Flat.pair Flat.I (Flat.one Flat.I))) _))) _)
theorem kt23:KeyT Tryz.prog 23 tapi_Id:=KeyT.struct eq23 (by decide) rfl Tryz.underlying23 ⟨⟨_,_,_,ty3,fapi_Id_0,(fun h e w=>ck_int Tryz.underlying3 9998 h e w)⟩,⟨⟨_,_,_,ty3,fapi_Id_1,(fun h e w=>ck_int Tryz.underlying3 9998 h e w)⟩,⟨⟨_,_,_,ty3,fapi_Id_2,(fun h e w=>ck_int Tryz.underlying3 9998 h e w)⟩,trivial⟩⟩⟩
theorem kt136:KeyT Tryz.prog 136 tunit_called:=KeyT.struct eq136 (by decide) rfl Tryz.underlying136 ⟨⟨_,_,_,ty3,funit_called_0,(fun h e w=>ck_int Tryz.underlying3 9998 h e w)⟩,⟨⟨_,_,_,ty9,funit_called_1,(fun h e w=>ck_string Tryz.underlying9 9998 h e w)⟩,trivial⟩⟩
abbrev I6:Ty Int:=tI .i64
theorem Mx:Tryz.prog.follows .mixedOrders=true:=Tryz.mixed
theorem C9(xs:Array Value)(w:World):(callFunc 9 xs).run Tryz.prog w= .ok (.enter 9 xs) w:=Tryz.call9 xs w
theorem C10(xs:Array Value)(w:World):(callFunc 10 xs).run Tryz.prog w= .ok (.enter 10 xs) w:=Tryz.call10 xs w
theorem C11(xs:Array Value)(w:World):(callFunc 11 xs).run Tryz.prog w= .ok (.enter 11 xs) w:=Tryz.call11 xs w
theorem C12(xs:Array Value)(w:World):(callFunc 12 xs).run Tryz.prog w= .ok (.enter 12 xs) w:=Tryz.call12 xs w
theorem C13(xs:Array Value)(w:World):(callFunc 13 xs).run Tryz.prog w= .ok (.enter 13 xs) w:=Tryz.call13 xs w
theorem C14(xs:Array Value)(w:World):(callFunc 14 xs).run Tryz.prog w= .ok (.enter 14 xs) w:=Tryz.call14 xs w
theorem C15(xs:Array Value)(w:World):(callFunc 15 xs).run Tryz.prog w= .ok (.enter 15 xs) w:=Tryz.call15 xs w
theorem C16(xs:Array Value)(w:World):(callFunc 16 xs).run Tryz.prog w= .ok (.enter 16 xs) w:=Tryz.call16 xs w
theorem C17(xs:Array Value)(w:World):(callFunc 17 xs).run Tryz.prog w= .ok (.enter 17 xs) w:=Tryz.call17 xs w
theorem C18(xs:Array Value)(w:World):(callFunc 18 xs).run Tryz.prog w= .ok (.enter 18 xs) w:=Tryz.call18 xs w
theorem C19(xs:Array Value)(w:World):(callFunc 19 xs).run Tryz.prog w= .ok (.enter 19 xs) w:=Tryz.call19 xs w
theorem C20(xs:Array Value)(w:World):(callFunc 20 xs).run Tryz.prog w= .ok (.enter 20 xs) w:=Tryz.call20 xs w
theorem C21(xs:Array Value)(w:World):(callFunc 21 xs).run Tryz.prog w= .ok (.enter 21 xs) w:=Tryz.call21 xs w
theorem C22(xs:Array Value)(w:World):(callFunc 22 xs).run Tryz.prog w= .ok (.enter 22 xs) w:=Tryz.call22 xs w
theorem C23(xs:Array Value)(w:World):(callFunc 23 xs).run Tryz.prog w= .ok (.enter 23 xs) w:=Tryz.call23 xs w
theorem C24(xs:Array Value)(w:World):(callFunc 24 xs).run Tryz.prog w= .ok (.enter 24 xs) w:=Tryz.call24 xs w
theorem C25(xs:Array Value)(w:World):(callFunc 25 xs).run Tryz.prog w= .ok (.enter 25 xs) w:=Tryz.call25 xs w
theorem C26(xs:Array Value)(w:World):(callFunc 26 xs).run Tryz.prog w= .ok (.enter 26 xs) w:=Tryz.call26 xs w
theorem C27(xs:Array Value)(w:World):(callFunc 27 xs).run Tryz.prog w= .ok (.enter 27 xs) w:=Tryz.call27 xs w
theorem C28(xs:Array Value)(w:World):(callFunc 28 xs).run Tryz.prog w= .ok (.enter 28 xs) w:=Tryz.call28 xs w
theorem C29(xs:Array Value)(w:World):(callFunc 29 xs).run Tryz.prog w= .ok (.enter 29 xs) w:=Tryz.call29 xs w
theorem C33(xs:Array Value)(w:World):(callFunc 33 xs).run Tryz.prog w= .ok (.enter 33 xs) w:=Tryz.call33 xs w
theorem C34(xs:Array Value)(w:World):(callFunc 34 xs).run Tryz.prog w= .ok (.enter 34 xs) w:=Tryz.call34 xs w
theorem C35(xs:Array Value)(w:World):(callFunc 35 xs).run Tryz.prog w= .ok (.enter 35 xs) w:=Tryz.call35 xs w
theorem C36(xs:Array Value)(w:World):(callFunc 36 xs).run Tryz.prog w= .ok (.enter 36 xs) w:=Tryz.call36 xs w
theorem C37(xs:Array Value)(w:World):(callFunc 37 xs).run Tryz.prog w= .ok (.enter 37 xs) w:=Tryz.call37 xs w
theorem C38(xs:Array Value)(w:World):(callFunc 38 xs).run Tryz.prog w= .ok (.enter 38 xs) w:=Tryz.call38 xs w
theorem C39(xs:Array Value)(w:World):(callFunc 39 xs).run Tryz.prog w= .ok (.enter 39 xs) w:=Tryz.call39 xs w
theorem C40(xs:Array Value)(w:World):(callFunc 40 xs).run Tryz.prog w= .ok (.enter 40 xs) w:=Tryz.call40 xs w
theorem C41(xs:Array Value)(w:World):(callFunc 41 xs).run Tryz.prog w= .ok (.enter 41 xs) w:=Tryz.call41 xs w
theorem C42(xs:Array Value)(w:World):(callFunc 42 xs).run Tryz.prog w= .ok (.enter 42 xs) w:=Tryz.call42 xs w
theorem C43(xs:Array Value)(w:World):(callFunc 43 xs).run Tryz.prog w= .ok (.enter 43 xs) w:=Tryz.call43 xs w
theorem C44(xs:Array Value)(w:World):(callFunc 44 xs).run Tryz.prog w= .ok (.enter 44 xs) w:=Tryz.call44 xs w
theorem C45(xs:Array Value)(w:World):(callFunc 45 xs).run Tryz.prog w= .ok (.enter 45 xs) w:=Tryz.call45 xs w
theorem C46(xs:Array Value)(w:World):(callFunc 46 xs).run Tryz.prog w= .ok (.enter 46 xs) w:=Tryz.call46 xs w
theorem C47(xs:Array Value)(w:World):(callFunc 47 xs).run Tryz.prog w= .ok (.enter 47 xs) w:=Tryz.call47 xs w
theorem C48(xs:Array Value)(w:World):(callFunc 48 xs).run Tryz.prog w= .ok (.enter 48 xs) w:=Tryz.call48 xs w
theorem C49(xs:Array Value)(w:World):(callFunc 49 xs).run Tryz.prog w= .ok (.enter 49 xs) w:=Tryz.call49 xs w
theorem C50(xs:Array Value)(w:World):(callFunc 50 xs).run Tryz.prog w= .ok (.enter 50 xs) w:=Tryz.call50 xs w
theorem C51(xs:Array Value)(w:World):(callFunc 51 xs).run Tryz.prog w= .ok (.enter 51 xs) w:=Tryz.call51 xs w
theorem C52(xs:Array Value)(w:World):(callFunc 52 xs).run Tryz.prog w= .ok (.enter 52 xs) w:=Tryz.call52 xs w
theorem C53(xs:Array Value)(w:World):(callFunc 53 xs).run Tryz.prog w= .ok (.enter 53 xs) w:=Tryz.call53 xs w
theorem C54(xs:Array Value)(w:World):(callFunc 54 xs).run Tryz.prog w= .ok (.enter 54 xs) w:=Tryz.call54 xs w
theorem C55(xs:Array Value)(w:World):(callFunc 55 xs).run Tryz.prog w= .ok (.enter 55 xs) w:=Tryz.call55 xs w
theorem C56(xs:Array Value)(w:World):(callFunc 56 xs).run Tryz.prog w= .ok (.enter 56 xs) w:=Tryz.call56 xs w
theorem C57(xs:Array Value)(w:World):(callFunc 57 xs).run Tryz.prog w= .ok (.enter 57 xs) w:=Tryz.call57 xs w
theorem C58(xs:Array Value)(w:World):(callFunc 58 xs).run Tryz.prog w= .ok (.enter 58 xs) w:=Tryz.call58 xs w
theorem C59(xs:Array Value)(w:World):(callFunc 59 xs).run Tryz.prog w= .ok (.enter 59 xs) w:=Tryz.call59 xs w
theorem C60(xs:Array Value)(w:World):(callFunc 60 xs).run Tryz.prog w= .ok (.enter 60 xs) w:=Tryz.call60 xs w
theorem C61(xs:Array Value)(w:World):(callFunc 61 xs).run Tryz.prog w= .ok (.enter 61 xs) w:=Tryz.call61 xs w
theorem C64(xs:Array Value)(w:World):(callFunc 64 xs).run Tryz.prog w= .ok (.enter 64 xs) w:=Tryz.call64 xs w
theorem C68(xs:Array Value)(w:World):(callFunc 68 xs).run Tryz.prog w= .ok (.enter 68 xs) w:=Tryz.call68 xs w
theorem C69(xs:Array Value)(w:World):(callFunc 69 xs).run Tryz.prog w= .ok (.enter 69 xs) w:=Tryz.call69 xs w
theorem C70(xs:Array Value)(w:World):(callFunc 70 xs).run Tryz.prog w= .ok (.enter 70 xs) w:=Tryz.call70 xs w
theorem C71(xs:Array Value)(w:World):(callFunc 71 xs).run Tryz.prog w= .ok (.enter 71 xs) w:=Tryz.call71 xs w
theorem C72(xs:Array Value)(w:World):(callFunc 72 xs).run Tryz.prog w= .ok (.enter 72 xs) w:=Tryz.call72 xs w
theorem C75(xs:Array Value)(w:World):(callFunc 75 xs).run Tryz.prog w= .ok (.enter 75 xs) w:=Tryz.call75 xs w
theorem C76(xs:Array Value)(w:World):(callFunc 76 xs).run Tryz.prog w= .ok (.enter 76 xs) w:=Tryz.call76 xs w
theorem C77(xs:Array Value)(w:World):(callFunc 77 xs).run Tryz.prog w= .ok (.enter 77 xs) w:=Tryz.call77 xs w
theorem C78(xs:Array Value)(w:World):(callFunc 78 xs).run Tryz.prog w= .ok (.enter 78 xs) w:=Tryz.call78 xs w
theorem C79(xs:Array Value)(w:World):(callFunc 79 xs).run Tryz.prog w= .ok (.enter 79 xs) w:=Tryz.call79 xs w
theorem C80(xs:Array Value)(w:World):(callFunc 80 xs).run Tryz.prog w= .ok (.enter 80 xs) w:=Tryz.call80 xs w
theorem C81(xs:Array Value)(w:World):(callFunc 81 xs).run Tryz.prog w= .ok (.enter 81 xs) w:=Tryz.call81 xs w
theorem C82(xs:Array Value)(w:World):(callFunc 82 xs).run Tryz.prog w= .ok (.enter 82 xs) w:=Tryz.call82 xs w
theorem C83(xs:Array Value)(w:World):(callFunc 83 xs).run Tryz.prog w= .ok (.enter 83 xs) w:=Tryz.call83 xs w
theorem C86(xs:Array Value)(w:World):(callFunc 86 xs).run Tryz.prog w= .ok (.enter 86 xs) w:=Tryz.call86 xs w
theorem C89(xs:Array Value)(w:World):(callFunc 89 xs).run Tryz.prog w= .ok (.enter 89 xs) w:=Tryz.call89 xs w
theorem C90(xs:Array Value)(w:World):(callFunc 90 xs).run Tryz.prog w= .ok (.enter 90 xs) w:=Tryz.call90 xs w
theorem C91(xs:Array Value)(w:World):(callFunc 91 xs).run Tryz.prog w= .ok (.enter 91 xs) w:=Tryz.call91 xs w
theorem C92(xs:Array Value)(w:World):(callFunc 92 xs).run Tryz.prog w= .ok (.enter 92 xs) w:=Tryz.call92 xs w
theorem C98(xs:Array Value)(w:World):(callFunc 98 xs).run Tryz.prog w= .ok (.enter 98 xs) w:=Tryz.call98 xs w
theorem C99(xs:Array Value)(w:World):(callFunc 99 xs).run Tryz.prog w= .ok (.enter 99 xs) w:=Tryz.call99 xs w
theorem C100(xs:Array Value)(w:World):(callFunc 100 xs).run Tryz.prog w= .ok (.enter 100 xs) w:=Tryz.call100 xs w
theorem C101(xs:Array Value)(w:World):(callFunc 101 xs).run Tryz.prog w= .ok (.enter 101 xs) w:=Tryz.call101 xs w
theorem C102(xs:Array Value)(w:World):(callFunc 102 xs).run Tryz.prog w= .ok (.enter 102 xs) w:=Tryz.call102 xs w
theorem C103(xs:Array Value)(w:World):(callFunc 103 xs).run Tryz.prog w= .ok (.enter 103 xs) w:=Tryz.call103 xs w
theorem C104(xs:Array Value)(w:World):(callFunc 104 xs).run Tryz.prog w= .ok (.enter 104 xs) w:=Tryz.call104 xs w
theorem C111(xs:Array Value)(w:World):(callFunc 111 xs).run Tryz.prog w= .ok (.enter 111 xs) w:=Tryz.call111 xs w
theorem C116(xs:Array Value)(w:World):(callFunc 116 xs).run Tryz.prog w= .ok (.enter 116 xs) w:=Tryz.call116 xs w
theorem C117(xs:Array Value)(w:World):(callFunc 117 xs).run Tryz.prog w= .ok (.enter 117 xs) w:=Tryz.call117 xs w
theorem C118(xs:Array Value)(w:World):(callFunc 118 xs).run Tryz.prog w= .ok (.enter 118 xs) w:=Tryz.call118 xs w
theorem C119(xs:Array Value)(w:World):(callFunc 119 xs).run Tryz.prog w= .ok (.enter 119 xs) w:=Tryz.call119 xs w
theorem C120(xs:Array Value)(w:World):(callFunc 120 xs).run Tryz.prog w= .ok (.enter 120 xs) w:=Tryz.call120 xs w
theorem C123(xs:Array Value)(w:World):(callFunc 123 xs).run Tryz.prog w= .ok (.enter 123 xs) w:=Tryz.call123 xs w
theorem C126(xs:Array Value)(w:World):(callFunc 126 xs).run Tryz.prog w= .ok (.enter 126 xs) w:=Tryz.call126 xs w
theorem C127(xs:Array Value)(w:World):(callFunc 127 xs).run Tryz.prog w= .ok (.enter 127 xs) w:=Tryz.call127 xs w
theorem C128(xs:Array Value)(w:World):(callFunc 128 xs).run Tryz.prog w= .ok (.enter 128 xs) w:=Tryz.call128 xs w
theorem C129(xs:Array Value)(w:World):(callFunc 129 xs).run Tryz.prog w= .ok (.enter 129 xs) w:=Tryz.call129 xs w
theorem C130(xs:Array Value)(w:World):(callFunc 130 xs).run Tryz.prog w= .ok (.enter 130 xs) w:=Tryz.call130 xs w
theorem C131(xs:Array Value)(w:World):(callFunc 131 xs).run Tryz.prog w= .ok (.enter 131 xs) w:=Tryz.call131 xs w
theorem C132(xs:Array Value)(w:World):(callFunc 132 xs).run Tryz.prog w= .ok (.enter 132 xs) w:=Tryz.call132 xs w
theorem C133(xs:Array Value)(w:World):(callFunc 133 xs).run Tryz.prog w= .ok (.enter 133 xs) w:=Tryz.call133 xs w
theorem C134(xs:Array Value)(w:World):(callFunc 134 xs).run Tryz.prog w= .ok (.enter 134 xs) w:=Tryz.call134 xs w
theorem C135(xs:Array Value)(w:World):(callFunc 135 xs).run Tryz.prog w= .ok (.enter 135 xs) w:=Tryz.call135 xs w
theorem J3(w:World):∃ m,(sizeOf 3).run Tryz.prog w= .ok (m+1) w:=⟨0,Tryz.sizeOf3 w⟩
theorem J9(w:World):∃ m,(sizeOf 9).run Tryz.prog w= .ok (m+1) w:=⟨0,Tryz.sizeOf9 w⟩
theorem J23(w:World):∃ m,(sizeOf 23).run Tryz.prog w= .ok (m+1) w:=⟨2,Tryz.sizeOf23 w⟩
theorem J24(w:World):∃ m,(sizeOf 24).run Tryz.prog w= .ok (m+1) w:=⟨0,Tryz.sizeOf24 w⟩
theorem J25(w:World):∃ m,(sizeOf 25).run Tryz.prog w= .ok (m+1) w:=⟨0,Tryz.sizeOf25 w⟩
theorem J27(w:World):∃ m,(sizeOf 27).run Tryz.prog w= .ok (m+1) w:=⟨7,Tryz.sizeOf27 w⟩
theorem J66(w:World):∃ m,(sizeOf 66).run Tryz.prog w= .ok (m+1) w:=⟨2,Tryz.sizeOf66 w⟩
theorem J90(w:World):∃ m,(sizeOf 90).run Tryz.prog w= .ok (m+1) w:=⟨0,Tryz.sizeOf90 w⟩
theorem U3:Tryz.prog.underlying 3=some (.int .i64):=Tryz.underlying3
theorem U4:Tryz.prog.underlying 4=some (.bool):=Tryz.underlying4
theorem U5:Tryz.prog.underlying 5=some (.int .u8):=Tryz.underlying5
theorem U9:Tryz.prog.underlying 9=some (.string):=Tryz.underlying9
theorem U23:Tryz.prog.underlying 23=some (.struct #[⟨ "Act",3,0,false,"","",0⟩,⟨ "Item",3,1,false,"","",8⟩,⟨ "N",3,2,false,"","",16⟩]):=Tryz.underlying23
theorem U24:Tryz.prog.underlying 24=some (.slice 68):=Tryz.underlying24
theorem U25:Tryz.prog.underlying 25=some (.slice 27):=Tryz.underlying25
theorem U27:Tryz.prog.underlying 27=some (.struct #[⟨ "Id",23,0,false,"","",0⟩,⟨ "Kind",3,3,false,"","",24⟩,⟨ "Label",9,4,false,"","",32⟩,⟨ "Head",24,5,false,"","",48⟩,⟨ "Words",24,6,false,"","",72⟩,⟨ "Kids",25,7,false,"","",96⟩]):=Tryz.underlying27
theorem U47:Tryz.prog.underlying 47=some (.slice 9):=Tryz.underlying47
theorem U58:Tryz.prog.underlying 58=some (.slice 60):=Tryz.underlying58
theorem U66:Tryz.prog.underlying 66=some (.struct #[⟨ "Act",3,0,false,"","",0⟩,⟨ "Item",3,1,false,"","",8⟩,⟨ "At",3,2,false,"","",16⟩]):=Tryz.underlying66
theorem U68:Tryz.prog.underlying 68=some (.struct #[⟨ "Text",9,0,false,"","",0⟩,⟨ "By",66,1,false,"","",16⟩]):=Tryz.underlying68
theorem U90:Tryz.prog.underlying 90=some (.slice 5):=Tryz.underlying90
theorem U109:Tryz.prog.underlying 109=some (.array 8 9):=Tryz.underlying109
theorem U113:Tryz.prog.underlying 113=some (.array 256 4):=Tryz.underlying113
theorem U121:Tryz.prog.underlying 121=some (.pointer 5):=Tryz.underlying121
theorem U134:Tryz.prog.underlying 134=some (.map 136 4):=Tryz.underlying134
theorem U137:Tryz.prog.underlying 137=some (.slice 23):=Tryz.underlying137
theorem U139:Tryz.prog.underlying 139=some (.map 23 4):=Tryz.underlying139
theorem U147:Tryz.prog.underlying 147=some (.slice 3):=Tryz.underlying147
theorem U148:Tryz.prog.underlying 148=some (.array 8 147):=Tryz.underlying148
theorem Y3(w:World):(isAgg 3).run Tryz.prog w= .ok false w:=Tryz.isAgg3 w
theorem Y27(w:World):(isAgg 27).run Tryz.prog w= .ok true w:=Tryz.isAgg27 w
theorem Y47(w:World):(isAgg 47).run Tryz.prog w= .ok false w:=Tryz.isAgg47 w
theorem Y60(w:World):(isAgg 60).run Tryz.prog w= .ok true w:=Tryz.isAgg60 w
theorem Y87(w:World):(isAgg 87).run Tryz.prog w= .ok false w:=Tryz.isAgg87 w
theorem Y90(w:World):(isAgg 90).run Tryz.prog w= .ok false w:=Tryz.isAgg90 w
theorem Y113(w:World):(isAgg 113).run Tryz.prog w= .ok true w:=Tryz.isAgg113 w
theorem Y137(w:World):(isAgg 137).run Tryz.prog w= .ok false w:=Tryz.isAgg137 w
theorem Z3(w:World):(sizeOf 3).run Tryz.prog w= .ok 1 w:=Tryz.sizeOf3 w
theorem Z4(w:World):(sizeOf 4).run Tryz.prog w= .ok 1 w:=Tryz.sizeOf4 w
theorem Z5(w:World):(sizeOf 5).run Tryz.prog w= .ok 1 w:=Tryz.sizeOf5 w
theorem Z9(w:World):(sizeOf 9).run Tryz.prog w= .ok 1 w:=Tryz.sizeOf9 w
theorem Z23(w:World):(sizeOf 23).run Tryz.prog w= .ok 3 w:=Tryz.sizeOf23 w
theorem Z24(w:World):(sizeOf 24).run Tryz.prog w= .ok 1 w:=Tryz.sizeOf24 w
theorem Z25(w:World):(sizeOf 25).run Tryz.prog w= .ok 1 w:=Tryz.sizeOf25 w
theorem Z27(w:World):(sizeOf 27).run Tryz.prog w= .ok 8 w:=Tryz.sizeOf27 w
theorem Z47(w:World):(sizeOf 47).run Tryz.prog w= .ok 1 w:=Tryz.sizeOf47 w
theorem Z60(w:World):(sizeOf 60).run Tryz.prog w= .ok 10 w:=Tryz.sizeOf60 w
theorem Z66(w:World):(sizeOf 66).run Tryz.prog w= .ok 3 w:=Tryz.sizeOf66 w
theorem Z68(w:World):(sizeOf 68).run Tryz.prog w= .ok 4 w:=Tryz.sizeOf68 w
theorem Z87(w:World):(sizeOf 87).run Tryz.prog w= .ok 1 w:=Tryz.sizeOf87 w
theorem Z90(w:World):(sizeOf 90).run Tryz.prog w= .ok 1 w:=Tryz.sizeOf90 w
theorem Z113(w:World):(sizeOf 113).run Tryz.prog w= .ok 256 w:=Tryz.sizeOf113 w
theorem Z136(w:World):(sizeOf 136).run Tryz.prog w= .ok 2 w:=Tryz.sizeOf136 w
theorem Z137(w:World):(sizeOf 137).run Tryz.prog w= .ok 1 w:=Tryz.sizeOf137 w
theorem Z147(w:World):(sizeOf 147).run Tryz.prog w= .ok 1 w:=Tryz.sizeOf147 w
end Go.Proofs.YtofaogkcifaioaaGreatDoor
