/-
  How the types of the program are read.
-/
import Derived.Test.YtofaogkcifaioaaDoorDec21
import Derived.Test.YtofaogkcifaioaaDoorDec19
import Derived.Test.YtofaogkcifaioaaDoorDec24
import Derived.Test.YtofaogkcifaioaaDoorSh
import Derived.Test.YtofaogkcifaioaaDoorDec26
import Derived.Test.YtofaogkcifaioaaDoorDec27
import Derived.Test.YtofaogkcifaioaaDoorDec28
import Derived.Test.YtofaogkcifaioaaDoorDec29
import Derived.Test.YtofaogkcifaioaaDoorDec31
import Derived.Test.YtofaogkcifaioaaDoorDec30
import Derived.Test.YtofaogkcifaioaaDoorDec32
import Derived.Test.YtofaogkcifaioaaDoorDec33
import Derived.Test.YtofaogkcifaioaaDoorDec34
import Derived.Test.YtofaogkcifaioaaDoorDec35
import Derived.Test.YtofaogkcifaioaaDoorMdl
import Derived.Test.YtofaogkcifaioaaDoorProg
import Derived.KernelRfl
set_option maxRecDepth 100000
namespace Go.Proofs.YtofaogkcifaioaaDoor
open Go Go.Dec
theorem Tryd.mixed:Tryd.prog.follows .mixedOrders=true:=by kernel_rfl
def tapi_Id:Ty api_Id:=tMap (tP (tI .i64) (tP (tI .i64) (tOne (tI .i64)))) (fun x:api_Id=>(x.Act,x.Item,x.N))
theorem fapi_Id_0:Fld tapi_Id 0 (tI .i64) (fun x=>x.Act):=(Fld.map (m:=(fun x:api_Id=>(x.Act,x.Item,x.N))) (Fld.here (tI .i64) (tP (tI .i64) (tOne (tI .i64))))).cast rfl rfl
theorem fapi_Id_1:Fld tapi_Id 1 (tI .i64) (fun x=>x.Item):=(Fld.map (m:=(fun x:api_Id=>(x.Act,x.Item,x.N))) (Fld.next (s:=(tI .i64)) (Fld.here (tI .i64) (tOne (tI .i64))))).cast rfl rfl
theorem fapi_Id_2:Fld tapi_Id 2 (tI .i64) (fun x=>x.N):=(Fld.map (m:=(fun x:api_Id=>(x.Act,x.Item,x.N))) (Fld.next (s:=(tI .i64)) (Fld.next (s:=(tI .i64)) (Fld.one (tI .i64))))).cast rfl rfl
def zapi_Id_f(fd:Field):Nat:=if fd.type=3 then 1 else 0
theorem zapi_Id_sz:∀ fs,Tryd.prog.underlying 24=some (.struct fs)→∀ fd,fd∈fs→∀ w,(sizeOf fd.type).run Tryd.prog w= .ok (zapi_Id_f fd) w:=by
 intro fs h
 rw [Tryd.underlying24] at h
 cases h
 intro fd hfd w
 simp only [List.mem_toArray,List.mem_cons,List.not_mem_nil,or_false] at hfd
 rcases hfd with rfl | rfl | rfl
 ·exact Tryd.sizeOf3 w
 ·exact Tryd.sizeOf3 w
 ·exact Tryd.sizeOf3 w
def tapi_Mark:Ty api_Mark:=tMap (tP (tI .i64) (tP (tI .i64) (tOne (tI .i64)))) (fun x:api_Mark=>(x.Act,x.Item,x.At))
def zapi_Mark_f(fd:Field):Nat:=if fd.type=3 then 1 else 0
theorem zapi_Mark_sz:∀ fs,Tryd.prog.underlying 52=some (.struct fs)→∀ fd,fd∈fs→∀ w,(sizeOf fd.type).run Tryd.prog w= .ok (zapi_Mark_f fd) w:=by
 intro fs h
 rw [Tryd.underlying52] at h
 cases h
 intro fd hfd w
 simp only [List.mem_toArray,List.mem_cons,List.not_mem_nil,or_false] at hfd
 rcases hfd with rfl | rfl | rfl
 ·exact Tryd.sizeOf3 w
 ·exact Tryd.sizeOf3 w
 ·exact Tryd.sizeOf3 w
def tapi_Word:Ty api_Word:=tMap (tP tS (tOne tapi_Mark)) (fun x:api_Word=>(x.Text,x.By))
theorem fapi_Word_0:Fld tapi_Word 0 tS (fun x=>x.Text):=(Fld.map (m:=(fun x:api_Word=>(x.Text,x.By))) (Fld.here tS (tOne tapi_Mark))).cast rfl rfl
theorem sapi_Word_0:FldSet tapi_Word 0 tS (fun x y=>{x with Text:=y}):=(FldSet.map (m:=(fun x:api_Word=>(x.Text,x.By))) (f':=fun x y=>{x with Text:=y}) (FldSet.here tS (tOne tapi_Mark)) (fun _ _=>rfl)).cast rfl rfl
theorem sapi_Word_1:FldSet tapi_Word 1 tapi_Mark (fun x y=>{x with By:=y}):=(FldSet.map (m:=(fun x:api_Word=>(x.Text,x.By))) (f':=fun x y=>{x with By:=y}) (FldSet.next (s:=tS) (FldSet.one tapi_Mark)) (fun _ _=>rfl)).cast rfl rfl
def zapi_Word_f(fd:Field):Nat:=if fd.type=9 then 1 else if fd.type=52 then 3 else 0
theorem zapi_Word_sz:∀ fs,Tryd.prog.underlying 54=some (.struct fs)→∀ fd,fd∈fs→∀ w,(sizeOf fd.type).run Tryd.prog w= .ok (zapi_Word_f fd) w:=by
 intro fs h
 rw [Tryd.underlying54] at h
 cases h
 intro fd hfd w
 simp only [List.mem_toArray,List.mem_cons,List.not_mem_nil,or_false] at hfd
 rcases hfd with rfl | rfl
 ·exact Tryd.sizeOf9 w
 ·exact Tryd.sizeOf52 w
def Fapi_Unit(X:Ty api_Unit):Ty api_Unit:=tMap (tP tapi_Id (tP (tI .i64) (tP tS (tP (tL tapi_Word) (tP (tL tapi_Word) (tOne (tL X))))))) (fun x:api_Unit=>(x.Id,x.Kind,x.Label,x.Head,x.Words,x.Kids))
theorem capi_Unit:Cont Fapi_Unit:=Cont.map (fun x:api_Unit=>(x.Id,x.Kind,x.Label,x.Head,x.Words,x.Kids)) (Cont.pair (Cont.const _) (Cont.pair (Cont.const _) (Cont.pair (Cont.const _) (Cont.pair (Cont.const _) (Cont.pair (Cont.const _) (Cont.one ((Cont.list Cont.id))))))))
theorem rapi_Unit:Rec Fapi_Unit 8:=⟨capi_Unit,rfl,rfl⟩
def tapi_Unit:Ty api_Unit:=tFix rapi_Unit
theorem fapi_Unit_0:Fld tapi_Unit 0 tapi_Id (fun x=>x.Id):=Fld.le rapi_Unit.out ((Fld.map (m:=(fun x:api_Unit=>(x.Id,x.Kind,x.Label,x.Head,x.Words,x.Kids))) (Fld.here tapi_Id (tP (tI .i64) (tP tS (tP (tL tapi_Word) (tP (tL tapi_Word) (tOne (tL tapi_Unit)))))))).cast rfl rfl)
theorem sapi_Unit_0:FldSet tapi_Unit 0 tapi_Id (fun x y=>{x with Id:=y}):=FldSet.le rapi_Unit.out rapi_Unit.into ((FldSet.map (m:=(fun x:api_Unit=>(x.Id,x.Kind,x.Label,x.Head,x.Words,x.Kids))) (f':=fun x y=>{x with Id:=y}) (FldSet.here tapi_Id (tP (tI .i64) (tP tS (tP (tL tapi_Word) (tP (tL tapi_Word) (tOne (tL tapi_Unit))))))) (fun _ _=>rfl)).cast rfl rfl)
theorem fapi_Unit_1:Fld tapi_Unit 3 (tI .i64) (fun x=>x.Kind):=Fld.le rapi_Unit.out ((Fld.map (m:=(fun x:api_Unit=>(x.Id,x.Kind,x.Label,x.Head,x.Words,x.Kids))) (Fld.next (s:=tapi_Id) (Fld.here (tI .i64) (tP tS (tP (tL tapi_Word) (tP (tL tapi_Word) (tOne (tL tapi_Unit)))))))).cast rfl rfl)
theorem sapi_Unit_1:FldSet tapi_Unit 3 (tI .i64) (fun x y=>{x with Kind:=y}):=FldSet.le rapi_Unit.out rapi_Unit.into ((FldSet.map (m:=(fun x:api_Unit=>(x.Id,x.Kind,x.Label,x.Head,x.Words,x.Kids))) (f':=fun x y=>{x with Kind:=y}) (FldSet.next (s:=tapi_Id) (FldSet.here (tI .i64) (tP tS (tP (tL tapi_Word) (tP (tL tapi_Word) (tOne (tL tapi_Unit))))))) (fun _ _=>rfl)).cast rfl rfl)
theorem fapi_Unit_2:Fld tapi_Unit 4 tS (fun x=>x.Label):=Fld.le rapi_Unit.out ((Fld.map (m:=(fun x:api_Unit=>(x.Id,x.Kind,x.Label,x.Head,x.Words,x.Kids))) (Fld.next (s:=tapi_Id) (Fld.next (s:=(tI .i64)) (Fld.here tS (tP (tL tapi_Word) (tP (tL tapi_Word) (tOne (tL tapi_Unit)))))))).cast rfl rfl)
theorem sapi_Unit_2:FldSet tapi_Unit 4 tS (fun x y=>{x with Label:=y}):=FldSet.le rapi_Unit.out rapi_Unit.into ((FldSet.map (m:=(fun x:api_Unit=>(x.Id,x.Kind,x.Label,x.Head,x.Words,x.Kids))) (f':=fun x y=>{x with Label:=y}) (FldSet.next (s:=tapi_Id) (FldSet.next (s:=(tI .i64)) (FldSet.here tS (tP (tL tapi_Word) (tP (tL tapi_Word) (tOne (tL tapi_Unit))))))) (fun _ _=>rfl)).cast rfl rfl)
theorem fapi_Unit_3:Fld tapi_Unit 5 (tL tapi_Word) (fun x=>x.Head):=Fld.le rapi_Unit.out ((Fld.map (m:=(fun x:api_Unit=>(x.Id,x.Kind,x.Label,x.Head,x.Words,x.Kids))) (Fld.next (s:=tapi_Id) (Fld.next (s:=(tI .i64)) (Fld.next (s:=tS) (Fld.here (tL tapi_Word) (tP (tL tapi_Word) (tOne (tL tapi_Unit)))))))).cast rfl rfl)
theorem sapi_Unit_3:FldSet tapi_Unit 5 (tL tapi_Word) (fun x y=>{x with Head:=y}):=FldSet.le rapi_Unit.out rapi_Unit.into ((FldSet.map (m:=(fun x:api_Unit=>(x.Id,x.Kind,x.Label,x.Head,x.Words,x.Kids))) (f':=fun x y=>{x with Head:=y}) (FldSet.next (s:=tapi_Id) (FldSet.next (s:=(tI .i64)) (FldSet.next (s:=tS) (FldSet.here (tL tapi_Word) (tP (tL tapi_Word) (tOne (tL tapi_Unit))))))) (fun _ _=>rfl)).cast rfl rfl)
theorem fapi_Unit_4:Fld tapi_Unit 6 (tL tapi_Word) (fun x=>x.Words):=Fld.le rapi_Unit.out ((Fld.map (m:=(fun x:api_Unit=>(x.Id,x.Kind,x.Label,x.Head,x.Words,x.Kids))) (Fld.next (s:=tapi_Id) (Fld.next (s:=(tI .i64)) (Fld.next (s:=tS) (Fld.next (s:=(tL tapi_Word)) (Fld.here (tL tapi_Word) (tOne (tL tapi_Unit)))))))).cast rfl rfl)
theorem sapi_Unit_4:FldSet tapi_Unit 6 (tL tapi_Word) (fun x y=>{x with Words:=y}):=FldSet.le rapi_Unit.out rapi_Unit.into ((FldSet.map (m:=(fun x:api_Unit=>(x.Id,x.Kind,x.Label,x.Head,x.Words,x.Kids))) (f':=fun x y=>{x with Words:=y}) (FldSet.next (s:=tapi_Id) (FldSet.next (s:=(tI .i64)) (FldSet.next (s:=tS) (FldSet.next (s:=(tL tapi_Word)) (FldSet.here (tL tapi_Word) (tOne (tL tapi_Unit))))))) (fun _ _=>rfl)).cast rfl rfl)
theorem fapi_Unit_5:Fld tapi_Unit 7 (tL tapi_Unit) (fun x=>x.Kids):=Fld.le rapi_Unit.out ((Fld.map (m:=(fun x:api_Unit=>(x.Id,x.Kind,x.Label,x.Head,x.Words,x.Kids))) (Fld.next (s:=tapi_Id) (Fld.next (s:=(tI .i64)) (Fld.next (s:=tS) (Fld.next (s:=(tL tapi_Word)) (Fld.next (s:=(tL tapi_Word)) (Fld.one (tL tapi_Unit)))))))).cast rfl rfl)
theorem sapi_Unit_5:FldSet tapi_Unit 7 (tL tapi_Unit) (fun x y=>{x with Kids:=y}):=FldSet.le rapi_Unit.out rapi_Unit.into ((FldSet.map (m:=(fun x:api_Unit=>(x.Id,x.Kind,x.Label,x.Head,x.Words,x.Kids))) (f':=fun x y=>{x with Kids:=y}) (FldSet.next (s:=tapi_Id) (FldSet.next (s:=(tI .i64)) (FldSet.next (s:=tS) (FldSet.next (s:=(tL tapi_Word)) (FldSet.next (s:=(tL tapi_Word)) (FldSet.one (tL tapi_Unit))))))) (fun _ _=>rfl)).cast rfl rfl)
def zapi_Unit_f(fd:Field):Nat:=if fd.type=3 then 1 else if fd.type=9 then 1 else if fd.type=24 then 3 else if fd.type=25 then 1 else if fd.type=26 then 1 else 0
theorem zapi_Unit_sz:∀ fs,Tryd.prog.underlying 28=some (.struct fs)→∀ fd,fd∈fs→∀ w,(sizeOf fd.type).run Tryd.prog w= .ok (zapi_Unit_f fd) w:=by
 intro fs h
 rw [Tryd.underlying28] at h
 cases h
 intro fd hfd w
 simp only [List.mem_toArray,List.mem_cons,List.not_mem_nil,or_false] at hfd
 rcases hfd with rfl | rfl | rfl | rfl | rfl | rfl
 ·exact Tryd.sizeOf24 w
 ·exact Tryd.sizeOf3 w
 ·exact Tryd.sizeOf9 w
 ·exact Tryd.sizeOf25 w
 ·exact Tryd.sizeOf25 w
 ·exact Tryd.sizeOf26 w
def tapi_Unit_k5(k:Tok):Ty api_Unit:=tMap (tP tapi_Id (tP (tI .i64) (tP tS (tP (tL tapi_Word) (tP (tL tapi_Word) (tOne (tOT tapi_Unit k))))))) (fun x:api_Unit=>(x.Id,x.Kind,x.Label,x.Head,x.Words,x.Kids))
theorem fapi_Unit_k5_1(k:Tok):Fld (tapi_Unit_k5 k) 3 (tI .i64) (fun x=>x.Kind):=(Fld.map (m:=(fun x:api_Unit=>(x.Id,x.Kind,x.Label,x.Head,x.Words,x.Kids))) (Fld.next (s:=tapi_Id) (Fld.here (tI .i64) (tP tS (tP (tL tapi_Word) (tP (tL tapi_Word) (tOne (tOT tapi_Unit k)))))))).cast rfl rfl
theorem sapi_Unit_k5_1(k:Tok):FldSet (tapi_Unit_k5 k) 3 (tI .i64) (fun x y=>{x with Kind:=y}):=(FldSet.map (m:=(fun x:api_Unit=>(x.Id,x.Kind,x.Label,x.Head,x.Words,x.Kids))) (f':=fun x y=>{x with Kind:=y}) (FldSet.next (s:=tapi_Id) (FldSet.here (tI .i64) (tP tS (tP (tL tapi_Word) (tP (tL tapi_Word) (tOne (tOT tapi_Unit k))))))) (fun _ _=>rfl)).cast rfl rfl
theorem fapi_Unit_k5_2(k:Tok):Fld (tapi_Unit_k5 k) 4 tS (fun x=>x.Label):=(Fld.map (m:=(fun x:api_Unit=>(x.Id,x.Kind,x.Label,x.Head,x.Words,x.Kids))) (Fld.next (s:=tapi_Id) (Fld.next (s:=(tI .i64)) (Fld.here tS (tP (tL tapi_Word) (tP (tL tapi_Word) (tOne (tOT tapi_Unit k)))))))).cast rfl rfl
theorem sapi_Unit_k5_2(k:Tok):FldSet (tapi_Unit_k5 k) 4 tS (fun x y=>{x with Label:=y}):=(FldSet.map (m:=(fun x:api_Unit=>(x.Id,x.Kind,x.Label,x.Head,x.Words,x.Kids))) (f':=fun x y=>{x with Label:=y}) (FldSet.next (s:=tapi_Id) (FldSet.next (s:=(tI .i64)) (FldSet.here tS (tP (tL tapi_Word) (tP (tL tapi_Word) (tOne (tOT tapi_Unit k))))))) (fun _ _=>rfl)).cast rfl rfl
theorem sapi_Unit_k5_3(k:Tok):FldSet (tapi_Unit_k5 k) 5 (tL tapi_Word) (fun x y=>{x with Head:=y}):=(FldSet.map (m:=(fun x:api_Unit=>(x.Id,x.Kind,x.Label,x.Head,x.Words,x.Kids))) (f':=fun x y=>{x with Head:=y}) (FldSet.next (s:=tapi_Id) (FldSet.next (s:=(tI .i64)) (FldSet.next (s:=tS) (FldSet.here (tL tapi_Word) (tP (tL tapi_Word) (tOne (tOT tapi_Unit k))))))) (fun _ _=>rfl)).cast rfl rfl
theorem sapi_Unit_k5_4(k:Tok):FldSet (tapi_Unit_k5 k) 6 (tL tapi_Word) (fun x y=>{x with Words:=y}):=(FldSet.map (m:=(fun x:api_Unit=>(x.Id,x.Kind,x.Label,x.Head,x.Words,x.Kids))) (f':=fun x y=>{x with Words:=y}) (FldSet.next (s:=tapi_Id) (FldSet.next (s:=(tI .i64)) (FldSet.next (s:=tS) (FldSet.next (s:=(tL tapi_Word)) (FldSet.here (tL tapi_Word) (tOne (tOT tapi_Unit k))))))) (fun _ _=>rfl)).cast rfl rfl
theorem fapi_Unit_k5_5(k:Tok):Fld (tapi_Unit_k5 k) 7 (tOT tapi_Unit k) (fun x=>x.Kids):=(Fld.map (m:=(fun x:api_Unit=>(x.Id,x.Kind,x.Label,x.Head,x.Words,x.Kids))) (Fld.next (s:=tapi_Id) (Fld.next (s:=(tI .i64)) (Fld.next (s:=tS) (Fld.next (s:=(tL tapi_Word)) (Fld.next (s:=(tL tapi_Word)) (Fld.one (tOT tapi_Unit k)))))))).cast rfl rfl
theorem sTapi_Unit_k5(k k2:Tok):FldSetT (tapi_Unit_k5 k) (tapi_Unit_k5 k2) 7 (tOT tapi_Unit k2) (fun x y=>{x with Kids:=y}):=(FldSetT.map (m:=(fun x:api_Unit=>(x.Id,x.Kind,x.Label,x.Head,x.Words,x.Kids))) (f':=fun x y=>{x with Kids:=y}) (FldSetT.next (s:=tapi_Id) (FldSetT.next (s:=(tI .i64)) (FldSetT.next (s:=tS) (FldSetT.next (s:=(tL tapi_Word)) (FldSetT.next (s:=(tL tapi_Word)) (FldSetT.one (tOT tapi_Unit k) (tOT tapi_Unit k2) rfl)))))) (fun _ _=>rfl)).cast rfl rfl
theorem leapi_Unit_k5(k:Tok):Le (tapi_Unit_k5 k) tapi_Unit:=Le.trans (Le.mapT (Le.pair (Le.refl _) (Le.pair (Le.refl _) (Le.pair (Le.refl _) (Le.pair (Le.refl _) (Le.pair (Le.refl _) (Le.one (tOT_le _ _))))))) _) rapi_Unit.into
theorem zeapi_Unit_k5:ZeroAt Tryd.prog 28 (tapi_Unit_k5 none) zapi_Unit:=⟨_,Tryd.zeroValue28,fun _=>⟨_,⟨_,_,rfl,⟨_,_,rfl,⟨rfl,inR64.2 ⟨by decide,by decide⟩⟩,⟨_,_,rfl,⟨rfl,inR64.2 ⟨by decide,by decide⟩⟩,⟨rfl,inR64.2 ⟨by decide,by decide⟩⟩⟩⟩,⟨_,_,rfl,⟨rfl,inR64.2 ⟨by decide,by decide⟩⟩,⟨_,_,rfl,⟨rfl,by decide⟩,⟨_,_,rfl,⟨none,0,rfl,Nat.le_refl _,Nat.zero_le _,fun _=>rfl,rfl⟩,⟨_,_,rfl,⟨none,0,rfl,Nat.le_refl _,Nat.zero_le _,fun _=>rfl,rfl⟩,⟨_,rfl,⟨rfl,Nat.le_refl _,Nat.zero_le _,rfl⟩⟩⟩⟩⟩⟩⟩,rfl⟩⟩
def tunit_called:Ty unit_called:=tMap (tP (tI .i64) (tOne tS)) (fun x:unit_called=>(x.kind_,x.label_))
theorem funit_called_0:Fld tunit_called 0 (tI .i64) (fun x=>x.kind_):=(Fld.map (m:=(fun x:unit_called=>(x.kind_,x.label_))) (Fld.here (tI .i64) (tOne tS))).cast rfl rfl
theorem sunit_called_0:FldSet tunit_called 0 (tI .i64) (fun x y=>{x with kind_:=y}):=(FldSet.map (m:=(fun x:unit_called=>(x.kind_,x.label_))) (f':=fun x y=>{x with kind_:=y}) (FldSet.here (tI .i64) (tOne tS)) (fun _ _=>rfl)).cast rfl rfl
theorem funit_called_1:Fld tunit_called 1 tS (fun x=>x.label_):=(Fld.map (m:=(fun x:unit_called=>(x.kind_,x.label_))) (Fld.next (s:=(tI .i64)) (Fld.one tS))).cast rfl rfl
theorem sunit_called_1:FldSet tunit_called 1 tS (fun x y=>{x with label_:=y}):=(FldSet.map (m:=(fun x:unit_called=>(x.kind_,x.label_))) (f':=fun x y=>{x with label_:=y}) (FldSet.next (s:=(tI .i64)) (FldSet.one tS)) (fun _ _=>rfl)).cast rfl rfl
def zunit_called_f(fd:Field):Nat:=if fd.type=3 then 1 else if fd.type=9 then 1 else 0
theorem zunit_called_sz:∀ fs,Tryd.prog.underlying 89=some (.struct fs)→∀ fd,fd∈fs→∀ w,(sizeOf fd.type).run Tryd.prog w= .ok (zunit_called_f fd) w:=by
 intro fs h
 rw [Tryd.underlying89] at h
 cases h
 intro fd hfd w
 simp only [List.mem_toArray,List.mem_cons,List.not_mem_nil,or_false] at hfd
 rcases hfd with rfl | rfl
 ·exact Tryd.sizeOf3 w
 ·exact Tryd.sizeOf9 w
theorem ty3:TyAt Tryd.prog 3 (tI .i64):=⟨Tryd.isAgg3,Tryd.sizeOf3⟩
theorem ze3:ZeroAt Tryd.prog 3 (tI .i64) (0:Int):=⟨_,Tryd.zeroValue3,fun _=>⟨_,⟨rfl,inR64.2 ⟨by decide,by decide⟩⟩,rfl⟩⟩
theorem ty4:TyAt Tryd.prog 4 tB:=⟨Tryd.isAgg4,Tryd.sizeOf4⟩
theorem ze4:ZeroAt Tryd.prog 4 tB false:=⟨_,Tryd.zeroValue4,fun _=>⟨_,rfl,rfl⟩⟩
theorem ty5:TyAt Tryd.prog 5 (tI .u8):=⟨Tryd.isAgg5,Tryd.sizeOf5⟩
theorem el5:ElAt Tryd.prog 5 (tI .u8):=⟨⟨Tryd.t5,_,Tryd.type5,rfl,rfl,by decide,rfl⟩,by decide⟩
theorem ty9:TyAt Tryd.prog 9 tS:=⟨Tryd.isAgg9,Tryd.sizeOf9⟩
theorem el9:ElAt Tryd.prog 9 tS:=⟨⟨Tryd.t9,_,Tryd.type9,rfl,rfl,by decide,rfl⟩,by decide⟩
theorem ze9:ZeroAt Tryd.prog 9 tS ([]:Str):=⟨_,Tryd.zeroValue9,fun _=>⟨_,⟨rfl,by decide⟩,rfl⟩⟩
theorem ty24:TyAt Tryd.prog 24 tapi_Id:=⟨Tryd.isAgg24,Tryd.sizeOf24⟩
theorem el24:ElAt Tryd.prog 24 tapi_Id:=⟨⟨Tryd.t24,_,Tryd.type24,rfl,rfl,by decide,rfl⟩,by decide⟩
theorem ze24:ZeroAt Tryd.prog 24 tapi_Id zapi_Id:=⟨_,Tryd.zeroValue24,fun _=>⟨_,⟨_,_,rfl,⟨rfl,inR64.2 ⟨by decide,by decide⟩⟩,⟨_,_,rfl,⟨rfl,inR64.2 ⟨by decide,by decide⟩⟩,⟨rfl,inR64.2 ⟨by decide,by decide⟩⟩⟩⟩,rfl⟩⟩
theorem ty25:TyAt Tryd.prog 25 (tL tapi_Word):=⟨Tryd.isAgg25,Tryd.sizeOf25⟩
theorem el25:ElAt Tryd.prog 25 (tL tapi_Word):=⟨⟨Tryd.t25,_,Tryd.type25,rfl,rfl,by decide,rfl⟩,by decide⟩
theorem ty26:TyAt Tryd.prog 26 (tL tapi_Unit):=⟨Tryd.isAgg26,Tryd.sizeOf26⟩
theorem ty28:TyAt Tryd.prog 28 tapi_Unit:=⟨Tryd.isAgg28,Tryd.sizeOf28⟩
theorem el28:ElAt Tryd.prog 28 tapi_Unit:=⟨⟨Tryd.t28,_,Tryd.type28,rfl,rfl,by decide,rfl⟩,by decide⟩
theorem ze28:ZeroAt Tryd.prog 28 tapi_Unit zapi_Unit:=⟨_,Tryd.zeroValue28,fun _=>⟨_,(rapi_Unit.into.rep _ _ _ ⟨_,_,rfl,⟨_,_,rfl,⟨rfl,inR64.2 ⟨by decide,by decide⟩⟩,⟨_,_,rfl,⟨rfl,inR64.2 ⟨by decide,by decide⟩⟩,⟨rfl,inR64.2 ⟨by decide,by decide⟩⟩⟩⟩,⟨_,_,rfl,⟨rfl,inR64.2 ⟨by decide,by decide⟩⟩,⟨_,_,rfl,⟨rfl,by decide⟩,⟨_,_,rfl,⟨none,0,rfl,Nat.le_refl _,Nat.zero_le _,fun _=>rfl,rfl⟩,⟨_,_,rfl,⟨none,0,rfl,Nat.le_refl _,Nat.zero_le _,fun _=>rfl,rfl⟩,⟨none,0,rfl,Nat.le_refl _,Nat.zero_le _,fun _=>rfl,rfl⟩⟩⟩⟩⟩⟩),rfl⟩⟩
theorem ty52:TyAt Tryd.prog 52 tapi_Mark:=⟨Tryd.isAgg52,Tryd.sizeOf52⟩
theorem ze52:ZeroAt Tryd.prog 52 tapi_Mark zapi_Mark:=⟨_,Tryd.zeroValue52,fun _=>⟨_,⟨_,_,rfl,⟨rfl,inR64.2 ⟨by decide,by decide⟩⟩,⟨_,_,rfl,⟨rfl,inR64.2 ⟨by decide,by decide⟩⟩,⟨rfl,inR64.2 ⟨by decide,by decide⟩⟩⟩⟩,rfl⟩⟩
theorem ty54:TyAt Tryd.prog 54 tapi_Word:=⟨Tryd.isAgg54,Tryd.sizeOf54⟩
theorem el54:ElAt Tryd.prog 54 tapi_Word:=⟨⟨Tryd.t54,_,Tryd.type54,rfl,rfl,by decide,rfl⟩,by decide⟩
theorem ze54:ZeroAt Tryd.prog 54 tapi_Word zapi_Word:=⟨_,Tryd.zeroValue54,fun _=>⟨_,⟨_,_,rfl,⟨rfl,by decide⟩,⟨_,_,rfl,⟨rfl,inR64.2 ⟨by decide,by decide⟩⟩,⟨_,_,rfl,⟨rfl,inR64.2 ⟨by decide,by decide⟩⟩,⟨rfl,inR64.2 ⟨by decide,by decide⟩⟩⟩⟩⟩,rfl⟩⟩
theorem ty89:TyAt Tryd.prog 89 tunit_called:=⟨Tryd.isAgg89,Tryd.sizeOf89⟩
theorem ze89:ZeroAt Tryd.prog 89 tunit_called zunit_called:=⟨_,Tryd.zeroValue89,fun _=>⟨_,⟨_,_,rfl,⟨rfl,inR64.2 ⟨by decide,by decide⟩⟩,⟨rfl,by decide⟩⟩,rfl⟩⟩
theorem ty111:TyAt Tryd.prog 111 (tL (tI .i64)):=⟨Tryd.isAgg111,Tryd.sizeOf111⟩
theorem ze104:ZeroAt Tryd.prog 104 (tA 256 tB) (List.replicate 256 false):=ZeroAt.array ze4 Tryd.zeroValue4 Tryd.zeroValue104 rfl default
theorem eq24:EqT (α:=api_Id) (P:=Tryd.prog) (T:=24) (t:=tapi_Id) (D:=2):=EqT.struct (D:=1) rfl Tryd.underlying24 (by kernel_rfl) ⟨_,inferInstance,_,_,_,by decide,ty3,fapi_Id_0,((EqT.int Tryd.underlying3).up (by decide)),⟨_,inferInstance,_,_,_,by decide,ty3,fapi_Id_1,((EqT.int Tryd.underlying3).up (by decide)),⟨_,inferInstance,_,_,_,by decide,ty3,fapi_Id_2,((EqT.int Tryd.underlying3).up (by decide)),rfl,rfl⟩,rfl⟩,rfl⟩ (fun x y=>by cases x;cases y;simp)
theorem eg24:Tryd.prog.eqGuardType Tryd.prog.depth 24=false:=by kernel_rfl
theorem eq89:EqT (α:=unit_called) (P:=Tryd.prog) (T:=89) (t:=tunit_called) (D:=2):=EqT.struct (D:=1) rfl Tryd.underlying89 (by kernel_rfl) ⟨_,inferInstance,_,_,_,by decide,ty3,funit_called_0,((EqT.int Tryd.underlying3).up (by decide)),⟨_,inferInstance,_,_,_,by decide,ty9,funit_called_1,((EqT.string Tryd.underlying9).up (by decide)),rfl,rfl⟩,rfl⟩ (fun x y=>by cases x;cases y;simp)
theorem fl54:Flat tapi_Word:=(Flat.map (Flat.pair Flat.S (Flat.one (Flat.map (Flat.pair Flat.I (Flat.pair Flat.I (Flat.one Flat.I))) _))) _)
theorem kt24:KeyT Tryd.prog 24 tapi_Id:=KeyT.struct eq24 (by decide) rfl Tryd.underlying24 ⟨⟨_,_,_,ty3,fapi_Id_0,(fun h e w=>ck_int Tryd.underlying3 9998 h e w)⟩,⟨⟨_,_,_,ty3,fapi_Id_1,(fun h e w=>ck_int Tryd.underlying3 9998 h e w)⟩,⟨⟨_,_,_,ty3,fapi_Id_2,(fun h e w=>ck_int Tryd.underlying3 9998 h e w)⟩,trivial⟩⟩⟩
theorem kt89:KeyT Tryd.prog 89 tunit_called:=KeyT.struct eq89 (by decide) rfl Tryd.underlying89 ⟨⟨_,_,_,ty3,funit_called_0,(fun h e w=>ck_int Tryd.underlying3 9998 h e w)⟩,⟨⟨_,_,_,ty9,funit_called_1,(fun h e w=>ck_string Tryd.underlying9 9998 h e w)⟩,trivial⟩⟩
abbrev I6:Ty Int:=tI .i64
theorem Mx:Tryd.prog.follows .mixedOrders=true:=Tryd.mixed
theorem C4(xs:Array Value)(w:World):(callFunc 4 xs).run Tryd.prog w= .ok (.enter 4 xs) w:=Tryd.call4 xs w
theorem C5(xs:Array Value)(w:World):(callFunc 5 xs).run Tryd.prog w= .ok (.enter 5 xs) w:=Tryd.call5 xs w
theorem C6(xs:Array Value)(w:World):(callFunc 6 xs).run Tryd.prog w= .ok (.enter 6 xs) w:=Tryd.call6 xs w
theorem C7(xs:Array Value)(w:World):(callFunc 7 xs).run Tryd.prog w= .ok (.enter 7 xs) w:=Tryd.call7 xs w
theorem C8(xs:Array Value)(w:World):(callFunc 8 xs).run Tryd.prog w= .ok (.enter 8 xs) w:=Tryd.call8 xs w
theorem C9(xs:Array Value)(w:World):(callFunc 9 xs).run Tryd.prog w= .ok (.enter 9 xs) w:=Tryd.call9 xs w
theorem C13(xs:Array Value)(w:World):(callFunc 13 xs).run Tryd.prog w= .ok (.enter 13 xs) w:=Tryd.call13 xs w
theorem C14(xs:Array Value)(w:World):(callFunc 14 xs).run Tryd.prog w= .ok (.enter 14 xs) w:=Tryd.call14 xs w
theorem C15(xs:Array Value)(w:World):(callFunc 15 xs).run Tryd.prog w= .ok (.enter 15 xs) w:=Tryd.call15 xs w
theorem C16(xs:Array Value)(w:World):(callFunc 16 xs).run Tryd.prog w= .ok (.enter 16 xs) w:=Tryd.call16 xs w
theorem C17(xs:Array Value)(w:World):(callFunc 17 xs).run Tryd.prog w= .ok (.enter 17 xs) w:=Tryd.call17 xs w
theorem C18(xs:Array Value)(w:World):(callFunc 18 xs).run Tryd.prog w= .ok (.enter 18 xs) w:=Tryd.call18 xs w
theorem C22(xs:Array Value)(w:World):(callFunc 22 xs).run Tryd.prog w= .ok (.enter 22 xs) w:=Tryd.call22 xs w
theorem C23(xs:Array Value)(w:World):(callFunc 23 xs).run Tryd.prog w= .ok (.enter 23 xs) w:=Tryd.call23 xs w
theorem C24(xs:Array Value)(w:World):(callFunc 24 xs).run Tryd.prog w= .ok (.enter 24 xs) w:=Tryd.call24 xs w
theorem C25(xs:Array Value)(w:World):(callFunc 25 xs).run Tryd.prog w= .ok (.enter 25 xs) w:=Tryd.call25 xs w
theorem C26(xs:Array Value)(w:World):(callFunc 26 xs).run Tryd.prog w= .ok (.enter 26 xs) w:=Tryd.call26 xs w
theorem C27(xs:Array Value)(w:World):(callFunc 27 xs).run Tryd.prog w= .ok (.enter 27 xs) w:=Tryd.call27 xs w
theorem C28(xs:Array Value)(w:World):(callFunc 28 xs).run Tryd.prog w= .ok (.enter 28 xs) w:=Tryd.call28 xs w
theorem C29(xs:Array Value)(w:World):(callFunc 29 xs).run Tryd.prog w= .ok (.enter 29 xs) w:=Tryd.call29 xs w
theorem C30(xs:Array Value)(w:World):(callFunc 30 xs).run Tryd.prog w= .ok (.enter 30 xs) w:=Tryd.call30 xs w
theorem C31(xs:Array Value)(w:World):(callFunc 31 xs).run Tryd.prog w= .ok (.enter 31 xs) w:=Tryd.call31 xs w
theorem C32(xs:Array Value)(w:World):(callFunc 32 xs).run Tryd.prog w= .ok (.enter 32 xs) w:=Tryd.call32 xs w
theorem C33(xs:Array Value)(w:World):(callFunc 33 xs).run Tryd.prog w= .ok (.enter 33 xs) w:=Tryd.call33 xs w
theorem C34(xs:Array Value)(w:World):(callFunc 34 xs).run Tryd.prog w= .ok (.enter 34 xs) w:=Tryd.call34 xs w
theorem C36(xs:Array Value)(w:World):(callFunc 36 xs).run Tryd.prog w= .ok (.enter 36 xs) w:=Tryd.call36 xs w
theorem C37(xs:Array Value)(w:World):(callFunc 37 xs).run Tryd.prog w= .ok (.enter 37 xs) w:=Tryd.call37 xs w
theorem C38(xs:Array Value)(w:World):(callFunc 38 xs).run Tryd.prog w= .ok (.enter 38 xs) w:=Tryd.call38 xs w
theorem C39(xs:Array Value)(w:World):(callFunc 39 xs).run Tryd.prog w= .ok (.enter 39 xs) w:=Tryd.call39 xs w
theorem C40(xs:Array Value)(w:World):(callFunc 40 xs).run Tryd.prog w= .ok (.enter 40 xs) w:=Tryd.call40 xs w
theorem C41(xs:Array Value)(w:World):(callFunc 41 xs).run Tryd.prog w= .ok (.enter 41 xs) w:=Tryd.call41 xs w
theorem C42(xs:Array Value)(w:World):(callFunc 42 xs).run Tryd.prog w= .ok (.enter 42 xs) w:=Tryd.call42 xs w
theorem C43(xs:Array Value)(w:World):(callFunc 43 xs).run Tryd.prog w= .ok (.enter 43 xs) w:=Tryd.call43 xs w
theorem C45(xs:Array Value)(w:World):(callFunc 45 xs).run Tryd.prog w= .ok (.enter 45 xs) w:=Tryd.call45 xs w
theorem C46(xs:Array Value)(w:World):(callFunc 46 xs).run Tryd.prog w= .ok (.enter 46 xs) w:=Tryd.call46 xs w
theorem C47(xs:Array Value)(w:World):(callFunc 47 xs).run Tryd.prog w= .ok (.enter 47 xs) w:=Tryd.call47 xs w
theorem C48(xs:Array Value)(w:World):(callFunc 48 xs).run Tryd.prog w= .ok (.enter 48 xs) w:=Tryd.call48 xs w
theorem C49(xs:Array Value)(w:World):(callFunc 49 xs).run Tryd.prog w= .ok (.enter 49 xs) w:=Tryd.call49 xs w
theorem C57(xs:Array Value)(w:World):(callFunc 57 xs).run Tryd.prog w= .ok (.enter 57 xs) w:=Tryd.call57 xs w
theorem C58(xs:Array Value)(w:World):(callFunc 58 xs).run Tryd.prog w= .ok (.enter 58 xs) w:=Tryd.call58 xs w
theorem C59(xs:Array Value)(w:World):(callFunc 59 xs).run Tryd.prog w= .ok (.enter 59 xs) w:=Tryd.call59 xs w
theorem C62(xs:Array Value)(w:World):(callFunc 62 xs).run Tryd.prog w= .ok (.enter 62 xs) w:=Tryd.call62 xs w
theorem C63(xs:Array Value)(w:World):(callFunc 63 xs).run Tryd.prog w= .ok (.enter 63 xs) w:=Tryd.call63 xs w
theorem C64(xs:Array Value)(w:World):(callFunc 64 xs).run Tryd.prog w= .ok (.enter 64 xs) w:=Tryd.call64 xs w
theorem C67(xs:Array Value)(w:World):(callFunc 67 xs).run Tryd.prog w= .ok (.enter 67 xs) w:=Tryd.call67 xs w
theorem C68(xs:Array Value)(w:World):(callFunc 68 xs).run Tryd.prog w= .ok (.enter 68 xs) w:=Tryd.call68 xs w
theorem C69(xs:Array Value)(w:World):(callFunc 69 xs).run Tryd.prog w= .ok (.enter 69 xs) w:=Tryd.call69 xs w
theorem C70(xs:Array Value)(w:World):(callFunc 70 xs).run Tryd.prog w= .ok (.enter 70 xs) w:=Tryd.call70 xs w
theorem C71(xs:Array Value)(w:World):(callFunc 71 xs).run Tryd.prog w= .ok (.enter 71 xs) w:=Tryd.call71 xs w
theorem C74(xs:Array Value)(w:World):(callFunc 74 xs).run Tryd.prog w= .ok (.enter 74 xs) w:=Tryd.call74 xs w
theorem C77(xs:Array Value)(w:World):(callFunc 77 xs).run Tryd.prog w= .ok (.enter 77 xs) w:=Tryd.call77 xs w
theorem C83(xs:Array Value)(w:World):(callFunc 83 xs).run Tryd.prog w= .ok (.enter 83 xs) w:=Tryd.call83 xs w
theorem C84(xs:Array Value)(w:World):(callFunc 84 xs).run Tryd.prog w= .ok (.enter 84 xs) w:=Tryd.call84 xs w
theorem C85(xs:Array Value)(w:World):(callFunc 85 xs).run Tryd.prog w= .ok (.enter 85 xs) w:=Tryd.call85 xs w
theorem C86(xs:Array Value)(w:World):(callFunc 86 xs).run Tryd.prog w= .ok (.enter 86 xs) w:=Tryd.call86 xs w
theorem C87(xs:Array Value)(w:World):(callFunc 87 xs).run Tryd.prog w= .ok (.enter 87 xs) w:=Tryd.call87 xs w
theorem C88(xs:Array Value)(w:World):(callFunc 88 xs).run Tryd.prog w= .ok (.enter 88 xs) w:=Tryd.call88 xs w
theorem C89(xs:Array Value)(w:World):(callFunc 89 xs).run Tryd.prog w= .ok (.enter 89 xs) w:=Tryd.call89 xs w
theorem C90(xs:Array Value)(w:World):(callFunc 90 xs).run Tryd.prog w= .ok (.enter 90 xs) w:=Tryd.call90 xs w
theorem C95(xs:Array Value)(w:World):(callFunc 95 xs).run Tryd.prog w= .ok (.enter 95 xs) w:=Tryd.call95 xs w
theorem C96(xs:Array Value)(w:World):(callFunc 96 xs).run Tryd.prog w= .ok (.enter 96 xs) w:=Tryd.call96 xs w
theorem C97(xs:Array Value)(w:World):(callFunc 97 xs).run Tryd.prog w= .ok (.enter 97 xs) w:=Tryd.call97 xs w
theorem C98(xs:Array Value)(w:World):(callFunc 98 xs).run Tryd.prog w= .ok (.enter 98 xs) w:=Tryd.call98 xs w
theorem C101(xs:Array Value)(w:World):(callFunc 101 xs).run Tryd.prog w= .ok (.enter 101 xs) w:=Tryd.call101 xs w
theorem J3(w:World):∃ m,(sizeOf 3).run Tryd.prog w= .ok (m+1) w:=⟨0,Tryd.sizeOf3 w⟩
theorem J9(w:World):∃ m,(sizeOf 9).run Tryd.prog w= .ok (m+1) w:=⟨0,Tryd.sizeOf9 w⟩
theorem J24(w:World):∃ m,(sizeOf 24).run Tryd.prog w= .ok (m+1) w:=⟨2,Tryd.sizeOf24 w⟩
theorem J25(w:World):∃ m,(sizeOf 25).run Tryd.prog w= .ok (m+1) w:=⟨0,Tryd.sizeOf25 w⟩
theorem J26(w:World):∃ m,(sizeOf 26).run Tryd.prog w= .ok (m+1) w:=⟨0,Tryd.sizeOf26 w⟩
theorem J59(w:World):∃ m,(sizeOf 59).run Tryd.prog w= .ok (m+1) w:=⟨0,Tryd.sizeOf59 w⟩
theorem U4:Tryd.prog.underlying 4=some (.bool):=Tryd.underlying4
theorem U5:Tryd.prog.underlying 5=some (.int .u8):=Tryd.underlying5
theorem U9:Tryd.prog.underlying 9=some (.string):=Tryd.underlying9
theorem U24:Tryd.prog.underlying 24=some (.struct #[⟨ "Act",3,0,false,"","",0⟩,⟨ "Item",3,1,false,"","",8⟩,⟨ "N",3,2,false,"","",16⟩]):=Tryd.underlying24
theorem U25:Tryd.prog.underlying 25=some (.slice 54):=Tryd.underlying25
theorem U26:Tryd.prog.underlying 26=some (.slice 28):=Tryd.underlying26
theorem U28:Tryd.prog.underlying 28=some (.struct #[⟨ "Id",24,0,false,"","",0⟩,⟨ "Kind",3,3,false,"","",24⟩,⟨ "Label",9,4,false,"","",32⟩,⟨ "Head",25,5,false,"","",48⟩,⟨ "Words",25,6,false,"","",72⟩,⟨ "Kids",26,7,false,"","",96⟩]):=Tryd.underlying28
theorem U35:Tryd.prog.underlying 35=some (.slice 9):=Tryd.underlying35
theorem U54:Tryd.prog.underlying 54=some (.struct #[⟨ "Text",9,0,false,"","",0⟩,⟨ "By",52,1,false,"","",16⟩]):=Tryd.underlying54
theorem U59:Tryd.prog.underlying 59=some (.slice 5):=Tryd.underlying59
theorem U85:Tryd.prog.underlying 85=some (.pointer 5):=Tryd.underlying85
theorem U87:Tryd.prog.underlying 87=some (.map 89 4):=Tryd.underlying87
theorem U90:Tryd.prog.underlying 90=some (.slice 24):=Tryd.underlying90
theorem U92:Tryd.prog.underlying 92=some (.map 24 4):=Tryd.underlying92
theorem U99:Tryd.prog.underlying 99=some (.array 8 9):=Tryd.underlying99
theorem U104:Tryd.prog.underlying 104=some (.array 256 4):=Tryd.underlying104
theorem U111:Tryd.prog.underlying 111=some (.slice 3):=Tryd.underlying111
theorem U112:Tryd.prog.underlying 112=some (.array 8 111):=Tryd.underlying112
theorem Y3(w:World):(isAgg 3).run Tryd.prog w= .ok false w:=Tryd.isAgg3 w
theorem Y28(w:World):(isAgg 28).run Tryd.prog w= .ok true w:=Tryd.isAgg28 w
theorem Y35(w:World):(isAgg 35).run Tryd.prog w= .ok false w:=Tryd.isAgg35 w
theorem Y49(w:World):(isAgg 49).run Tryd.prog w= .ok false w:=Tryd.isAgg49 w
theorem Y59(w:World):(isAgg 59).run Tryd.prog w= .ok false w:=Tryd.isAgg59 w
theorem Y90(w:World):(isAgg 90).run Tryd.prog w= .ok false w:=Tryd.isAgg90 w
theorem Y104(w:World):(isAgg 104).run Tryd.prog w= .ok true w:=Tryd.isAgg104 w
theorem Z3(w:World):(sizeOf 3).run Tryd.prog w= .ok 1 w:=Tryd.sizeOf3 w
theorem Z4(w:World):(sizeOf 4).run Tryd.prog w= .ok 1 w:=Tryd.sizeOf4 w
theorem Z5(w:World):(sizeOf 5).run Tryd.prog w= .ok 1 w:=Tryd.sizeOf5 w
theorem Z9(w:World):(sizeOf 9).run Tryd.prog w= .ok 1 w:=Tryd.sizeOf9 w
theorem Z24(w:World):(sizeOf 24).run Tryd.prog w= .ok 3 w:=Tryd.sizeOf24 w
theorem Z25(w:World):(sizeOf 25).run Tryd.prog w= .ok 1 w:=Tryd.sizeOf25 w
theorem Z26(w:World):(sizeOf 26).run Tryd.prog w= .ok 1 w:=Tryd.sizeOf26 w
theorem Z28(w:World):(sizeOf 28).run Tryd.prog w= .ok 8 w:=Tryd.sizeOf28 w
theorem Z35(w:World):(sizeOf 35).run Tryd.prog w= .ok 1 w:=Tryd.sizeOf35 w
theorem Z49(w:World):(sizeOf 49).run Tryd.prog w= .ok 1 w:=Tryd.sizeOf49 w
theorem Z54(w:World):(sizeOf 54).run Tryd.prog w= .ok 4 w:=Tryd.sizeOf54 w
theorem Z59(w:World):(sizeOf 59).run Tryd.prog w= .ok 1 w:=Tryd.sizeOf59 w
theorem Z89(w:World):(sizeOf 89).run Tryd.prog w= .ok 2 w:=Tryd.sizeOf89 w
theorem Z90(w:World):(sizeOf 90).run Tryd.prog w= .ok 1 w:=Tryd.sizeOf90 w
theorem Z104(w:World):(sizeOf 104).run Tryd.prog w= .ok 256 w:=Tryd.sizeOf104 w
theorem Z111(w:World):(sizeOf 111).run Tryd.prog w= .ok 1 w:=Tryd.sizeOf111 w
end Go.Proofs.YtofaogkcifaioaaDoor
