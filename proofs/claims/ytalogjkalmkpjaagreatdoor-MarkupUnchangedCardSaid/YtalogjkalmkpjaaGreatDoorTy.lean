/-
  How the types of the program are read.
-/
import Derived.Test.YtalogjkalmkpjaaGreatDoorDec21
import Derived.Test.YtalogjkalmkpjaaGreatDoorDec19
import Derived.Test.YtalogjkalmkpjaaGreatDoorDec24
import Derived.Test.YtalogjkalmkpjaaGreatDoorSh
import Derived.Test.YtalogjkalmkpjaaGreatDoorDec26
import Derived.Test.YtalogjkalmkpjaaGreatDoorDec27
import Derived.Test.YtalogjkalmkpjaaGreatDoorDec28
import Derived.Test.YtalogjkalmkpjaaGreatDoorDec29
import Derived.Test.YtalogjkalmkpjaaGreatDoorDec31
import Derived.Test.YtalogjkalmkpjaaGreatDoorDec30
import Derived.Test.YtalogjkalmkpjaaGreatDoorDec32
import Derived.Test.YtalogjkalmkpjaaGreatDoorDec33
import Derived.Test.YtalogjkalmkpjaaGreatDoorDec34
import Derived.Test.YtalogjkalmkpjaaGreatDoorDec36
import Derived.Test.YtalogjkalmkpjaaGreatDoorDec40
import Derived.Test.YtalogjkalmkpjaaGreatDoorMdl
import Derived.Test.YtalogjkalmkpjaaGreatDoorProg
import Derived.KernelRfl
set_option maxRecDepth 100000
namespace Go.Proofs.YtalogjkalmkpjaaGreatDoor
open Go Go.Dec
theorem Tryz.mixed:Tryz.prog.follows .mixedOrders=true:=by kernel_rfl
def tapi_Id:Ty api_Id:=tMap (tP (tI .i64) (tP (tI .i64) (tOne (tI .i64)))) (fun x:api_Id=>(x.Act,x.Item,x.N))
theorem fapi_Id_0:Fld tapi_Id 0 (tI .i64) (fun x=>x.Act):=(Fld.map (m:=(fun x:api_Id=>(x.Act,x.Item,x.N))) (Fld.here (tI .i64) (tP (tI .i64) (tOne (tI .i64))))).cast rfl rfl
theorem sapi_Id_0:FldSet tapi_Id 0 (tI .i64) (fun x y=>{x with Act:=y}):=(FldSet.map (m:=(fun x:api_Id=>(x.Act,x.Item,x.N))) (f':=fun x y=>{x with Act:=y}) (FldSet.here (tI .i64) (tP (tI .i64) (tOne (tI .i64)))) (fun _ _=>rfl)).cast rfl rfl
theorem fapi_Id_1:Fld tapi_Id 1 (tI .i64) (fun x=>x.Item):=(Fld.map (m:=(fun x:api_Id=>(x.Act,x.Item,x.N))) (Fld.next (s:=(tI .i64)) (Fld.here (tI .i64) (tOne (tI .i64))))).cast rfl rfl
theorem fapi_Id_2:Fld tapi_Id 2 (tI .i64) (fun x=>x.N):=(Fld.map (m:=(fun x:api_Id=>(x.Act,x.Item,x.N))) (Fld.next (s:=(tI .i64)) (Fld.next (s:=(tI .i64)) (Fld.one (tI .i64))))).cast rfl rfl
theorem sapi_Id_2:FldSet tapi_Id 2 (tI .i64) (fun x y=>{x with N:=y}):=(FldSet.map (m:=(fun x:api_Id=>(x.Act,x.Item,x.N))) (f':=fun x y=>{x with N:=y}) (FldSet.next (s:=(tI .i64)) (FldSet.next (s:=(tI .i64)) (FldSet.one (tI .i64)))) (fun _ _=>rfl)).cast rfl rfl
def zapi_Id_f(fd:Field):Nat:=if fd.type=3 then 1 else 0
theorem zapi_Id_sz:∀ fs,Tryz.prog.underlying 23=some (.struct fs)→∀ fd,fd∈fs→∀ w,(sizeOf fd.type).run Tryz.prog w= .ok (zapi_Id_f fd) w:=by
 intro fs h
 rw [Tryz.underlying23] at h
 cases h
 intro fd hfd w
 simp only [List.mem_toArray,List.mem_cons,List.not_mem_nil,or_false] at hfd
 rcases hfd with rfl | rfl | rfl
 ·exact Tryz.sizeOf3 w
 ·exact Tryz.sizeOf3 w
 ·exact Tryz.sizeOf3 w
def tapi_Mark:Ty api_Mark:=tMap (tP (tI .i64) (tP (tI .i64) (tOne (tI .i64)))) (fun x:api_Mark=>(x.Act,x.Item,x.At))
def tapi_Word:Ty api_Word:=tMap (tP tS (tOne tapi_Mark)) (fun x:api_Word=>(x.Text,x.By))
theorem fapi_Word_0:Fld tapi_Word 0 tS (fun x=>x.Text):=(Fld.map (m:=(fun x:api_Word=>(x.Text,x.By))) (Fld.here tS (tOne tapi_Mark))).cast rfl rfl
def Fapi_Unit(X:Ty api_Unit):Ty api_Unit:=tMap (tP tapi_Id (tP (tI .i64) (tP tS (tP (tL tapi_Word) (tP (tL tapi_Word) (tOne (tL X))))))) (fun x:api_Unit=>(x.Id,x.Kind,x.Label,x.Head,x.Words,x.Kids))
theorem capi_Unit:Cont Fapi_Unit:=Cont.map (fun x:api_Unit=>(x.Id,x.Kind,x.Label,x.Head,x.Words,x.Kids)) (Cont.pair (Cont.const _) (Cont.pair (Cont.const _) (Cont.pair (Cont.const _) (Cont.pair (Cont.const _) (Cont.pair (Cont.const _) (Cont.one ((Cont.list Cont.id))))))))
theorem rapi_Unit:Rec Fapi_Unit 8:=⟨capi_Unit,rfl,rfl⟩
def tapi_Unit:Ty api_Unit:=tFix rapi_Unit
theorem fapi_Unit_0:Fld tapi_Unit 0 tapi_Id (fun x=>x.Id):=Fld.le rapi_Unit.out ((Fld.map (m:=(fun x:api_Unit=>(x.Id,x.Kind,x.Label,x.Head,x.Words,x.Kids))) (Fld.here tapi_Id (tP (tI .i64) (tP tS (tP (tL tapi_Word) (tP (tL tapi_Word) (tOne (tL tapi_Unit)))))))).cast rfl rfl)
theorem fapi_Unit_1:Fld tapi_Unit 3 (tI .i64) (fun x=>x.Kind):=Fld.le rapi_Unit.out ((Fld.map (m:=(fun x:api_Unit=>(x.Id,x.Kind,x.Label,x.Head,x.Words,x.Kids))) (Fld.next (s:=tapi_Id) (Fld.here (tI .i64) (tP tS (tP (tL tapi_Word) (tP (tL tapi_Word) (tOne (tL tapi_Unit)))))))).cast rfl rfl)
theorem fapi_Unit_2:Fld tapi_Unit 4 tS (fun x=>x.Label):=Fld.le rapi_Unit.out ((Fld.map (m:=(fun x:api_Unit=>(x.Id,x.Kind,x.Label,x.Head,x.Words,x.Kids))) (Fld.next (s:=tapi_Id) (Fld.next (s:=(tI .i64)) (Fld.here tS (tP (tL tapi_Word) (tP (tL tapi_Word) (tOne (tL tapi_Unit)))))))).cast rfl rfl)
theorem fapi_Unit_3:Fld tapi_Unit 5 (tL tapi_Word) (fun x=>x.Head):=Fld.le rapi_Unit.out ((Fld.map (m:=(fun x:api_Unit=>(x.Id,x.Kind,x.Label,x.Head,x.Words,x.Kids))) (Fld.next (s:=tapi_Id) (Fld.next (s:=(tI .i64)) (Fld.next (s:=tS) (Fld.here (tL tapi_Word) (tP (tL tapi_Word) (tOne (tL tapi_Unit)))))))).cast rfl rfl)
theorem fapi_Unit_4:Fld tapi_Unit 6 (tL tapi_Word) (fun x=>x.Words):=Fld.le rapi_Unit.out ((Fld.map (m:=(fun x:api_Unit=>(x.Id,x.Kind,x.Label,x.Head,x.Words,x.Kids))) (Fld.next (s:=tapi_Id) (Fld.next (s:=(tI .i64)) (Fld.next (s:=tS) (Fld.next (s:=(tL tapi_Word)) (Fld.here (tL tapi_Word) (tOne (tL tapi_Unit)))))))).cast rfl rfl)
theorem fapi_Unit_5:Fld tapi_Unit 7 (tL tapi_Unit) (fun x=>x.Kids):=Fld.le rapi_Unit.out ((Fld.map (m:=(fun x:api_Unit=>(x.Id,x.Kind,x.Label,x.Head,x.Words,x.Kids))) (Fld.next (s:=tapi_Id) (Fld.next (s:=(tI .i64)) (Fld.next (s:=tS) (Fld.next (s:=(tL tapi_Word)) (Fld.next (s:=(tL tapi_Word)) (Fld.one (tL tapi_Unit)))))))).cast rfl rfl)
def zapi_Unit_f(fd:Field):Nat:=if fd.type=3 then 1 else if fd.type=9 then 1 else if fd.type=23 then 3 else if fd.type=24 then 1 else if fd.type=25 then 1 else 0
theorem zapi_Unit_sz:∀ fs,Tryz.prog.underlying 27=some (.struct fs)→∀ fd,fd∈fs→∀ w,(sizeOf fd.type).run Tryz.prog w= .ok (zapi_Unit_f fd) w:=by
 intro fs h
 rw [Tryz.underlying27] at h
 cases h
 intro fd hfd w
 simp only [List.mem_toArray,List.mem_cons,List.not_mem_nil,or_false] at hfd
 rcases hfd with rfl | rfl | rfl | rfl | rfl | rfl
 ·exact Tryz.sizeOf23 w
 ·exact Tryz.sizeOf3 w
 ·exact Tryz.sizeOf9 w
 ·exact Tryz.sizeOf24 w
 ·exact Tryz.sizeOf24 w
 ·exact Tryz.sizeOf25 w
def tapi_TrackedWord:Ty api_TrackedWord:=tMap (tP (tI .i64) (tOne tS)) (fun x:api_TrackedWord=>(x.State,x.Text))
theorem fapi_TrackedWord_0:Fld tapi_TrackedWord 0 (tI .i64) (fun x=>x.State):=(Fld.map (m:=(fun x:api_TrackedWord=>(x.State,x.Text))) (Fld.here (tI .i64) (tOne tS))).cast rfl rfl
theorem sapi_TrackedWord_0:FldSet tapi_TrackedWord 0 (tI .i64) (fun x y=>{x with State:=y}):=(FldSet.map (m:=(fun x:api_TrackedWord=>(x.State,x.Text))) (f':=fun x y=>{x with State:=y}) (FldSet.here (tI .i64) (tOne tS)) (fun _ _=>rfl)).cast rfl rfl
theorem fapi_TrackedWord_1:Fld tapi_TrackedWord 1 tS (fun x=>x.Text):=(Fld.map (m:=(fun x:api_TrackedWord=>(x.State,x.Text))) (Fld.next (s:=(tI .i64)) (Fld.one tS))).cast rfl rfl
theorem sapi_TrackedWord_1:FldSet tapi_TrackedWord 1 tS (fun x y=>{x with Text:=y}):=(FldSet.map (m:=(fun x:api_TrackedWord=>(x.State,x.Text))) (f':=fun x y=>{x with Text:=y}) (FldSet.next (s:=(tI .i64)) (FldSet.one tS)) (fun _ _=>rfl)).cast rfl rfl
def zapi_TrackedWord_f(fd:Field):Nat:=if fd.type=3 then 1 else if fd.type=9 then 1 else 0
theorem zapi_TrackedWord_sz:∀ fs,Tryz.prog.underlying 53=some (.struct fs)→∀ fd,fd∈fs→∀ w,(sizeOf fd.type).run Tryz.prog w= .ok (zapi_TrackedWord_f fd) w:=by
 intro fs h
 rw [Tryz.underlying53] at h
 cases h
 intro fd hfd w
 simp only [List.mem_toArray,List.mem_cons,List.not_mem_nil,or_false] at hfd
 rcases hfd with rfl | rfl
 ·exact Tryz.sizeOf3 w
 ·exact Tryz.sizeOf9 w
def Fapi_TrackedUnit(X:Ty api_TrackedUnit):Ty api_TrackedUnit:=tMap (tP (tI .i64) (tP (tI .i64) (tP tapi_Id (tP tS (tP tS (tP tB (tP (tL tapi_TrackedWord) (tP (tL tapi_TrackedWord) (tOne (tL X)))))))))) (fun x:api_TrackedUnit=>(x.State,x.Kind,x.Id,x.Label,x.Was,x.Moved,x.Head,x.Words,x.Kids))
theorem capi_TrackedUnit:Cont Fapi_TrackedUnit:=Cont.map (fun x:api_TrackedUnit=>(x.State,x.Kind,x.Id,x.Label,x.Was,x.Moved,x.Head,x.Words,x.Kids)) (Cont.pair (Cont.const _) (Cont.pair (Cont.const _) (Cont.pair (Cont.const _) (Cont.pair (Cont.const _) (Cont.pair (Cont.const _) (Cont.pair (Cont.const _) (Cont.pair (Cont.const _) (Cont.pair (Cont.const _) (Cont.one ((Cont.list Cont.id)))))))))))
theorem rapi_TrackedUnit:Rec Fapi_TrackedUnit 11:=⟨capi_TrackedUnit,rfl,rfl⟩
def tapi_TrackedUnit:Ty api_TrackedUnit:=tFix rapi_TrackedUnit
theorem fapi_TrackedUnit_0:Fld tapi_TrackedUnit 0 (tI .i64) (fun x=>x.State):=Fld.le rapi_TrackedUnit.out ((Fld.map (m:=(fun x:api_TrackedUnit=>(x.State,x.Kind,x.Id,x.Label,x.Was,x.Moved,x.Head,x.Words,x.Kids))) (Fld.here (tI .i64) (tP (tI .i64) (tP tapi_Id (tP tS (tP tS (tP tB (tP (tL tapi_TrackedWord) (tP (tL tapi_TrackedWord) (tOne (tL tapi_TrackedUnit))))))))))).cast rfl rfl)
theorem sapi_TrackedUnit_0:FldSet tapi_TrackedUnit 0 (tI .i64) (fun x y=>{x with State:=y}):=FldSet.le rapi_TrackedUnit.out rapi_TrackedUnit.into ((FldSet.map (m:=(fun x:api_TrackedUnit=>(x.State,x.Kind,x.Id,x.Label,x.Was,x.Moved,x.Head,x.Words,x.Kids))) (f':=fun x y=>{x with State:=y}) (FldSet.here (tI .i64) (tP (tI .i64) (tP tapi_Id (tP tS (tP tS (tP tB (tP (tL tapi_TrackedWord) (tP (tL tapi_TrackedWord) (tOne (tL tapi_TrackedUnit)))))))))) (fun _ _=>rfl)).cast rfl rfl)
theorem fapi_TrackedUnit_1:Fld tapi_TrackedUnit 1 (tI .i64) (fun x=>x.Kind):=Fld.le rapi_TrackedUnit.out ((Fld.map (m:=(fun x:api_TrackedUnit=>(x.State,x.Kind,x.Id,x.Label,x.Was,x.Moved,x.Head,x.Words,x.Kids))) (Fld.next (s:=(tI .i64)) (Fld.here (tI .i64) (tP tapi_Id (tP tS (tP tS (tP tB (tP (tL tapi_TrackedWord) (tP (tL tapi_TrackedWord) (tOne (tL tapi_TrackedUnit))))))))))).cast rfl rfl)
theorem sapi_TrackedUnit_1:FldSet tapi_TrackedUnit 1 (tI .i64) (fun x y=>{x with Kind:=y}):=FldSet.le rapi_TrackedUnit.out rapi_TrackedUnit.into ((FldSet.map (m:=(fun x:api_TrackedUnit=>(x.State,x.Kind,x.Id,x.Label,x.Was,x.Moved,x.Head,x.Words,x.Kids))) (f':=fun x y=>{x with Kind:=y}) (FldSet.next (s:=(tI .i64)) (FldSet.here (tI .i64) (tP tapi_Id (tP tS (tP tS (tP tB (tP (tL tapi_TrackedWord) (tP (tL tapi_TrackedWord) (tOne (tL tapi_TrackedUnit)))))))))) (fun _ _=>rfl)).cast rfl rfl)
theorem fapi_TrackedUnit_2:Fld tapi_TrackedUnit 2 tapi_Id (fun x=>x.Id):=Fld.le rapi_TrackedUnit.out ((Fld.map (m:=(fun x:api_TrackedUnit=>(x.State,x.Kind,x.Id,x.Label,x.Was,x.Moved,x.Head,x.Words,x.Kids))) (Fld.next (s:=(tI .i64)) (Fld.next (s:=(tI .i64)) (Fld.here tapi_Id (tP tS (tP tS (tP tB (tP (tL tapi_TrackedWord) (tP (tL tapi_TrackedWord) (tOne (tL tapi_TrackedUnit))))))))))).cast rfl rfl)
theorem sapi_TrackedUnit_2:FldSet tapi_TrackedUnit 2 tapi_Id (fun x y=>{x with Id:=y}):=FldSet.le rapi_TrackedUnit.out rapi_TrackedUnit.into ((FldSet.map (m:=(fun x:api_TrackedUnit=>(x.State,x.Kind,x.Id,x.Label,x.Was,x.Moved,x.Head,x.Words,x.Kids))) (f':=fun x y=>{x with Id:=y}) (FldSet.next (s:=(tI .i64)) (FldSet.next (s:=(tI .i64)) (FldSet.here tapi_Id (tP tS (tP tS (tP tB (tP (tL tapi_TrackedWord) (tP (tL tapi_TrackedWord) (tOne (tL tapi_TrackedUnit)))))))))) (fun _ _=>rfl)).cast rfl rfl)
theorem fapi_TrackedUnit_3:Fld tapi_TrackedUnit 5 tS (fun x=>x.Label):=Fld.le rapi_TrackedUnit.out ((Fld.map (m:=(fun x:api_TrackedUnit=>(x.State,x.Kind,x.Id,x.Label,x.Was,x.Moved,x.Head,x.Words,x.Kids))) (Fld.next (s:=(tI .i64)) (Fld.next (s:=(tI .i64)) (Fld.next (s:=tapi_Id) (Fld.here tS (tP tS (tP tB (tP (tL tapi_TrackedWord) (tP (tL tapi_TrackedWord) (tOne (tL tapi_TrackedUnit))))))))))).cast rfl rfl)
theorem sapi_TrackedUnit_3:FldSet tapi_TrackedUnit 5 tS (fun x y=>{x with Label:=y}):=FldSet.le rapi_TrackedUnit.out rapi_TrackedUnit.into ((FldSet.map (m:=(fun x:api_TrackedUnit=>(x.State,x.Kind,x.Id,x.Label,x.Was,x.Moved,x.Head,x.Words,x.Kids))) (f':=fun x y=>{x with Label:=y}) (FldSet.next (s:=(tI .i64)) (FldSet.next (s:=(tI .i64)) (FldSet.next (s:=tapi_Id) (FldSet.here tS (tP tS (tP tB (tP (tL tapi_TrackedWord) (tP (tL tapi_TrackedWord) (tOne (tL tapi_TrackedUnit)))))))))) (fun _ _=>rfl)).cast rfl rfl)
theorem fapi_TrackedUnit_4:Fld tapi_TrackedUnit 6 tS (fun x=>x.Was):=Fld.le rapi_TrackedUnit.out ((Fld.map (m:=(fun x:api_TrackedUnit=>(x.State,x.Kind,x.Id,x.Label,x.Was,x.Moved,x.Head,x.Words,x.Kids))) (Fld.next (s:=(tI .i64)) (Fld.next (s:=(tI .i64)) (Fld.next (s:=tapi_Id) (Fld.next (s:=tS) (Fld.here tS (tP tB (tP (tL tapi_TrackedWord) (tP (tL tapi_TrackedWord) (tOne (tL tapi_TrackedUnit))))))))))).cast rfl rfl)
theorem sapi_TrackedUnit_4:FldSet tapi_TrackedUnit 6 tS (fun x y=>{x with Was:=y}):=FldSet.le rapi_TrackedUnit.out rapi_TrackedUnit.into ((FldSet.map (m:=(fun x:api_TrackedUnit=>(x.State,x.Kind,x.Id,x.Label,x.Was,x.Moved,x.Head,x.Words,x.Kids))) (f':=fun x y=>{x with Was:=y}) (FldSet.next (s:=(tI .i64)) (FldSet.next (s:=(tI .i64)) (FldSet.next (s:=tapi_Id) (FldSet.next (s:=tS) (FldSet.here tS (tP tB (tP (tL tapi_TrackedWord) (tP (tL tapi_TrackedWord) (tOne (tL tapi_TrackedUnit)))))))))) (fun _ _=>rfl)).cast rfl rfl)
theorem fapi_TrackedUnit_5:Fld tapi_TrackedUnit 7 tB (fun x=>x.Moved):=Fld.le rapi_TrackedUnit.out ((Fld.map (m:=(fun x:api_TrackedUnit=>(x.State,x.Kind,x.Id,x.Label,x.Was,x.Moved,x.Head,x.Words,x.Kids))) (Fld.next (s:=(tI .i64)) (Fld.next (s:=(tI .i64)) (Fld.next (s:=tapi_Id) (Fld.next (s:=tS) (Fld.next (s:=tS) (Fld.here tB (tP (tL tapi_TrackedWord) (tP (tL tapi_TrackedWord) (tOne (tL tapi_TrackedUnit))))))))))).cast rfl rfl)
theorem sapi_TrackedUnit_5:FldSet tapi_TrackedUnit 7 tB (fun x y=>{x with Moved:=y}):=FldSet.le rapi_TrackedUnit.out rapi_TrackedUnit.into ((FldSet.map (m:=(fun x:api_TrackedUnit=>(x.State,x.Kind,x.Id,x.Label,x.Was,x.Moved,x.Head,x.Words,x.Kids))) (f':=fun x y=>{x with Moved:=y}) (FldSet.next (s:=(tI .i64)) (FldSet.next (s:=(tI .i64)) (FldSet.next (s:=tapi_Id) (FldSet.next (s:=tS) (FldSet.next (s:=tS) (FldSet.here tB (tP (tL tapi_TrackedWord) (tP (tL tapi_TrackedWord) (tOne (tL tapi_TrackedUnit)))))))))) (fun _ _=>rfl)).cast rfl rfl)
theorem fapi_TrackedUnit_6:Fld tapi_TrackedUnit 8 (tL tapi_TrackedWord) (fun x=>x.Head):=Fld.le rapi_TrackedUnit.out ((Fld.map (m:=(fun x:api_TrackedUnit=>(x.State,x.Kind,x.Id,x.Label,x.Was,x.Moved,x.Head,x.Words,x.Kids))) (Fld.next (s:=(tI .i64)) (Fld.next (s:=(tI .i64)) (Fld.next (s:=tapi_Id) (Fld.next (s:=tS) (Fld.next (s:=tS) (Fld.next (s:=tB) (Fld.here (tL tapi_TrackedWord) (tP (tL tapi_TrackedWord) (tOne (tL tapi_TrackedUnit))))))))))).cast rfl rfl)
theorem sapi_TrackedUnit_6:FldSet tapi_TrackedUnit 8 (tL tapi_TrackedWord) (fun x y=>{x with Head:=y}):=FldSet.le rapi_TrackedUnit.out rapi_TrackedUnit.into ((FldSet.map (m:=(fun x:api_TrackedUnit=>(x.State,x.Kind,x.Id,x.Label,x.Was,x.Moved,x.Head,x.Words,x.Kids))) (f':=fun x y=>{x with Head:=y}) (FldSet.next (s:=(tI .i64)) (FldSet.next (s:=(tI .i64)) (FldSet.next (s:=tapi_Id) (FldSet.next (s:=tS) (FldSet.next (s:=tS) (FldSet.next (s:=tB) (FldSet.here (tL tapi_TrackedWord) (tP (tL tapi_TrackedWord) (tOne (tL tapi_TrackedUnit)))))))))) (fun _ _=>rfl)).cast rfl rfl)
theorem fapi_TrackedUnit_7:Fld tapi_TrackedUnit 9 (tL tapi_TrackedWord) (fun x=>x.Words):=Fld.le rapi_TrackedUnit.out ((Fld.map (m:=(fun x:api_TrackedUnit=>(x.State,x.Kind,x.Id,x.Label,x.Was,x.Moved,x.Head,x.Words,x.Kids))) (Fld.next (s:=(tI .i64)) (Fld.next (s:=(tI .i64)) (Fld.next (s:=tapi_Id) (Fld.next (s:=tS) (Fld.next (s:=tS) (Fld.next (s:=tB) (Fld.next (s:=(tL tapi_TrackedWord)) (Fld.here (tL tapi_TrackedWord) (tOne (tL tapi_TrackedUnit))))))))))).cast rfl rfl)
theorem sapi_TrackedUnit_7:FldSet tapi_TrackedUnit 9 (tL tapi_TrackedWord) (fun x y=>{x with Words:=y}):=FldSet.le rapi_TrackedUnit.out rapi_TrackedUnit.into ((FldSet.map (m:=(fun x:api_TrackedUnit=>(x.State,x.Kind,x.Id,x.Label,x.Was,x.Moved,x.Head,x.Words,x.Kids))) (f':=fun x y=>{x with Words:=y}) (FldSet.next (s:=(tI .i64)) (FldSet.next (s:=(tI .i64)) (FldSet.next (s:=tapi_Id) (FldSet.next (s:=tS) (FldSet.next (s:=tS) (FldSet.next (s:=tB) (FldSet.next (s:=(tL tapi_TrackedWord)) (FldSet.here (tL tapi_TrackedWord) (tOne (tL tapi_TrackedUnit)))))))))) (fun _ _=>rfl)).cast rfl rfl)
theorem fapi_TrackedUnit_8:Fld tapi_TrackedUnit 10 (tL tapi_TrackedUnit) (fun x=>x.Kids):=Fld.le rapi_TrackedUnit.out ((Fld.map (m:=(fun x:api_TrackedUnit=>(x.State,x.Kind,x.Id,x.Label,x.Was,x.Moved,x.Head,x.Words,x.Kids))) (Fld.next (s:=(tI .i64)) (Fld.next (s:=(tI .i64)) (Fld.next (s:=tapi_Id) (Fld.next (s:=tS) (Fld.next (s:=tS) (Fld.next (s:=tB) (Fld.next (s:=(tL tapi_TrackedWord)) (Fld.next (s:=(tL tapi_TrackedWord)) (Fld.one (tL tapi_TrackedUnit))))))))))).cast rfl rfl)
theorem sapi_TrackedUnit_8:FldSet tapi_TrackedUnit 10 (tL tapi_TrackedUnit) (fun x y=>{x with Kids:=y}):=FldSet.le rapi_TrackedUnit.out rapi_TrackedUnit.into ((FldSet.map (m:=(fun x:api_TrackedUnit=>(x.State,x.Kind,x.Id,x.Label,x.Was,x.Moved,x.Head,x.Words,x.Kids))) (f':=fun x y=>{x with Kids:=y}) (FldSet.next (s:=(tI .i64)) (FldSet.next (s:=(tI .i64)) (FldSet.next (s:=tapi_Id) (FldSet.next (s:=tS) (FldSet.next (s:=tS) (FldSet.next (s:=tB) (FldSet.next (s:=(tL tapi_TrackedWord)) (FldSet.next (s:=(tL tapi_TrackedWord)) (FldSet.one (tL tapi_TrackedUnit)))))))))) (fun _ _=>rfl)).cast rfl rfl)
def zapi_TrackedUnit_f(fd:Field):Nat:=if fd.type=3 then 1 else if fd.type=4 then 1 else if fd.type=9 then 1 else if fd.type=23 then 3 else if fd.type=30 then 1 else if fd.type=31 then 1 else 0
theorem zapi_TrackedUnit_sz:∀ fs,Tryz.prog.underlying 33=some (.struct fs)→∀ fd,fd∈fs→∀ w,(sizeOf fd.type).run Tryz.prog w= .ok (zapi_TrackedUnit_f fd) w:=by
 intro fs h
 rw [Tryz.underlying33] at h
 cases h
 intro fd hfd w
 simp only [List.mem_toArray,List.mem_cons,List.not_mem_nil,or_false] at hfd
 rcases hfd with rfl | rfl | rfl | rfl | rfl | rfl | rfl | rfl | rfl
 ·exact Tryz.sizeOf3 w
 ·exact Tryz.sizeOf3 w
 ·exact Tryz.sizeOf23 w
 ·exact Tryz.sizeOf9 w
 ·exact Tryz.sizeOf9 w
 ·exact Tryz.sizeOf4 w
 ·exact Tryz.sizeOf30 w
 ·exact Tryz.sizeOf30 w
 ·exact Tryz.sizeOf31 w
def tapi_TrackedUnit_k8(k:Tok):Ty api_TrackedUnit:=tMap (tP (tI .i64) (tP (tI .i64) (tP tapi_Id (tP tS (tP tS (tP tB (tP (tL tapi_TrackedWord) (tP (tL tapi_TrackedWord) (tOne (tOT tapi_TrackedUnit k)))))))))) (fun x:api_TrackedUnit=>(x.State,x.Kind,x.Id,x.Label,x.Was,x.Moved,x.Head,x.Words,x.Kids))
theorem sapi_TrackedUnit_k8_0(k:Tok):FldSet (tapi_TrackedUnit_k8 k) 0 (tI .i64) (fun x y=>{x with State:=y}):=(FldSet.map (m:=(fun x:api_TrackedUnit=>(x.State,x.Kind,x.Id,x.Label,x.Was,x.Moved,x.Head,x.Words,x.Kids))) (f':=fun x y=>{x with State:=y}) (FldSet.here (tI .i64) (tP (tI .i64) (tP tapi_Id (tP tS (tP tS (tP tB (tP (tL tapi_TrackedWord) (tP (tL tapi_TrackedWord) (tOne (tOT tapi_TrackedUnit k)))))))))) (fun _ _=>rfl)).cast rfl rfl
theorem sapi_TrackedUnit_k8_1(k:Tok):FldSet (tapi_TrackedUnit_k8 k) 1 (tI .i64) (fun x y=>{x with Kind:=y}):=(FldSet.map (m:=(fun x:api_TrackedUnit=>(x.State,x.Kind,x.Id,x.Label,x.Was,x.Moved,x.Head,x.Words,x.Kids))) (f':=fun x y=>{x with Kind:=y}) (FldSet.next (s:=(tI .i64)) (FldSet.here (tI .i64) (tP tapi_Id (tP tS (tP tS (tP tB (tP (tL tapi_TrackedWord) (tP (tL tapi_TrackedWord) (tOne (tOT tapi_TrackedUnit k)))))))))) (fun _ _=>rfl)).cast rfl rfl
theorem sapi_TrackedUnit_k8_2(k:Tok):FldSet (tapi_TrackedUnit_k8 k) 2 tapi_Id (fun x y=>{x with Id:=y}):=(FldSet.map (m:=(fun x:api_TrackedUnit=>(x.State,x.Kind,x.Id,x.Label,x.Was,x.Moved,x.Head,x.Words,x.Kids))) (f':=fun x y=>{x with Id:=y}) (FldSet.next (s:=(tI .i64)) (FldSet.next (s:=(tI .i64)) (FldSet.here tapi_Id (tP tS (tP tS (tP tB (tP (tL tapi_TrackedWord) (tP (tL tapi_TrackedWord) (tOne (tOT tapi_TrackedUnit k)))))))))) (fun _ _=>rfl)).cast rfl rfl
theorem sapi_TrackedUnit_k8_3(k:Tok):FldSet (tapi_TrackedUnit_k8 k) 5 tS (fun x y=>{x with Label:=y}):=(FldSet.map (m:=(fun x:api_TrackedUnit=>(x.State,x.Kind,x.Id,x.Label,x.Was,x.Moved,x.Head,x.Words,x.Kids))) (f':=fun x y=>{x with Label:=y}) (FldSet.next (s:=(tI .i64)) (FldSet.next (s:=(tI .i64)) (FldSet.next (s:=tapi_Id) (FldSet.here tS (tP tS (tP tB (tP (tL tapi_TrackedWord) (tP (tL tapi_TrackedWord) (tOne (tOT tapi_TrackedUnit k)))))))))) (fun _ _=>rfl)).cast rfl rfl
theorem sapi_TrackedUnit_k8_5(k:Tok):FldSet (tapi_TrackedUnit_k8 k) 7 tB (fun x y=>{x with Moved:=y}):=(FldSet.map (m:=(fun x:api_TrackedUnit=>(x.State,x.Kind,x.Id,x.Label,x.Was,x.Moved,x.Head,x.Words,x.Kids))) (f':=fun x y=>{x with Moved:=y}) (FldSet.next (s:=(tI .i64)) (FldSet.next (s:=(tI .i64)) (FldSet.next (s:=tapi_Id) (FldSet.next (s:=tS) (FldSet.next (s:=tS) (FldSet.here tB (tP (tL tapi_TrackedWord) (tP (tL tapi_TrackedWord) (tOne (tOT tapi_TrackedUnit k)))))))))) (fun _ _=>rfl)).cast rfl rfl
theorem sapi_TrackedUnit_k8_6(k:Tok):FldSet (tapi_TrackedUnit_k8 k) 8 (tL tapi_TrackedWord) (fun x y=>{x with Head:=y}):=(FldSet.map (m:=(fun x:api_TrackedUnit=>(x.State,x.Kind,x.Id,x.Label,x.Was,x.Moved,x.Head,x.Words,x.Kids))) (f':=fun x y=>{x with Head:=y}) (FldSet.next (s:=(tI .i64)) (FldSet.next (s:=(tI .i64)) (FldSet.next (s:=tapi_Id) (FldSet.next (s:=tS) (FldSet.next (s:=tS) (FldSet.next (s:=tB) (FldSet.here (tL tapi_TrackedWord) (tP (tL tapi_TrackedWord) (tOne (tOT tapi_TrackedUnit k)))))))))) (fun _ _=>rfl)).cast rfl rfl
theorem sapi_TrackedUnit_k8_7(k:Tok):FldSet (tapi_TrackedUnit_k8 k) 9 (tL tapi_TrackedWord) (fun x y=>{x with Words:=y}):=(FldSet.map (m:=(fun x:api_TrackedUnit=>(x.State,x.Kind,x.Id,x.Label,x.Was,x.Moved,x.Head,x.Words,x.Kids))) (f':=fun x y=>{x with Words:=y}) (FldSet.next (s:=(tI .i64)) (FldSet.next (s:=(tI .i64)) (FldSet.next (s:=tapi_Id) (FldSet.next (s:=tS) (FldSet.next (s:=tS) (FldSet.next (s:=tB) (FldSet.next (s:=(tL tapi_TrackedWord)) (FldSet.here (tL tapi_TrackedWord) (tOne (tOT tapi_TrackedUnit k)))))))))) (fun _ _=>rfl)).cast rfl rfl
theorem fapi_TrackedUnit_k8_8(k:Tok):Fld (tapi_TrackedUnit_k8 k) 10 (tOT tapi_TrackedUnit k) (fun x=>x.Kids):=(Fld.map (m:=(fun x:api_TrackedUnit=>(x.State,x.Kind,x.Id,x.Label,x.Was,x.Moved,x.Head,x.Words,x.Kids))) (Fld.next (s:=(tI .i64)) (Fld.next (s:=(tI .i64)) (Fld.next (s:=tapi_Id) (Fld.next (s:=tS) (Fld.next (s:=tS) (Fld.next (s:=tB) (Fld.next (s:=(tL tapi_TrackedWord)) (Fld.next (s:=(tL tapi_TrackedWord)) (Fld.one (tOT tapi_TrackedUnit k))))))))))).cast rfl rfl
theorem sTapi_TrackedUnit_k8(k k2:Tok):FldSetT (tapi_TrackedUnit_k8 k) (tapi_TrackedUnit_k8 k2) 10 (tOT tapi_TrackedUnit k2) (fun x y=>{x with Kids:=y}):=(FldSetT.map (m:=(fun x:api_TrackedUnit=>(x.State,x.Kind,x.Id,x.Label,x.Was,x.Moved,x.Head,x.Words,x.Kids))) (f':=fun x y=>{x with Kids:=y}) (FldSetT.next (s:=(tI .i64)) (FldSetT.next (s:=(tI .i64)) (FldSetT.next (s:=tapi_Id) (FldSetT.next (s:=tS) (FldSetT.next (s:=tS) (FldSetT.next (s:=tB) (FldSetT.next (s:=(tL tapi_TrackedWord)) (FldSetT.next (s:=(tL tapi_TrackedWord)) (FldSetT.one (tOT tapi_TrackedUnit k) (tOT tapi_TrackedUnit k2) rfl))))))))) (fun _ _=>rfl)).cast rfl rfl
theorem leapi_TrackedUnit_k8(k:Tok):Le (tapi_TrackedUnit_k8 k) tapi_TrackedUnit:=Le.trans (Le.mapT (Le.pair (Le.refl _) (Le.pair (Le.refl _) (Le.pair (Le.refl _) (Le.pair (Le.refl _) (Le.pair (Le.refl _) (Le.pair (Le.refl _) (Le.pair (Le.refl _) (Le.pair (Le.refl _) (Le.one (tOT_le _ _)))))))))) _) rapi_TrackedUnit.into
theorem zeapi_TrackedUnit_k8:ZeroAt Tryz.prog 33 (tapi_TrackedUnit_k8 none) zapi_TrackedUnit:=⟨_,Tryz.zeroValue33,fun _=>⟨_,⟨_,_,rfl,⟨rfl,inR64.2 ⟨by decide,by decide⟩⟩,⟨_,_,rfl,⟨rfl,inR64.2 ⟨by decide,by decide⟩⟩,⟨_,_,rfl,⟨_,_,rfl,⟨rfl,inR64.2 ⟨by decide,by decide⟩⟩,⟨_,_,rfl,⟨rfl,inR64.2 ⟨by decide,by decide⟩⟩,⟨rfl,inR64.2 ⟨by decide,by decide⟩⟩⟩⟩,⟨_,_,rfl,⟨rfl,by decide⟩,⟨_,_,rfl,⟨rfl,by decide⟩,⟨_,_,rfl,rfl,⟨_,_,rfl,⟨none,0,rfl,Nat.le_refl _,Nat.zero_le _,fun _=>rfl,rfl⟩,⟨_,_,rfl,⟨none,0,rfl,Nat.le_refl _,Nat.zero_le _,fun _=>rfl,rfl⟩,⟨_,rfl,⟨rfl,Nat.le_refl _,Nat.zero_le _,rfl⟩⟩⟩⟩⟩⟩⟩⟩⟩⟩,rfl⟩⟩
def tredline_books:Ty redline_books:=tMap (tP (tQ tapi_Id tapi_Unit) (tP (tQ tapi_Id tapi_Unit) (tOne (tQ tapi_Id tB)))) (fun x:redline_books=>(x.a_,x.b_,x.moved_))
theorem fredline_books_0:Fld tredline_books 0 (tQ tapi_Id tapi_Unit) (fun x=>x.a_):=(Fld.map (m:=(fun x:redline_books=>(x.a_,x.b_,x.moved_))) (Fld.here (tQ tapi_Id tapi_Unit) (tP (tQ tapi_Id tapi_Unit) (tOne (tQ tapi_Id tB))))).cast rfl rfl
theorem fredline_books_1:Fld tredline_books 1 (tQ tapi_Id tapi_Unit) (fun x=>x.b_):=(Fld.map (m:=(fun x:redline_books=>(x.a_,x.b_,x.moved_))) (Fld.next (s:=(tQ tapi_Id tapi_Unit)) (Fld.here (tQ tapi_Id tapi_Unit) (tOne (tQ tapi_Id tB))))).cast rfl rfl
theorem fredline_books_2:Fld tredline_books 2 (tQ tapi_Id tB) (fun x=>x.moved_):=(Fld.map (m:=(fun x:redline_books=>(x.a_,x.b_,x.moved_))) (Fld.next (s:=(tQ tapi_Id tapi_Unit)) (Fld.next (s:=(tQ tapi_Id tapi_Unit)) (Fld.one (tQ tapi_Id tB))))).cast rfl rfl
def zredline_books_f(fd:Field):Nat:=if fd.type=56 then 1 else if fd.type=57 then 1 else 0
theorem zredline_books_sz:∀ fs,Tryz.prog.underlying 59=some (.struct fs)→∀ fd,fd∈fs→∀ w,(sizeOf fd.type).run Tryz.prog w= .ok (zredline_books_f fd) w:=by
 intro fs h
 rw [Tryz.underlying59] at h
 cases h
 intro fd hfd w
 simp only [List.mem_toArray,List.mem_cons,List.not_mem_nil,or_false] at hfd
 rcases hfd with rfl | rfl | rfl
 ·exact Tryz.sizeOf56 w
 ·exact Tryz.sizeOf56 w
 ·exact Tryz.sizeOf57 w
def tunit_called:Ty unit_called:=tMap (tP (tI .i64) (tOne tS)) (fun x:unit_called=>(x.kind_,x.label_))
theorem funit_called_0:Fld tunit_called 0 (tI .i64) (fun x=>x.kind_):=(Fld.map (m:=(fun x:unit_called=>(x.kind_,x.label_))) (Fld.here (tI .i64) (tOne tS))).cast rfl rfl
theorem sunit_called_0:FldSet tunit_called 0 (tI .i64) (fun x y=>{x with kind_:=y}):=(FldSet.map (m:=(fun x:unit_called=>(x.kind_,x.label_))) (f':=fun x y=>{x with kind_:=y}) (FldSet.here (tI .i64) (tOne tS)) (fun _ _=>rfl)).cast rfl rfl
theorem funit_called_1:Fld tunit_called 1 tS (fun x=>x.label_):=(Fld.map (m:=(fun x:unit_called=>(x.kind_,x.label_))) (Fld.next (s:=(tI .i64)) (Fld.one tS))).cast rfl rfl
theorem sunit_called_1:FldSet tunit_called 1 tS (fun x y=>{x with label_:=y}):=(FldSet.map (m:=(fun x:unit_called=>(x.kind_,x.label_))) (f':=fun x y=>{x with label_:=y}) (FldSet.next (s:=(tI .i64)) (FldSet.one tS)) (fun _ _=>rfl)).cast rfl rfl
def zunit_called_f(fd:Field):Nat:=if fd.type=3 then 1 else if fd.type=9 then 1 else 0
theorem zunit_called_sz:∀ fs,Tryz.prog.underlying 166=some (.struct fs)→∀ fd,fd∈fs→∀ w,(sizeOf fd.type).run Tryz.prog w= .ok (zunit_called_f fd) w:=by
 intro fs h
 rw [Tryz.underlying166] at h
 cases h
 intro fd hfd w
 simp only [List.mem_toArray,List.mem_cons,List.not_mem_nil,or_false] at hfd
 rcases hfd with rfl | rfl
 ·exact Tryz.sizeOf3 w
 ·exact Tryz.sizeOf9 w
def tdiff_place:Ty diff_place:=tMap (tP tapi_Id (tP (tI .i64) (tOne tapi_Unit))) (fun x:diff_place=>(x.parent_,x.at_,x.unit_))
theorem fdiff_place_0:Fld tdiff_place 0 tapi_Id (fun x=>x.parent_):=(Fld.map (m:=(fun x:diff_place=>(x.parent_,x.at_,x.unit_))) (Fld.here tapi_Id (tP (tI .i64) (tOne tapi_Unit)))).cast rfl rfl
theorem sdiff_place_0:FldSet tdiff_place 0 tapi_Id (fun x y=>{x with parent_:=y}):=(FldSet.map (m:=(fun x:diff_place=>(x.parent_,x.at_,x.unit_))) (f':=fun x y=>{x with parent_:=y}) (FldSet.here tapi_Id (tP (tI .i64) (tOne tapi_Unit))) (fun _ _=>rfl)).cast rfl rfl
theorem fdiff_place_1:Fld tdiff_place 3 (tI .i64) (fun x=>x.at_):=(Fld.map (m:=(fun x:diff_place=>(x.parent_,x.at_,x.unit_))) (Fld.next (s:=tapi_Id) (Fld.here (tI .i64) (tOne tapi_Unit)))).cast rfl rfl
theorem sdiff_place_1:FldSet tdiff_place 3 (tI .i64) (fun x y=>{x with at_:=y}):=(FldSet.map (m:=(fun x:diff_place=>(x.parent_,x.at_,x.unit_))) (f':=fun x y=>{x with at_:=y}) (FldSet.next (s:=tapi_Id) (FldSet.here (tI .i64) (tOne tapi_Unit))) (fun _ _=>rfl)).cast rfl rfl
theorem fdiff_place_2:Fld tdiff_place 4 tapi_Unit (fun x=>x.unit_):=(Fld.map (m:=(fun x:diff_place=>(x.parent_,x.at_,x.unit_))) (Fld.next (s:=tapi_Id) (Fld.next (s:=(tI .i64)) (Fld.one tapi_Unit)))).cast rfl rfl
theorem sdiff_place_2:FldSet tdiff_place 4 tapi_Unit (fun x y=>{x with unit_:=y}):=(FldSet.map (m:=(fun x:diff_place=>(x.parent_,x.at_,x.unit_))) (f':=fun x y=>{x with unit_:=y}) (FldSet.next (s:=tapi_Id) (FldSet.next (s:=(tI .i64)) (FldSet.one tapi_Unit))) (fun _ _=>rfl)).cast rfl rfl
def zdiff_place_f(fd:Field):Nat:=if fd.type=3 then 1 else if fd.type=23 then 3 else if fd.type=27 then 8 else 0
theorem zdiff_place_sz:∀ fs,Tryz.prog.underlying 171=some (.struct fs)→∀ fd,fd∈fs→∀ w,(sizeOf fd.type).run Tryz.prog w= .ok (zdiff_place_f fd) w:=by
 intro fs h
 rw [Tryz.underlying171] at h
 cases h
 intro fd hfd w
 simp only [List.mem_toArray,List.mem_cons,List.not_mem_nil,or_false] at hfd
 rcases hfd with rfl | rfl | rfl
 ·exact Tryz.sizeOf23 w
 ·exact Tryz.sizeOf3 w
 ·exact Tryz.sizeOf27 w
def tdiff_pair:Ty diff_pair:=tMap (tP tapi_Unit (tP tapi_Unit (tP (tQ tapi_Id tdiff_place) (tOne (tQ tapi_Id tdiff_place))))) (fun x:diff_pair=>(x.a_,x.b_,x.p_,x.q_))
theorem sdiff_pair_0:FldSet tdiff_pair 0 tapi_Unit (fun x y=>{x with a_:=y}):=(FldSet.map (m:=(fun x:diff_pair=>(x.a_,x.b_,x.p_,x.q_))) (f':=fun x y=>{x with a_:=y}) (FldSet.here tapi_Unit (tP tapi_Unit (tP (tQ tapi_Id tdiff_place) (tOne (tQ tapi_Id tdiff_place))))) (fun _ _=>rfl)).cast rfl rfl
theorem fdiff_pair_1:Fld tdiff_pair 8 tapi_Unit (fun x=>x.b_):=(Fld.map (m:=(fun x:diff_pair=>(x.a_,x.b_,x.p_,x.q_))) (Fld.next (s:=tapi_Unit) (Fld.here tapi_Unit (tP (tQ tapi_Id tdiff_place) (tOne (tQ tapi_Id tdiff_place)))))).cast rfl rfl
theorem sdiff_pair_1:FldSet tdiff_pair 8 tapi_Unit (fun x y=>{x with b_:=y}):=(FldSet.map (m:=(fun x:diff_pair=>(x.a_,x.b_,x.p_,x.q_))) (f':=fun x y=>{x with b_:=y}) (FldSet.next (s:=tapi_Unit) (FldSet.here tapi_Unit (tP (tQ tapi_Id tdiff_place) (tOne (tQ tapi_Id tdiff_place))))) (fun _ _=>rfl)).cast rfl rfl
theorem fdiff_pair_2:Fld tdiff_pair 16 (tQ tapi_Id tdiff_place) (fun x=>x.p_):=(Fld.map (m:=(fun x:diff_pair=>(x.a_,x.b_,x.p_,x.q_))) (Fld.next (s:=tapi_Unit) (Fld.next (s:=tapi_Unit) (Fld.here (tQ tapi_Id tdiff_place) (tOne (tQ tapi_Id tdiff_place)))))).cast rfl rfl
theorem sdiff_pair_2:FldSet tdiff_pair 16 (tQ tapi_Id tdiff_place) (fun x y=>{x with p_:=y}):=(FldSet.map (m:=(fun x:diff_pair=>(x.a_,x.b_,x.p_,x.q_))) (f':=fun x y=>{x with p_:=y}) (FldSet.next (s:=tapi_Unit) (FldSet.next (s:=tapi_Unit) (FldSet.here (tQ tapi_Id tdiff_place) (tOne (tQ tapi_Id tdiff_place))))) (fun _ _=>rfl)).cast rfl rfl
theorem fdiff_pair_3:Fld tdiff_pair 17 (tQ tapi_Id tdiff_place) (fun x=>x.q_):=(Fld.map (m:=(fun x:diff_pair=>(x.a_,x.b_,x.p_,x.q_))) (Fld.next (s:=tapi_Unit) (Fld.next (s:=tapi_Unit) (Fld.next (s:=(tQ tapi_Id tdiff_place)) (Fld.one (tQ tapi_Id tdiff_place)))))).cast rfl rfl
theorem sdiff_pair_3:FldSet tdiff_pair 17 (tQ tapi_Id tdiff_place) (fun x y=>{x with q_:=y}):=(FldSet.map (m:=(fun x:diff_pair=>(x.a_,x.b_,x.p_,x.q_))) (f':=fun x y=>{x with q_:=y}) (FldSet.next (s:=tapi_Unit) (FldSet.next (s:=tapi_Unit) (FldSet.next (s:=(tQ tapi_Id tdiff_place)) (FldSet.one (tQ tapi_Id tdiff_place))))) (fun _ _=>rfl)).cast rfl rfl
def zdiff_pair_f(fd:Field):Nat:=if fd.type=27 then 8 else if fd.type=127 then 1 else 0
theorem zdiff_pair_sz:∀ fs,Tryz.prog.underlying 129=some (.struct fs)→∀ fd,fd∈fs→∀ w,(sizeOf fd.type).run Tryz.prog w= .ok (zdiff_pair_f fd) w:=by
 intro fs h
 rw [Tryz.underlying129] at h
 cases h
 intro fd hfd w
 simp only [List.mem_toArray,List.mem_cons,List.not_mem_nil,or_false] at hfd
 rcases hfd with rfl | rfl | rfl | rfl
 ·exact Tryz.sizeOf27 w
 ·exact Tryz.sizeOf27 w
 ·exact Tryz.sizeOf127 w
 ·exact Tryz.sizeOf127 w
def tapi_Pair:Ty api_Pair:=tMap (tP (tI .i64) (tOne (tI .i64))) (fun x:api_Pair=>(x.A,x.B))
theorem fapi_Pair_0:Fld tapi_Pair 0 (tI .i64) (fun x=>x.A):=(Fld.map (m:=(fun x:api_Pair=>(x.A,x.B))) (Fld.here (tI .i64) (tOne (tI .i64)))).cast rfl rfl
theorem sapi_Pair_0:FldSet tapi_Pair 0 (tI .i64) (fun x y=>{x with A:=y}):=(FldSet.map (m:=(fun x:api_Pair=>(x.A,x.B))) (f':=fun x y=>{x with A:=y}) (FldSet.here (tI .i64) (tOne (tI .i64))) (fun _ _=>rfl)).cast rfl rfl
theorem fapi_Pair_1:Fld tapi_Pair 1 (tI .i64) (fun x=>x.B):=(Fld.map (m:=(fun x:api_Pair=>(x.A,x.B))) (Fld.next (s:=(tI .i64)) (Fld.one (tI .i64)))).cast rfl rfl
theorem sapi_Pair_1:FldSet tapi_Pair 1 (tI .i64) (fun x y=>{x with B:=y}):=(FldSet.map (m:=(fun x:api_Pair=>(x.A,x.B))) (f':=fun x y=>{x with B:=y}) (FldSet.next (s:=(tI .i64)) (FldSet.one (tI .i64))) (fun _ _=>rfl)).cast rfl rfl
def zapi_Pair_f(fd:Field):Nat:=if fd.type=3 then 1 else 0
theorem zapi_Pair_sz:∀ fs,Tryz.prog.underlying 94=some (.struct fs)→∀ fd,fd∈fs→∀ w,(sizeOf fd.type).run Tryz.prog w= .ok (zapi_Pair_f fd) w:=by
 intro fs h
 rw [Tryz.underlying94] at h
 cases h
 intro fd hfd w
 simp only [List.mem_toArray,List.mem_cons,List.not_mem_nil,or_false] at hfd
 rcases hfd with rfl | rfl
 ·exact Tryz.sizeOf3 w
 ·exact Tryz.sizeOf3 w
theorem ty3:TyAt Tryz.prog 3 (tI .i64):=⟨Tryz.isAgg3,Tryz.sizeOf3⟩
theorem el3:ElAt Tryz.prog 3 (tI .i64):=⟨⟨Tryz.t3,_,Tryz.type3,rfl,rfl,by decide,rfl⟩,by decide⟩
theorem ze3:ZeroAt Tryz.prog 3 (tI .i64) (0:Int):=⟨_,Tryz.zeroValue3,fun _=>⟨_,⟨rfl,inR64.2 ⟨by decide,by decide⟩⟩,rfl⟩⟩
theorem ty4:TyAt Tryz.prog 4 tB:=⟨Tryz.isAgg4,Tryz.sizeOf4⟩
theorem ze4:ZeroAt Tryz.prog 4 tB false:=⟨_,Tryz.zeroValue4,fun _=>⟨_,rfl,rfl⟩⟩
theorem ty5:TyAt Tryz.prog 5 (tI .u8):=⟨Tryz.isAgg5,Tryz.sizeOf5⟩
theorem el5:ElAt Tryz.prog 5 (tI .u8):=⟨⟨Tryz.t5,_,Tryz.type5,rfl,rfl,by decide,rfl⟩,by decide⟩
theorem ty9:TyAt Tryz.prog 9 tS:=⟨Tryz.isAgg9,Tryz.sizeOf9⟩
theorem el9:ElAt Tryz.prog 9 tS:=⟨⟨Tryz.t9,_,Tryz.type9,rfl,rfl,by decide,rfl⟩,by decide⟩
theorem ze9:ZeroAt Tryz.prog 9 tS ([]:Str):=⟨_,Tryz.zeroValue9,fun _=>⟨_,⟨rfl,by decide⟩,rfl⟩⟩
theorem ty23:TyAt Tryz.prog 23 tapi_Id:=⟨Tryz.isAgg23,Tryz.sizeOf23⟩
theorem el23:ElAt Tryz.prog 23 tapi_Id:=⟨⟨Tryz.t23,_,Tryz.type23,rfl,rfl,by decide,rfl⟩,by decide⟩
theorem ze23:ZeroAt Tryz.prog 23 tapi_Id zapi_Id:=⟨_,Tryz.zeroValue23,fun _=>⟨_,⟨_,_,rfl,⟨rfl,inR64.2 ⟨by decide,by decide⟩⟩,⟨_,_,rfl,⟨rfl,inR64.2 ⟨by decide,by decide⟩⟩,⟨rfl,inR64.2 ⟨by decide,by decide⟩⟩⟩⟩,rfl⟩⟩
theorem ty24:TyAt Tryz.prog 24 (tL tapi_Word):=⟨Tryz.isAgg24,Tryz.sizeOf24⟩
theorem ty25:TyAt Tryz.prog 25 (tL tapi_Unit):=⟨Tryz.isAgg25,Tryz.sizeOf25⟩
theorem ty27:TyAt Tryz.prog 27 tapi_Unit:=⟨Tryz.isAgg27,Tryz.sizeOf27⟩
theorem ze27:ZeroAt Tryz.prog 27 tapi_Unit zapi_Unit:=⟨_,Tryz.zeroValue27,fun _=>⟨_,(rapi_Unit.into.rep _ _ _ ⟨_,_,rfl,⟨_,_,rfl,⟨rfl,inR64.2 ⟨by decide,by decide⟩⟩,⟨_,_,rfl,⟨rfl,inR64.2 ⟨by decide,by decide⟩⟩,⟨rfl,inR64.2 ⟨by decide,by decide⟩⟩⟩⟩,⟨_,_,rfl,⟨rfl,inR64.2 ⟨by decide,by decide⟩⟩,⟨_,_,rfl,⟨rfl,by decide⟩,⟨_,_,rfl,⟨none,0,rfl,Nat.le_refl _,Nat.zero_le _,fun _=>rfl,rfl⟩,⟨_,_,rfl,⟨none,0,rfl,Nat.le_refl _,Nat.zero_le _,fun _=>rfl,rfl⟩,⟨none,0,rfl,Nat.le_refl _,Nat.zero_le _,fun _=>rfl,rfl⟩⟩⟩⟩⟩⟩),rfl⟩⟩
theorem ty30:TyAt Tryz.prog 30 (tL tapi_TrackedWord):=⟨Tryz.isAgg30,Tryz.sizeOf30⟩
theorem ty31:TyAt Tryz.prog 31 (tL tapi_TrackedUnit):=⟨Tryz.isAgg31,Tryz.sizeOf31⟩
theorem ty33:TyAt Tryz.prog 33 tapi_TrackedUnit:=⟨Tryz.isAgg33,Tryz.sizeOf33⟩
theorem el33:ElAt Tryz.prog 33 tapi_TrackedUnit:=⟨⟨Tryz.t33,_,Tryz.type33,rfl,rfl,by decide,rfl⟩,by decide⟩
theorem ze33:ZeroAt Tryz.prog 33 tapi_TrackedUnit zapi_TrackedUnit:=⟨_,Tryz.zeroValue33,fun _=>⟨_,(rapi_TrackedUnit.into.rep _ _ _ ⟨_,_,rfl,⟨rfl,inR64.2 ⟨by decide,by decide⟩⟩,⟨_,_,rfl,⟨rfl,inR64.2 ⟨by decide,by decide⟩⟩,⟨_,_,rfl,⟨_,_,rfl,⟨rfl,inR64.2 ⟨by decide,by decide⟩⟩,⟨_,_,rfl,⟨rfl,inR64.2 ⟨by decide,by decide⟩⟩,⟨rfl,inR64.2 ⟨by decide,by decide⟩⟩⟩⟩,⟨_,_,rfl,⟨rfl,by decide⟩,⟨_,_,rfl,⟨rfl,by decide⟩,⟨_,_,rfl,rfl,⟨_,_,rfl,⟨none,0,rfl,Nat.le_refl _,Nat.zero_le _,fun _=>rfl,rfl⟩,⟨_,_,rfl,⟨none,0,rfl,Nat.le_refl _,Nat.zero_le _,fun _=>rfl,rfl⟩,⟨none,0,rfl,Nat.le_refl _,Nat.zero_le _,fun _=>rfl,rfl⟩⟩⟩⟩⟩⟩⟩⟩⟩),rfl⟩⟩
theorem ty38:TyAt Tryz.prog 38 (tL tS):=⟨Tryz.isAgg38,Tryz.sizeOf38⟩
theorem el38:ElAt Tryz.prog 38 (tL tS):=⟨⟨Tryz.t38,_,Tryz.type38,rfl,rfl,by decide,rfl⟩,by decide⟩
theorem ze38:ZeroAt Tryz.prog 38 (tL tS) ([]:List Str):=⟨_,Tryz.zeroValue38,fun _=>⟨_,⟨none,0,rfl,Nat.le_refl _,Nat.zero_le _,fun _=>rfl,rfl⟩,rfl⟩⟩
theorem ty53:TyAt Tryz.prog 53 tapi_TrackedWord:=⟨Tryz.isAgg53,Tryz.sizeOf53⟩
theorem el53:ElAt Tryz.prog 53 tapi_TrackedWord:=⟨⟨Tryz.t53,_,Tryz.type53,rfl,rfl,by decide,rfl⟩,by decide⟩
theorem ze53:ZeroAt Tryz.prog 53 tapi_TrackedWord zapi_TrackedWord:=⟨_,Tryz.zeroValue53,fun _=>⟨_,⟨_,_,rfl,⟨rfl,inR64.2 ⟨by decide,by decide⟩⟩,⟨rfl,by decide⟩⟩,rfl⟩⟩
theorem ty56:TyAt Tryz.prog 56 (tQ tapi_Id tapi_Unit):=⟨Tryz.isAgg56,Tryz.sizeOf56⟩
theorem ty57:TyAt Tryz.prog 57 (tQ tapi_Id tB):=⟨Tryz.isAgg57,Tryz.sizeOf57⟩
theorem ze57:ZeroAt Tryz.prog 57 (tQ tapi_Id tB) ([]:List (api_Id×Bool)):=⟨_,Tryz.zeroValue57,fun _=>⟨_,(.inl ⟨rfl,rfl⟩),rfl⟩⟩
theorem ty59:TyAt Tryz.prog 59 tredline_books:=⟨Tryz.isAgg59,Tryz.sizeOf59⟩
theorem ze59:ZeroAt Tryz.prog 59 tredline_books zredline_books:=⟨_,Tryz.zeroValue59,fun _=>⟨_,⟨_,_,rfl,(.inl ⟨rfl,rfl⟩),⟨_,_,rfl,(.inl ⟨rfl,rfl⟩),(.inl ⟨rfl,rfl⟩)⟩⟩,rfl⟩⟩
theorem ty94:TyAt Tryz.prog 94 tapi_Pair:=⟨Tryz.isAgg94,Tryz.sizeOf94⟩
theorem el94:ElAt Tryz.prog 94 tapi_Pair:=⟨⟨Tryz.t94,_,Tryz.type94,rfl,rfl,by decide,rfl⟩,by decide⟩
theorem ze94:ZeroAt Tryz.prog 94 tapi_Pair zapi_Pair:=⟨_,Tryz.zeroValue94,fun _=>⟨_,⟨_,_,rfl,⟨rfl,inR64.2 ⟨by decide,by decide⟩⟩,⟨rfl,inR64.2 ⟨by decide,by decide⟩⟩⟩,rfl⟩⟩
theorem ty120:TyAt Tryz.prog 120 tapi_Word:=⟨Tryz.isAgg120,Tryz.sizeOf120⟩
theorem ze120:ZeroAt Tryz.prog 120 tapi_Word zapi_Word:=⟨_,Tryz.zeroValue120,fun _=>⟨_,⟨_,_,rfl,⟨rfl,by decide⟩,⟨_,_,rfl,⟨rfl,inR64.2 ⟨by decide,by decide⟩⟩,⟨_,_,rfl,⟨rfl,inR64.2 ⟨by decide,by decide⟩⟩,⟨rfl,inR64.2 ⟨by decide,by decide⟩⟩⟩⟩⟩,rfl⟩⟩
theorem ty127:TyAt Tryz.prog 127 (tQ tapi_Id tdiff_place):=⟨Tryz.isAgg127,Tryz.sizeOf127⟩
theorem ze127:ZeroAt Tryz.prog 127 (tQ tapi_Id tdiff_place) ([]:List (api_Id×diff_place)):=⟨_,Tryz.zeroValue127,fun _=>⟨_,(.inl ⟨rfl,rfl⟩),rfl⟩⟩
theorem ty129:TyAt Tryz.prog 129 tdiff_pair:=⟨Tryz.isAgg129,Tryz.sizeOf129⟩
theorem ze129:ZeroAt Tryz.prog 129 tdiff_pair zdiff_pair:=⟨_,Tryz.zeroValue129,fun _=>⟨_,⟨_,_,rfl,(rapi_Unit.into.rep _ _ _ ⟨_,_,rfl,⟨_,_,rfl,⟨rfl,inR64.2 ⟨by decide,by decide⟩⟩,⟨_,_,rfl,⟨rfl,inR64.2 ⟨by decide,by decide⟩⟩,⟨rfl,inR64.2 ⟨by decide,by decide⟩⟩⟩⟩,⟨_,_,rfl,⟨rfl,inR64.2 ⟨by decide,by decide⟩⟩,⟨_,_,rfl,⟨rfl,by decide⟩,⟨_,_,rfl,⟨none,0,rfl,Nat.le_refl _,Nat.zero_le _,fun _=>rfl,rfl⟩,⟨_,_,rfl,⟨none,0,rfl,Nat.le_refl _,Nat.zero_le _,fun _=>rfl,rfl⟩,⟨none,0,rfl,Nat.le_refl _,Nat.zero_le _,fun _=>rfl,rfl⟩⟩⟩⟩⟩⟩),⟨_,_,rfl,(rapi_Unit.into.rep _ _ _ ⟨_,_,rfl,⟨_,_,rfl,⟨rfl,inR64.2 ⟨by decide,by decide⟩⟩,⟨_,_,rfl,⟨rfl,inR64.2 ⟨by decide,by decide⟩⟩,⟨rfl,inR64.2 ⟨by decide,by decide⟩⟩⟩⟩,⟨_,_,rfl,⟨rfl,inR64.2 ⟨by decide,by decide⟩⟩,⟨_,_,rfl,⟨rfl,by decide⟩,⟨_,_,rfl,⟨none,0,rfl,Nat.le_refl _,Nat.zero_le _,fun _=>rfl,rfl⟩,⟨_,_,rfl,⟨none,0,rfl,Nat.le_refl _,Nat.zero_le _,fun _=>rfl,rfl⟩,⟨none,0,rfl,Nat.le_refl _,Nat.zero_le _,fun _=>rfl,rfl⟩⟩⟩⟩⟩⟩),⟨_,_,rfl,(.inl ⟨rfl,rfl⟩),(.inl ⟨rfl,rfl⟩)⟩⟩⟩,rfl⟩⟩
theorem ty133:TyAt Tryz.prog 133 (tFun Tryz.prog (fun (f:Str→Option api_TrackedWord)=>(fun s:Str×api_TrackedWord=>f s.1=some s.2)) (fun s:Str×api_TrackedWord=>[tS.is s.1]) (fun s:Str×api_TrackedWord=>(tapi_TrackedWord.is s.2))):=⟨Tryz.isAgg133,Tryz.sizeOf133⟩
theorem ty161:TyAt Tryz.prog 161 (tL (tI .i64)):=⟨Tryz.isAgg161,Tryz.sizeOf161⟩
theorem ze161:ZeroAt Tryz.prog 161 (tL (tI .i64)) ([]:List Int):=⟨_,Tryz.zeroValue161,fun _=>⟨_,⟨none,0,rfl,Nat.le_refl _,Nat.zero_le _,fun _=>rfl,rfl⟩,rfl⟩⟩
theorem ty166:TyAt Tryz.prog 166 tunit_called:=⟨Tryz.isAgg166,Tryz.sizeOf166⟩
theorem ze166:ZeroAt Tryz.prog 166 tunit_called zunit_called:=⟨_,Tryz.zeroValue166,fun _=>⟨_,⟨_,_,rfl,⟨rfl,inR64.2 ⟨by decide,by decide⟩⟩,⟨rfl,by decide⟩⟩,rfl⟩⟩
theorem ze171:ZeroAt Tryz.prog 171 tdiff_place zdiff_place:=⟨_,Tryz.zeroValue171,fun _=>⟨_,⟨_,_,rfl,⟨_,_,rfl,⟨rfl,inR64.2 ⟨by decide,by decide⟩⟩,⟨_,_,rfl,⟨rfl,inR64.2 ⟨by decide,by decide⟩⟩,⟨rfl,inR64.2 ⟨by decide,by decide⟩⟩⟩⟩,⟨_,_,rfl,⟨rfl,inR64.2 ⟨by decide,by decide⟩⟩,(rapi_Unit.into.rep _ _ _ ⟨_,_,rfl,⟨_,_,rfl,⟨rfl,inR64.2 ⟨by decide,by decide⟩⟩,⟨_,_,rfl,⟨rfl,inR64.2 ⟨by decide,by decide⟩⟩,⟨rfl,inR64.2 ⟨by decide,by decide⟩⟩⟩⟩,⟨_,_,rfl,⟨rfl,inR64.2 ⟨by decide,by decide⟩⟩,⟨_,_,rfl,⟨rfl,by decide⟩,⟨_,_,rfl,⟨none,0,rfl,Nat.le_refl _,Nat.zero_le _,fun _=>rfl,rfl⟩,⟨_,_,rfl,⟨none,0,rfl,Nat.le_refl _,Nat.zero_le _,fun _=>rfl,rfl⟩,⟨none,0,rfl,Nat.le_refl _,Nat.zero_le _,fun _=>rfl,rfl⟩⟩⟩⟩⟩⟩)⟩⟩,rfl⟩⟩
theorem ty177:TyAt Tryz.prog 177 (tFun Tryz.prog (fun (f:Int→Int→Option Int)=>(fun s:Int×Int×Int=>f s.1 s.2.1=some s.2.2)) (fun s:Int×Int×Int=>[(tI .i64).is s.1,(tI .i64).is s.2.1]) (fun s:Int×Int×Int=>((tI .i64).is s.2.2))):=⟨Tryz.isAgg177,Tryz.sizeOf177⟩
theorem eq23:EqT (α:=api_Id) (P:=Tryz.prog) (T:=23) (t:=tapi_Id) (D:=2):=EqT.struct (D:=1) rfl Tryz.underlying23 (by kernel_rfl) ⟨_,inferInstance,_,_,_,by decide,ty3,fapi_Id_0,((EqT.int Tryz.underlying3).up (by decide)),⟨_,inferInstance,_,_,_,by decide,ty3,fapi_Id_1,((EqT.int Tryz.underlying3).up (by decide)),⟨_,inferInstance,_,_,_,by decide,ty3,fapi_Id_2,((EqT.int Tryz.underlying3).up (by decide)),rfl,rfl⟩,rfl⟩,rfl⟩ (fun x y=>by cases x;cases y;simp)
theorem eg23:Tryz.prog.eqGuardType Tryz.prog.depth 23=false:=by kernel_rfl
theorem eq166:EqT (α:=unit_called) (P:=Tryz.prog) (T:=166) (t:=tunit_called) (D:=2):=EqT.struct (D:=1) rfl Tryz.underlying166 (by kernel_rfl) ⟨_,inferInstance,_,_,_,by decide,ty3,funit_called_0,((EqT.int Tryz.underlying3).up (by decide)),⟨_,inferInstance,_,_,_,by decide,ty9,funit_called_1,((EqT.string Tryz.underlying9).up (by decide)),rfl,rfl⟩,rfl⟩ (fun x y=>by cases x;cases y;simp)
theorem fl3:Flat (tI .i64):=Flat.I
theorem kt23:KeyT Tryz.prog 23 tapi_Id:=KeyT.struct eq23 (by decide) rfl Tryz.underlying23 ⟨⟨_,_,_,ty3,fapi_Id_0,(fun h e w=>ck_int Tryz.underlying3 9998 h e w)⟩,⟨⟨_,_,_,ty3,fapi_Id_1,(fun h e w=>ck_int Tryz.underlying3 9998 h e w)⟩,⟨⟨_,_,_,ty3,fapi_Id_2,(fun h e w=>ck_int Tryz.underlying3 9998 h e w)⟩,trivial⟩⟩⟩
theorem kt166:KeyT Tryz.prog 166 tunit_called:=KeyT.struct eq166 (by decide) rfl Tryz.underlying166 ⟨⟨_,_,_,ty3,funit_called_0,(fun h e w=>ck_int Tryz.underlying3 9998 h e w)⟩,⟨⟨_,_,_,ty9,funit_called_1,(fun h e w=>ck_string Tryz.underlying9 9998 h e w)⟩,trivial⟩⟩
abbrev I6:Ty Int:=tI .i64
theorem Mx:Tryz.prog.follows .mixedOrders=true:=Tryz.mixed
theorem C6(xs:Array Value)(w:World):(callFunc 6 xs).run Tryz.prog w= .ok (.enter 6 xs) w:=Tryz.call6 xs w
theorem C7(xs:Array Value)(w:World):(callFunc 7 xs).run Tryz.prog w= .ok (.enter 7 xs) w:=Tryz.call7 xs w
theorem C8(xs:Array Value)(w:World):(callFunc 8 xs).run Tryz.prog w= .ok (.enter 8 xs) w:=Tryz.call8 xs w
theorem C9(xs:Array Value)(w:World):(callFunc 9 xs).run Tryz.prog w= .ok (.enter 9 xs) w:=Tryz.call9 xs w
theorem C10(xs:Array Value)(w:World):(callFunc 10 xs).run Tryz.prog w= .ok (.enter 10 xs) w:=Tryz.call10 xs w
theorem C11(xs:Array Value)(w:World):(callFunc 11 xs).run Tryz.prog w= .ok (.enter 11 xs) w:=Tryz.call11 xs w
theorem C12(xs:Array Value)(w:World):(callFunc 12 xs).run Tryz.prog w= .ok (.enter 12 xs) w:=Tryz.call12 xs w
theorem C14(xs:Array Value)(w:World):(callFunc 14 xs).run Tryz.prog w= .ok (.enter 14 xs) w:=Tryz.call14 xs w
theorem C23(xs:Array Value)(w:World):(callFunc 23 xs).run Tryz.prog w= .ok (.enter 23 xs) w:=Tryz.call23 xs w
theorem C24(xs:Array Value)(w:World):(callFunc 24 xs).run Tryz.prog w= .ok (.enter 24 xs) w:=Tryz.call24 xs w
theorem C25(xs:Array Value)(w:World):(callFunc 25 xs).run Tryz.prog w= .ok (.enter 25 xs) w:=Tryz.call25 xs w
theorem C26(xs:Array Value)(w:World):(callFunc 26 xs).run Tryz.prog w= .ok (.enter 26 xs) w:=Tryz.call26 xs w
theorem C27(xs:Array Value)(w:World):(callFunc 27 xs).run Tryz.prog w= .ok (.enter 27 xs) w:=Tryz.call27 xs w
theorem C28(xs:Array Value)(w:World):(callFunc 28 xs).run Tryz.prog w= .ok (.enter 28 xs) w:=Tryz.call28 xs w
theorem C29(xs:Array Value)(w:World):(callFunc 29 xs).run Tryz.prog w= .ok (.enter 29 xs) w:=Tryz.call29 xs w
theorem C30(xs:Array Value)(w:World):(callFunc 30 xs).run Tryz.prog w= .ok (.enter 30 xs) w:=Tryz.call30 xs w
theorem C31(xs:Array Value)(w:World):(callFunc 31 xs).run Tryz.prog w= .ok (.enter 31 xs) w:=Tryz.call31 xs w
theorem C33(xs:Array Value)(w:World):(callFunc 33 xs).run Tryz.prog w= .ok (.enter 33 xs) w:=Tryz.call33 xs w
theorem C37(xs:Array Value)(w:World):(callFunc 37 xs).run Tryz.prog w= .ok (.enter 37 xs) w:=Tryz.call37 xs w
theorem C43(xs:Array Value)(w:World):(callFunc 43 xs).run Tryz.prog w= .ok (.enter 43 xs) w:=Tryz.call43 xs w
theorem C44(xs:Array Value)(w:World):(callFunc 44 xs).run Tryz.prog w= .ok (.enter 44 xs) w:=Tryz.call44 xs w
theorem C45(xs:Array Value)(w:World):(callFunc 45 xs).run Tryz.prog w= .ok (.enter 45 xs) w:=Tryz.call45 xs w
theorem C46(xs:Array Value)(w:World):(callFunc 46 xs).run Tryz.prog w= .ok (.enter 46 xs) w:=Tryz.call46 xs w
theorem C47(xs:Array Value)(w:World):(callFunc 47 xs).run Tryz.prog w= .ok (.enter 47 xs) w:=Tryz.call47 xs w
theorem C48(xs:Array Value)(w:World):(callFunc 48 xs).run Tryz.prog w= .ok (.enter 48 xs) w:=Tryz.call48 xs w
theorem C49(xs:Array Value)(w:World):(callFunc 49 xs).run Tryz.prog w= .ok (.enter 49 xs) w:=Tryz.call49 xs w
theorem C50(xs:Array Value)(w:World):(callFunc 50 xs).run Tryz.prog w= .ok (.enter 50 xs) w:=Tryz.call50 xs w
theorem C51(xs:Array Value)(w:World):(callFunc 51 xs).run Tryz.prog w= .ok (.enter 51 xs) w:=Tryz.call51 xs w
theorem C52(xs:Array Value)(w:World):(callFunc 52 xs).run Tryz.prog w= .ok (.enter 52 xs) w:=Tryz.call52 xs w
theorem C53(xs:Array Value)(w:World):(callFunc 53 xs).run Tryz.prog w= .ok (.enter 53 xs) w:=Tryz.call53 xs w
theorem C54(xs:Array Value)(w:World):(callFunc 54 xs).run Tryz.prog w= .ok (.enter 54 xs) w:=Tryz.call54 xs w
theorem C55(xs:Array Value)(w:World):(callFunc 55 xs).run Tryz.prog w= .ok (.enter 55 xs) w:=Tryz.call55 xs w
theorem C56(xs:Array Value)(w:World):(callFunc 56 xs).run Tryz.prog w= .ok (.enter 56 xs) w:=Tryz.call56 xs w
theorem C57(xs:Array Value)(w:World):(callFunc 57 xs).run Tryz.prog w= .ok (.enter 57 xs) w:=Tryz.call57 xs w
theorem C58(xs:Array Value)(w:World):(callFunc 58 xs).run Tryz.prog w= .ok (.enter 58 xs) w:=Tryz.call58 xs w
theorem C59(xs:Array Value)(w:World):(callFunc 59 xs).run Tryz.prog w= .ok (.enter 59 xs) w:=Tryz.call59 xs w
theorem C60(xs:Array Value)(w:World):(callFunc 60 xs).run Tryz.prog w= .ok (.enter 60 xs) w:=Tryz.call60 xs w
theorem C61(xs:Array Value)(w:World):(callFunc 61 xs).run Tryz.prog w= .ok (.enter 61 xs) w:=Tryz.call61 xs w
theorem C62(xs:Array Value)(w:World):(callFunc 62 xs).run Tryz.prog w= .ok (.enter 62 xs) w:=Tryz.call62 xs w
theorem C63(xs:Array Value)(w:World):(callFunc 63 xs).run Tryz.prog w= .ok (.enter 63 xs) w:=Tryz.call63 xs w
theorem C64(xs:Array Value)(w:World):(callFunc 64 xs).run Tryz.prog w= .ok (.enter 64 xs) w:=Tryz.call64 xs w
theorem C65(xs:Array Value)(w:World):(callFunc 65 xs).run Tryz.prog w= .ok (.enter 65 xs) w:=Tryz.call65 xs w
theorem C66(xs:Array Value)(w:World):(callFunc 66 xs).run Tryz.prog w= .ok (.enter 66 xs) w:=Tryz.call66 xs w
theorem C67(xs:Array Value)(w:World):(callFunc 67 xs).run Tryz.prog w= .ok (.enter 67 xs) w:=Tryz.call67 xs w
theorem C68(xs:Array Value)(w:World):(callFunc 68 xs).run Tryz.prog w= .ok (.enter 68 xs) w:=Tryz.call68 xs w
theorem C74(xs:Array Value)(w:World):(callFunc 74 xs).run Tryz.prog w= .ok (.enter 74 xs) w:=Tryz.call74 xs w
theorem C75(xs:Array Value)(w:World):(callFunc 75 xs).run Tryz.prog w= .ok (.enter 75 xs) w:=Tryz.call75 xs w
theorem C76(xs:Array Value)(w:World):(callFunc 76 xs).run Tryz.prog w= .ok (.enter 76 xs) w:=Tryz.call76 xs w
theorem C77(xs:Array Value)(w:World):(callFunc 77 xs).run Tryz.prog w= .ok (.enter 77 xs) w:=Tryz.call77 xs w
theorem C78(xs:Array Value)(w:World):(callFunc 78 xs).run Tryz.prog w= .ok (.enter 78 xs) w:=Tryz.call78 xs w
theorem C79(xs:Array Value)(w:World):(callFunc 79 xs).run Tryz.prog w= .ok (.enter 79 xs) w:=Tryz.call79 xs w
theorem C80(xs:Array Value)(w:World):(callFunc 80 xs).run Tryz.prog w= .ok (.enter 80 xs) w:=Tryz.call80 xs w
theorem C81(xs:Array Value)(w:World):(callFunc 81 xs).run Tryz.prog w= .ok (.enter 81 xs) w:=Tryz.call81 xs w
theorem C82(xs:Array Value)(w:World):(callFunc 82 xs).run Tryz.prog w= .ok (.enter 82 xs) w:=Tryz.call82 xs w
theorem C83(xs:Array Value)(w:World):(callFunc 83 xs).run Tryz.prog w= .ok (.enter 83 xs) w:=Tryz.call83 xs w
theorem C84(xs:Array Value)(w:World):(callFunc 84 xs).run Tryz.prog w= .ok (.enter 84 xs) w:=Tryz.call84 xs w
theorem C85(xs:Array Value)(w:World):(callFunc 85 xs).run Tryz.prog w= .ok (.enter 85 xs) w:=Tryz.call85 xs w
theorem C86(xs:Array Value)(w:World):(callFunc 86 xs).run Tryz.prog w= .ok (.enter 86 xs) w:=Tryz.call86 xs w
theorem C87(xs:Array Value)(w:World):(callFunc 87 xs).run Tryz.prog w= .ok (.enter 87 xs) w:=Tryz.call87 xs w
theorem C88(xs:Array Value)(w:World):(callFunc 88 xs).run Tryz.prog w= .ok (.enter 88 xs) w:=Tryz.call88 xs w
theorem C89(xs:Array Value)(w:World):(callFunc 89 xs).run Tryz.prog w= .ok (.enter 89 xs) w:=Tryz.call89 xs w
theorem C90(xs:Array Value)(w:World):(callFunc 90 xs).run Tryz.prog w= .ok (.enter 90 xs) w:=Tryz.call90 xs w
theorem C91(xs:Array Value)(w:World):(callFunc 91 xs).run Tryz.prog w= .ok (.enter 91 xs) w:=Tryz.call91 xs w
theorem C92(xs:Array Value)(w:World):(callFunc 92 xs).run Tryz.prog w= .ok (.enter 92 xs) w:=Tryz.call92 xs w
theorem C93(xs:Array Value)(w:World):(callFunc 93 xs).run Tryz.prog w= .ok (.enter 93 xs) w:=Tryz.call93 xs w
theorem C94(xs:Array Value)(w:World):(callFunc 94 xs).run Tryz.prog w= .ok (.enter 94 xs) w:=Tryz.call94 xs w
theorem C95(xs:Array Value)(w:World):(callFunc 95 xs).run Tryz.prog w= .ok (.enter 95 xs) w:=Tryz.call95 xs w
theorem C96(xs:Array Value)(w:World):(callFunc 96 xs).run Tryz.prog w= .ok (.enter 96 xs) w:=Tryz.call96 xs w
theorem C100(xs:Array Value)(w:World):(callFunc 100 xs).run Tryz.prog w= .ok (.enter 100 xs) w:=Tryz.call100 xs w
theorem C101(xs:Array Value)(w:World):(callFunc 101 xs).run Tryz.prog w= .ok (.enter 101 xs) w:=Tryz.call101 xs w
theorem C115(xs:Array Value)(w:World):(callFunc 115 xs).run Tryz.prog w= .ok (.enter 115 xs) w:=Tryz.call115 xs w
theorem C116(xs:Array Value)(w:World):(callFunc 116 xs).run Tryz.prog w= .ok (.enter 116 xs) w:=Tryz.call116 xs w
theorem C117(xs:Array Value)(w:World):(callFunc 117 xs).run Tryz.prog w= .ok (.enter 117 xs) w:=Tryz.call117 xs w
theorem C118(xs:Array Value)(w:World):(callFunc 118 xs).run Tryz.prog w= .ok (.enter 118 xs) w:=Tryz.call118 xs w
theorem C119(xs:Array Value)(w:World):(callFunc 119 xs).run Tryz.prog w= .ok (.enter 119 xs) w:=Tryz.call119 xs w
theorem C120(xs:Array Value)(w:World):(callFunc 120 xs).run Tryz.prog w= .ok (.enter 120 xs) w:=Tryz.call120 xs w
theorem C121(xs:Array Value)(w:World):(callFunc 121 xs).run Tryz.prog w= .ok (.enter 121 xs) w:=Tryz.call121 xs w
theorem C122(xs:Array Value)(w:World):(callFunc 122 xs).run Tryz.prog w= .ok (.enter 122 xs) w:=Tryz.call122 xs w
theorem C123(xs:Array Value)(w:World):(callFunc 123 xs).run Tryz.prog w= .ok (.enter 123 xs) w:=Tryz.call123 xs w
theorem C124(xs:Array Value)(w:World):(callFunc 124 xs).run Tryz.prog w= .ok (.enter 124 xs) w:=Tryz.call124 xs w
theorem C125(xs:Array Value)(w:World):(callFunc 125 xs).run Tryz.prog w= .ok (.enter 125 xs) w:=Tryz.call125 xs w
theorem C126(xs:Array Value)(w:World):(callFunc 126 xs).run Tryz.prog w= .ok (.enter 126 xs) w:=Tryz.call126 xs w
theorem C127(xs:Array Value)(w:World):(callFunc 127 xs).run Tryz.prog w= .ok (.enter 127 xs) w:=Tryz.call127 xs w
theorem C128(xs:Array Value)(w:World):(callFunc 128 xs).run Tryz.prog w= .ok (.enter 128 xs) w:=Tryz.call128 xs w
theorem C129(xs:Array Value)(w:World):(callFunc 129 xs).run Tryz.prog w= .ok (.enter 129 xs) w:=Tryz.call129 xs w
theorem C130(xs:Array Value)(w:World):(callFunc 130 xs).run Tryz.prog w= .ok (.enter 130 xs) w:=Tryz.call130 xs w
theorem C131(xs:Array Value)(w:World):(callFunc 131 xs).run Tryz.prog w= .ok (.enter 131 xs) w:=Tryz.call131 xs w
theorem C132(xs:Array Value)(w:World):(callFunc 132 xs).run Tryz.prog w= .ok (.enter 132 xs) w:=Tryz.call132 xs w
theorem C133(xs:Array Value)(w:World):(callFunc 133 xs).run Tryz.prog w= .ok (.enter 133 xs) w:=Tryz.call133 xs w
theorem C134(xs:Array Value)(w:World):(callFunc 134 xs).run Tryz.prog w= .ok (.enter 134 xs) w:=Tryz.call134 xs w
theorem C135(xs:Array Value)(w:World):(callFunc 135 xs).run Tryz.prog w= .ok (.enter 135 xs) w:=Tryz.call135 xs w
theorem C154(xs:Array Value)(w:World):(callFunc 154 xs).run Tryz.prog w= .ok (.enter 154 xs) w:=Tryz.call154 xs w
theorem C155(xs:Array Value)(w:World):(callFunc 155 xs).run Tryz.prog w= .ok (.enter 155 xs) w:=Tryz.call155 xs w
theorem C156(xs:Array Value)(w:World):(callFunc 156 xs).run Tryz.prog w= .ok (.enter 156 xs) w:=Tryz.call156 xs w
theorem C158(xs:Array Value)(w:World):(callFunc 158 xs).run Tryz.prog w= .ok (.enter 158 xs) w:=Tryz.call158 xs w
theorem C159(xs:Array Value)(w:World):(callFunc 159 xs).run Tryz.prog w= .ok (.enter 159 xs) w:=Tryz.call159 xs w
theorem C160(xs:Array Value)(w:World):(callFunc 160 xs).run Tryz.prog w= .ok (.enter 160 xs) w:=Tryz.call160 xs w
theorem C161(xs:Array Value)(w:World):(callFunc 161 xs).run Tryz.prog w= .ok (.enter 161 xs) w:=Tryz.call161 xs w
theorem C162(xs:Array Value)(w:World):(callFunc 162 xs).run Tryz.prog w= .ok (.enter 162 xs) w:=Tryz.call162 xs w
theorem C163(xs:Array Value)(w:World):(callFunc 163 xs).run Tryz.prog w= .ok (.enter 163 xs) w:=Tryz.call163 xs w
theorem C164(xs:Array Value)(w:World):(callFunc 164 xs).run Tryz.prog w= .ok (.enter 164 xs) w:=Tryz.call164 xs w
theorem C165(xs:Array Value)(w:World):(callFunc 165 xs).run Tryz.prog w= .ok (.enter 165 xs) w:=Tryz.call165 xs w
theorem C166(xs:Array Value)(w:World):(callFunc 166 xs).run Tryz.prog w= .ok (.enter 166 xs) w:=Tryz.call166 xs w
theorem C167(xs:Array Value)(w:World):(callFunc 167 xs).run Tryz.prog w= .ok (.enter 167 xs) w:=Tryz.call167 xs w
theorem C178(xs:Array Value)(w:World):(callFunc 178 xs).run Tryz.prog w= .ok (.enter 178 xs) w:=Tryz.call178 xs w
theorem C179(xs:Array Value)(w:World):(callFunc 179 xs).run Tryz.prog w= .ok (.enter 179 xs) w:=Tryz.call179 xs w
theorem C180(xs:Array Value)(w:World):(callFunc 180 xs).run Tryz.prog w= .ok (.enter 180 xs) w:=Tryz.call180 xs w
theorem C181(xs:Array Value)(w:World):(callFunc 181 xs).run Tryz.prog w= .ok (.enter 181 xs) w:=Tryz.call181 xs w
theorem C182(xs:Array Value)(w:World):(callFunc 182 xs).run Tryz.prog w= .ok (.enter 182 xs) w:=Tryz.call182 xs w
theorem C183(xs:Array Value)(w:World):(callFunc 183 xs).run Tryz.prog w= .ok (.enter 183 xs) w:=Tryz.call183 xs w
theorem C197(xs:Array Value)(w:World):(callFunc 197 xs).run Tryz.prog w= .ok (.enter 197 xs) w:=Tryz.call197 xs w
theorem J3(w:World):∃ m,(sizeOf 3).run Tryz.prog w= .ok (m+1) w:=⟨0,Tryz.sizeOf3 w⟩
theorem J4(w:World):∃ m,(sizeOf 4).run Tryz.prog w= .ok (m+1) w:=⟨0,Tryz.sizeOf4 w⟩
theorem J9(w:World):∃ m,(sizeOf 9).run Tryz.prog w= .ok (m+1) w:=⟨0,Tryz.sizeOf9 w⟩
theorem J23(w:World):∃ m,(sizeOf 23).run Tryz.prog w= .ok (m+1) w:=⟨2,Tryz.sizeOf23 w⟩
theorem J24(w:World):∃ m,(sizeOf 24).run Tryz.prog w= .ok (m+1) w:=⟨0,Tryz.sizeOf24 w⟩
theorem J25(w:World):∃ m,(sizeOf 25).run Tryz.prog w= .ok (m+1) w:=⟨0,Tryz.sizeOf25 w⟩
theorem J27(w:World):∃ m,(sizeOf 27).run Tryz.prog w= .ok (m+1) w:=⟨7,Tryz.sizeOf27 w⟩
theorem J30(w:World):∃ m,(sizeOf 30).run Tryz.prog w= .ok (m+1) w:=⟨0,Tryz.sizeOf30 w⟩
theorem J31(w:World):∃ m,(sizeOf 31).run Tryz.prog w= .ok (m+1) w:=⟨0,Tryz.sizeOf31 w⟩
theorem J56(w:World):∃ m,(sizeOf 56).run Tryz.prog w= .ok (m+1) w:=⟨0,Tryz.sizeOf56 w⟩
theorem J57(w:World):∃ m,(sizeOf 57).run Tryz.prog w= .ok (m+1) w:=⟨0,Tryz.sizeOf57 w⟩
theorem J103(w:World):∃ m,(sizeOf 103).run Tryz.prog w= .ok (m+1) w:=⟨0,Tryz.sizeOf103 w⟩
theorem J127(w:World):∃ m,(sizeOf 127).run Tryz.prog w= .ok (m+1) w:=⟨0,Tryz.sizeOf127 w⟩
theorem U4:Tryz.prog.underlying 4=some (.bool):=Tryz.underlying4
theorem U5:Tryz.prog.underlying 5=some (.int .u8):=Tryz.underlying5
theorem U9:Tryz.prog.underlying 9=some (.string):=Tryz.underlying9
theorem U23:Tryz.prog.underlying 23=some (.struct #[⟨ "Act",3,0,false,"","",0⟩,⟨ "Item",3,1,false,"","",8⟩,⟨ "N",3,2,false,"","",16⟩]):=Tryz.underlying23
theorem U24:Tryz.prog.underlying 24=some (.slice 120):=Tryz.underlying24
theorem U25:Tryz.prog.underlying 25=some (.slice 27):=Tryz.underlying25
theorem U27:Tryz.prog.underlying 27=some (.struct #[⟨ "Id",23,0,false,"","",0⟩,⟨ "Kind",3,3,false,"","",24⟩,⟨ "Label",9,4,false,"","",32⟩,⟨ "Head",24,5,false,"","",48⟩,⟨ "Words",24,6,false,"","",72⟩,⟨ "Kids",25,7,false,"","",96⟩]):=Tryz.underlying27
theorem U30:Tryz.prog.underlying 30=some (.slice 53):=Tryz.underlying30
theorem U31:Tryz.prog.underlying 31=some (.slice 33):=Tryz.underlying31
theorem U33:Tryz.prog.underlying 33=some (.struct #[⟨ "State",3,0,false,"","",0⟩,⟨ "Kind",3,1,false,"","",8⟩,⟨ "Id",23,2,false,"","",16⟩,⟨ "Label",9,5,false,"","",40⟩,⟨ "Was",9,6,false,"","",56⟩,⟨ "Moved",4,7,false,"","",72⟩,⟨ "Head",30,8,false,"","",80⟩,⟨ "Words",30,9,false,"","",104⟩,⟨ "Kids",31,10,false,"","",128⟩]):=Tryz.underlying33
theorem U38:Tryz.prog.underlying 38=some (.slice 9):=Tryz.underlying38
theorem U53:Tryz.prog.underlying 53=some (.struct #[⟨ "State",3,0,false,"","",0⟩,⟨ "Text",9,1,false,"","",8⟩]):=Tryz.underlying53
theorem U56:Tryz.prog.underlying 56=some (.map 23 27):=Tryz.underlying56
theorem U57:Tryz.prog.underlying 57=some (.map 23 4):=Tryz.underlying57
theorem U83:Tryz.prog.underlying 83=some (.array 3 9):=Tryz.underlying83
theorem U88:Tryz.prog.underlying 88=some (.slice 23):=Tryz.underlying88
theorem U91:Tryz.prog.underlying 91=some (.slice 94):=Tryz.underlying91
theorem U94:Tryz.prog.underlying 94=some (.struct #[⟨ "A",3,0,false,"","",0⟩,⟨ "B",3,1,false,"","",8⟩]):=Tryz.underlying94
theorem U103:Tryz.prog.underlying 103=some (.slice 5):=Tryz.underlying103
theorem U120:Tryz.prog.underlying 120=some (.struct #[⟨ "Text",9,0,false,"","",0⟩,⟨ "By",118,1,false,"","",16⟩]):=Tryz.underlying120
theorem U127:Tryz.prog.underlying 127=some (.map 23 171):=Tryz.underlying127
theorem U145:Tryz.prog.underlying 145=some (.array 8 9):=Tryz.underlying145
theorem U146:Tryz.prog.underlying 146=some (.pointer 5):=Tryz.underlying146
theorem U161:Tryz.prog.underlying 161=some (.slice 3):=Tryz.underlying161
theorem U164:Tryz.prog.underlying 164=some (.map 166 4):=Tryz.underlying164
theorem U205:Tryz.prog.underlying 205=some (.array 8 161):=Tryz.underlying205
theorem U208:Tryz.prog.underlying 208=some (.slice 38):=Tryz.underlying208
theorem Y3(w:World):(isAgg 3).run Tryz.prog w= .ok false w:=Tryz.isAgg3 w
theorem Y33(w:World):(isAgg 33).run Tryz.prog w= .ok true w:=Tryz.isAgg33 w
theorem Y38(w:World):(isAgg 38).run Tryz.prog w= .ok false w:=Tryz.isAgg38 w
theorem Y53(w:World):(isAgg 53).run Tryz.prog w= .ok true w:=Tryz.isAgg53 w
theorem Y59(w:World):(isAgg 59).run Tryz.prog w= .ok true w:=Tryz.isAgg59 w
theorem Y63(w:World):(isAgg 63).run Tryz.prog w= .ok false w:=Tryz.isAgg63 w
theorem Y88(w:World):(isAgg 88).run Tryz.prog w= .ok false w:=Tryz.isAgg88 w
theorem Y94(w:World):(isAgg 94).run Tryz.prog w= .ok true w:=Tryz.isAgg94 w
theorem Y103(w:World):(isAgg 103).run Tryz.prog w= .ok false w:=Tryz.isAgg103 w
theorem Y129(w:World):(isAgg 129).run Tryz.prog w= .ok true w:=Tryz.isAgg129 w
theorem Y161(w:World):(isAgg 161).run Tryz.prog w= .ok false w:=Tryz.isAgg161 w
theorem Y206(w:World):(isAgg 206).run Tryz.prog w= .ok false w:=Tryz.isAgg206 w
theorem Z3(w:World):(sizeOf 3).run Tryz.prog w= .ok 1 w:=Tryz.sizeOf3 w
theorem Z4(w:World):(sizeOf 4).run Tryz.prog w= .ok 1 w:=Tryz.sizeOf4 w
theorem Z5(w:World):(sizeOf 5).run Tryz.prog w= .ok 1 w:=Tryz.sizeOf5 w
theorem Z9(w:World):(sizeOf 9).run Tryz.prog w= .ok 1 w:=Tryz.sizeOf9 w
theorem Z23(w:World):(sizeOf 23).run Tryz.prog w= .ok 3 w:=Tryz.sizeOf23 w
theorem Z27(w:World):(sizeOf 27).run Tryz.prog w= .ok 8 w:=Tryz.sizeOf27 w
theorem Z30(w:World):(sizeOf 30).run Tryz.prog w= .ok 1 w:=Tryz.sizeOf30 w
theorem Z33(w:World):(sizeOf 33).run Tryz.prog w= .ok 11 w:=Tryz.sizeOf33 w
theorem Z38(w:World):(sizeOf 38).run Tryz.prog w= .ok 1 w:=Tryz.sizeOf38 w
theorem Z53(w:World):(sizeOf 53).run Tryz.prog w= .ok 2 w:=Tryz.sizeOf53 w
theorem Z56(w:World):(sizeOf 56).run Tryz.prog w= .ok 1 w:=Tryz.sizeOf56 w
theorem Z57(w:World):(sizeOf 57).run Tryz.prog w= .ok 1 w:=Tryz.sizeOf57 w
theorem Z59(w:World):(sizeOf 59).run Tryz.prog w= .ok 3 w:=Tryz.sizeOf59 w
theorem Z63(w:World):(sizeOf 63).run Tryz.prog w= .ok 1 w:=Tryz.sizeOf63 w
theorem Z88(w:World):(sizeOf 88).run Tryz.prog w= .ok 1 w:=Tryz.sizeOf88 w
theorem Z94(w:World):(sizeOf 94).run Tryz.prog w= .ok 2 w:=Tryz.sizeOf94 w
theorem Z103(w:World):(sizeOf 103).run Tryz.prog w= .ok 1 w:=Tryz.sizeOf103 w
theorem Z120(w:World):(sizeOf 120).run Tryz.prog w= .ok 4 w:=Tryz.sizeOf120 w
theorem Z127(w:World):(sizeOf 127).run Tryz.prog w= .ok 1 w:=Tryz.sizeOf127 w
theorem Z129(w:World):(sizeOf 129).run Tryz.prog w= .ok 18 w:=Tryz.sizeOf129 w
theorem Z133(w:World):(sizeOf 133).run Tryz.prog w= .ok 1 w:=Tryz.sizeOf133 w
theorem Z161(w:World):(sizeOf 161).run Tryz.prog w= .ok 1 w:=Tryz.sizeOf161 w
theorem Z166(w:World):(sizeOf 166).run Tryz.prog w= .ok 2 w:=Tryz.sizeOf166 w
theorem Z171(w:World):(sizeOf 171).run Tryz.prog w= .ok 12 w:=Tryz.sizeOf171 w
theorem Z177(w:World):(sizeOf 177).run Tryz.prog w= .ok 1 w:=Tryz.sizeOf177 w
theorem Z206(w:World):(sizeOf 206).run Tryz.prog w= .ok 1 w:=Tryz.sizeOf206 w
end Go.Proofs.YtalogjkalmkpjaaGreatDoor
