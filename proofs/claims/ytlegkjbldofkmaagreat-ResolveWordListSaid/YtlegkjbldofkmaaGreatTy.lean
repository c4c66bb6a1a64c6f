/-
  How the types of the program are read.
-/
import Derived.Test.YtlegkjbldofkmaaGreatDec23
import Derived.Test.YtlegkjbldofkmaaGreatDec24
import Derived.Test.YtlegkjbldofkmaaGreatSh
import Derived.Test.YtlegkjbldofkmaaGreatDec25
import Derived.Test.YtlegkjbldofkmaaGreatDec26
import Derived.Test.YtlegkjbldofkmaaGreatDec27
import Derived.Test.YtlegkjbldofkmaaGreatDec28
import Derived.Test.YtlegkjbldofkmaaGreatMdl
import Derived.Test.YtlegkjbldofkmaaGreatProg
import Derived.KernelRfl
set_option maxRecDepth 100000
namespace Go.Proofs.YtlegkjbldofkmaaGreat
open Go Go.Dec
theorem Tryz.mixed:Tryz.prog.follows .mixedOrders=true:=by kernel_rfl
def tapi_Id:Ty api_Id:=tMap (tP (tI .i64) (tP (tI .i64) (tOne (tI .i64)))) (fun x:api_Id=>(x.Act,x.Item,x.N))
theorem fapi_Id_0:Fld tapi_Id 0 (tI .i64) (fun x=>x.Act):=(Fld.map (m:=(fun x:api_Id=>(x.Act,x.Item,x.N))) (Fld.here (tI .i64) (tP (tI .i64) (tOne (tI .i64))))).cast rfl rfl
theorem sapi_Id_0:FldSet tapi_Id 0 (tI .i64) (fun x y=>{x with Act:=y}):=(FldSet.map (m:=(fun x:api_Id=>(x.Act,x.Item,x.N))) (f':=fun x y=>{x with Act:=y}) (FldSet.here (tI .i64) (tP (tI .i64) (tOne (tI .i64)))) (fun _ _=>rfl)).cast rfl rfl
theorem fapi_Id_1:Fld tapi_Id 1 (tI .i64) (fun x=>x.Item):=(Fld.map (m:=(fun x:api_Id=>(x.Act,x.Item,x.N))) (Fld.next (s:=(tI .i64)) (Fld.here (tI .i64) (tOne (tI .i64))))).cast rfl rfl
theorem fapi_Id_2:Fld tapi_Id 2 (tI .i64) (fun x=>x.N):=(Fld.map (m:=(fun x:api_Id=>(x.Act,x.Item,x.N))) (Fld.next (s:=(tI .i64)) (Fld.next (s:=(tI .i64)) (Fld.one (tI .i64))))).cast rfl rfl
theorem sapi_Id_2:FldSet tapi_Id 2 (tI .i64) (fun x y=>{x with N:=y}):=(FldSet.map (m:=(fun x:api_Id=>(x.Act,x.Item,x.N))) (f':=fun x y=>{x with N:=y}) (FldSet.next (s:=(tI .i64)) (FldSet.next (s:=(tI .i64)) (FldSet.one (tI .i64)))) (fun _ _=>rfl)).cast rfl rfl
def zapi_Id_f(fd:Field):Nat:=if fd.type=3 then 1 else 0
theorem zapi_Id_sz:∀ fs,Tryz.prog.underlying 23=some (.struct fs)→∀ fd,fd∈fs→∀ w,(sizeOf fd.type).run Tryz.prog w= .ok (zapi_Id_f fd) w:=by
 intro fs h
 rw [Tryz.underlying23] at h
 cases h
 intro fd hfd w
 simp only [List.mem_toArray,List.mem_cons,List.not_mem_nil,or_false] at hfd
 rcases hfd with rfl | rfl | rfl
 ·exact Tryz.sizeOf3 w
 ·exact Tryz.sizeOf3 w
 ·exact Tryz.sizeOf3 w
def tapi_Mark:Ty api_Mark:=tMap (tP (tI .i64) (tP (tI .i64) (tOne (tI .i64)))) (fun x:api_Mark=>(x.Act,x.Item,x.At))
def tapi_Word:Ty api_Word:=tMap (tP tS (tOne tapi_Mark)) (fun x:api_Word=>(x.Text,x.By))
theorem fapi_Word_0:Fld tapi_Word 0 tS (fun x=>x.Text):=(Fld.map (m:=(fun x:api_Word=>(x.Text,x.By))) (Fld.here tS (tOne tapi_Mark))).cast rfl rfl
def Fapi_Unit(X:Ty api_Unit):Ty api_Unit:=tMap (tP tapi_Id (tP (tI .i64) (tP tS (tP (tL tapi_Word) (tP (tL tapi_Word) (tOne (tL X))))))) (fun x:api_Unit=>(x.Id,x.Kind,x.Label,x.Head,x.Words,x.Kids))
theorem capi_Unit:Cont Fapi_Unit:=Cont.map (fun x:api_Unit=>(x.Id,x.Kind,x.Label,x.Head,x.Words,x.Kids)) (Cont.pair (Cont.const _) (Cont.pair (Cont.const _) (Cont.pair (Cont.const _) (Cont.pair (Cont.const _) (Cont.pair (Cont.const _) (Cont.one ((Cont.list Cont.id))))))))
theorem rapi_Unit:Rec Fapi_Unit 8:=⟨capi_Unit,rfl,rfl⟩
def tapi_Unit:Ty api_Unit:=tFix rapi_Unit
theorem fapi_Unit_0:Fld tapi_Unit 0 tapi_Id (fun x=>x.Id):=Fld.le rapi_Unit.out ((Fld.map (m:=(fun x:api_Unit=>(x.Id,x.Kind,x.Label,x.Head,x.Words,x.Kids))) (Fld.here tapi_Id (tP (tI .i64) (tP tS (tP (tL tapi_Word) (tP (tL tapi_Word) (tOne (tL tapi_Unit)))))))).cast rfl rfl)
theorem sapi_Unit_0:FldSet tapi_Unit 0 tapi_Id (fun x y=>{x with Id:=y}):=FldSet.le rapi_Unit.out rapi_Unit.into ((FldSet.map (m:=(fun x:api_Unit=>(x.Id,x.Kind,x.Label,x.Head,x.Words,x.Kids))) (f':=fun x y=>{x with Id:=y}) (FldSet.here tapi_Id (tP (tI .i64) (tP tS (tP (tL tapi_Word) (tP (tL tapi_Word) (tOne (tL tapi_Unit))))))) (fun _ _=>rfl)).cast rfl rfl)
theorem fapi_Unit_1:Fld tapi_Unit 3 (tI .i64) (fun x=>x.Kind):=Fld.le rapi_Unit.out ((Fld.map (m:=(fun x:api_Unit=>(x.Id,x.Kind,x.Label,x.Head,x.Words,x.Kids))) (Fld.next (s:=tapi_Id) (Fld.here (tI .i64) (tP tS (tP (tL tapi_Word) (tP (tL tapi_Word) (tOne (tL tapi_Unit)))))))).cast rfl rfl)
theorem sapi_Unit_1:FldSet tapi_Unit 3 (tI .i64) (fun x y=>{x with Kind:=y}):=FldSet.le rapi_Unit.out rapi_Unit.into ((FldSet.map (m:=(fun x:api_Unit=>(x.Id,x.Kind,x.Label,x.Head,x.Words,x.Kids))) (f':=fun x y=>{x with Kind:=y}) (FldSet.next (s:=tapi_Id) (FldSet.here (tI .i64) (tP tS (tP (tL tapi_Word) (tP (tL tapi_Word) (tOne (tL tapi_Unit))))))) (fun _ _=>rfl)).cast rfl rfl)
theorem fapi_Unit_2:Fld tapi_Unit 4 tS (fun x=>x.Label):=Fld.le rapi_Unit.out ((Fld.map (m:=(fun x:api_Unit=>(x.Id,x.Kind,x.Label,x.Head,x.Words,x.Kids))) (Fld.next (s:=tapi_Id) (Fld.next (s:=(tI .i64)) (Fld.here tS (tP (tL tapi_Word) (tP (tL tapi_Word) (tOne (tL tapi_Unit)))))))).cast rfl rfl)
theorem sapi_Unit_2:FldSet tapi_Unit 4 tS (fun x y=>{x with Label:=y}):=FldSet.le rapi_Unit.out rapi_Unit.into ((FldSet.map (m:=(fun x:api_Unit=>(x.Id,x.Kind,x.Label,x.Head,x.Words,x.Kids))) (f':=fun x y=>{x with Label:=y}) (FldSet.next (s:=tapi_Id) (FldSet.next (s:=(tI .i64)) (FldSet.here tS (tP (tL tapi_Word) (tP (tL tapi_Word) (tOne (tL tapi_Unit))))))) (fun _ _=>rfl)).cast rfl rfl)
theorem fapi_Unit_3:Fld tapi_Unit 5 (tL tapi_Word) (fun x=>x.Head):=Fld.le rapi_Unit.out ((Fld.map (m:=(fun x:api_Unit=>(x.Id,x.Kind,x.Label,x.Head,x.Words,x.Kids))) (Fld.next (s:=tapi_Id) (Fld.next (s:=(tI .i64)) (Fld.next (s:=tS) (Fld.here (tL tapi_Word) (tP (tL tapi_Word) (tOne (tL tapi_Unit)))))))).cast rfl rfl)
theorem sapi_Unit_3:FldSet tapi_Unit 5 (tL tapi_Word) (fun x y=>{x with Head:=y}):=FldSet.le rapi_Unit.out rapi_Unit.into ((FldSet.map (m:=(fun x:api_Unit=>(x.Id,x.Kind,x.Label,x.Head,x.Words,x.Kids))) (f':=fun x y=>{x with Head:=y}) (FldSet.next (s:=tapi_Id) (FldSet.next (s:=(tI .i64)) (FldSet.next (s:=tS) (FldSet.here (tL tapi_Word) (tP (tL tapi_Word) (tOne (tL tapi_Unit))))))) (fun _ _=>rfl)).cast rfl rfl)
theorem fapi_Unit_4:Fld tapi_Unit 6 (tL tapi_Word) (fun x=>x.Words):=Fld.le rapi_Unit.out ((Fld.map (m:=(fun x:api_Unit=>(x.Id,x.Kind,x.Label,x.Head,x.Words,x.Kids))) (Fld.next (s:=tapi_Id) (Fld.next (s:=(tI .i64)) (Fld.next (s:=tS) (Fld.next (s:=(tL tapi_Word)) (Fld.here (tL tapi_Word) (tOne (tL tapi_Unit)))))))).cast rfl rfl)
theorem sapi_Unit_4:FldSet tapi_Unit 6 (tL tapi_Word) (fun x y=>{x with Words:=y}):=FldSet.le rapi_Unit.out rapi_Unit.into ((FldSet.map (m:=(fun x:api_Unit=>(x.Id,x.Kind,x.Label,x.Head,x.Words,x.Kids))) (f':=fun x y=>{x with Words:=y}) (FldSet.next (s:=tapi_Id) (FldSet.next (s:=(tI .i64)) (FldSet.next (s:=tS) (FldSet.next (s:=(tL tapi_Word)) (FldSet.here (tL tapi_Word) (tOne (tL tapi_Unit))))))) (fun _ _=>rfl)).cast rfl rfl)
theorem fapi_Unit_5:Fld tapi_Unit 7 (tL tapi_Unit) (fun x=>x.Kids):=Fld.le rapi_Unit.out ((Fld.map (m:=(fun x:api_Unit=>(x.Id,x.Kind,x.Label,x.Head,x.Words,x.Kids))) (Fld.next (s:=tapi_Id) (Fld.next (s:=(tI .i64)) (Fld.next (s:=tS) (Fld.next (s:=(tL tapi_Word)) (Fld.next (s:=(tL tapi_Word)) (Fld.one (tL tapi_Unit)))))))).cast rfl rfl)
theorem sapi_Unit_5:FldSet tapi_Unit 7 (tL tapi_Unit) (fun x y=>{x with Kids:=y}):=FldSet.le rapi_Unit.out rapi_Unit.into ((FldSet.map (m:=(fun x:api_Unit=>(x.Id,x.Kind,x.Label,x.Head,x.Words,x.Kids))) (f':=fun x y=>{x with Kids:=y}) (FldSet.next (s:=tapi_Id) (FldSet.next (s:=(tI .i64)) (FldSet.next (s:=tS) (FldSet.next (s:=(tL tapi_Word)) (FldSet.next (s:=(tL tapi_Word)) (FldSet.one (tL tapi_Unit))))))) (fun _ _=>rfl)).cast rfl rfl)
def zapi_Unit_f(fd:Field):Nat:=if fd.type=3 then 1 else if fd.type=9 then 1 else if fd.type=23 then 3 else if fd.type=24 then 1 else if fd.type=25 then 1 else 0
theorem zapi_Unit_sz:∀ fs,Tryz.prog.underlying 27=some (.struct fs)→∀ fd,fd∈fs→∀ w,(sizeOf fd.type).run Tryz.prog w= .ok (zapi_Unit_f fd) w:=by
 intro fs h
 rw [Tryz.underlying27] at h
 cases h
 intro fd hfd w
 simp only [List.mem_toArray,List.mem_cons,List.not_mem_nil,or_false] at hfd
 rcases hfd with rfl | rfl | rfl | rfl | rfl | rfl
 ·exact Tryz.sizeOf23 w
 ·exact Tryz.sizeOf3 w
 ·exact Tryz.sizeOf9 w
 ·exact Tryz.sizeOf24 w
 ·exact Tryz.sizeOf24 w
 ·exact Tryz.sizeOf25 w
def tapi_Step:Ty api_Step:=tMap (tP (tI .i64) (tOne tS)) (fun x:api_Step=>(x.Kind,x.Label))
theorem fapi_Step_0:Fld tapi_Step 0 (tI .i64) (fun x=>x.Kind):=(Fld.map (m:=(fun x:api_Step=>(x.Kind,x.Label))) (Fld.here (tI .i64) (tOne tS))).cast rfl rfl
theorem sapi_Step_0:FldSet tapi_Step 0 (tI .i64) (fun x y=>{x with Kind:=y}):=(FldSet.map (m:=(fun x:api_Step=>(x.Kind,x.Label))) (f':=fun x y=>{x with Kind:=y}) (FldSet.here (tI .i64) (tOne tS)) (fun _ _=>rfl)).cast rfl rfl
theorem fapi_Step_1:Fld tapi_Step 1 tS (fun x=>x.Label):=(Fld.map (m:=(fun x:api_Step=>(x.Kind,x.Label))) (Fld.next (s:=(tI .i64)) (Fld.one tS))).cast rfl rfl
theorem sapi_Step_1:FldSet tapi_Step 1 tS (fun x y=>{x with Label:=y}):=(FldSet.map (m:=(fun x:api_Step=>(x.Kind,x.Label))) (f':=fun x y=>{x with Label:=y}) (FldSet.next (s:=(tI .i64)) (FldSet.one tS)) (fun _ _=>rfl)).cast rfl rfl
def zapi_Step_f(fd:Field):Nat:=if fd.type=3 then 1 else if fd.type=9 then 1 else 0
theorem zapi_Step_sz:∀ fs,Tryz.prog.underlying 49=some (.struct fs)→∀ fd,fd∈fs→∀ w,(sizeOf fd.type).run Tryz.prog w= .ok (zapi_Step_f fd) w:=by
 intro fs h
 rw [Tryz.underlying49] at h
 cases h
 intro fd hfd w
 simp only [List.mem_toArray,List.mem_cons,List.not_mem_nil,or_false] at hfd
 rcases hfd with rfl | rfl
 ·exact Tryz.sizeOf3 w
 ·exact Tryz.sizeOf9 w
def tapi_Cite:Ty api_Cite:=tMap (tP (tI .i64) (tP (tL tapi_Step) (tP tS (tP (tI .i64) (tOne (tI .i64)))))) (fun x:api_Cite=>(x.Kind,x.Path,x.To,x.From,x.At))
theorem fapi_Cite_0:Fld tapi_Cite 0 (tI .i64) (fun x=>x.Kind):=(Fld.map (m:=(fun x:api_Cite=>(x.Kind,x.Path,x.To,x.From,x.At))) (Fld.here (tI .i64) (tP (tL tapi_Step) (tP tS (tP (tI .i64) (tOne (tI .i64))))))).cast rfl rfl
theorem sapi_Cite_0:FldSet tapi_Cite 0 (tI .i64) (fun x y=>{x with Kind:=y}):=(FldSet.map (m:=(fun x:api_Cite=>(x.Kind,x.Path,x.To,x.From,x.At))) (f':=fun x y=>{x with Kind:=y}) (FldSet.here (tI .i64) (tP (tL tapi_Step) (tP tS (tP (tI .i64) (tOne (tI .i64)))))) (fun _ _=>rfl)).cast rfl rfl
theorem fapi_Cite_1:Fld tapi_Cite 1 (tL tapi_Step) (fun x=>x.Path):=(Fld.map (m:=(fun x:api_Cite=>(x.Kind,x.Path,x.To,x.From,x.At))) (Fld.next (s:=(tI .i64)) (Fld.here (tL tapi_Step) (tP tS (tP (tI .i64) (tOne (tI .i64))))))).cast rfl rfl
theorem sapi_Cite_1:FldSet tapi_Cite 1 (tL tapi_Step) (fun x y=>{x with Path:=y}):=(FldSet.map (m:=(fun x:api_Cite=>(x.Kind,x.Path,x.To,x.From,x.At))) (f':=fun x y=>{x with Path:=y}) (FldSet.next (s:=(tI .i64)) (FldSet.here (tL tapi_Step) (tP tS (tP (tI .i64) (tOne (tI .i64)))))) (fun _ _=>rfl)).cast rfl rfl
theorem fapi_Cite_2:Fld tapi_Cite 2 tS (fun x=>x.To):=(Fld.map (m:=(fun x:api_Cite=>(x.Kind,x.Path,x.To,x.From,x.At))) (Fld.next (s:=(tI .i64)) (Fld.next (s:=(tL tapi_Step)) (Fld.here tS (tP (tI .i64) (tOne (tI .i64))))))).cast rfl rfl
theorem sapi_Cite_3:FldSet tapi_Cite 3 (tI .i64) (fun x y=>{x with From:=y}):=(FldSet.map (m:=(fun x:api_Cite=>(x.Kind,x.Path,x.To,x.From,x.At))) (f':=fun x y=>{x with From:=y}) (FldSet.next (s:=(tI .i64)) (FldSet.next (s:=(tL tapi_Step)) (FldSet.next (s:=tS) (FldSet.here (tI .i64) (tOne (tI .i64)))))) (fun _ _=>rfl)).cast rfl rfl
theorem fapi_Cite_4:Fld tapi_Cite 4 (tI .i64) (fun x=>x.At):=(Fld.map (m:=(fun x:api_Cite=>(x.Kind,x.Path,x.To,x.From,x.At))) (Fld.next (s:=(tI .i64)) (Fld.next (s:=(tL tapi_Step)) (Fld.next (s:=tS) (Fld.next (s:=(tI .i64)) (Fld.one (tI .i64))))))).cast rfl rfl
theorem sapi_Cite_4:FldSet tapi_Cite 4 (tI .i64) (fun x y=>{x with At:=y}):=(FldSet.map (m:=(fun x:api_Cite=>(x.Kind,x.Path,x.To,x.From,x.At))) (f':=fun x y=>{x with At:=y}) (FldSet.next (s:=(tI .i64)) (FldSet.next (s:=(tL tapi_Step)) (FldSet.next (s:=tS) (FldSet.next (s:=(tI .i64)) (FldSet.one (tI .i64)))))) (fun _ _=>rfl)).cast rfl rfl
def zapi_Cite_f(fd:Field):Nat:=if fd.type=3 then 1 else if fd.type=9 then 1 else if fd.type=50 then 1 else 0
theorem zapi_Cite_sz:∀ fs,Tryz.prog.underlying 52=some (.struct fs)→∀ fd,fd∈fs→∀ w,(sizeOf fd.type).run Tryz.prog w= .ok (zapi_Cite_f fd) w:=by
 intro fs h
 rw [Tryz.underlying52] at h
 cases h
 intro fd hfd w
 simp only [List.mem_toArray,List.mem_cons,List.not_mem_nil,or_false] at hfd
 rcases hfd with rfl | rfl | rfl | rfl | rfl
 ·exact Tryz.sizeOf3 w
 ·exact Tryz.sizeOf50 w
 ·exact Tryz.sizeOf9 w
 ·exact Tryz.sizeOf3 w
 ·exact Tryz.sizeOf3 w
def tresolve_scene:Ty resolve_scene:=tMap (tP tapi_Unit (tP tapi_Id (tOne (tL tapi_Id)))) (fun x:resolve_scene=>(x.u_,x.at_,x.said_))
theorem fresolve_scene_0:Fld tresolve_scene 0 tapi_Unit (fun x=>x.u_):=(Fld.map (m:=(fun x:resolve_scene=>(x.u_,x.at_,x.said_))) (Fld.here tapi_Unit (tP tapi_Id (tOne (tL tapi_Id))))).cast rfl rfl
theorem sresolve_scene_0:FldSet tresolve_scene 0 tapi_Unit (fun x y=>{x with u_:=y}):=(FldSet.map (m:=(fun x:resolve_scene=>(x.u_,x.at_,x.said_))) (f':=fun x y=>{x with u_:=y}) (FldSet.here tapi_Unit (tP tapi_Id (tOne (tL tapi_Id)))) (fun _ _=>rfl)).cast rfl rfl
theorem fresolve_scene_1:Fld tresolve_scene 8 tapi_Id (fun x=>x.at_):=(Fld.map (m:=(fun x:resolve_scene=>(x.u_,x.at_,x.said_))) (Fld.next (s:=tapi_Unit) (Fld.here tapi_Id (tOne (tL tapi_Id))))).cast rfl rfl
theorem sresolve_scene_1:FldSet tresolve_scene 8 tapi_Id (fun x y=>{x with at_:=y}):=(FldSet.map (m:=(fun x:resolve_scene=>(x.u_,x.at_,x.said_))) (f':=fun x y=>{x with at_:=y}) (FldSet.next (s:=tapi_Unit) (FldSet.here tapi_Id (tOne (tL tapi_Id)))) (fun _ _=>rfl)).cast rfl rfl
theorem fresolve_scene_2:Fld tresolve_scene 11 (tL tapi_Id) (fun x=>x.said_):=(Fld.map (m:=(fun x:resolve_scene=>(x.u_,x.at_,x.said_))) (Fld.next (s:=tapi_Unit) (Fld.next (s:=tapi_Id) (Fld.one (tL tapi_Id))))).cast rfl rfl
theorem sresolve_scene_2:FldSet tresolve_scene 11 (tL tapi_Id) (fun x y=>{x with said_:=y}):=(FldSet.map (m:=(fun x:resolve_scene=>(x.u_,x.at_,x.said_))) (f':=fun x y=>{x with said_:=y}) (FldSet.next (s:=tapi_Unit) (FldSet.next (s:=tapi_Id) (FldSet.one (tL tapi_Id)))) (fun _ _=>rfl)).cast rfl rfl
def zresolve_scene_f(fd:Field):Nat:=if fd.type=23 then 3 else if fd.type=27 then 8 else if fd.type=40 then 1 else 0
theorem zresolve_scene_sz:∀ fs,Tryz.prog.underlying 69=some (.struct fs)→∀ fd,fd∈fs→∀ w,(sizeOf fd.type).run Tryz.prog w= .ok (zresolve_scene_f fd) w:=by
 intro fs h
 rw [Tryz.underlying69] at h
 cases h
 intro fd hfd w
 simp only [List.mem_toArray,List.mem_cons,List.not_mem_nil,or_false] at hfd
 rcases hfd with rfl | rfl | rfl
 ·exact Tryz.sizeOf27 w
 ·exact Tryz.sizeOf23 w
 ·exact Tryz.sizeOf40 w
def tapi_Meaning:Ty api_Meaning:=tMap (tP tapi_Id (tP (tI .i64) (tOne (tL tapi_Id)))) (fun x:api_Meaning=>(x.At,x.N,x.To))
theorem fapi_Meaning_0:Fld tapi_Meaning 0 tapi_Id (fun x=>x.At):=(Fld.map (m:=(fun x:api_Meaning=>(x.At,x.N,x.To))) (Fld.here tapi_Id (tP (tI .i64) (tOne (tL tapi_Id))))).cast rfl rfl
theorem sapi_Meaning_0:FldSet tapi_Meaning 0 tapi_Id (fun x y=>{x with At:=y}):=(FldSet.map (m:=(fun x:api_Meaning=>(x.At,x.N,x.To))) (f':=fun x y=>{x with At:=y}) (FldSet.here tapi_Id (tP (tI .i64) (tOne (tL tapi_Id)))) (fun _ _=>rfl)).cast rfl rfl
theorem fapi_Meaning_1:Fld tapi_Meaning 3 (tI .i64) (fun x=>x.N):=(Fld.map (m:=(fun x:api_Meaning=>(x.At,x.N,x.To))) (Fld.next (s:=tapi_Id) (Fld.here (tI .i64) (tOne (tL tapi_Id))))).cast rfl rfl
theorem sapi_Meaning_1:FldSet tapi_Meaning 3 (tI .i64) (fun x y=>{x with N:=y}):=(FldSet.map (m:=(fun x:api_Meaning=>(x.At,x.N,x.To))) (f':=fun x y=>{x with N:=y}) (FldSet.next (s:=tapi_Id) (FldSet.here (tI .i64) (tOne (tL tapi_Id)))) (fun _ _=>rfl)).cast rfl rfl
theorem fapi_Meaning_2:Fld tapi_Meaning 4 (tL tapi_Id) (fun x=>x.To):=(Fld.map (m:=(fun x:api_Meaning=>(x.At,x.N,x.To))) (Fld.next (s:=tapi_Id) (Fld.next (s:=(tI .i64)) (Fld.one (tL tapi_Id))))).cast rfl rfl
theorem sapi_Meaning_2:FldSet tapi_Meaning 4 (tL tapi_Id) (fun x y=>{x with To:=y}):=(FldSet.map (m:=(fun x:api_Meaning=>(x.At,x.N,x.To))) (f':=fun x y=>{x with To:=y}) (FldSet.next (s:=tapi_Id) (FldSet.next (s:=(tI .i64)) (FldSet.one (tL tapi_Id)))) (fun _ _=>rfl)).cast rfl rfl
def zapi_Meaning_f(fd:Field):Nat:=if fd.type=3 then 1 else if fd.type=23 then 3 else if fd.type=40 then 1 else 0
theorem zapi_Meaning_sz:∀ fs,Tryz.prog.underlying 42=some (.struct fs)→∀ fd,fd∈fs→∀ w,(sizeOf fd.type).run Tryz.prog w= .ok (zapi_Meaning_f fd) w:=by
 intro fs h
 rw [Tryz.underlying42] at h
 cases h
 intro fd hfd w
 simp only [List.mem_toArray,List.mem_cons,List.not_mem_nil,or_false] at hfd
 rcases hfd with rfl | rfl | rfl
 ·exact Tryz.sizeOf23 w
 ·exact Tryz.sizeOf3 w
 ·exact Tryz.sizeOf40 w
def tcitation_reader:Ty citation_reader:=tMap (tP (tL tS) (tP (tI .i64) (tOne tB))) (fun x:citation_reader=>(x.l_,x.at_,x.ended_))
theorem fcitation_reader_0:Fld tcitation_reader 0 (tL tS) (fun x=>x.l_):=(Fld.map (m:=(fun x:citation_reader=>(x.l_,x.at_,x.ended_))) (Fld.here (tL tS) (tP (tI .i64) (tOne tB)))).cast rfl rfl
theorem scitation_reader_0:FldSet tcitation_reader 0 (tL tS) (fun x y=>{x with l_:=y}):=(FldSet.map (m:=(fun x:citation_reader=>(x.l_,x.at_,x.ended_))) (f':=fun x y=>{x with l_:=y}) (FldSet.here (tL tS) (tP (tI .i64) (tOne tB))) (fun _ _=>rfl)).cast rfl rfl
theorem fcitation_reader_1:Fld tcitation_reader 1 (tI .i64) (fun x=>x.at_):=(Fld.map (m:=(fun x:citation_reader=>(x.l_,x.at_,x.ended_))) (Fld.next (s:=(tL tS)) (Fld.here (tI .i64) (tOne tB)))).cast rfl rfl
theorem scitation_reader_1:FldSet tcitation_reader 1 (tI .i64) (fun x y=>{x with at_:=y}):=(FldSet.map (m:=(fun x:citation_reader=>(x.l_,x.at_,x.ended_))) (f':=fun x y=>{x with at_:=y}) (FldSet.next (s:=(tL tS)) (FldSet.here (tI .i64) (tOne tB))) (fun _ _=>rfl)).cast rfl rfl
theorem fcitation_reader_2:Fld tcitation_reader 2 tB (fun x=>x.ended_):=(Fld.map (m:=(fun x:citation_reader=>(x.l_,x.at_,x.ended_))) (Fld.next (s:=(tL tS)) (Fld.next (s:=(tI .i64)) (Fld.one tB)))).cast rfl rfl
theorem scitation_reader_2:FldSet tcitation_reader 2 tB (fun x y=>{x with ended_:=y}):=(FldSet.map (m:=(fun x:citation_reader=>(x.l_,x.at_,x.ended_))) (f':=fun x y=>{x with ended_:=y}) (FldSet.next (s:=(tL tS)) (FldSet.next (s:=(tI .i64)) (FldSet.one tB))) (fun _ _=>rfl)).cast rfl rfl
def zcitation_reader_f(fd:Field):Nat:=if fd.type=3 then 1 else if fd.type=4 then 1 else if fd.type=55 then 1 else 0
theorem zcitation_reader_sz:∀ fs,Tryz.prog.underlying 92=some (.struct fs)→∀ fd,fd∈fs→∀ w,(sizeOf fd.type).run Tryz.prog w= .ok (zcitation_reader_f fd) w:=by
 intro fs h
 rw [Tryz.underlying92] at h
 cases h
 intro fd hfd w
 simp only [List.mem_toArray,List.mem_cons,List.not_mem_nil,or_false] at hfd
 rcases hfd with rfl | rfl | rfl
 ·exact Tryz.sizeOf55 w
 ·exact Tryz.sizeOf3 w
 ·exact Tryz.sizeOf4 w
def tapi_Cite_k1(k:Tok):Ty api_Cite:=tMap (tP (tI .i64) (tP (tOT tapi_Step k) (tP tS (tP (tI .i64) (tOne (tI .i64)))))) (fun x:api_Cite=>(x.Kind,x.Path,x.To,x.From,x.At))
theorem fapi_Cite_k1_0(k:Tok):Fld (tapi_Cite_k1 k) 0 (tI .i64) (fun x=>x.Kind):=(Fld.map (m:=(fun x:api_Cite=>(x.Kind,x.Path,x.To,x.From,x.At))) (Fld.here (tI .i64) (tP (tOT tapi_Step k) (tP tS (tP (tI .i64) (tOne (tI .i64))))))).cast rfl rfl
theorem sapi_Cite_k1_0(k:Tok):FldSet (tapi_Cite_k1 k) 0 (tI .i64) (fun x y=>{x with Kind:=y}):=(FldSet.map (m:=(fun x:api_Cite=>(x.Kind,x.Path,x.To,x.From,x.At))) (f':=fun x y=>{x with Kind:=y}) (FldSet.here (tI .i64) (tP (tOT tapi_Step k) (tP tS (tP (tI .i64) (tOne (tI .i64)))))) (fun _ _=>rfl)).cast rfl rfl
theorem fapi_Cite_k1_1(k:Tok):Fld (tapi_Cite_k1 k) 1 (tOT tapi_Step k) (fun x=>x.Path):=(Fld.map (m:=(fun x:api_Cite=>(x.Kind,x.Path,x.To,x.From,x.At))) (Fld.next (s:=(tI .i64)) (Fld.here (tOT tapi_Step k) (tP tS (tP (tI .i64) (tOne (tI .i64))))))).cast rfl rfl
theorem sapi_Cite_k1_2(k:Tok):FldSet (tapi_Cite_k1 k) 2 tS (fun x y=>{x with To:=y}):=(FldSet.map (m:=(fun x:api_Cite=>(x.Kind,x.Path,x.To,x.From,x.At))) (f':=fun x y=>{x with To:=y}) (FldSet.next (s:=(tI .i64)) (FldSet.next (s:=(tOT tapi_Step k)) (FldSet.here tS (tP (tI .i64) (tOne (tI .i64)))))) (fun _ _=>rfl)).cast rfl rfl
theorem sTapi_Cite_k1(k k2:Tok):FldSetT (tapi_Cite_k1 k) (tapi_Cite_k1 k2) 1 (tOT tapi_Step k2) (fun x y=>{x with Path:=y}):=(FldSetT.map (m:=(fun x:api_Cite=>(x.Kind,x.Path,x.To,x.From,x.At))) (f':=fun x y=>{x with Path:=y}) (FldSetT.next (s:=(tI .i64)) (FldSetT.here (tOT tapi_Step k) (tOT tapi_Step k2) (tP tS (tP (tI .i64) (tOne (tI .i64)))) rfl)) (fun _ _=>rfl)).cast rfl rfl
theorem s0api_Cite_k1(k2:Tok):FldSetT tapi_Cite (tapi_Cite_k1 k2) 1 (tOT tapi_Step k2) (fun x y=>{x with Path:=y}):=(FldSetT.map (m:=(fun x:api_Cite=>(x.Kind,x.Path,x.To,x.From,x.At))) (f':=fun x y=>{x with Path:=y}) (FldSetT.next (s:=(tI .i64)) (FldSetT.here (tL tapi_Step) (tOT tapi_Step k2) (tP tS (tP (tI .i64) (tOne (tI .i64)))) rfl)) (fun _ _=>rfl)).cast rfl rfl
theorem leapi_Cite_k1(k:Tok):Le (tapi_Cite_k1 k) tapi_Cite:=Le.mapT (Le.pair (Le.refl _) (Le.pair (tOT_le _ _) (Le.refl _))) _
theorem zeapi_Cite_k1:ZeroAt Tryz.prog 52 (tapi_Cite_k1 none) zapi_Cite:=⟨_,Tryz.zeroValue52,fun _=>⟨_,⟨_,_,rfl,⟨rfl,inR64.2 ⟨by decide,by decide⟩⟩,⟨_,_,rfl,⟨_,rfl,⟨rfl,Nat.le_refl _,Nat.zero_le _,rfl⟩⟩,⟨_,_,rfl,⟨rfl,by decide⟩,⟨_,_,rfl,⟨rfl,inR64.2 ⟨by decide,by decide⟩⟩,⟨rfl,inR64.2 ⟨by decide,by decide⟩⟩⟩⟩⟩⟩,rfl⟩⟩
theorem ty3:TyAt Tryz.prog 3 (tI .i64):=⟨Tryz.isAgg3,Tryz.sizeOf3⟩
theorem ze3:ZeroAt Tryz.prog 3 (tI .i64) (0:Int):=⟨_,Tryz.zeroValue3,fun _=>⟨_,⟨rfl,inR64.2 ⟨by decide,by decide⟩⟩,rfl⟩⟩
theorem ty4:TyAt Tryz.prog 4 tB:=⟨Tryz.isAgg4,Tryz.sizeOf4⟩
theorem ty9:TyAt Tryz.prog 9 tS:=⟨Tryz.isAgg9,Tryz.sizeOf9⟩
theorem el9:ElAt Tryz.prog 9 tS:=⟨⟨Tryz.t9,_,Tryz.type9,rfl,rfl,by decide,rfl⟩,by decide⟩
theorem ze9:ZeroAt Tryz.prog 9 tS ([]:Str):=⟨_,Tryz.zeroValue9,fun _=>⟨_,⟨rfl,by decide⟩,rfl⟩⟩
theorem ty23:TyAt Tryz.prog 23 tapi_Id:=⟨Tryz.isAgg23,Tryz.sizeOf23⟩
theorem el23:ElAt Tryz.prog 23 tapi_Id:=⟨⟨Tryz.t23,_,Tryz.type23,rfl,rfl,by decide,rfl⟩,by decide⟩
theorem ze23:ZeroAt Tryz.prog 23 tapi_Id zapi_Id:=⟨_,Tryz.zeroValue23,fun _=>⟨_,⟨_,_,rfl,⟨rfl,inR64.2 ⟨by decide,by decide⟩⟩,⟨_,_,rfl,⟨rfl,inR64.2 ⟨by decide,by decide⟩⟩,⟨rfl,inR64.2 ⟨by decide,by decide⟩⟩⟩⟩,rfl⟩⟩
theorem ty24:TyAt Tryz.prog 24 (tL tapi_Word):=⟨Tryz.isAgg24,Tryz.sizeOf24⟩
theorem ty25:TyAt Tryz.prog 25 (tL tapi_Unit):=⟨Tryz.isAgg25,Tryz.sizeOf25⟩
theorem ty27:TyAt Tryz.prog 27 tapi_Unit:=⟨Tryz.isAgg27,Tryz.sizeOf27⟩
theorem el27:ElAt Tryz.prog 27 tapi_Unit:=⟨⟨Tryz.t27,_,Tryz.type27,rfl,rfl,by decide,rfl⟩,by decide⟩
theorem ze27:ZeroAt Tryz.prog 27 tapi_Unit zapi_Unit:=⟨_,Tryz.zeroValue27,fun _=>⟨_,(rapi_Unit.into.rep _ _ _ ⟨_,_,rfl,⟨_,_,rfl,⟨rfl,inR64.2 ⟨by decide,by decide⟩⟩,⟨_,_,rfl,⟨rfl,inR64.2 ⟨by decide,by decide⟩⟩,⟨rfl,inR64.2 ⟨by decide,by decide⟩⟩⟩⟩,⟨_,_,rfl,⟨rfl,inR64.2 ⟨by decide,by decide⟩⟩,⟨_,_,rfl,⟨rfl,by decide⟩,⟨_,_,rfl,⟨none,0,rfl,Nat.le_refl _,Nat.zero_le _,fun _=>rfl,rfl⟩,⟨_,_,rfl,⟨none,0,rfl,Nat.le_refl _,Nat.zero_le _,fun _=>rfl,rfl⟩,⟨none,0,rfl,Nat.le_refl _,Nat.zero_le _,fun _=>rfl,rfl⟩⟩⟩⟩⟩⟩),rfl⟩⟩
theorem ty33:TyAt Tryz.prog 33 tapi_Word:=⟨Tryz.isAgg33,Tryz.sizeOf33⟩
theorem el33:ElAt Tryz.prog 33 tapi_Word:=⟨⟨Tryz.t33,_,Tryz.type33,rfl,rfl,by decide,rfl⟩,by decide⟩
theorem ze33:ZeroAt Tryz.prog 33 tapi_Word zapi_Word:=⟨_,Tryz.zeroValue33,fun _=>⟨_,⟨_,_,rfl,⟨rfl,by decide⟩,⟨_,_,rfl,⟨rfl,inR64.2 ⟨by decide,by decide⟩⟩,⟨_,_,rfl,⟨rfl,inR64.2 ⟨by decide,by decide⟩⟩,⟨rfl,inR64.2 ⟨by decide,by decide⟩⟩⟩⟩⟩,rfl⟩⟩
theorem ty40:TyAt Tryz.prog 40 (tL tapi_Id):=⟨Tryz.isAgg40,Tryz.sizeOf40⟩
theorem ze40:ZeroAt Tryz.prog 40 (tL tapi_Id) ([]:List api_Id):=⟨_,Tryz.zeroValue40,fun _=>⟨_,⟨none,0,rfl,Nat.le_refl _,Nat.zero_le _,fun _=>rfl,rfl⟩,rfl⟩⟩
theorem el42:ElAt Tryz.prog 42 tapi_Meaning:=⟨⟨Tryz.t42,_,Tryz.type42,rfl,rfl,by decide,rfl⟩,by decide⟩
theorem ze42:ZeroAt Tryz.prog 42 tapi_Meaning zapi_Meaning:=⟨_,Tryz.zeroValue42,fun _=>⟨_,⟨_,_,rfl,⟨_,_,rfl,⟨rfl,inR64.2 ⟨by decide,by decide⟩⟩,⟨_,_,rfl,⟨rfl,inR64.2 ⟨by decide,by decide⟩⟩,⟨rfl,inR64.2 ⟨by decide,by decide⟩⟩⟩⟩,⟨_,_,rfl,⟨rfl,inR64.2 ⟨by decide,by decide⟩⟩,⟨none,0,rfl,Nat.le_refl _,Nat.zero_le _,fun _=>rfl,rfl⟩⟩⟩,rfl⟩⟩
theorem ze45:ZeroAt Tryz.prog 45 (tI .i64) (0:Int):=⟨_,Tryz.zeroValue45,fun _=>⟨_,⟨rfl,inR64.2 ⟨by decide,by decide⟩⟩,rfl⟩⟩
theorem ty49:TyAt Tryz.prog 49 tapi_Step:=⟨Tryz.isAgg49,Tryz.sizeOf49⟩
theorem el49:ElAt Tryz.prog 49 tapi_Step:=⟨⟨Tryz.t49,_,Tryz.type49,rfl,rfl,by decide,rfl⟩,by decide⟩
theorem ze49:ZeroAt Tryz.prog 49 tapi_Step zapi_Step:=⟨_,Tryz.zeroValue49,fun _=>⟨_,⟨_,_,rfl,⟨rfl,inR64.2 ⟨by decide,by decide⟩⟩,⟨rfl,by decide⟩⟩,rfl⟩⟩
theorem ty50:TyAt Tryz.prog 50 (tL tapi_Step):=⟨Tryz.isAgg50,Tryz.sizeOf50⟩
theorem ty52:TyAt Tryz.prog 52 tapi_Cite:=⟨Tryz.isAgg52,Tryz.sizeOf52⟩
theorem el52:ElAt Tryz.prog 52 tapi_Cite:=⟨⟨Tryz.t52,_,Tryz.type52,rfl,rfl,by decide,rfl⟩,by decide⟩
theorem ze52:ZeroAt Tryz.prog 52 tapi_Cite zapi_Cite:=⟨_,Tryz.zeroValue52,fun _=>⟨_,⟨_,_,rfl,⟨rfl,inR64.2 ⟨by decide,by decide⟩⟩,⟨_,_,rfl,⟨none,0,rfl,Nat.le_refl _,Nat.zero_le _,fun _=>rfl,rfl⟩,⟨_,_,rfl,⟨rfl,by decide⟩,⟨_,_,rfl,⟨rfl,inR64.2 ⟨by decide,by decide⟩⟩,⟨rfl,inR64.2 ⟨by decide,by decide⟩⟩⟩⟩⟩⟩,rfl⟩⟩
theorem ty55:TyAt Tryz.prog 55 (tL tS):=⟨Tryz.isAgg55,Tryz.sizeOf55⟩
theorem ze63:ZeroAt Tryz.prog 63 (tFun Tryz.prog (fun (f:resolve_scene→api_Cite→Option ((List api_Id)×Int))=>(fun s:resolve_scene×api_Cite×((List api_Id)×Int)=>f s.1 s.2.1=some s.2.2)) (fun s:resolve_scene×api_Cite×((List api_Id)×Int)=>[tresolve_scene.is s.1,tapi_Cite.is s.2.1]) (fun s:resolve_scene×api_Cite×((List api_Id)×Int)=>(Asn.tuple2 ((tL tapi_Id).is s.2.2.1) ((tI .i64).is s.2.2.2)))) (fun _ _=>none:resolve_scene→api_Cite→Option ((List api_Id)×Int)):=⟨_,Tryz.zeroValue63,fun _=>⟨_,⟨_,rfl,.inr ⟨rfl,fun s h=>by cases h⟩⟩,rfl⟩⟩
theorem ze69:ZeroAt Tryz.prog 69 tresolve_scene zresolve_scene:=⟨_,Tryz.zeroValue69,fun _=>⟨_,⟨_,_,rfl,(rapi_Unit.into.rep _ _ _ ⟨_,_,rfl,⟨_,_,rfl,⟨rfl,inR64.2 ⟨by decide,by decide⟩⟩,⟨_,_,rfl,⟨rfl,inR64.2 ⟨by decide,by decide⟩⟩,⟨rfl,inR64.2 ⟨by decide,by decide⟩⟩⟩⟩,⟨_,_,rfl,⟨rfl,inR64.2 ⟨by decide,by decide⟩⟩,⟨_,_,rfl,⟨rfl,by decide⟩,⟨_,_,rfl,⟨none,0,rfl,Nat.le_refl _,Nat.zero_le _,fun _=>rfl,rfl⟩,⟨_,_,rfl,⟨none,0,rfl,Nat.le_refl _,Nat.zero_le _,fun _=>rfl,rfl⟩,⟨none,0,rfl,Nat.le_refl _,Nat.zero_le _,fun _=>rfl,rfl⟩⟩⟩⟩⟩⟩),⟨_,_,rfl,⟨_,_,rfl,⟨rfl,inR64.2 ⟨by decide,by decide⟩⟩,⟨_,_,rfl,⟨rfl,inR64.2 ⟨by decide,by decide⟩⟩,⟨rfl,inR64.2 ⟨by decide,by decide⟩⟩⟩⟩,⟨none,0,rfl,Nat.le_refl _,Nat.zero_le _,fun _=>rfl,rfl⟩⟩⟩,rfl⟩⟩
theorem ty89:TyAt Tryz.prog 89 (tFnR Tryz.prog tcitation_reader 92 (fun y:api_Cite=>(tapi_Cite.is y))):=⟨Tryz.isAgg89,Tryz.sizeOf89⟩
theorem el89:ElAt Tryz.prog 89 (tFnR Tryz.prog tcitation_reader 92 (fun y:api_Cite=>(tapi_Cite.is y))):=⟨⟨Tryz.t89,_,Tryz.type89,rfl,rfl,by decide,rfl⟩,by decide⟩
theorem ze89:ZeroAt Tryz.prog 89 (tFnR Tryz.prog tcitation_reader 92 (fun y:api_Cite=>(tapi_Cite.is y))) (fun _=>none:citation_reader→Option (api_Cite×citation_reader)):=⟨_,Tryz.zeroValue89,fun _=>⟨_,⟨_,rfl,.inr ⟨rfl,fun _=>rfl⟩⟩,rfl⟩⟩
theorem ty92:TyAt Tryz.prog 92 tcitation_reader:=⟨Tryz.isAgg92,Tryz.sizeOf92⟩
theorem ze92:ZeroAt Tryz.prog 92 tcitation_reader zcitation_reader:=⟨_,Tryz.zeroValue92,fun _=>⟨_,⟨_,_,rfl,⟨none,0,rfl,Nat.le_refl _,Nat.zero_le _,fun _=>rfl,rfl⟩,⟨_,_,rfl,⟨rfl,inR64.2 ⟨by decide,by decide⟩⟩,rfl⟩⟩,rfl⟩⟩
theorem eq23:EqT (α:=api_Id) (P:=Tryz.prog) (T:=23) (t:=tapi_Id) (D:=2):=EqT.struct (D:=1) rfl Tryz.underlying23 (by kernel_rfl) ⟨_,inferInstance,_,_,_,by decide,ty3,fapi_Id_0,((EqT.int Tryz.underlying3).up (by decide)),⟨_,inferInstance,_,_,_,by decide,ty3,fapi_Id_1,((EqT.int Tryz.underlying3).up (by decide)),⟨_,inferInstance,_,_,_,by decide,ty3,fapi_Id_2,((EqT.int Tryz.underlying3).up (by decide)),rfl,rfl⟩,rfl⟩,rfl⟩ (fun x y=>by cases x;cases y;simp)
theorem eg23:Tryz.prog.eqGuardType Tryz.prog.depth 23=false:=by kernel_rfl
theorem eq49:EqT (α:=api_Step) (P:=Tryz.prog) (T:=49) (t:=tapi_Step) (D:=2):=EqT.struct (D:=1) rfl Tryz.underlying49 (by kernel_rfl) ⟨_,inferInstance,_,_,_,by decide,ty3,fapi_Step_0,((EqT.int Tryz.underlying3).up (by decide)),⟨_,inferInstance,_,_,_,by decide,ty9,fapi_Step_1,((EqT.string Tryz.underlying9).up (by decide)),rfl,rfl⟩,rfl⟩ (fun x y=>by cases x;cases y;simp)
theorem eg49:Tryz.prog.eqGuardType Tryz.prog.depth 49=false:=by kernel_rfl
theorem fl9:Flat tS:=Flat.S
theorem kt3:KeyT Tryz.prog 3 (tI .i64):=KeyT.int Tryz.underlying3
abbrev I6:Ty Int:=tI .i64
theorem Mx:Tryz.prog.follows .mixedOrders=true:=Tryz.mixed
theorem C5(xs:Array Value)(w:World):(callFunc 5 xs).run Tryz.prog w= .ok (.enter 5 xs) w:=Tryz.call5 xs w
theorem C6(xs:Array Value)(w:World):(callFunc 6 xs).run Tryz.prog w= .ok (.enter 6 xs) w:=Tryz.call6 xs w
theorem C7(xs:Array Value)(w:World):(callFunc 7 xs).run Tryz.prog w= .ok (.enter 7 xs) w:=Tryz.call7 xs w
theorem C8(xs:Array Value)(w:World):(callFunc 8 xs).run Tryz.prog w= .ok (.enter 8 xs) w:=Tryz.call8 xs w
theorem C9(xs:Array Value)(w:World):(callFunc 9 xs).run Tryz.prog w= .ok (.enter 9 xs) w:=Tryz.call9 xs w
theorem C10(xs:Array Value)(w:World):(callFunc 10 xs).run Tryz.prog w= .ok (.enter 10 xs) w:=Tryz.call10 xs w
theorem C11(xs:Array Value)(w:World):(callFunc 11 xs).run Tryz.prog w= .ok (.enter 11 xs) w:=Tryz.call11 xs w
theorem C12(xs:Array Value)(w:World):(callFunc 12 xs).run Tryz.prog w= .ok (.enter 12 xs) w:=Tryz.call12 xs w
theorem C13(xs:Array Value)(w:World):(callFunc 13 xs).run Tryz.prog w= .ok (.enter 13 xs) w:=Tryz.call13 xs w
theorem C14(xs:Array Value)(w:World):(callFunc 14 xs).run Tryz.prog w= .ok (.enter 14 xs) w:=Tryz.call14 xs w
theorem C15(xs:Array Value)(w:World):(callFunc 15 xs).run Tryz.prog w= .ok (.enter 15 xs) w:=Tryz.call15 xs w
theorem C16(xs:Array Value)(w:World):(callFunc 16 xs).run Tryz.prog w= .ok (.enter 16 xs) w:=Tryz.call16 xs w
theorem C17(xs:Array Value)(w:World):(callFunc 17 xs).run Tryz.prog w= .ok (.enter 17 xs) w:=Tryz.call17 xs w
theorem C18(xs:Array Value)(w:World):(callFunc 18 xs).run Tryz.prog w= .ok (.enter 18 xs) w:=Tryz.call18 xs w
theorem C19(xs:Array Value)(w:World):(callFunc 19 xs).run Tryz.prog w= .ok (.enter 19 xs) w:=Tryz.call19 xs w
theorem C20(xs:Array Value)(w:World):(callFunc 20 xs).run Tryz.prog w= .ok (.enter 20 xs) w:=Tryz.call20 xs w
theorem C21(xs:Array Value)(w:World):(callFunc 21 xs).run Tryz.prog w= .ok (.enter 21 xs) w:=Tryz.call21 xs w
theorem C22(xs:Array Value)(w:World):(callFunc 22 xs).run Tryz.prog w= .ok (.enter 22 xs) w:=Tryz.call22 xs w
theorem C23(xs:Array Value)(w:World):(callFunc 23 xs).run Tryz.prog w= .ok (.enter 23 xs) w:=Tryz.call23 xs w
theorem C24(xs:Array Value)(w:World):(callFunc 24 xs).run Tryz.prog w= .ok (.enter 24 xs) w:=Tryz.call24 xs w
theorem C25(xs:Array Value)(w:World):(callFunc 25 xs).run Tryz.prog w= .ok (.enter 25 xs) w:=Tryz.call25 xs w
theorem C26(xs:Array Value)(w:World):(callFunc 26 xs).run Tryz.prog w= .ok (.enter 26 xs) w:=Tryz.call26 xs w
theorem C27(xs:Array Value)(w:World):(callFunc 27 xs).run Tryz.prog w= .ok (.enter 27 xs) w:=Tryz.call27 xs w
theorem C28(xs:Array Value)(w:World):(callFunc 28 xs).run Tryz.prog w= .ok (.enter 28 xs) w:=Tryz.call28 xs w
theorem C29(xs:Array Value)(w:World):(callFunc 29 xs).run Tryz.prog w= .ok (.enter 29 xs) w:=Tryz.call29 xs w
theorem C30(xs:Array Value)(w:World):(callFunc 30 xs).run Tryz.prog w= .ok (.enter 30 xs) w:=Tryz.call30 xs w
theorem C31(xs:Array Value)(w:World):(callFunc 31 xs).run Tryz.prog w= .ok (.enter 31 xs) w:=Tryz.call31 xs w
theorem C32(xs:Array Value)(w:World):(callFunc 32 xs).run Tryz.prog w= .ok (.enter 32 xs) w:=Tryz.call32 xs w
theorem C33(xs:Array Value)(w:World):(callFunc 33 xs).run Tryz.prog w= .ok (.enter 33 xs) w:=Tryz.call33 xs w
theorem C34(xs:Array Value)(w:World):(callFunc 34 xs).run Tryz.prog w= .ok (.enter 34 xs) w:=Tryz.call34 xs w
theorem C35(xs:Array Value)(w:World):(callFunc 35 xs).run Tryz.prog w= .ok (.enter 35 xs) w:=Tryz.call35 xs w
theorem C36(xs:Array Value)(w:World):(callFunc 36 xs).run Tryz.prog w= .ok (.enter 36 xs) w:=Tryz.call36 xs w
theorem C37(xs:Array Value)(w:World):(callFunc 37 xs).run Tryz.prog w= .ok (.enter 37 xs) w:=Tryz.call37 xs w
theorem C38(xs:Array Value)(w:World):(callFunc 38 xs).run Tryz.prog w= .ok (.enter 38 xs) w:=Tryz.call38 xs w
theorem C39(xs:Array Value)(w:World):(callFunc 39 xs).run Tryz.prog w= .ok (.enter 39 xs) w:=Tryz.call39 xs w
theorem C40(xs:Array Value)(w:World):(callFunc 40 xs).run Tryz.prog w= .ok (.enter 40 xs) w:=Tryz.call40 xs w
theorem C41(xs:Array Value)(w:World):(callFunc 41 xs).run Tryz.prog w= .ok (.enter 41 xs) w:=Tryz.call41 xs w
theorem C42(xs:Array Value)(w:World):(callFunc 42 xs).run Tryz.prog w= .ok (.enter 42 xs) w:=Tryz.call42 xs w
theorem C43(xs:Array Value)(w:World):(callFunc 43 xs).run Tryz.prog w= .ok (.enter 43 xs) w:=Tryz.call43 xs w
theorem C44(xs:Array Value)(w:World):(callFunc 44 xs).run Tryz.prog w= .ok (.enter 44 xs) w:=Tryz.call44 xs w
theorem C45(xs:Array Value)(w:World):(callFunc 45 xs).run Tryz.prog w= .ok (.enter 45 xs) w:=Tryz.call45 xs w
theorem C46(xs:Array Value)(w:World):(callFunc 46 xs).run Tryz.prog w= .ok (.enter 46 xs) w:=Tryz.call46 xs w
theorem C47(xs:Array Value)(w:World):(callFunc 47 xs).run Tryz.prog w= .ok (.enter 47 xs) w:=Tryz.call47 xs w
theorem C48(xs:Array Value)(w:World):(callFunc 48 xs).run Tryz.prog w= .ok (.enter 48 xs) w:=Tryz.call48 xs w
theorem C49(xs:Array Value)(w:World):(callFunc 49 xs).run Tryz.prog w= .ok (.enter 49 xs) w:=Tryz.call49 xs w
theorem C50(xs:Array Value)(w:World):(callFunc 50 xs).run Tryz.prog w= .ok (.enter 50 xs) w:=Tryz.call50 xs w
theorem C51(xs:Array Value)(w:World):(callFunc 51 xs).run Tryz.prog w= .ok (.enter 51 xs) w:=Tryz.call51 xs w
theorem C52(xs:Array Value)(w:World):(callFunc 52 xs).run Tryz.prog w= .ok (.enter 52 xs) w:=Tryz.call52 xs w
theorem C53(xs:Array Value)(w:World):(callFunc 53 xs).run Tryz.prog w= .ok (.enter 53 xs) w:=Tryz.call53 xs w
theorem C54(xs:Array Value)(w:World):(callFunc 54 xs).run Tryz.prog w= .ok (.enter 54 xs) w:=Tryz.call54 xs w
theorem C55(xs:Array Value)(w:World):(callFunc 55 xs).run Tryz.prog w= .ok (.enter 55 xs) w:=Tryz.call55 xs w
theorem C56(xs:Array Value)(w:World):(callFunc 56 xs).run Tryz.prog w= .ok (.enter 56 xs) w:=Tryz.call56 xs w
theorem C57(xs:Array Value)(w:World):(callFunc 57 xs).run Tryz.prog w= .ok (.enter 57 xs) w:=Tryz.call57 xs w
theorem C58(xs:Array Value)(w:World):(callFunc 58 xs).run Tryz.prog w= .ok (.enter 58 xs) w:=Tryz.call58 xs w
theorem C59(xs:Array Value)(w:World):(callFunc 59 xs).run Tryz.prog w= .ok (.enter 59 xs) w:=Tryz.call59 xs w
theorem C60(xs:Array Value)(w:World):(callFunc 60 xs).run Tryz.prog w= .ok (.enter 60 xs) w:=Tryz.call60 xs w
theorem C61(xs:Array Value)(w:World):(callFunc 61 xs).run Tryz.prog w= .ok (.enter 61 xs) w:=Tryz.call61 xs w
theorem C62(xs:Array Value)(w:World):(callFunc 62 xs).run Tryz.prog w= .ok (.enter 62 xs) w:=Tryz.call62 xs w
theorem C63(xs:Array Value)(w:World):(callFunc 63 xs).run Tryz.prog w= .ok (.enter 63 xs) w:=Tryz.call63 xs w
theorem C64(xs:Array Value)(w:World):(callFunc 64 xs).run Tryz.prog w= .ok (.enter 64 xs) w:=Tryz.call64 xs w
theorem C65(xs:Array Value)(w:World):(callFunc 65 xs).run Tryz.prog w= .ok (.enter 65 xs) w:=Tryz.call65 xs w
theorem C66(xs:Array Value)(w:World):(callFunc 66 xs).run Tryz.prog w= .ok (.enter 66 xs) w:=Tryz.call66 xs w
theorem C67(xs:Array Value)(w:World):(callFunc 67 xs).run Tryz.prog w= .ok (.enter 67 xs) w:=Tryz.call67 xs w
theorem C68(xs:Array Value)(w:World):(callFunc 68 xs).run Tryz.prog w= .ok (.enter 68 xs) w:=Tryz.call68 xs w
theorem C69(xs:Array Value)(w:World):(callFunc 69 xs).run Tryz.prog w= .ok (.enter 69 xs) w:=Tryz.call69 xs w
theorem C70(xs:Array Value)(w:World):(callFunc 70 xs).run Tryz.prog w= .ok (.enter 70 xs) w:=Tryz.call70 xs w
theorem C71(xs:Array Value)(w:World):(callFunc 71 xs).run Tryz.prog w= .ok (.enter 71 xs) w:=Tryz.call71 xs w
theorem C72(xs:Array Value)(w:World):(callFunc 72 xs).run Tryz.prog w= .ok (.enter 72 xs) w:=Tryz.call72 xs w
theorem C73(xs:Array Value)(w:World):(callFunc 73 xs).run Tryz.prog w= .ok (.enter 73 xs) w:=Tryz.call73 xs w
theorem C74(xs:Array Value)(w:World):(callFunc 74 xs).run Tryz.prog w= .ok (.enter 74 xs) w:=Tryz.call74 xs w
theorem C75(xs:Array Value)(w:World):(callFunc 75 xs).run Tryz.prog w= .ok (.enter 75 xs) w:=Tryz.call75 xs w
theorem C76(xs:Array Value)(w:World):(callFunc 76 xs).run Tryz.prog w= .ok (.enter 76 xs) w:=Tryz.call76 xs w
theorem C77(xs:Array Value)(w:World):(callFunc 77 xs).run Tryz.prog w= .ok (.enter 77 xs) w:=Tryz.call77 xs w
theorem C78(xs:Array Value)(w:World):(callFunc 78 xs).run Tryz.prog w= .ok (.enter 78 xs) w:=Tryz.call78 xs w
theorem C79(xs:Array Value)(w:World):(callFunc 79 xs).run Tryz.prog w= .ok (.enter 79 xs) w:=Tryz.call79 xs w
theorem C80(xs:Array Value)(w:World):(callFunc 80 xs).run Tryz.prog w= .ok (.enter 80 xs) w:=Tryz.call80 xs w
theorem C81(xs:Array Value)(w:World):(callFunc 81 xs).run Tryz.prog w= .ok (.enter 81 xs) w:=Tryz.call81 xs w
theorem C82(xs:Array Value)(w:World):(callFunc 82 xs).run Tryz.prog w= .ok (.enter 82 xs) w:=Tryz.call82 xs w
theorem C83(xs:Array Value)(w:World):(callFunc 83 xs).run Tryz.prog w= .ok (.enter 83 xs) w:=Tryz.call83 xs w
theorem C84(xs:Array Value)(w:World):(callFunc 84 xs).run Tryz.prog w= .ok (.enter 84 xs) w:=Tryz.call84 xs w
theorem C85(xs:Array Value)(w:World):(callFunc 85 xs).run Tryz.prog w= .ok (.enter 85 xs) w:=Tryz.call85 xs w
theorem C86(xs:Array Value)(w:World):(callFunc 86 xs).run Tryz.prog w= .ok (.enter 86 xs) w:=Tryz.call86 xs w
theorem C87(xs:Array Value)(w:World):(callFunc 87 xs).run Tryz.prog w= .ok (.enter 87 xs) w:=Tryz.call87 xs w
theorem C88(xs:Array Value)(w:World):(callFunc 88 xs).run Tryz.prog w= .ok (.enter 88 xs) w:=Tryz.call88 xs w
theorem C89(xs:Array Value)(w:World):(callFunc 89 xs).run Tryz.prog w= .ok (.enter 89 xs) w:=Tryz.call89 xs w
theorem C90(xs:Array Value)(w:World):(callFunc 90 xs).run Tryz.prog w= .ok (.enter 90 xs) w:=Tryz.call90 xs w
theorem C91(xs:Array Value)(w:World):(callFunc 91 xs).run Tryz.prog w= .ok (.enter 91 xs) w:=Tryz.call91 xs w
theorem C92(xs:Array Value)(w:World):(callFunc 92 xs).run Tryz.prog w= .ok (.enter 92 xs) w:=Tryz.call92 xs w
theorem C93(xs:Array Value)(w:World):(callFunc 93 xs).run Tryz.prog w= .ok (.enter 93 xs) w:=Tryz.call93 xs w
theorem C94(xs:Array Value)(w:World):(callFunc 94 xs).run Tryz.prog w= .ok (.enter 94 xs) w:=Tryz.call94 xs w
theorem C95(xs:Array Value)(w:World):(callFunc 95 xs).run Tryz.prog w= .ok (.enter 95 xs) w:=Tryz.call95 xs w
theorem C96(xs:Array Value)(w:World):(callFunc 96 xs).run Tryz.prog w= .ok (.enter 96 xs) w:=Tryz.call96 xs w
theorem C97(xs:Array Value)(w:World):(callFunc 97 xs).run Tryz.prog w= .ok (.enter 97 xs) w:=Tryz.call97 xs w
theorem C98(xs:Array Value)(w:World):(callFunc 98 xs).run Tryz.prog w= .ok (.enter 98 xs) w:=Tryz.call98 xs w
theorem C99(xs:Array Value)(w:World):(callFunc 99 xs).run Tryz.prog w= .ok (.enter 99 xs) w:=Tryz.call99 xs w
theorem C100(xs:Array Value)(w:World):(callFunc 100 xs).run Tryz.prog w= .ok (.enter 100 xs) w:=Tryz.call100 xs w
theorem C101(xs:Array Value)(w:World):(callFunc 101 xs).run Tryz.prog w= .ok (.enter 101 xs) w:=Tryz.call101 xs w
theorem C102(xs:Array Value)(w:World):(callFunc 102 xs).run Tryz.prog w= .ok (.enter 102 xs) w:=Tryz.call102 xs w
theorem C103(xs:Array Value)(w:World):(callFunc 103 xs).run Tryz.prog w= .ok (.enter 103 xs) w:=Tryz.call103 xs w
theorem C104(xs:Array Value)(w:World):(callFunc 104 xs).run Tryz.prog w= .ok (.enter 104 xs) w:=Tryz.call104 xs w
theorem C105(xs:Array Value)(w:World):(callFunc 105 xs).run Tryz.prog w= .ok (.enter 105 xs) w:=Tryz.call105 xs w
theorem C106(xs:Array Value)(w:World):(callFunc 106 xs).run Tryz.prog w= .ok (.enter 106 xs) w:=Tryz.call106 xs w
theorem C107(xs:Array Value)(w:World):(callFunc 107 xs).run Tryz.prog w= .ok (.enter 107 xs) w:=Tryz.call107 xs w
theorem C108(xs:Array Value)(w:World):(callFunc 108 xs).run Tryz.prog w= .ok (.enter 108 xs) w:=Tryz.call108 xs w
theorem C109(xs:Array Value)(w:World):(callFunc 109 xs).run Tryz.prog w= .ok (.enter 109 xs) w:=Tryz.call109 xs w
theorem C110(xs:Array Value)(w:World):(callFunc 110 xs).run Tryz.prog w= .ok (.enter 110 xs) w:=Tryz.call110 xs w
theorem C111(xs:Array Value)(w:World):(callFunc 111 xs).run Tryz.prog w= .ok (.enter 111 xs) w:=Tryz.call111 xs w
theorem C112(xs:Array Value)(w:World):(callFunc 112 xs).run Tryz.prog w= .ok (.enter 112 xs) w:=Tryz.call112 xs w
theorem C113(xs:Array Value)(w:World):(callFunc 113 xs).run Tryz.prog w= .ok (.enter 113 xs) w:=Tryz.call113 xs w
theorem C114(xs:Array Value)(w:World):(callFunc 114 xs).run Tryz.prog w= .ok (.enter 114 xs) w:=Tryz.call114 xs w
theorem C115(xs:Array Value)(w:World):(callFunc 115 xs).run Tryz.prog w= .ok (.enter 115 xs) w:=Tryz.call115 xs w
theorem C116(xs:Array Value)(w:World):(callFunc 116 xs).run Tryz.prog w= .ok (.enter 116 xs) w:=Tryz.call116 xs w
theorem C117(xs:Array Value)(w:World):(callFunc 117 xs).run Tryz.prog w= .ok (.enter 117 xs) w:=Tryz.call117 xs w
theorem C118(xs:Array Value)(w:World):(callFunc 118 xs).run Tryz.prog w= .ok (.enter 118 xs) w:=Tryz.call118 xs w
theorem C119(xs:Array Value)(w:World):(callFunc 119 xs).run Tryz.prog w= .ok (.enter 119 xs) w:=Tryz.call119 xs w
theorem C120(xs:Array Value)(w:World):(callFunc 120 xs).run Tryz.prog w= .ok (.enter 120 xs) w:=Tryz.call120 xs w
theorem C121(xs:Array Value)(w:World):(callFunc 121 xs).run Tryz.prog w= .ok (.enter 121 xs) w:=Tryz.call121 xs w
theorem C122(xs:Array Value)(w:World):(callFunc 122 xs).run Tryz.prog w= .ok (.enter 122 xs) w:=Tryz.call122 xs w
theorem C123(xs:Array Value)(w:World):(callFunc 123 xs).run Tryz.prog w= .ok (.enter 123 xs) w:=Tryz.call123 xs w
theorem C124(xs:Array Value)(w:World):(callFunc 124 xs).run Tryz.prog w= .ok (.enter 124 xs) w:=Tryz.call124 xs w
theorem C125(xs:Array Value)(w:World):(callFunc 125 xs).run Tryz.prog w= .ok (.enter 125 xs) w:=Tryz.call125 xs w
theorem C126(xs:Array Value)(w:World):(callFunc 126 xs).run Tryz.prog w= .ok (.enter 126 xs) w:=Tryz.call126 xs w
theorem C127(xs:Array Value)(w:World):(callFunc 127 xs).run Tryz.prog w= .ok (.enter 127 xs) w:=Tryz.call127 xs w
theorem C129(xs:Array Value)(w:World):(callFunc 129 xs).run Tryz.prog w= .ok (.enter 129 xs) w:=Tryz.call129 xs w
theorem J3(w:World):∃ m,(sizeOf 3).run Tryz.prog w= .ok (m+1) w:=⟨0,Tryz.sizeOf3 w⟩
theorem J4(w:World):∃ m,(sizeOf 4).run Tryz.prog w= .ok (m+1) w:=⟨0,Tryz.sizeOf4 w⟩
theorem J9(w:World):∃ m,(sizeOf 9).run Tryz.prog w= .ok (m+1) w:=⟨0,Tryz.sizeOf9 w⟩
theorem J23(w:World):∃ m,(sizeOf 23).run Tryz.prog w= .ok (m+1) w:=⟨2,Tryz.sizeOf23 w⟩
theorem J24(w:World):∃ m,(sizeOf 24).run Tryz.prog w= .ok (m+1) w:=⟨0,Tryz.sizeOf24 w⟩
theorem J25(w:World):∃ m,(sizeOf 25).run Tryz.prog w= .ok (m+1) w:=⟨0,Tryz.sizeOf25 w⟩
theorem J27(w:World):∃ m,(sizeOf 27).run Tryz.prog w= .ok (m+1) w:=⟨7,Tryz.sizeOf27 w⟩
theorem J40(w:World):∃ m,(sizeOf 40).run Tryz.prog w= .ok (m+1) w:=⟨0,Tryz.sizeOf40 w⟩
theorem J50(w:World):∃ m,(sizeOf 50).run Tryz.prog w= .ok (m+1) w:=⟨0,Tryz.sizeOf50 w⟩
theorem J55(w:World):∃ m,(sizeOf 55).run Tryz.prog w= .ok (m+1) w:=⟨0,Tryz.sizeOf55 w⟩
theorem U4:Tryz.prog.underlying 4=some (.bool):=Tryz.underlying4
theorem U9:Tryz.prog.underlying 9=some (.string):=Tryz.underlying9
theorem U23:Tryz.prog.underlying 23=some (.struct #[⟨ "Act",3,0,false,"","",0⟩,⟨ "Item",3,1,false,"","",8⟩,⟨ "N",3,2,false,"","",16⟩]):=Tryz.underlying23
theorem U24:Tryz.prog.underlying 24=some (.slice 33):=Tryz.underlying24
theorem U25:Tryz.prog.underlying 25=some (.slice 27):=Tryz.underlying25
theorem U27:Tryz.prog.underlying 27=some (.struct #[⟨ "Id",23,0,false,"","",0⟩,⟨ "Kind",3,3,false,"","",24⟩,⟨ "Label",9,4,false,"","",32⟩,⟨ "Head",24,5,false,"","",48⟩,⟨ "Words",24,6,false,"","",72⟩,⟨ "Kids",25,7,false,"","",96⟩]):=Tryz.underlying27
theorem U33:Tryz.prog.underlying 33=some (.struct #[⟨ "Text",9,0,false,"","",0⟩,⟨ "By",31,1,false,"","",16⟩]):=Tryz.underlying33
theorem U35:Tryz.prog.underlying 35=some (.slice 42):=Tryz.underlying35
theorem U40:Tryz.prog.underlying 40=some (.slice 23):=Tryz.underlying40
theorem U42:Tryz.prog.underlying 42=some (.struct #[⟨ "At",23,0,false,"","",0⟩,⟨ "N",3,3,false,"","",24⟩,⟨ "To",40,4,false,"","",32⟩]):=Tryz.underlying42
theorem U49:Tryz.prog.underlying 49=some (.struct #[⟨ "Kind",3,0,false,"","",0⟩,⟨ "Label",9,1,false,"","",8⟩]):=Tryz.underlying49
theorem U50:Tryz.prog.underlying 50=some (.slice 49):=Tryz.underlying50
theorem U52:Tryz.prog.underlying 52=some (.struct #[⟨ "Kind",3,0,false,"","",0⟩,⟨ "Path",50,1,false,"","",8⟩,⟨ "To",9,2,false,"","",32⟩,⟨ "From",3,3,false,"","",48⟩,⟨ "At",3,4,false,"","",56⟩]):=Tryz.underlying52
theorem U55:Tryz.prog.underlying 55=some (.slice 9):=Tryz.underlying55
theorem U56:Tryz.prog.underlying 56=some (.slice 52):=Tryz.underlying56
theorem U65:Tryz.prog.underlying 65=some (.map 3 63):=Tryz.underlying65
theorem U87:Tryz.prog.underlying 87=some (.slice 89):=Tryz.underlying87
theorem Y23(w:World):(isAgg 23).run Tryz.prog w= .ok true w:=Tryz.isAgg23 w
theorem Y25(w:World):(isAgg 25).run Tryz.prog w= .ok false w:=Tryz.isAgg25 w
theorem Y27(w:World):(isAgg 27).run Tryz.prog w= .ok true w:=Tryz.isAgg27 w
theorem Y35(w:World):(isAgg 35).run Tryz.prog w= .ok false w:=Tryz.isAgg35 w
theorem Y40(w:World):(isAgg 40).run Tryz.prog w= .ok false w:=Tryz.isAgg40 w
theorem Y45(w:World):(isAgg 45).run Tryz.prog w= .ok false w:=Tryz.isAgg45 w
theorem Y49(w:World):(isAgg 49).run Tryz.prog w= .ok true w:=Tryz.isAgg49 w
theorem Y52(w:World):(isAgg 52).run Tryz.prog w= .ok true w:=Tryz.isAgg52 w
theorem Y61(w:World):(isAgg 61).run Tryz.prog w= .ok false w:=Tryz.isAgg61 w
theorem Y92(w:World):(isAgg 92).run Tryz.prog w= .ok true w:=Tryz.isAgg92 w
theorem Z3(w:World):(sizeOf 3).run Tryz.prog w= .ok 1 w:=Tryz.sizeOf3 w
theorem Z9(w:World):(sizeOf 9).run Tryz.prog w= .ok 1 w:=Tryz.sizeOf9 w
theorem Z23(w:World):(sizeOf 23).run Tryz.prog w= .ok 3 w:=Tryz.sizeOf23 w
theorem Z25(w:World):(sizeOf 25).run Tryz.prog w= .ok 1 w:=Tryz.sizeOf25 w
theorem Z27(w:World):(sizeOf 27).run Tryz.prog w= .ok 8 w:=Tryz.sizeOf27 w
theorem Z33(w:World):(sizeOf 33).run Tryz.prog w= .ok 4 w:=Tryz.sizeOf33 w
theorem Z35(w:World):(sizeOf 35).run Tryz.prog w= .ok 1 w:=Tryz.sizeOf35 w
theorem Z40(w:World):(sizeOf 40).run Tryz.prog w= .ok 1 w:=Tryz.sizeOf40 w
theorem Z42(w:World):(sizeOf 42).run Tryz.prog w= .ok 5 w:=Tryz.sizeOf42 w
theorem Z45(w:World):(sizeOf 45).run Tryz.prog w= .ok 1 w:=Tryz.sizeOf45 w
theorem Z49(w:World):(sizeOf 49).run Tryz.prog w= .ok 2 w:=Tryz.sizeOf49 w
theorem Z50(w:World):(sizeOf 50).run Tryz.prog w= .ok 1 w:=Tryz.sizeOf50 w
theorem Z52(w:World):(sizeOf 52).run Tryz.prog w= .ok 5 w:=Tryz.sizeOf52 w
theorem Z55(w:World):(sizeOf 55).run Tryz.prog w= .ok 1 w:=Tryz.sizeOf55 w
theorem Z61(w:World):(sizeOf 61).run Tryz.prog w= .ok 1 w:=Tryz.sizeOf61 w
theorem Z89(w:World):(sizeOf 89).run Tryz.prog w= .ok 1 w:=Tryz.sizeOf89 w
theorem Z92(w:World):(sizeOf 92).run Tryz.prog w= .ok 3 w:=Tryz.sizeOf92 w
end Go.Proofs.YtlegkjbldofkmaaGreat
