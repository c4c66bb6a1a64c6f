/-
  What the functions compute: plain functions, written by program out of the code; no machine in sight.
-/
import Derived.Test.YtapobcikfdbjiaaGreatDoorDec4
set_option linter.unusedVariables false
set_option linter.unusedSimpArgs false
namespace Go.Proofs.YtapobcikfdbjiaaGreatDoor
open Go Go.Dec
def gv1:List (List Int):=[[(1:Int),(2:Int)],[(2:Int)],[(3:Int),(4:Int),(7:Int)],[(3:Int),(4:Int),(7:Int)],[(5:Int)],[(6:Int)],([]:List Int),([]:List Int)]
def gv4:List Str:=[([98,111,111,107]:Str),([112,97,114,116]:Str),([115,101,99,116,105,111,110]:Str),([112,97,114,97,103,114,97,112,104]:Str),([116,97,98,108,101]:Str),([114,111,119]:Str),([99,101,108,108]:Str),([110,111,116,101]:Str)]
structure ai where
 Act:Int
 Item:Int
 N:Int
theorem ai.uR(a b:ai):(a.Act=b.Act/\a.Item=b.Item/\a.N=b.N) ↔ a=b:=⟨fun h=>by cases a;cases b;simp_all,fun h=>by subst h;simp⟩
instance:DecidableEq ai:=fun a b=>decidable_of_iff _ (ai.uR a b)
abbrev aF:ai:=⟨(0:Int),(0:Int),(0:Int)⟩
structure kL where
 Act:Int
 Item:Int
 At:Int
theorem kL.uR(a b:kL):(a.Act=b.Act/\a.Item=b.Item/\a.At=b.At) ↔ a=b:=⟨fun h=>by cases a;cases b;simp_all,fun h=>by subst h;simp⟩
instance:DecidableEq kL:=fun a b=>decidable_of_iff _ (kL.uR a b)
abbrev mR:kL:=⟨(0:Int),(0:Int),(0:Int)⟩
structure af where
 Text:Str
 By:kL
theorem af.uR(a b:af):(a.Text=b.Text/\a.By=b.By) ↔ a=b:=⟨fun h=>by cases a;cases b;simp_all,fun h=>by subst h;simp⟩
instance:DecidableEq af:=fun a b=>decidable_of_iff _ (af.uR a b)
abbrev uJ:af:=⟨([]:Str),mR⟩
structure aa where
 Id:ai
 Kind:Int
 Label:Str
 Head:List af
 Words:List af
 Kids:List aa
abbrev au:aa:=⟨aF,(0:Int),([]:Str),([]:List af),([]:List af),([]:List aa)⟩
structure ax where
 Kind:Int
 Label:Str
theorem ax.uR(a b:ax):(a.Kind=b.Kind/\a.Label=b.Label) ↔ a=b:=⟨fun h=>by cases a;cases b;simp_all,fun h=>by subst h;simp⟩
instance:DecidableEq ax:=fun a b=>decidable_of_iff _ (ax.uR a b)
abbrev M5:ax:=⟨(0:Int),([]:Str)⟩
structure fZ where
 Kind:Int
 Day:Int
 Event:Str
theorem fZ.uR(a b:fZ):(a.Kind=b.Kind/\a.Day=b.Day/\a.Event=b.Event) ↔ a=b:=⟨fun h=>by cases a;cases b;simp_all,fun h=>by subst h;simp⟩
instance:DecidableEq fZ:=fun a b=>decidable_of_iff _ (fZ.uR a b)
abbrev kJ:fZ:=⟨(0:Int),(0:Int),([]:Str)⟩
structure ah where
 Kind:Int
 At:List ax
 To:List ax
 Where:Int
 Nth:Int
 Unit:aa
 Old:List Str
 New:List Str
 Label:Str
 For:Str
 Start:fZ
 Act:Int
 Item:Int
 Day:Int
 Event:Str
 By:List ah
abbrev yA:ah:=⟨(0:Int),([]:List ax),([]:List ax),(0:Int),(0:Int),au,([]:List Str),([]:List Str),([]:Str),([]:Str),kJ,(0:Int),(0:Int),(0:Int),([]:Str),([]:List ah)⟩
structure ak where
 Act:Int
 Item:Int
 Day:Int
 It:ah
abbrev wh:ak:=⟨(0:Int),(0:Int),(0:Int),yA⟩
structure az where
 Kind:Int
 At:Int
 Id:ai
 Parent:ai
 Unit:aa
 Label:Str
 Words:List af
abbrev zu:az:=⟨(0:Int),(0:Int),aF,aF,au,([]:Str),([]:List af)⟩
structure dX where
 has_:ah->Option ah
 may_:ah->Option Bool
abbrev nQ:dX:=⟨(fun _=>none:ah->Option ah),(fun _=>none:ah->Option Bool)⟩
structure aH where
 parent_:ai
 at_:Int
abbrev Ad:aH:=⟨aF,(0:Int)⟩
structure av where
 act_:Int
 item_:Int
 unit_:Int
 word_:Int
abbrev wm:av:=⟨(0:Int),(0:Int),(0:Int),(0:Int)⟩
structure bD where
 kind_:Int
 label_:Str
theorem bD.uR(a b:bD):(a.kind_=b.kind_/\a.label_=b.label_) ↔ a=b:=⟨fun h=>by cases a;cases b;simp_all,fun h=>by subst h;simp⟩
instance:DecidableEq bD:=fun a b=>decidable_of_iff _ (bD.uR a b)
abbrev Ae:bD:=⟨(0:Int),([]:Str)⟩
structure jL where
 Act:Int
 Item:Int
 Why:Int
abbrev Af:jL:=⟨(0:Int),(0:Int),(0:Int)⟩
structure aV where
 wrong_:Unit->Option Bool
 e_:Int
abbrev xq:aV:=⟨(fun _=>none:Unit->Option Bool),(0:Int)⟩
def gv0:dX:=nQ
def M.ig(u:aa)(deep:Int)(most:Int)(slf:aa->Int->Int->Option Int):Nat->Int->Int->Option Int
 | 0,_,_=>none
 | n+1,n0_,i=>(if i<(u.Kids.length:Int) then some (decide (n0_<=most)) else some false).bind fun v1=>if v1 then (idx u.Kids i).bind fun v2=>(addC deep 1).bind fun v3=>(subC most n0_).bind fun v4=>(slf v2 v3 v4).bind fun size=>(addC n0_ size).bind fun v5=>(addC i 1).bind fun v6=>M.ig u deep most slf n v5 v6 else some n0_
def M.r9:Nat->aa->Int->Int->Option Int
 | 0,_,_,_=>none
 | n+1,u,deep,most=>if 20 < deep then (addC most 1).bind fun v=>some v else (M.ig u deep most (M.r9 n) n 1 0).bind fun n0_=>some n0_
def M.gy(l:List af):Nat->Int->Option (Unit ⊕ Bool)
 | 0,_=>none
 | n+1,i=>if i<(l.length:Int) then (idx l i).bind fun v=>if 100 < (v.Text.length:Int) then some (.inr false) else M.gy l n (i+1) else some (.inl ())
def M.rG(n:Nat)(l:List af):Option Bool:=(M.gy l n 0).bind fun
 | .inl _=>some (decide ((l.length:Int)<=300))
 | .inr ret0=>some ret0
def M.eP(u:aa)(slf:aa->Option Bool):Nat->Int->Option (Unit ⊕ Bool)
 | 0,_=>none
 | n+1,i=>if i<(u.Kids.length:Int) then (idx u.Kids i).bind fun v1=>(slf v1).bind fun words=>if words=false then some (.inr false) else M.eP u slf n (i+1) else some (.inl ())
def M.mU:Nat->aa->Option Bool
 | 0,_=>none
 | n+1,u=>(if 30 < (u.Label.length:Int) then some true else (M.rG n u.Head).bind fun short=>if short=false then some true else (M.rG n u.Words).bind fun short1=>some (!short1)).bind fun v=>if v then some false else (M.eP u (M.mU n) n 0).bind fun
  | .inl _=>some true
  | .inr ret0=>some ret0
def M.uw(n:Nat)(u:aa)(most:Int):Option Bool:=(M.r9 n u 0 most).bind fun size=>if size<=most then (M.mU n u).bind fun words=>some words else some false
def M.iG(l:List af):Nat->(List Str)->Int->Option (List Str)
 | 0,_,_=>none
 | n+1,out,i=>if i<(l.length:Int) then (idx l i).bind fun v=>(appC out [v.Text]).bind fun out1=>M.iG l n out1 (i+1) else some out
def M.wo(n:Nat)(l:List af):Option (List Str):=(M.iG l n [] 0).bind fun out=>some out
def M.jq(s0_:Str):Nat->Int->Option (Unit ⊕ Bool)
 | 0,_=>none
 | n+1,i=>if i<(s0_.length:Int) then (idx s0_ i).bind fun b=>if (b.toNat:Int)< 33 then some (.inr false) else (idx s0_ i).bind fun b1=>if 126 < (b1.toNat:Int) then some (.inr false) else M.jq s0_ n (i+1) else some (.inl ())
def M.xC(n:Nat)(s0_:Str):Option Bool:=(if (s0_.length:Int)< 1 then some true else some (decide (24 < (s0_.length:Int)))).bind fun v=>if v then some false else (M.jq s0_ n 0).bind fun
 | .inl _=>some true
 | .inr ret0=>some ret0
def M.jW(l:List Str):Nat->Int->Option (Unit ⊕ Bool)
 | 0,_=>none
 | n+1,i=>if i<(l.length:Int) then (idx l i).bind fun v=>(M.xC n v).bind fun word=>if word=false then some (.inr false) else M.jW l n (i+1) else some (.inl ())
def M.yB(n:Nat)(l:List Str):Option Bool:=if 256 < (l.length:Int) then some false else (M.jW l n 0).bind fun
 | .inl _=>some true
 | .inr ret0=>some ret0
def M.yC(n:Nat)(l:List af):Option Bool:=if (l.length:Int)<=256 then (M.wo n l).bind fun texts=>(M.yB n texts).bind fun may=>some may else some false
def M.gP(s0_:Str):Nat->Int->Option Int
 | 0,_=>none
 | n+1,n0_=>if n0_<(s0_.length:Int) then (idx s0_ n0_).bind fun b=>if 48<=(b.toNat:Int) then (idx s0_ n0_).bind fun b1=>if (b1.toNat:Int)<=57 then M.gP s0_ n (n0_+1) else some n0_ else some n0_ else some n0_
def M.uS(n:Nat)(s0_:Str):Option Int:=(M.gP s0_ n 0).bind fun n0_=>some n0_
def M.jX(s0_:Str):Nat->Int->Option (Unit ⊕ Bool)
 | 0,_=>none
 | n+1,i=>if i<(s0_.length:Int) then (idx s0_ i).bind fun b1=>if (b1.toNat:Int)< 65 then some (.inr false) else (idx s0_ i).bind fun b2=>if 90 < (b2.toNat:Int) then some (.inr false) else M.jX s0_ n (i+1) else some (.inl ())
def M.vE(n:Nat)(s0_:Str):Option Bool:=(M.uS n s0_).bind fun digits=>(if digits<1 then some true else if 4 < digits then some true else (idx s0_ 0).bind fun b=>if (b.toNat:Int)=48 then some true else (subC (s0_.length:Int) digits).bind fun v1=>some (decide (3 < v1))).bind fun v=>if v then some false else (M.jX s0_ n digits).bind fun
 | .inl _=>some true
 | .inr ret0=>some ret0
def M.wu(n:Nat)(u:aa):Option Bool:=(if u.Kind<0 then some true else if 7 < u.Kind then some true else if 64 < (u.Kids.length:Int) then some true else (M.yC n u.Head).bind fun row=>if row=false then some true else (M.yC n u.Words).bind fun row1=>some (!row1)).bind fun v=>if v then some false else if u.Kind=0 then (if (u.Label==([]:Str))=true then if (u.Head.length:Int)=0 then some (decide ((u.Words.length:Int)=0)) else some false else some false).bind fun v1=>some v1 else (M.vE n u.Label).bind fun may=>some may
def M.ww(parent:Int)(kind:Int):Option Bool:=if parent=0 then if kind=1 then some true else some (decide (kind=2)) else if parent=1 then some (decide (kind=2)) else (if parent=2 then some (decide (parent=2)) else some (decide (parent=3))).bind fun v=>if v then if kind=3 then some true else if kind=4 then some true else some (decide (kind=7)) else if parent=4 then some (decide (kind=5)) else if parent=5 then some (decide (kind=6)) else some false
def M.dA(u:aa)(i:Int):Nat->Int->Option (Unit ⊕ Bool)
 | 0,_=>none
 | n+1,k=>if k<i then (idx u.Kids k).bind fun v2=>(idx u.Kids i).bind fun v3=>if v2.Kind=v3.Kind then (idx u.Kids k).bind fun v4=>(idx u.Kids i).bind fun v5=>if (v4.Label==v5.Label)=true then some (.inr false) else (addC k 1).bind fun v6=>M.dA u i n v6 else (addC k 1).bind fun v7=>M.dA u i n v7 else some (.inl ())
def M.eQ(u:aa)(slf:aa->Option Bool):Nat->Int->Option (Unit ⊕ Bool)
 | 0,_=>none
 | n+1,i=>if i<(u.Kids.length:Int) then (idx u.Kids i).bind fun v=>(M.ww u.Kind v.Kind).bind fun nests=>if nests=false then some (.inr false) else (idx u.Kids i).bind fun v1=>(slf v1).bind fun right=>if right=false then some (.inr false) else (M.dA u i n 0).bind fun
  | .inl _=>(addC i 1).bind fun v8=>M.eQ u slf n v8
  | .inr ret0=>some (.inr ret0) else some (.inl ())
def M.oV:Nat->aa->Option Bool
 | 0,_=>none
 | n+1,u=>(M.wu n u).bind fun alone=>if alone=false then some false else (M.eQ u (M.oV n) n 0).bind fun
  | .inl _=>some true
  | .inr ret0=>some ret0
def M.iH(u:aa)(slf:aa->Option Int):Nat->Int->Int->Option Int
 | 0,_,_=>none
 | n+1,d,i=>if i<(u.Kids.length:Int) then (idx u.Kids i).bind fun v=>(slf v).bind fun depth=>(addC 1 depth).bind fun v1=>M.iH u slf n (max d v1) (i+1) else some d
def M.rH:Nat->aa->Option Int
 | 0,_=>none
 | n+1,u=>(M.iH u (M.rH n) n 0 0).bind fun d=>some d
def M.iI(u:aa)(slf:aa->Option Int):Nat->Int->Int->Option Int
 | 0,_,_=>none
 | n+1,n0_,i=>if i<(u.Kids.length:Int) then (idx u.Kids i).bind fun v=>(slf v).bind fun count=>(addC n0_ count).bind fun v1=>M.iI u slf n v1 (i+1) else some n0_
def M.rM:Nat->aa->Option Int
 | 0,_=>none
 | n+1,u=>(M.iI u (M.rM n) n 1 0).bind fun n0_=>some n0_
def M.jY(u:aa)(slf:aa->Option (List ai)):Nat->(List ai)->Int->Option (List ai)
 | 0,_,_=>none
 | n+1,out,i=>if i<(u.Kids.length:Int) then (idx u.Kids i).bind fun v=>(slf v).bind fun all=>(appC out all).bind fun out1=>M.jY u slf n out1 (i+1) else some out
def M.vF:Nat->aa->Option (List ai)
 | 0,_=>none
 | n+1,u=>(M.jY u (M.vF n) n [u.Id] 0).bind fun out=>some out
def M.dO(all:List ai)(i1:Int):Nat->Int->Option (Unit ⊕ Bool)
 | 0,_=>none
 | n+1,k=>if k<i1 then (idx all k).bind fun v2=>(idx all i1).bind fun v3=>if v2=v3 then some (.inr false) else (addC k 1).bind fun v4=>M.dO all i1 n v4 else some (.inl ())
def M.dZ(all:List ai):Nat->Int->Option (Unit ⊕ Bool)
 | 0,_=>none
 | n+1,i1=>if i1<(all.length:Int) then (M.dO all i1 n 0).bind fun
  | .inl _=>(addC i1 1).bind fun v5=>M.dZ all n v5
  | .inr ret0=>some (.inr ret0) else some (.inl ())
def M.fq(all:List ai):Nat->Bool->Int->Option Bool
 | 0,_,_=>none
 | n+1,none0_,i=>if i<(all.length:Int) then if none0_ then (idx all i).bind fun v=>M.fq all n (decide (v=(⟨(0:Int),(0:Int),(0:Int)⟩:ai))) (i+1) else M.fq all n false (i+1) else some none0_
def M.uy(n:Nat)(u:aa):Option Bool:=(M.vF n u).bind fun all=>(M.fq all n true 0).bind fun none0_=>if none0_ then some true else (idx all 0).bind fun v1=>if ((decide (v1=(⟨(0:Int),(0:Int),(0:Int)⟩:ai))) !=(decide (u.Kind=0)))=true then some false else (M.dZ all n 0).bind fun
 | .inl _=>some true
 | .inr ret0=>some ret0
def M.yD(n:Nat)(u:aa):Option Bool:=(M.oV n u).bind fun right=>if right then (M.rH n u).bind fun depth=>if depth<=8 then (M.rM n u).bind fun count=>if count<=1024 then (M.uy n u).bind fun ids=>some ids else some false else some false else some false
def M.oh(n:Nat)(u:aa)(most:Int):Option Bool:=(M.uw n u most).bind fun few=>if few then if u.Kind=0 then (M.yD n u).bind fun may=>if may then if (u.Kids.length:Int)=0 then some true else (idx u.Kids 0).bind fun v=>some (decide (v.Id≠u.Id)) else some false else some false else some false
def M.il(x:ah)(slf:ah->Option Bool):Nat->Int->Option (Unit ⊕ Bool)
 | 0,_=>none
 | n+1,i4=>if i4<(x.By.length:Int) then (idx x.By i4).bind fun v5=>if 0 < (v5.By.length:Int) then (idx x.By i4).bind fun v6=>(idx v6.By 0).bind fun v7=>if 0 < (v7.By.length:Int) then some (.inr false) else (idx x.By i4).bind fun v8=>(slf v8).bind fun few1=>if few1=false then some (.inr false) else M.il x slf n (i4+1) else (idx x.By i4).bind fun v9=>(slf v9).bind fun few2=>if few2=false then some (.inr false) else M.il x slf n (i4+1) else some (.inl ())
def M.gB(x:ah):Nat->Int->Option (Unit ⊕ Bool)
 | 0,_=>none
 | n+1,i3=>if i3<(x.To.length:Int) then (idx x.To i3).bind fun v4=>if 100 < (v4.Label.length:Int) then some (.inr false) else M.gB x n (i3+1) else some (.inl ())
def M.gD(x:ah):Nat->Int->Option (Unit ⊕ Bool)
 | 0,_=>none
 | n+1,i2=>if i2<(x.At.length:Int) then (idx x.At i2).bind fun v3=>if 100 < (v3.Label.length:Int) then some (.inr false) else M.gD x n (i2+1) else some (.inl ())
def M.gF(x:ah):Nat->Int->Option (Unit ⊕ Bool)
 | 0,_=>none
 | n+1,i1=>if i1<(x.New.length:Int) then (idx x.New i1).bind fun v2=>if 100 < (v2.length:Int) then some (.inr false) else M.gF x n (i1+1) else some (.inl ())
def M.gG(x:ah):Nat->Int->Option (Unit ⊕ Bool)
 | 0,_=>none
 | n+1,i=>if i<(x.Old.length:Int) then (idx x.Old i).bind fun v1=>if 100 < (v1.length:Int) then some (.inr false) else M.gG x n (i+1) else some (.inl ())
def M.vG:Nat->ah->Option Bool
 | 0,_=>none
 | n+1,x=>(if 12 < (x.At.length:Int) then some true else if 12 < (x.To.length:Int) then some true else if 300 < (x.Old.length:Int) then some true else if 300 < (x.New.length:Int) then some true else if 100 < (x.Label.length:Int) then some true else if 100 < (x.For.length:Int) then some true else if 100 < (x.Start.Event.length:Int) then some true else if 100 < (x.Event.length:Int) then some true else if 2 < (x.By.length:Int) then some true else (M.uw n x.Unit 30).bind fun few=>some (!few)).bind fun v=>if v then some false else (M.gG x n 0).bind fun
  | .inl _=>(M.gF x n 0).bind fun
   | .inl _=>(M.gD x n 0).bind fun
    | .inl _=>(M.gB x n 0).bind fun
     | .inl _=>(M.il x (M.vG n) n 0).bind fun
      | .inl _=>some true
      | .inr ret0=>some ret0
     | .inr ret0=>some ret0
    | .inr ret0=>some ret0
   | .inr ret0=>some ret0
  | .inr ret0=>some ret0
def M.nR(kind:Int):Option Bool:=if 0<=kind then some (decide (kind<=6)) else some false
def M.p9(n0_:Int)(low:Int)(high:Int):Option Bool:=if low<=n0_ then some (decide (n0_<=high)) else some false
def M.ol(x:ah):Option ah:=(if x.Kind<=6 then some ({({({(⟨x.Kind,([]:List ax),([]:List ax),(0:Int),(0:Int),au,([]:List Str),([]:List Str),([]:Str),([]:Str),kJ,(0:Int),(0:Int),(0:Int),([]:Str),([]:List ah)⟩:ah) with At:=x.At}:ah) with For:=x.For}:ah) with Start:=x.Start}:ah) else some ({(⟨x.Kind,([]:List ax),([]:List ax),(0:Int),(0:Int),au,([]:List Str),([]:List Str),([]:Str),([]:Str),kJ,(0:Int),(0:Int),(0:Int),([]:Str),([]:List ah)⟩:ah) with Day:=x.Day}:ah)).bind fun y=>if x.Kind=0 then some ({({y with Where:=x.Where}:ah) with Unit:=x.Unit}:ah) else (if x.Kind=2 then some (decide (x.Kind=2)) else some (decide (x.Kind=3))).bind fun v=>if v then some ({({({y with Old:=x.Old}:ah) with New:=x.New}:ah) with Nth:=x.Nth}:ah) else if x.Kind=4 then some ({y with New:=x.New}:ah) else if x.Kind=5 then some ({y with Label:=x.Label}:ah) else if x.Kind=6 then some ({({y with To:=x.To}:ah) with Where:=x.Where}:ah) else (if x.Kind=7 then some (decide (x.Kind=7)) else if x.Kind=8 then some (decide (x.Kind=8)) else some (decide (x.Kind=9))).bind fun v1=>if v1 then some ({({y with Act:=x.Act}:ah) with Item:=x.Item}:ah) else if x.Kind=10 then some ({y with Event:=x.Event}:ah) else if x.Kind=11 then some ({({({({y with Act:=x.Act}:ah) with Item:=x.Item}:ah) with By:=x.By}:ah) with Day:=0}:ah) else some y
def M.iq(a:List ax)(b:List ax):Nat->Int->Option (Unit ⊕ Bool)
 | 0,_=>none
 | n+1,i=>if i<(a.length:Int) then (idx a i).bind fun v=>(idx b i).bind fun v1=>if v≠v1 then some (.inr false) else M.iq a b n (i+1) else some (.inl ())
def M.wy(n:Nat)(a:List ax)(b:List ax):Option Bool:=if (a.length:Int)≠(b.length:Int) then some false else (M.iq a b n 0).bind fun
 | .inl _=>some true
 | .inr ret0=>some ret0
def M.iw(a:List Str)(b:List Str):Nat->Int->Option (Unit ⊕ Bool)
 | 0,_=>none
 | n+1,i=>if i<(a.length:Int) then (idx a i).bind fun v=>(idx b i).bind fun v1=>if (v !=v1)=true then some (.inr false) else M.iw a b n (i+1) else some (.inl ())
def M.wz(n:Nat)(a:List Str)(b:List Str):Option Bool:=if (a.length:Int)≠(b.length:Int) then some false else (M.iw a b n 0).bind fun
 | .inl _=>some true
 | .inr ret0=>some ret0
def M.iA(a:List af)(b:List af):Nat->Int->Option (Unit ⊕ Bool)
 | 0,_=>none
 | n+1,i=>if i<(a.length:Int) then (idx a i).bind fun v=>(idx b i).bind fun v1=>if v≠v1 then some (.inr false) else M.iA a b n (i+1) else some (.inl ())
def M.tH(n:Nat)(a:List af)(b:List af):Option Bool:=if (a.length:Int)≠(b.length:Int) then some false else (M.iA a b n 0).bind fun
 | .inl _=>some true
 | .inr ret0=>some ret0
def M.iB(a:aa)(b:aa)(slf:aa->aa->Option Bool):Nat->Int->Option (Unit ⊕ Bool)
 | 0,_=>none
 | n+1,i=>if i<(a.Kids.length:Int) then (idx a.Kids i).bind fun v1=>(idx b.Kids i).bind fun v2=>(slf v1 v2).bind fun same=>if same=false then some (.inr false) else M.iB a b slf n (i+1) else some (.inl ())
def M.qa:Nat->aa->aa->Option Bool
 | 0,_,_=>none
 | n+1,a,b=>(if a.Id≠b.Id then some true else if a.Kind≠b.Kind then some true else if (a.Label !=b.Label)=true then some true else (M.tH n a.Head b.Head).bind fun rows=>if rows=false then some true else (M.tH n a.Words b.Words).bind fun rows1=>if rows1=false then some true else some (decide ((a.Kids.length:Int)≠(b.Kids.length:Int)))).bind fun v=>if v then some false else (M.iB a b (M.qa n) n 0).bind fun
  | .inl _=>some true
  | .inr ret0=>some ret0
def M.ko(a:ah)(b:ah)(slf:ah->ah->Option Bool):Nat->Int->Option (Unit ⊕ Bool)
 | 0,_=>none
 | n+1,i=>if i<(a.By.length:Int) then (idx a.By i).bind fun v2=>(idx b.By i).bind fun v3=>(slf v2 v3).bind fun same5=>if same5=false then some (.inr false) else M.ko a b slf n (i+1) else some (.inl ())
def M.tJ:Nat->ah->ah->Option Bool
 | 0,_,_=>none
 | n+1,a,b=>(if a.Kind≠b.Kind then some true else if a.Where≠b.Where then some true else if a.Nth≠b.Nth then some true else if (a.Label !=b.Label)=true then some true else if (a.For !=b.For)=true then some true else if a.Start≠b.Start then some true else if a.Act≠b.Act then some true else if a.Item≠b.Item then some true else if a.Day≠b.Day then some true else some (a.Event !=b.Event)).bind fun v=>if v then some false else ((M.wy n a.At b.At).bind fun same=>if same=false then some true else (M.wy n a.To b.To).bind fun same1=>if same1=false then some true else (M.wz n a.Old b.Old).bind fun same2=>if same2=false then some true else (M.wz n a.New b.New).bind fun same3=>if same3=false then some true else (M.qa n a.Unit b.Unit).bind fun same4=>if same4=false then some true else some (decide ((a.By.length:Int)≠(b.By.length:Int)))).bind fun v1=>if v1 then some false else (M.ko a b (M.tJ n) n 0).bind fun
  | .inl _=>some true
  | .inr ret0=>some ret0
def M.wB(s0_:ax):Option Bool:=if s0_.Kind=0 then some (s0_.Label==([]:Str)) else some false
def M.fu(p:List ax):Nat->Int->Option (Unit ⊕ Bool)
 | 0,_=>none
 | n+1,i=>if i<(p.length:Int) then (if i=0 then (idx p i).bind fun v1=>(M.wB v1).bind fun book=>some book else some false).bind fun v=>if v then M.fu p n (i+1) else (idx p i).bind fun v2=>if v2.Kind<1 then some (.inr false) else (idx p i).bind fun v3=>if 7 < v3.Kind then some (.inr false) else (idx p i).bind fun v4=>(M.vE n v4.Label).bind fun may=>if may=false then some (.inr false) else M.fu p n (i+1) else some (.inl ())
def M.vH(n:Nat)(p:List ax):Option Bool:=if 9 < (p.length:Int) then some false else (M.fu p n 0).bind fun
 | .inl _=>some true
 | .inr ret0=>some ret0
def M.cK(s0_:Str):Nat->Int->Option (Unit ⊕ Bool)
 | 0,_=>none
 | n+1,i=>if i<(s0_.length:Int) then (idx s0_ i).bind fun b2=>if 97<=(b2.toNat:Int) then if (b2.toNat:Int)<=122 then M.cK s0_ n (i+1) else if 48<=(b2.toNat:Int) then if (b2.toNat:Int)<=57 then M.cK s0_ n (i+1) else if ¬ ((b2.toNat:Int)=45) then some (.inr false) else M.cK s0_ n (i+1) else if ¬ ((b2.toNat:Int)=45) then some (.inr false) else M.cK s0_ n (i+1) else if 48<=(b2.toNat:Int) then if (b2.toNat:Int)<=57 then M.cK s0_ n (i+1) else if ¬ ((b2.toNat:Int)=45) then some (.inr false) else M.cK s0_ n (i+1) else if ¬ ((b2.toNat:Int)=45) then some (.inr false) else M.cK s0_ n (i+1) else some (.inl ())
def M.tK(n:Nat)(s0_:Str):Option Bool:=(if (s0_.length:Int)< 1 then some true else if 16 < (s0_.length:Int) then some true else (idx s0_ 0).bind fun b=>if (b.toNat:Int)< 97 then some true else (idx s0_ 0).bind fun b1=>some (decide (122 < (b1.toNat:Int)))).bind fun v=>if v then some false else (M.cK s0_ n 0).bind fun
 | .inl _=>some true
 | .inr ret0=>some ret0
def M.rO(n:Nat)(s0_:fZ):Option Bool:=if s0_.Kind=1 then (M.p9 s0_.Day 0 1048576).bind fun in0_=>if in0_ then some (s0_.Event==([]:Str)) else some false else if s0_.Kind=3 then if s0_.Day=0 then (M.tK n s0_.Event).bind fun name=>some name else some false else (if s0_.Kind=0 then some (decide (s0_.Kind=0)) else some (decide (s0_.Kind=2))).bind fun v=>if v then if s0_.Day=0 then some (s0_.Event==([]:Str)) else some false else some false
def M.jr(s0_:Str):Nat->Int->Option (Unit ⊕ Bool)
 | 0,_=>none
 | n+1,i=>if i<(s0_.length:Int) then (idx s0_ i).bind fun b=>if (b.toNat:Int)< 33 then some (.inr false) else (idx s0_ i).bind fun b1=>if 126 < (b1.toNat:Int) then some (.inr false) else M.jr s0_ n (i+1) else some (.inl ())
def M.xD(n:Nat)(s0_:Str):Option Bool:=(M.jr s0_ n 0).bind fun
 | .inl _=>if 1<=(s0_.length:Int) then some (decide ((s0_.length:Int)<=24)) else some false
 | .inr ret0=>some ret0
def M.jZ(l:List af):Nat->Int->Option (Unit ⊕ Bool)
 | 0,_=>none
 | n+1,i=>if i<(l.length:Int) then (idx l i).bind fun v=>(M.xD n v.Text).bind fun word=>if word=false then some (.inr false) else M.jZ l n (i+1) else some (.inl ())
def M.yE(n:Nat)(l:List af):Option Bool:=(M.jZ l n 0).bind fun
 | .inl _=>some (decide ((l.length:Int)<=256))
 | .inr ret0=>some ret0
def M.mV(n:Nat)(u:aa):Option Bool:=if u.Kind=0 then (if (u.Label==([]:Str))=true then if (u.Head.length:Int)=0 then some (decide ((u.Words.length:Int)=0)) else some false else some false).bind fun v=>some v else if 0 < u.Kind then if u.Kind<=7 then (M.vE n u.Label).bind fun may=>if may then (M.yE n u.Head).bind fun row=>if row then (M.yE n u.Words).bind fun row1=>some row1 else some false else some false else some false else some false
def M.rP(parent:Int)(kind:Int):Option Bool:=if parent=0 then if kind=1 then some true else some (decide (kind=2)) else if parent=1 then some (decide (kind=2)) else if parent=2 then if kind=3 then some true else if kind=4 then some true else some (decide (kind=7)) else if parent=3 then if kind=3 then some true else if kind=4 then some true else some (decide (kind=7)) else if parent=4 then some (decide (kind=5)) else if parent=5 then some (decide (kind=6)) else some false
def M.gH(u:aa)(i:Int)(v1:aa):Nat->Int->Option (Unit ⊕ Bool)
 | 0,_=>none
 | n+1,k=>if k<i then (idx u.Kids k).bind fun v4=>if v4.Kind=v1.Kind then (idx u.Kids k).bind fun v5=>if (v5.Label==v1.Label)=true then some (.inr false) else (addC k 1).bind fun v6=>M.gH u i v1 n v6 else (addC k 1).bind fun v7=>M.gH u i v1 n v7 else some (.inl ())
def M.iJ(u:aa)(depth:Int)(slf:aa->Int->Option Bool):Nat->Int->Option (Unit ⊕ Bool)
 | 0,_=>none
 | n+1,i=>if i<(u.Kids.length:Int) then (idx u.Kids i).bind fun v1=>((M.rP u.Kind v1.Kind).bind fun nests=>if nests=false then some true else (addC depth 1).bind fun v3=>(slf v1 v3).bind fun shape=>some (!shape)).bind fun v2=>if v2 then some (.inr false) else (M.gH u i v1 n 0).bind fun
  | .inl _=>(addC i 1).bind fun v8=>M.iJ u depth slf n v8
  | .inr ret0=>some (.inr ret0) else some (.inl ())
def M.rQ:Nat->aa->Int->Option Bool
 | 0,_,_=>none
 | n+1,u,depth=>(if 8 < depth then some true else if 0 < depth then if u.Kind=0 then some true else (M.mV n u).bind fun alone=>if alone=false then some true else some (decide (64 < (u.Kids.length:Int))) else (M.mV n u).bind fun alone1=>if alone1=false then some true else some (decide (64 < (u.Kids.length:Int)))).bind fun v=>if v then some false else (M.iJ u depth (M.rQ n) n 0).bind fun
  | .inl _=>some true
  | .inr ret0=>some ret0
def M.iK(u:aa)(slf:aa->Option Int):Nat->Int->Int->Option Int
 | 0,_,_=>none
 | n+1,n0_,i=>if i<(u.Kids.length:Int) then (idx u.Kids i).bind fun v=>(slf v).bind fun count=>(addC n0_ count).bind fun v1=>M.iK u slf n v1 (i+1) else some n0_
def M.lQ:Nat->aa->Option Int
 | 0,_=>none
 | n+1,u=>(M.iK u (M.lQ n) n 1 0).bind fun n0_=>some n0_
def M.uK(n:Nat)(u:aa):Option Bool:=(M.rQ n u 0).bind fun shape=>if shape then (M.lQ n u).bind fun count=>some (decide (count<=1024)) else some false
def M.Bb:Option (List Str):=some ([([98,111,111,107]:Str),([112,97,114,116]:Str),([115,101,99,116,105,111,110]:Str),([112,97,114,97,103,114,97,112,104]:Str),([116,97,98,108,101]:Str),([114,111,119]:Str),([99,101,108,108]:Str),([110,111,116,101]:Str)])
def M.eT(l:List af):Nat->Str->Int->Option Str
 | 0,_,_=>none
 | n+1,s0_,i=>if i<(l.length:Int) then (idx l i).bind fun v=>((idx v.Text 0).bind fun b=>if (b.toNat:Int)=124 then some true else (idx v.Text 0).bind fun b1=>some (decide ((b1.toNat:Int)=92))).bind fun v1=>if v1 then (catC ([92]:Str) v.Text).bind fun v2=>(catC s0_ ([32]:Str)).bind fun v3=>(catC v3 v2).bind fun v4=>M.eT l n v4 (i+1) else (catC s0_ ([32]:Str)).bind fun v5=>(catC v5 v.Text).bind fun v6=>M.eT l n v6 (i+1) else some s0_
def M.uL(n:Nat)(l:List af):Option Str:=(M.eT l n [] 0).bind fun s0_=>some s0_
def M.jv(depth:Int):Nat->Str->Int->Option Str
 | 0,_,_=>none
 | n+1,s0_,i=>if i<depth then (catC s0_ ([32,32]:Str)).bind fun v1=>(addC i 1).bind fun v2=>M.jv depth n v1 v2 else some s0_
def M.xE(n:Nat)(u:aa)(depth:Int):Option Str:=(if depth<0 then some true else if 8 < depth then some true else (M.mV n u).bind fun alone=>some (!alone)).bind fun v=>if v then some ([]:Str) else (M.jv depth n [] 0).bind fun s0_=>Option.bind M.Bb fun names=>(idx names u.Kind).bind fun v3=>(catC s0_ v3).bind fun v4=>(if u.Kind≠0 then (catC v4 ([32]:Str)).bind fun v5=>(catC v5 u.Label).bind fun v6=>some v6 else some v4).bind fun s0_1=>(if 0 < (u.Head.length:Int) then (catC s0_1 ([58]:Str)).bind fun v7=>(M.uL n u.Head).bind fun words=>(catC v7 words).bind fun v8=>some v8 else some s0_1).bind fun s0_2=>if 0 < (u.Words.length:Int) then (catC s0_2 ([32,124]:Str)).bind fun v9=>(M.uL n u.Words).bind fun words1=>(catC v9 words1).bind fun v10=>some v10 else some s0_2
def M.iL(u:aa)(depth:Int)(slf:aa->Int->Option (List Str)):Nat->(List Str)->Int->Option (List Str)
 | 0,_,_=>none
 | n+1,out,i=>if i<(u.Kids.length:Int) then (idx u.Kids i).bind fun v=>(addC depth 1).bind fun v1=>(slf v v1).bind fun lines=>(appC out lines).bind fun out1=>M.iL u depth slf n out1 (i+1) else some out
def M.rR:Nat->aa->Int->Option (List Str)
 | 0,_,_=>none
 | n+1,u,depth=>(M.xE n u depth).bind fun line=>(M.iL u depth (M.rR n) n [line] 0).bind fun out=>some out
def M.wC(n:Nat)(u:aa):Option (List Str):=(M.uK n u).bind fun shape=>if shape=false then some ([]:List Str) else (M.rR n u 0).bind fun lines=>some lines
def M.jw(lines:List Str):Nat->Str->Int->Option Str
 | 0,_,_=>none
 | n+1,s0_,i=>if i<(lines.length:Int) then (idx lines i).bind fun v=>(catC s0_ v).bind fun v1=>(catC v1 ([10]:Str)).bind fun v2=>M.jw lines n v2 (i+1) else some s0_
def M.xG(n:Nat)(u:aa):Option (Str×Int):=(M.uK n u).bind fun shape=>if shape=false then some (([]:Str),(1:Int)) else (M.wC n u).bind fun lines=>(M.jw lines n [] 0).bind fun s0_=>if 16384 < (s0_.length:Int) then some (([]:Str),(6:Int)) else some (s0_,(0:Int))
def M.iM(l:List af):Nat->(List af)->Int->Option (List af)
 | 0,_,_=>none
 | n+1,out,i=>if i<(l.length:Int) then (idx l i).bind fun v=>(appC out [(⟨v.Text,mR⟩:af)]).bind fun out1=>M.iM l n out1 (i+1) else some out
def M.uM(n:Nat)(l:List af):Option (List af):=(M.iM l n [] 0).bind fun out=>some out
def M.jM(u:aa)(slf:aa->Option aa):Nat->Int->aa->Option aa
 | 0,_,_=>none
 | n+1,i,out=>if i<(u.Kids.length:Int) then (idx u.Kids i).bind fun v=>(slf v).bind fun strip=>(appC out.Kids [strip]).bind fun out1=>M.jM u slf n (i+1) ({out with Kids:=out1}:aa) else some out
def M.oW:Nat->aa->Option aa
 | 0,_=>none
 | n+1,u=>(M.uM n u.Head).bind fun bared=>(M.uM n u.Words).bind fun bared1=>(M.jM u (M.oW n) n 0 (⟨aF,u.Kind,u.Label,bared,bared1,([]:List aa)⟩:aa)).bind fun out=>some out
def M.xH(n:Nat)(u:aa):Option Bool:=(M.yD n u).bind fun may=>if may then (M.oW n u).bind fun strip=>(M.qa n u strip).bind fun same=>some same else some false
def M.uz(n:Nat)(l:List Str)(least:Int):Option Bool:=(M.yB n l).bind fun may=>if may then some (decide (least<=(l.length:Int))) else some false
def M.nS:Nat->ah->Option Bool
 | 0,_=>none
 | n+1,x=>(M.p9 x.Kind 0 11).bind fun in0_=>if in0_=false then some false else (M.ol x).bind fun told=>(M.tJ n x told).bind fun same=>if same=false then some false else (if x.Kind<=6 then (M.vH n x.At).bind fun may=>if may=false then some true else if (x.For !=([]:Str))=true then (M.tK n x.For).bind fun name=>if name=false then some true else (M.rO n x.Start).bind fun start=>some (!start) else (M.rO n x.Start).bind fun start1=>some (!start1) else some false).bind fun v=>if v then some false else if x.Kind=0 then (M.xG n x.Unit).bind fun text=>(M.p9 x.Where 0 3).bind fun in0_1=>if in0_1 then (M.xH n x.Unit).bind fun bare=>if bare then if x.Unit.Kind≠0 then some (decide (text.2=0)) else some false else some false else some false else if x.Kind=2 then (M.uz n x.Old 1).bind fun row=>if row then (M.uz n x.New 0).bind fun row1=>if row1 then (M.p9 x.Nth 0 256).bind fun in0_2=>some in0_2 else some false else some false else if x.Kind=3 then (M.uz n x.Old 0).bind fun row2=>if row2 then (M.uz n x.New 1).bind fun row3=>if row3 then (M.p9 x.Nth 0 256).bind fun in0_3=>if in0_3 then if 0 < (x.Old.length:Int) then some true else some (decide (x.Nth=0)) else some false else some false else some false else if x.Kind=4 then (M.uz n x.New 0).bind fun row4=>some row4 else if x.Kind=5 then (M.vE n x.Label).bind fun may1=>some may1 else if x.Kind=6 then (M.p9 x.Where 0 3).bind fun in0_4=>if in0_4 then (M.vH n x.To).bind fun may2=>some may2 else some false else (if x.Kind=7 then some (decide (x.Kind=7)) else if x.Kind=8 then some (decide (x.Kind=8)) else some (decide (x.Kind=9))).bind fun v1=>if v1 then (M.p9 x.Act 1 1048576).bind fun in0_5=>if in0_5 then (M.p9 x.Item (-1:Int) 31).bind fun in0_6=>if in0_6 then (M.p9 x.Day 0 1048576).bind fun in0_7=>some in0_7 else some false else some false else if x.Kind=10 then (M.tK n x.Event).bind fun name1=>if name1 then (M.p9 x.Day 0 1048576).bind fun in0_8=>some in0_8 else some false else if x.Kind=11 then (M.p9 x.Act 1 1048576).bind fun in0_9=>if in0_9 then (M.p9 x.Item 0 31).bind fun in0_10=>if in0_10 then if (x.By.length:Int)=1 then (idx x.By 0).bind fun v2=>(M.p9 v2.Kind 0 6).bind fun in0_11=>if in0_11 then (idx x.By 0).bind fun v3=>((M.nS n) v3).bind fun may3=>some may3 else some false else some false else some false else some false else some true
def M.uT(n:Nat)(d:ak):Option Bool:=(M.nR d.It.Kind).bind fun change=>if change then (M.nS n d.It).bind fun may=>some may else some false
def M.cO(l:List ak):Nat->Int->Option (Unit ⊕ Bool)
 | 0,_=>none
 | n+1,i=>if i<(l.length:Int) then (idx l i).bind fun v=>(M.vG n v.It).bind fun few=>if few=false then some (.inr false) else (idx l i).bind fun v1=>(M.uT n v1).bind fun counts=>if counts=false then some (.inr false) else M.cO l n (i+1) else some (.inl ())
def M.qb(n:Nat)(l:List ak)(most:Int):Option Bool:=if most<(l.length:Int) then some false else (M.cO l n 0).bind fun
 | .inl _=>some true
 | .inr ret0=>some ret0
def M.jS(kind:Int):Option Bool:=if 0<=kind then some (decide (kind<=6)) else some false
def M.lq(where0_:Int):Option Bool:=if 0<=where0_ then some (decide (where0_<=3)) else some false
def M.qz(s0_:ax):Option Bool:=if s0_.Kind=0 then some (s0_.Label==([]:Str)) else some false
def M.dw(s0_:Str)(f:Int->Option Bool)(truth:Bool):Nat->Nat->Option (Nat ⊕ Int)
 | 0,_=>none
 | n+1,v=>if v<s0_.length then (f ((runeAt s0_ v).1:Int)).bind fun v1=>if (v1==truth)=true then some (.inr (v:Int)) else M.dw s0_ f truth n (v+(runeAt s0_ v).2) else some (.inl v)
def M.strings_indexFunc(n:Nat)(s0_:Str)(f:Int->Option Bool)(truth:Bool):Option Int:=(M.dw s0_ f truth n 0).bind fun
 | .inl v=>some (-1:Int)
 | .inr ret0=>some ret0
def M.strings_IndexFunc(n:Nat)(s0_:Str)(f:Int->Option Bool):Option Int:=(M.strings_indexFunc n s0_ f true).bind fun indexf=>some indexf
def M.mW(b:Int):Option Bool:=if b<48 then some true else some (decide (57 < b))
def M.si(n:Nat)(s0_:Str):Option (Str×Str):=(M.strings_IndexFunc n s0_ (fun s0=>M.mW s0)).bind fun indexf=>if indexf<0 then some (s0_,([]:Str)) else (slcHi s0_ indexf).bind fun v=>(slcLo s0_ indexf).bind fun v1=>some (v,v1)
def M.strings_ContainsFunc(n:Nat)(s0_:Str)(f:Int->Option Bool):Option Bool:=(M.strings_IndexFunc n s0_ f).bind fun indexf=>some (decide (0<=indexf))
def M.oZ(b:Int):Option Bool:=if b<65 then some true else some (decide (90 < b))
def M.nO(n:Nat)(s0_:Str):Option Bool:=(M.si n s0_).bind fun parted=>if 1<=(parted.1.length:Int) then if (parted.1.length:Int)<=4 then (idx parted.1 0).bind fun b=>if (b.toNat:Int)≠48 then if (parted.2.length:Int)<=3 then (M.strings_ContainsFunc n parted.2 (fun s0=>M.oZ s0)).bind fun contai=>some (!contai) else some false else some false else some false else some false
def M.bL(n:Nat):List ax->Int->Option (Unit ⊕ Bool)
 | [],_=>some (.inl ())
 | e :: es,i=>(if i=0 then (M.qz e).bind fun book=>some book else some false).bind fun v=>if v then M.bL n es (i+1) else if e.Kind<=0 then some (.inr false) else if 7 < e.Kind then some (.inr false) else (M.nO n e.Label).bind fun valid=>if valid=false then some (.inr false) else M.bL n es (i+1)
def M.mF(n:Nat)(p:List ax):Option Bool:=(M.bL n p 0).bind fun
 | .inl _=>some (decide ((p.length:Int)<=9))
 | .inr ret0=>some ret0
def M.mX(u:aa)(s0_:ax):Option Bool:=if u.Kind=s0_.Kind then some (u.Label==s0_.Label) else some false
def M.om(x:aa)(c:List ax)(c1:List aa):Option (List aa):=(idx c 0).bind fun v=>(M.mX x v).bind fun called=>if called then (appC c1 [x]).bind fun out=>some out else some c1
def M.dz(c:List ax)(slf:aa->(List ax)->(List aa)->Option (List aa)):List aa->(List aa)->Option (List aa)
 | [],v=>some v
 | e :: es,v=>(slf e c v).bind fun w1=>M.dz c slf es w1
def M.iN:Nat->aa->(List ax)->(List aa)->Option (List aa)
 | 0,_,_,_=>none
 | n+1,u,c,c1=>(M.om u c c1).bind fun w=>(M.dz c (M.iN n) u.Kids w).bind fun v=>some v
def M.eB(e:ax):List aa->(List aa)->Option (List aa)
 | [],next1=>some next1
 | e2 :: es2,next1=>(M.mX e2 e).bind fun called=>if called then (appC next1 [e2]).bind fun next2=>M.eB e es2 next2 else M.eB e es2 next1
def M.fM(e:ax):List aa->(List aa)->Option (List aa)
 | [],next=>some next
 | e1 :: es1,next=>(M.eB e e1.Kids next).bind fun next1=>M.fM e es1 next1
def M.eD:List ax->(List aa)->Option (List aa)
 | [],at0_2=>some at0_2
 | e :: es,at0_2=>(M.fM e at0_2 []).bind fun next=>M.eD es next
def M.o5(n:Nat)(u:aa)(p:List ax):Option (List aa):=(M.mF n p).bind fun valid=>if valid=false then some ([]:List aa) else ((if (p.length:Int)=0 then some (.inr [u]) else (idx p 0).bind fun v=>(M.qz v).bind fun book=>if book then some (.inl [u]) else (M.iN n u p []).bind fun at0_1=>some (.inl at0_1)):Option (((List aa)) ⊕ (List aa))).bind fun
 | .inl at0_=>(slcLo p 1).bind fun v1=>(M.eD v1 at0_).bind fun at0_2=>some at0_2
 | .inr ret0=>some ret0
def M.dI:List aa->(List ai)->Option (List ai)
 | [],out=>some out
 | e :: es,out=>(appC out [e.Id]).bind fun out1=>M.dI es out1
def M.oo(n:Nat)(u:aa)(p:List ax):Option (List ai):=(M.o5 n u p).bind fun found=>(M.dI found []).bind fun out=>some out
def M.cu(n:Nat)(u:aa)(p:List ax):Option (ai×Int):=(M.oo n u p).bind fun findal=>if (findal.length:Int)=0 then some ((⟨(0:Int),(0:Int),(0:Int)⟩:ai),(7:Int)) else if (findal.length:Int)=1 then (idx findal 0).bind fun v=>some (v,(0:Int)) else some ((⟨(0:Int),(0:Int),(0:Int)⟩:ai),(8:Int))
def M.ku(u:aa)(id:ai)(slf:aa->ai->Option (List aa)):List aa->Option (Unit ⊕ (List aa))
 | []=>some (.inl ())
 | e :: es=>(slf e id).bind fun way=>if way.isEmpty=false then (appC [u] way).bind fun out=>(neC out).bind fun _=>some (.inr out) else M.ku u id slf es
def M.mY:Nat->aa->ai->Option (List aa)
 | 0,_,_=>none
 | n+1,u,id=>if u.Id=id then (neC [u]).bind fun _=>some [u] else (M.ku u id (M.mY n) u.Kids).bind fun
  | .inl _=>some ([]:List aa)
  | .inr ret0=>some ret0
def M.aM(l:List af):Option (List af):=appC [] l
def M.bU(slf:aa->Option aa):List aa->(List aa)->Option (List aa)
 | [],kids=>some kids
 | e :: es,kids=>(slf e).bind fun copied=>(appC kids [copied]).bind fun kids1=>M.bU slf es kids1
def M.fO:Nat->aa->Option aa
 | 0,_=>none
 | n+1,u=>(M.aM u.Head).bind fun word=>(M.aM u.Words).bind fun word1=>(M.bU (M.fO n) (({({u with Head:=word}:aa) with Words:=word1}:aa).Kids) []).bind fun kids=>some ({({({u with Head:=word}:aa) with Words:=word1}:aa) with Kids:=kids}:aa)
def M.dC(n:Nat)(u:aa)(id:ai):Option (aa×Bool):=(M.mY n u id).bind fun way=>if (way.length:Int)=0 then some ((⟨aF,(0:Int),([]:Str),([]:List af),([]:List af),([]:List aa)⟩:aa),false) else (subC (way.length:Int) 1).bind fun v=>(idx way v).bind fun v1=>(M.fO n v1).bind fun copied=>some (copied,true)
def M.rT(n:Nat)(u:aa)(id:ai)(number:Int->Option Int):Option (aH×Int):=(M.dC n u id).bind fun find=>(number (find.1.Kids.length:Int)).bind fun v=>some ((⟨id,v⟩:aH),(0:Int))
def M.qA(a:Int):Option Int:=some (0:Int)
def M.kv(n:Nat)(u:aa)(id:ai):Option (aH×Int):=(M.rT n u id (fun s0=>M.qA s0)).bind fun into=>some (into.1,into.2)
def M.qB(kids:Int):Option Int:=some kids
def M.ky(n:Nat)(u:aa)(id:ai):Option (aH×Int):=(M.rT n u id (fun s0=>M.qB s0)).bind fun into=>some (into.1,into.2)
def M.o6(n:Nat)(k:aa)(c:ai):Option Bool:=(M.mY n k c).bind fun way=>some (!way.isEmpty)
def M.aW(s0_:List aa)(f:aa->Option Bool):Nat->Int->Option (Unit ⊕ Int)
 | 0,_=>none
 | n+1,v=>if v<(s0_.length:Int) then (idx s0_ v).bind fun v1=>(f v1).bind fun v2=>if v2 then some (.inr v) else M.aW s0_ f n (v+1) else some (.inl ())
def M.bY(n:Nat)(s0_:List aa)(f:aa->Option Bool):Option Int:=(M.aW s0_ f n 0).bind fun
 | .inl _=>some (-1:Int)
 | .inr ret0=>some ret0
def M.jg(n:Nat)(u:aa)(id:ai):Option (ai×Int×Bool):=(M.mY n u id).bind fun way=>if (way.length:Int)< 2 then some ((⟨(0:Int),(0:Int),(0:Int)⟩:ai),(-1:Int),false) else (subC (way.length:Int) 2).bind fun v=>(idx way v).bind fun v1=>(M.bY n v1.Kids (fun s0=>M.o6 n s0 id)).bind fun unit=>some (v1.Id,unit,true)
def M.o7(n:Nat)(u:aa)(id:ai)(behind:Int):Option (aH×Int):=(M.jg n u id).bind fun parent=>if parent.2.2=false then some ((⟨aF,(0:Int)⟩:aH),(9:Int)) else (addC parent.2.1 behind).bind fun v=>some ((⟨parent.1,v⟩:aH),(0:Int))
def M.kz(n:Nat)(u:aa)(id:ai):Option (aH×Int):=(M.o7 n u id 1).bind fun beside=>some (beside.1,beside.2)
def M.kE(n:Nat)(u:aa)(id:ai):Option (aH×Int):=(M.o7 n u id 0).bind fun beside=>some (beside.1,beside.2)
def M.l7(n:Nat):Option (List (aa->ai->Option (aH×Int))):=some [(fun s0 s1=>M.kv n s0 s1),(fun s0 s1=>M.ky n s0 s1),(fun s0 s1=>M.kz n s0 s1),(fun s0 s1=>M.kE n s0 s1)]
def M.jQ(n:Nat)(u:aa)(p:List ax)(where0_:Int):Option (ai×Int×Int):=(M.lq where0_).bind fun iswher=>if iswher=false then some ((⟨(0:Int),(0:Int),(0:Int)⟩:ai),(0:Int),(1:Int)) else (M.cu n u p).bind fun findon=>if findon.2≠0 then some ((⟨(0:Int),(0:Int),(0:Int)⟩:ai),(0:Int),findon.2) else (M.l7 n).bind fun leads=>(idx leads where0_).bind fun v=>(v u findon.1).bind fun v1=>if v1.2≠0 then some ((⟨(0:Int),(0:Int),(0:Int)⟩:ai),(0:Int),v1.2) else some (v1.1.parent_,v1.1.at_,(0:Int))
def M.bO(way:List aa):Nat->(List ai)->Int->Option (List ai)
 | 0,_,_=>none
 | n+1,out,i=>if 0<=i then (idx way i).bind fun v1=>(appC out [v1.Id]).bind fun out1=>(subC i 1).bind fun v2=>M.bO way n out1 v2 else some out
def M.iC(n:Nat)(u:aa)(id:ai):Option (List ai):=(M.mY n u id).bind fun way=>(subC (way.length:Int) 2).bind fun v=>(M.bO way n [] v).bind fun out=>some out
def M.aU(s0_:List ai)(v:ai):Nat->Int->Option (Unit ⊕ Int)
 | 0,_=>none
 | n+1,v1=>if v1<(s0_.length:Int) then (idx s0_ v1).bind fun v2=>if v=v2 then some (.inr v1) else M.aU s0_ v n (v1+1) else some (.inl ())
def M.jy(n:Nat)(s0_:List ai)(v:ai):Option Int:=(M.aU s0_ v n 0).bind fun
 | .inl _=>some (-1:Int)
 | .inr ret0=>some ret0
def M.dK(n:Nat)(s0_:List ai)(v:ai):Option Bool:=(M.jy n s0_ v).bind fun id=>some (decide (0<=id))
def M.tN(n:Nat)(u:aa)(id:ai)(to0_:ai)(where0_:Int):Option (aH×Int):=(if where0_=2 then some true else some (decide (where0_=3))).bind fun besides=>(M.jg n u id).bind fun parent=>if to0_≠id then (M.iC n u to0_).bind fun ancest=>(M.dK n ancest id).bind fun id1=>(if parent.2.2=false then some true else if id1 then some true else if to0_=id then some (!besides) else some false).bind fun v=>if v then some ((⟨aF,(0:Int)⟩:aH),(9:Int)) else if to0_=id then some ((⟨parent.1,parent.2.1⟩:aH),(0:Int)) else (M.l7 n).bind fun leads=>(idx leads where0_).bind fun v1=>(v1 u to0_).bind fun v2=>(if v2.2=0 then if v2.1.parent_=parent.1 then some (decide (parent.2.1<v2.1.at_)) else some false else some false).bind fun v3=>if v3 then (subC v2.1.at_ 1).bind fun v4=>some (({v2.1 with at_:=v4}:aH),v2.2) else some (v2.1,v2.2) else (if parent.2.2=false then some true else if to0_=id then some (!besides) else some false).bind fun v5=>if v5 then some ((⟨aF,(0:Int)⟩:aH),(9:Int)) else if to0_=id then some ((⟨parent.1,parent.2.1⟩:aH),(0:Int)) else (M.l7 n).bind fun leads1=>(idx leads1 where0_).bind fun v6=>(v6 u to0_).bind fun v7=>(if v7.2=0 then if v7.1.parent_=parent.1 then some (decide (parent.2.1<v7.1.at_)) else some false else some false).bind fun v8=>if v8 then (subC v7.1.at_ 1).bind fun v9=>some (({v7.1 with at_:=v9}:aH),v7.2) else some (v7.1,v7.2)
def M.jc(n:Nat)(u:aa)(it:ah):Option (ai×Int×Int):=if it.Kind=0 then (M.jQ n u it.At it.Where).bind fun insert=>some (insert.1,insert.2.1,insert.2.2) else (if it.Kind≠6 then some true else (M.lq it.Where).bind fun iswher=>some (!iswher)).bind fun v=>if v then some ((⟨(0:Int),(0:Int),(0:Int)⟩:ai),(0:Int),(1:Int)) else (M.cu n u it.At).bind fun findon=>if findon.2≠0 then some ((⟨(0:Int),(0:Int),(0:Int)⟩:ai),(0:Int),findon.2) else (M.cu n u it.To).bind fun findon1=>if findon1.2≠0 then some ((⟨(0:Int),(0:Int),(0:Int)⟩:ai),(0:Int),findon1.2) else (M.tN n u findon.1 findon1.1 it.Where).bind fun goes=>if goes.2≠0 then some ((⟨(0:Int),(0:Int),(0:Int)⟩:ai),(0:Int),goes.2) else some (goes.1.parent_,goes.1.at_,(0:Int))
def M.dJ:List af->(List Str)->Option (List Str)
 | [],out=>some out
 | e :: es,out=>(appC out [e.Text]).bind fun out1=>M.dJ es out1
def M.lS(w:List af):Option (List Str):=(M.dJ w []).bind fun out=>some out
def M.fD(act:Int)(item:Int)(from0_:Int):List Str->Int->(List af)->Option (List af)
 | [],_,out=>some out
 | e :: es,i,out=>(addC from0_ i).bind fun v=>(appC out [(⟨e,(⟨act,item,v⟩:kL)⟩:af)]).bind fun out1=>M.fD act item from0_ es (i+1) out1
def M.nT(l:List Str)(act:Int)(item:Int)(from0_:Int):Option (List af):=(M.fD act item from0_ l 0 []).bind fun out=>some out
def M.jI(s0_:av)(w:List af):Option ((List af)×av):=(M.lS w).bind fun string=>(M.nT string s0_.act_ s0_.item_ s0_.word_).bind fun mark=>(addC s0_.word_ (mark.length:Int)).bind fun v=>some (mark,({s0_ with word_:=v}:av))
def M.cZ(w:List aa)(slf:av->aa->Option (aa×av)):Nat->(List aa)->Int->av->Option ((List aa)×av)
 | 0,_,_,_=>none
 | n+1,kids,v1,s0_3=>if v1<(w.length:Int) then (idx kids v1).bind fun v2=>(slf s0_3 v2).bind fun (tree,s0_4)=>(idx kids v1).bind fun v3=>(setC kids v1 tree).bind fun w1=>(addC v1 1).bind fun v4=>M.cZ w slf n w1 v4 s0_4 else some (kids,s0_3)
def M.dE:Nat->av->aa->Option (aa×av)
 | 0,_,_=>none
 | n+1,s0_,u=>(addC s0_.unit_ 1).bind fun v=>(M.jI ({s0_ with unit_:=v}:av) (({u with Id:=(⟨({s0_ with unit_:=v}:av).act_,({s0_ with unit_:=v}:av).item_,({s0_ with unit_:=v}:av).unit_⟩:ai)}:aa).Head)).bind fun (row,s0_1)=>(M.jI s0_1 (({({u with Id:=(⟨({s0_ with unit_:=v}:av).act_,({s0_ with unit_:=v}:av).item_,({s0_ with unit_:=v}:av).unit_⟩:ai)}:aa) with Head:=row}:aa).Words)).bind fun (row1,s0_2)=>(makeC au ((({({({u with Id:=(⟨({s0_ with unit_:=v}:av).act_,({s0_ with unit_:=v}:av).item_,({s0_ with unit_:=v}:av).unit_⟩:ai)}:aa) with Head:=row}:aa) with Words:=row1}:aa).Kids).length:Int)).bind fun mk=>(copyC mk (({({({u with Id:=(⟨({s0_ with unit_:=v}:av).act_,({s0_ with unit_:=v}:av).item_,({s0_ with unit_:=v}:av).unit_⟩:ai)}:aa) with Head:=row}:aa) with Words:=row1}:aa).Kids)).bind fun w=>(M.cZ w (M.dE n) n w 0 s0_2).bind fun (kids,s0_3)=>some (({({({({u with Id:=(⟨({s0_ with unit_:=v}:av).act_,({s0_ with unit_:=v}:av).item_,({s0_ with unit_:=v}:av).unit_⟩:ai)}:aa) with Head:=row}:aa) with Words:=row1}:aa) with Kids:=kids}:aa),s0_3)
def M.qL(n:Nat)(u:aa)(act:Int)(item:Int):Option aa:=(M.dE n (⟨act,item,(0:Int),(0:Int)⟩:av) u).bind fun (tree,s0_)=>some tree
def M.bH(s0_:List Int)(v:Int):Nat->Int->Option (Unit ⊕ Int)
 | 0,_=>none
 | n+1,v1=>if v1<(s0_.length:Int) then (idx s0_ v1).bind fun v2=>if v=v2 then some (.inr v1) else M.bH s0_ v n (v1+1) else some (.inl ())
def M.l8(n:Nat)(s0_:List Int)(v:Int):Option Int:=(M.bH s0_ v n 0).bind fun
 | .inl _=>some (-1:Int)
 | .inr ret0=>some ret0
def M.jh(n:Nat)(s0_:List Int)(v:Int):Option Bool:=(M.l8 n s0_ v).bind fun int=>some (decide (0<=int))
def M.jN(n:Nat)(parent:Int)(kind:Int):Option Bool:=if 0<=parent then if parent<8 then (idx gv1 parent).bind fun v=>(M.jh n v kind).bind fun int=>some int else some false else some false
def M.qM(k:aa)(c:aa):Option Bool:=if k.Kind=c.Kind then some (k.Label==c.Label) else some false
def M.bT(n:Nat)(s0_:List aa)(f:aa->Option Bool):Option Bool:=(M.bY n s0_ f).bind fun unit=>some (decide (0<=unit))
def M.l9(n:Nat)(p:aa)(x:aa):Option Int:=(M.jN n p.Kind x.Kind).bind fun cancon=>if cancon=false then some (9:Int) else (M.bT n p.Kids (fun s0=>M.qM s0 x)).bind fun unit=>if unit then some (10:Int) else some (0:Int)
def M.ji(slf:aa->Option Int):List aa->Int->Option Int
 | [],deep=>some deep
 | e :: es,deep=>(slf e).bind fun depth=>(addC 1 depth).bind fun v=>M.ji slf es (max deep v)
def M.lu:Nat->aa->Option Int
 | 0,_=>none
 | n+1,u=>(M.ji (M.lu n) u.Kids 0).bind fun deep=>some deep
def M.lv(n:Nat)(u:aa)(parent:ai)(x:aa):Option Bool:=(M.iC n u parent).bind fun ancest=>(addC (ancest.length:Int) 1).bind fun v=>(M.lu n x).bind fun depth=>(addC v depth).bind fun v1=>some (decide (8 < v1))
def M.uA(a:aa)(c:Int):Option (Bool×Int):=(addC c 1).bind fun v=>some (true,v)
def M.eF(slf:aa->Int->Option (Bool×Int)):List aa->Int->Option (Int ⊕ (Bool×Int))
 | [],v=>some (.inl v)
 | e :: es,v=>(slf e v).bind fun (every,w1)=>if every=false then some (.inr (false,w1)) else M.eF slf es w1
def M.kS:Nat->aa->Int->Option (Bool×Int)
 | 0,_,_=>none
 | n+1,u,c=>(M.uA u c).bind fun (v1_,w)=>if v1_=false then some (false,w) else (M.eF (M.kS n) u.Kids w).bind fun
  | .inl v=>some (true,v)
  | .inr ret0=>some ret0
def M.lw(n:Nat)(u:aa):Option Int:=(M.kS n u 0).bind fun (every,n0_)=>some n0_
def M.wU(x:aa)(c:List ai):Option (Bool×(List ai)):=(appC c [x.Id]).bind fun out=>some (true,out)
def M.eG(slf:aa->(List ai)->Option (Bool×(List ai))):List aa->(List ai)->Option (((List ai)) ⊕ (Bool×(List ai)))
 | [],v=>some (.inl v)
 | e :: es,v=>(slf e v).bind fun (every,w1)=>if every=false then some (.inr (false,w1)) else M.eG slf es w1
def M.kT:Nat->aa->(List ai)->Option (Bool×(List ai))
 | 0,_,_=>none
 | n+1,u,c=>(M.wU u c).bind fun (v1_,w)=>if v1_=false then some (false,w) else (M.eG (M.kT n) u.Kids w).bind fun
  | .inl v=>some (true,v)
  | .inr ret0=>some ret0
def M.oq(n:Nat)(u:aa):Option (List ai):=(M.kT n u []).bind fun (every,out)=>some out
def M.lC(n:Nat)(id:ai)(c:List ai):Option Bool:=(M.dK n c id).bind fun id1=>some id1
def M.aX(s0_:List ai)(f:ai->Option Bool):Nat->Int->Option (Unit ⊕ Int)
 | 0,_=>none
 | n+1,v=>if v<(s0_.length:Int) then (idx s0_ v).bind fun v1=>(f v1).bind fun v2=>if v2 then some (.inr v) else M.aX s0_ f n (v+1) else some (.inl ())
def M.gQ(n:Nat)(s0_:List ai)(f:ai->Option Bool):Option Int:=(M.aX s0_ f n 0).bind fun
 | .inl _=>some (-1:Int)
 | .inr ret0=>some ret0
def M.bf(n:Nat)(s0_:List ai)(f:ai->Option Bool):Option Bool:=(M.gQ n s0_ f).bind fun id=>some (decide (0<=id))
def M.kF(p:aa)(c:Int)(c1:aa):Option aa:=(insC p.Kids c [c1]).bind fun l=>some ({p with Kids:=l}:aa)
def M.bz(l:List aa):Option (List aa):=appC [] l
def M.jk(id:ai)(do0_:aa->Option aa)(unit1:List aa)(slf:aa->ai->(aa->Option aa)->Option aa):Nat->Int->Option (List aa)
 | 0,_=>none
 | n+1,v=>if v<(unit1.length:Int) then (idx unit1 v).bind fun v1=>(M.dC n v1 id).bind fun find=>if find.2=true then (slf v1 id do0_).bind fun with0_=>(idx unit1 v).bind fun v2=>(setC unit1 v with0_).bind fun w=>some w else (addC v 1).bind fun v3=>M.jk id do0_ unit1 slf n v3 else some unit1
def M.fQ:Nat->aa->ai->(aa->Option aa)->Option aa
 | 0,_,_,_=>none
 | n+1,u,id,do0_=>if u.Id=id then (M.bz u.Kids).bind fun unit=>(do0_ ({u with Kids:=unit}:aa)).bind fun u1=>some u1 else (M.bz u.Kids).bind fun unit1=>(M.jk id do0_ unit1 (M.fQ n) n 0).bind fun w=>some ({u with Kids:=w}:aa)
def M.fE(n:Nat)(u:aa)(found:aa)(d:ak):Option (aa×Int):=(M.jc n u d.It).bind fun destin=>if destin.2.2≠0 then some (u,destin.2.2) else (M.dC n u destin.1).bind fun find=>(M.qL n d.It.Unit d.Act d.Item).bind fun stamp=>(M.l9 n find.1 stamp).bind fun takes=>if takes≠0 then some (u,takes) else if 64<=(find.1.Kids.length:Int) then some (u,(6:Int)) else (M.lv n u destin.1 stamp).bind fun deep=>if deep then some (u,(6:Int)) else (M.lw n u).bind fun count=>(M.lw n stamp).bind fun count1=>(addC count count1).bind fun v=>if 1024 < v then some (u,(6:Int)) else (M.oq n u).bind fun ids=>(M.oq n stamp).bind fun ids1=>(M.bf n ids1 (fun s0=>M.lC n s0 ids)).bind fun id=>if id then some (u,(5:Int)) else (M.fQ n u destin.1 (fun s0=>M.kF s0 destin.2.1 stamp)).bind fun with0_=>some (with0_,(0:Int))
def M.lT(x:aa)(c:Int):Option aa:=(addC c 1).bind fun v=>(delC x.Kids c v).bind fun l=>some ({x with Kids:=l}:aa)
def M.o8(n:Nat)(u:aa)(id:ai):Option aa:=(M.jg n u id).bind fun parent=>(M.fQ n u parent.1 (fun s0=>M.lT s0 parent.2.1)).bind fun with0_=>some with0_
def M.nU(n:Nat)(u:aa)(x:aa)(d:ak):Option (aa×Int):=(M.o8 n u x.Id).bind fun withou=>some (withou,(0:Int))
def M.bC(s1_:List Str)(s2_:List Str):Nat->Int->Option (Unit ⊕ Bool)
 | 0,_=>none
 | n+1,v=>if v<(s1_.length:Int) then (idx s1_ v).bind fun v1=>(idx s2_ v).bind fun v2=>if (v1 !=v2)=true then some (.inr false) else M.bC s1_ s2_ n (v+1) else some (.inl ())
def M.df(n:Nat)(s1_:List Str)(s2_:List Str):Option Bool:=if (s1_.length:Int)≠(s2_.length:Int) then some false else (M.bC s1_ s2_ n 0).bind fun
 | .inl _=>some true
 | .inr ret0=>some ret0
def M.bR(l:List Str)(part:List Str):Nat->(List Int)->Int->Option (List Int)
 | 0,_,_=>none
 | n+1,out,i=>(addC i (part.length:Int)).bind fun v=>if v<=(l.length:Int) then (addC i (part.length:Int)).bind fun v1=>(slc l i v1).bind fun v2=>(M.df n v2 part).bind fun string=>if string=false then (addC i 1).bind fun v3=>M.bR l part n out v3 else (appC out [i]).bind fun out1=>(addC i (part.length:Int)).bind fun v4=>M.bR l part n out1 v4 else some out
def M.lU(n:Nat)(l:List Str)(part:List Str):Option (List Int):=if (part.length:Int)=0 then some ([]:List Int) else (M.bR l part n [] 0).bind fun out=>some out
def M.mZ(n:Nat)(w:List af)(part:List Str)(nth:Int):Option (List Int):=(M.lS w).bind fun string=>(M.lU n string part).bind fun findal=>if nth=0 then some findal else if (findal.length:Int)< nth then some ([]:List Int) else (subC nth 1).bind fun v=>(slc findal v nth).bind fun v1=>some v1
def M.gY(places:List Int)(gone:Int)(fresh:List Str)(act:Int)(item:Int):Nat->(List af)->Int->Option (List af)
 | 0,_,_=>none
 | n+1,out,i=>if 0<=i then (idx places i).bind fun v1=>(addC v1 gone).bind fun v2=>(slcLo out v2).bind fun v3=>(slcHi out v1).bind fun v8=>(mulC i (fresh.length:Int)).bind fun v9=>(M.nT fresh act item v9).bind fun mark1=>(appC v8 mark1).bind fun v10=>(appC v10 v3).bind fun v11=>(subC i 1).bind fun v12=>M.gY places gone fresh act item n v11 v12 else some out
def M.nP(n:Nat)(w:List af)(places:List Int)(gone:Int)(fresh:List Str)(act:Int)(item:Int):Option ((List af)×Int):=(makeC uJ (w.length:Int)).bind fun mk=>(copyC mk w).bind fun w1=>(subC (places.length:Int) 1).bind fun v=>(M.gY places gone fresh act item n w1 v).bind fun out=>if 256 < (out.length:Int) then some (([]:List af),(6:Int)) else some (out,(0:Int))
def M.kK(n:Nat)(w:List af)(old:List Str)(new:List Str)(nth:Int)(act:Int)(item:Int):Option ((List af)×Int):=(if (old.length:Int)=0 then some true else some (decide (nth<0))).bind fun v=>if v then some (([]:List af),(1:Int)) else (M.mZ n w old nth).bind fun places=>if (places.length:Int)=0 then some (([]:List af),(4:Int)) else (M.nP n w places (old.length:Int) new act item).bind fun put=>some (put.1,put.2)
def M.qN(x:aa)(c:List af):Option aa:=some ({x with Words:=c}:aa)
def M.qc(n:Nat)(u:aa)(x:aa)(d:ak):Option (aa×Int):=(M.kK n x.Words d.It.Old d.It.New d.It.Nth d.Act d.Item).bind fun replac=>if replac.2≠0 then some (u,replac.2) else (M.fQ n u x.Id (fun s0=>M.qN s0 replac.1)).bind fun with0_=>some (with0_,(0:Int))
def M.kG(l:List Int):Option (List Int):=appC [] l
def M.dB(part:List Str)(int:List Int):Nat->(List Int)->Int->Option (List Int)
 | 0,_,_=>none
 | n+1,l,v1=>if v1<(int.length:Int) then (idx l v1).bind fun v2=>(addC v2 (part.length:Int)).bind fun v3=>(idx l v1).bind fun v4=>(setC l v1 v3).bind fun w1=>(addC v1 1).bind fun v5=>M.dB part int n w1 v5 else some l
def M.eH(n:Nat)(w:List af)(part:List Str)(new:List Str)(nth:Int)(act:Int)(item:Int):Option ((List af)×Int):=(if (new.length:Int)=0 then some true else if nth<0 then some true else if (part.length:Int)=0 then some (decide (nth≠0)) else some false).bind fun v=>if v then some (([]:List af),(1:Int)) else if (part.length:Int)=0 then (M.nP n w [(0:Int)] 0 new act item).bind fun put=>some (put.1,put.2) else (M.mZ n w part nth).bind fun places=>(M.kG places).bind fun int=>if (int.length:Int)=0 then some (([]:List af),(4:Int)) else (M.dB part int n int 0).bind fun l=>(M.nP n w l 0 new act item).bind fun put1=>some (put1.1,put1.2)
def M.tT(x:aa)(c:List af):Option aa:=some ({x with Words:=c}:aa)
def M.sJ(n:Nat)(u:aa)(x:aa)(d:ak):Option (aa×Int):=(M.eH n x.Words d.It.Old d.It.New d.It.Nth d.Act d.Item).bind fun insert=>if insert.2≠0 then some (u,insert.2) else (M.fQ n u x.Id (fun s0=>M.tT s0 insert.1)).bind fun with0_=>some (with0_,(0:Int))
def M.qX(x:aa)(c:List af):Option aa:=some ({x with Head:=c}:aa)
def M.kU(n:Nat)(u:aa)(x:aa)(d:ak):Option (aa×Int):=(M.nT d.It.New d.Act d.Item 0).bind fun mark=>(M.fQ n u x.Id (fun s0=>M.qX s0 mark)).bind fun with0_=>some (with0_,(0:Int))
def M.ou(x:aa)(c:ak):Option aa:=some ({x with Label:=c.It.Label}:aa)
def M.kV(n:Nat)(u:aa)(x:aa)(d:ak):Option (aa×Int):=(M.jg n u x.Id).bind fun parent=>(M.dC n u parent.1).bind fun find=>(M.l9 n find.1 ({x with Label:=d.It.Label}:aa)).bind fun takes=>if takes=10 then some (u,(10:Int)) else (M.fQ n u (({x with Label:=d.It.Label}:aa).Id) (fun s0=>M.ou s0 d)).bind fun with0_=>some (with0_,(0:Int))
def M.uB(p:aa)(c:Int)(c1:aa):Option aa:=(insC p.Kids c [c1]).bind fun l=>some ({p with Kids:=l}:aa)
def M.jd(n:Nat)(u:aa)(x:aa)(d:ak):Option (aa×Int):=(M.jc n u d.It).bind fun destin=>if destin.2.2≠0 then some (u,destin.2.2) else (M.jg n u x.Id).bind fun parent=>(M.o8 n u x.Id).bind fun withou=>(M.dC n withou destin.1).bind fun find=>(M.l9 n find.1 x).bind fun takes=>if takes≠0 then some (u,takes) else (if destin.1≠parent.1 then if 64<=(find.1.Kids.length:Int) then some true else (M.lv n withou destin.1 x).bind fun deep=>some deep else (M.lv n withou destin.1 x).bind fun deep1=>some deep1).bind fun v=>if v then some (u,(6:Int)) else (M.fQ n withou destin.1 (fun s0=>M.uB s0 destin.2.1 x)).bind fun with0_=>some (with0_,(0:Int))
def M.vI(n:Nat):Option (List (Int×(aa->aa->ak->Option (aa×Int)))):=some (mset (mset (mset (mset (mset (mset (mset ([]:List (Int×(aa->aa->ak->Option (aa×Int)))) (0:Int) (fun s0 s1 s2=>M.fE n s0 s1 s2)) 1 (fun s0 s1 s2=>M.nU n s0 s1 s2)) 2 (fun s0 s1 s2=>M.qc n s0 s1 s2)) 3 (fun s0 s1 s2=>M.sJ n s0 s1 s2)) 4 (fun s0 s1 s2=>M.kU n s0 s1 s2)) 5 (fun s0 s1 s2=>M.kV n s0 s1 s2)) 6 (fun s0 s1 s2=>M.jd n s0 s1 s2))
def M.qd(it:ah):Option ah:=some (⟨(0:Int),([]:List ax),([]:List ax),it.Where,(0:Int),it.Unit,([]:List Str),([]:List Str),([]:Str),([]:Str),kJ,(0:Int),(0:Int),(0:Int),([]:Str),([]:List ah)⟩:ah)
def M.kW(n0_:Int)(least:Int)(most:Int):Option Bool:=if least<=n0_ then some (decide (n0_<=most)) else some false
def M.qC(n0_:Int):Option Bool:=(M.kW n0_ 0 3).bind fun within=>some within
def M.bareWs(l:List af):List af:=l.map fun w=>{w with By:=mR}
def M.mapKids(f:aa->Option aa):List aa->Option (List aa)
 | []=>some []
 | x :: l=>(f x).bind fun y=>(M.mapKids f l).bind fun r=>some (y :: r)
def M.lD:Nat->aa->Option aa
 | 0,_=>none
 | n+1,u=>(M.fO n u).bind fun v=>(M.mapKids (M.lD n) v.Kids).bind fun ks=>some {v with Id:=aF,Head:=M.bareWs v.Head,Words:=M.bareWs v.Words,Kids:=ks}
def M.o9(kind:Int):Option Str:=if kind<0 then some ([]:Str) else if 8<=kind then some ([]:Str) else (idx gv4 kind).bind fun v=>some v
def M.aY(s0_:List Str)(f:Str->Option Bool):Nat->Int->Option (Unit ⊕ Int)
 | 0,_=>none
 | n+1,v=>if v<(s0_.length:Int) then (idx s0_ v).bind fun v1=>(f v1).bind fun v2=>if v2 then some (.inr v) else M.aY s0_ f n (v+1) else some (.inl ())
def M.gT(n:Nat)(s0_:List Str)(f:Str->Option Bool):Option Int:=(M.aY s0_ f n 0).bind fun
 | .inl _=>some (-1:Int)
 | .inr ret0=>some ret0
def M.dQ(n:Nat)(s0_:List Str)(f:Str->Option Bool):Option Bool:=(M.gT n s0_ f).bind fun string=>some (decide (0<=string))
def M.bq(s0_:List Int)(f:Int->Option Bool):Nat->Int->Option (Unit ⊕ Int)
 | 0,_=>none
 | n+1,v=>if v<(s0_.length:Int) then (idx s0_ v).bind fun v1=>(f v1).bind fun v2=>if v2 then some (.inr v) else M.bq s0_ f n (v+1) else some (.inl ())
def M.jA(n:Nat)(s0_:List Int)(f:Int->Option Bool):Option Int:=(M.bq s0_ f n 0).bind fun
 | .inl _=>some (-1:Int)
 | .inr ret0=>some ret0
def M.fw(n:Nat)(s0_:List Int)(f:Int->Option Bool):Option Bool:=(M.jA n s0_ f).bind fun byte=>some (decide (0<=byte))
def M.lF(c:Int):Option Bool:=if c<33 then some true else some (decide (126 < c))
def M.qD(n:Nat)(s0_:Str):Option Bool:=if (s0_ !=([]:Str))=true then if (s0_.length:Int)<=24 then (M.fw n (bytesOf s0_) (fun s0=>M.lF s0)).bind fun byte=>some (!byte) else some false else some false
def M.ow(n:Nat)(s0_:Str):Option Bool:=(M.qD n s0_).bind fun word=>some (!word)
def M.mG(n:Nat)(l:List Str):Option Bool:=if (l.length:Int)<=256 then (M.dQ n l (fun s0=>M.ow n s0)).bind fun string=>some (!string) else some false
def M.jB:List af->(List Str)->Option (List Str)
 | [],texts=>some texts
 | e :: es,texts=>(appC texts [e.Text]).bind fun texts1=>M.jB es texts1
def M.wD(n:Nat)(l:List af):Option Bool:=(M.jB l []).bind fun texts=>if (l.length:Int)<=256 then (M.mG n texts).bind fun valid=>some valid else some false
def M.eY(n:Nat)(u:aa):List aa->(List (bD×Bool))->Option (((List (bD×Bool))) ⊕ Bool)
 | [],v1=>some (.inl v1)
 | e :: es,v1=>(M.jN n u.Kind e.Kind).bind fun cancon=>if cancon=false then some (.inr false) else if (mget v1 (⟨e.Kind,e.Label⟩:bD) false)=true then some (.inr false) else M.eY n u es (mset v1 (⟨e.Kind,e.Label⟩:bD) true)
def M.uU(n:Nat)(u:aa):Option Bool:=((if u.Kind=0 then if (u.Label !=([]:Str))=true then some (.inr false) else (addC (u.Head.length:Int) (u.Words.length:Int)).bind fun v=>if 0 < v then some (.inr false) else some (.inl ()) else (M.o9 u.Kind).bind fun kindna=>if (kindna==([]:Str))=true then some (.inr false) else (M.nO n u.Label).bind fun valid=>if valid=false then some (.inr false) else (M.wD n u.Head).bind fun row=>if row=false then some (.inr false) else (M.wD n u.Words).bind fun row1=>if row1=false then some (.inr false) else some (.inl ())):Option (Unit ⊕ Bool)).bind fun
 | .inl _=>(M.eY n u u.Kids []).bind fun
  | .inl v1=>some (decide ((u.Kids.length:Int)<=64))
  | .inr ret0=>some ret0
 | .inr ret0=>some ret0
def M.fP(slf:aa->Option Bool):List aa->Option (Unit ⊕ Bool)
 | []=>some (.inl ())
 | e :: es=>(slf e).bind fun every=>if every=false then some (.inr false) else M.fP slf es
def M.kX:Nat->aa->Option Bool
 | 0,_=>none
 | n+1,u=>(M.uU n u).bind fun alone=>if alone=false then some false else (M.fP (M.kX n) u.Kids).bind fun
  | .inl _=>some true
  | .inr ret0=>some ret0
def M.eZ:List ai->(List (ai×Bool))->Option ((List (ai×Bool)))
 | [],v=>some v
 | e :: es,v=>M.eZ es (mset v e true)
def M.uV(n:Nat)(u:aa):Option Bool:=(M.oq n u).bind fun ids=>(M.eZ ids []).bind fun v=>if (mget v (⟨(0:Int),(0:Int),(0:Int)⟩:ai) false)=true then (growC (v.length:Int)).bind fun _=>if (v.length:Int)=1 then some true else (growC (v.length:Int)).bind fun _=>if (v.length:Int)=(ids.length:Int) then some ((decide (u.Kind=0))==(decide (u.Id=(⟨(0:Int),(0:Int),(0:Int)⟩:ai)))) else some false else (growC (v.length:Int)).bind fun _=>if (v.length:Int)=(ids.length:Int) then some ((decide (u.Kind=0))==(decide (u.Id=(⟨(0:Int),(0:Int),(0:Int)⟩:ai)))) else some false
def M.mH(n:Nat)(u:aa):Option Bool:=(M.kX n u).bind fun every=>if every then (M.lu n u).bind fun depth=>if depth<=8 then (M.lw n u).bind fun count=>if count<=1024 then (M.uV n u).bind fun ids=>some ids else some false else some false else some false
def M.qO(n:Nat)(u:aa)(depth:Int):Option Bool:=if 0<=depth then if depth<=8 then (M.lD n ({({u with Id:=(⟨(0:Int),(0:Int),(0:Int)⟩:ai)}:aa) with Kids:=([]:List aa)}:aa)).bind fun strip=>(M.mH n strip).bind fun valid=>some valid else some false else some false
def M.dP:List af->Str->Option Str
 | [],line1=>some line1
 | e :: es,line1=>(catC line1 ([32]:Str)).bind fun v=>((idx e.Text 0).bind fun b1=>if (b1.toNat:Int)=124 then some true else (idx e.Text 0).bind fun b2=>some (decide ((b2.toNat:Int)=92))).bind fun v1=>if v1 then (catC v ([92]:Str)).bind fun v2=>(catC v2 e.Text).bind fun v3=>M.dP es v3 else (catC v e.Text).bind fun v4=>M.dP es v4
def M.pg(line:Str)(w:List af):Option Str:=(M.dP w line).bind fun line1=>some line1
def M.kH(n:Nat)(u:aa)(depth:Int):Option Str:=(M.qO n u depth).bind fun may=>if may=false then some ([]:Str) else (repeatM ([32,32]:Str) depth).bind fun repeat0_=>(M.o9 u.Kind).bind fun kindna=>(catC repeat0_ kindna).bind fun v=>(if u.Kind≠0 then (catC ([32]:Str) u.Label).bind fun v1=>(catC v v1).bind fun v2=>some v2 else some v).bind fun s0_=>(if 0 < (u.Head.length:Int) then (catC s0_ ([58]:Str)).bind fun v3=>(M.pg v3 u.Head).bind fun put=>some put else some s0_).bind fun s0_1=>if 0 < (u.Words.length:Int) then (catC s0_1 ([32,124]:Str)).bind fun v4=>(M.pg v4 u.Words).bind fun put1=>some put1 else some s0_1
def M.dL(depth:Int)(slf:aa->Int->(List Str)->Option (List Str)):List aa->(List Str)->Option (List Str)
 | [],v=>some v
 | e :: es,v=>(addC depth 1).bind fun v1=>(slf e v1 v).bind fun w=>M.dL depth slf es w
def M.fU:Nat->aa->Int->(List Str)->Option (List Str)
 | 0,_,_,_=>none
 | n+1,u,depth,c=>(M.kH n u depth).bind fun format=>(appC c [format]).bind fun out=>(M.dL depth (M.fU n) u.Kids out).bind fun v=>some v
def M.lV(n:Nat)(u:aa):Option (List Str):=(M.lD n u).bind fun strip=>(M.mH n strip).bind fun valid=>if valid=false then some ([]:List Str) else (M.fU n u 0 []).bind fun out=>some out
def M.fF(sep:Str):List Str->Str->Option Str
 | [],b2=>some b2
 | e1 :: es1,b2=>(appC b2 sep).bind fun b3=>(appC b3 e1).bind fun b4=>M.fF sep es1 b4
def M.je:List Str->Int->Option Int
 | [],n0_1=>some n0_1
 | e :: es,n0_1=>(subC 9223372036854775807 n0_1).bind fun v6=>if v6<(e.length:Int) then none else (addC n0_1 (e.length:Int)).bind fun v7=>M.je es v7
def M.strings_Join(elems:List Str)(sep:Str):Option Str:=if (elems.length:Int)=0 then some ([]:Str) else if (elems.length:Int)=1 then (idx elems 0).bind fun v=>some v else (if 0 < (sep.length:Int) then ((subC (elems.length:Int) 1).bind fun v1=>(quoC 9223372036854775807 v1).bind fun v2=>if v2<=(sep.length:Int) then none else some ()).bind fun _=>(subC (elems.length:Int) 1).bind fun v3=>(mulC (sep.length:Int) v3).bind fun v4=>(addC 0 v4).bind fun v5=>some v5 else some (0:Int)).bind fun n0_=>(M.je elems n0_).bind fun n0_1=>(growC n0_1).bind fun _=>(idx elems 0).bind fun v8=>(appC [] v8).bind fun b1=>(slcLo elems 1).bind fun v9=>(M.fF sep v9 b1).bind fun b2=>some b2
def M.ng(n:Nat)(u:aa):Option (Str×Int):=(M.lV n u).bind fun lines=>if (lines.length:Int)=0 then some (([]:Str),(1:Int)) else (M.strings_Join lines ([10]:Str)).bind fun join=>(catC join ([10]:Str)).bind fun v=>if 16384 < (v.length:Int) then some (([]:Str),(6:Int)) else some (v,(0:Int))
def M.gU(visit:aa->Option Bool)(slf:aa->(aa->Option Bool)->Option Bool):List aa->Option (Unit ⊕ Bool)
 | []=>some (.inl ())
 | e :: es=>(slf e visit).bind fun every=>if every=false then some (.inr false) else M.gU visit slf es
def M.qf:Nat->aa->(aa->Option Bool)->Option Bool
 | 0,_,_=>none
 | n+1,u,visit=>(visit u).bind fun v=>if v=false then some false else (M.gU visit (M.qf n) u.Kids).bind fun
  | .inl _=>some true
  | .inr ret0=>some ret0
def M.aR(s0_:List af)(f:af->Option Bool):Nat->Int->Option (Unit ⊕ Int)
 | 0,_=>none
 | n+1,v=>if v<(s0_.length:Int) then (idx s0_ v).bind fun v1=>(f v1).bind fun v2=>if v2 then some (.inr v) else M.aR s0_ f n (v+1) else some (.inl ())
def M.fG(n:Nat)(s0_:List af)(f:af->Option Bool):Option Int:=(M.aR s0_ f n 0).bind fun
 | .inl _=>some (-1:Int)
 | .inr ret0=>some ret0
def M.bv(n:Nat)(s0_:List af)(f:af->Option Bool):Option Bool:=(M.fG n s0_ f).bind fun word=>some (decide (0<=word))
def M.lW(w:af):Option Bool:=some (decide (w.By≠(⟨(0:Int),(0:Int),(0:Int)⟩:kL)))
def M.qP(n:Nat)(x:aa):Option Bool:=if x.Id=(⟨(0:Int),(0:Int),(0:Int)⟩:ai) then (M.bv n x.Head (fun s0=>M.lW s0)).bind fun word=>if word=false then (M.bv n x.Words (fun s0=>M.lW s0)).bind fun word1=>some (!word1) else some false else some false
def M.tV(n:Nat)(u:aa):Option Bool:=(M.mH n u).bind fun valid=>if valid then (M.qf n u (fun s0=>M.qP n s0)).bind fun every=>some every else some false
def M.sU(n:Nat)(u:aa):Option Bool:=(M.ng n u).bind fun format=>(M.tV n u).bind fun isbare=>if isbare then if u.Kind≠0 then some (decide (format.2=0)) else some false else some false
def M.ni(n:Nat)(it:ah):Option Bool:=(M.qC it.Where).bind fun where0_=>if where0_ then (M.sU n it.Unit).bind fun isunit=>some isunit else some false
def M.qg(a:ah):Option ah:=some (⟨(0:Int),([]:List ax),([]:List ax),(0:Int),(0:Int),au,([]:List Str),([]:List Str),([]:Str),([]:Str),kJ,(0:Int),(0:Int),(0:Int),([]:Str),([]:List ah)⟩:ah)
def M.qh(a:ah):Option Bool:=some true
def M.qi(it:ah):Option ah:=some (⟨(0:Int),([]:List ax),([]:List ax),(0:Int),it.Nth,au,it.Old,it.New,([]:Str),([]:Str),kJ,(0:Int),(0:Int),(0:Int),([]:Str),([]:List ah)⟩:ah)
def M.nV(n:Nat)(l:List Str)(least:Int):Option Bool:=(M.mG n l).bind fun valid=>if valid then some (decide (least<=(l.length:Int))) else some false
def M.sK(it:ah):Option Bool:=(M.kW it.Nth 0 256).bind fun within=>some within
def M.nk(n:Nat)(it:ah):Option Bool:=(M.nV n it.Old 1).bind fun row=>if row then (M.nV n it.New 0).bind fun row1=>if row1 then (M.sK it).bind fun nth=>some nth else some false else some false
def M.qj(it:ah):Option ah:=some (⟨(0:Int),([]:List ax),([]:List ax),(0:Int),it.Nth,au,it.Old,it.New,([]:Str),([]:Str),kJ,(0:Int),(0:Int),(0:Int),([]:Str),([]:List ah)⟩:ah)
def M.nu(n:Nat)(it:ah):Option Bool:=(M.nV n it.Old 0).bind fun row=>if row then (M.nV n it.New 1).bind fun row1=>if row1 then (M.sK it).bind fun nth=>if nth then if 0 < (it.Old.length:Int) then some true else some (decide (it.Nth=0)) else some false else some false else some false
def M.ql(it:ah):Option ah:=some (⟨(0:Int),([]:List ax),([]:List ax),(0:Int),(0:Int),au,([]:List Str),it.New,([]:Str),([]:Str),kJ,(0:Int),(0:Int),(0:Int),([]:Str),([]:List ah)⟩:ah)
def M.lX(n:Nat)(it:ah):Option Bool:=(M.nV n it.New 0).bind fun row=>some row
def M.oz(it:ah):Option ah:=some (⟨(0:Int),([]:List ax),([]:List ax),(0:Int),(0:Int),au,([]:List Str),([]:List Str),it.Label,([]:Str),kJ,(0:Int),(0:Int),(0:Int),([]:Str),([]:List ah)⟩:ah)
def M.lY(n:Nat)(it:ah):Option Bool:=(M.nO n it.Label).bind fun valid=>some valid
def M.oC(it:ah):Option ah:=some (⟨(0:Int),([]:List ax),it.To,it.Where,(0:Int),au,([]:List Str),([]:List Str),([]:Str),([]:Str),kJ,(0:Int),(0:Int),(0:Int),([]:Str),([]:List ah)⟩:ah)
def M.lZ(n:Nat)(it:ah):Option Bool:=(M.qC it.Where).bind fun where0_=>if where0_ then (M.mF n it.To).bind fun valid=>some valid else some false
def M.qY(it:ah):Option ah:=some (⟨(0:Int),([]:List ax),([]:List ax),(0:Int),(0:Int),au,([]:List Str),([]:List Str),([]:Str),([]:Str),kJ,(0:Int),(0:Int),it.Day,it.Event,([]:List ah)⟩:ah)
def M.d9(c:Int):Nat->Str->Option Str
 | 0,_=>none
 | n+1,s0_1=>if 0 < (s0_1.length:Int) then (subC (s0_1.length:Int) 1).bind fun v=>(idx s0_1 v).bind fun b=>if (b.toNat:Int)=c then (subC (s0_1.length:Int) 1).bind fun v1=>(slcHi s0_1 v1).bind fun v2=>M.d9 c n v2 else some s0_1 else some s0_1
def M.strings_trimRightByte(n:Nat)(s0_:Str)(c:Int):Option Str:=(M.d9 c n s0_).bind fun s0_1=>some s0_1
def M.fe(c:Int):Nat->Str->Option Str
 | 0,_=>none
 | n+1,s0_1=>if 0 < (s0_1.length:Int) then (idx s0_1 0).bind fun b=>if (b.toNat:Int)=c then (slcLo s0_1 1).bind fun v=>M.fe c n v else some s0_1 else some s0_1
def M.strings_trimLeftByte(n:Nat)(s0_:Str)(c:Int):Option Str:=(M.fe c n s0_).bind fun s0_1=>some s0_1
def M.dh(chars:Str):Nat->Int->(List Bool)->Option (((List Bool)) ⊕ ((List Bool)×Bool))
 | 0,_,_=>none
 | n+1,i,as0_=>if i<(chars.length:Int) then (idx chars i).bind fun b1=>if 128<=(b1.toNat:Int) then some (.inr (as0_,false)) else (rngC 256 (b1.toNat:Int)).bind fun _=>M.dh chars n (i+1) (as0_.set (b1.toNat:Int).toNat true) else some (.inl as0_)
def M.strings_makeASCIISet(n:Nat)(chars:Str):Option ((List Bool)×Bool):=(M.dh chars n 0 (List.replicate 256 false)).bind fun
 | .inl as0_=>some (as0_,true)
 | .inr ret0=>some ret0
def M.dR(as0_:List Bool)(c:Int):Option Bool:=(idx as0_ c).bind fun v=>some v
def M.bK(as0_:List Bool):Nat->Str->Option Str
 | 0,_=>none
 | n+1,s0_1=>if 0 < (s0_1.length:Int) then (subC (s0_1.length:Int) 1).bind fun v=>(idx s0_1 v).bind fun b=>(M.dR as0_ (b.toNat:Int)).bind fun contai=>if contai=false then some s0_1 else (subC (s0_1.length:Int) 1).bind fun v1=>(slcHi s0_1 v1).bind fun v2=>M.bK as0_ n v2 else some s0_1
def M.strings_trimRightASCII(n:Nat)(s0_:Str)(as0_:List Bool):Option Str:=(M.bK as0_ n s0_).bind fun s0_1=>some s0_1
def M.dD(as0_:List Bool):Nat->Str->Option Str
 | 0,_=>none
 | n+1,s0_1=>if 0 < (s0_1.length:Int) then (idx s0_1 0).bind fun b=>(M.dR as0_ (b.toNat:Int)).bind fun contai=>if contai=false then some s0_1 else (slcLo s0_1 1).bind fun v=>M.dD as0_ n v else some s0_1
def M.strings_trimLeftASCII(n:Nat)(s0_:Str)(as0_:List Bool):Option Str:=(M.dD as0_ n s0_).bind fun s0_1=>some s0_1
def M.sj(n:Nat)(s0_:Str)(cutset:Str):Option Str:=(if (s0_==([]:Str))=true then some true else some (cutset==([]:Str))).bind fun v=>if v then some s0_ else (if (cutset.length:Int)=1 then (idx cutset 0).bind fun b=>some (decide ((b.toNat:Int)< 128)) else some false).bind fun v1=>if v1 then (idx cutset 0).bind fun b1=>(M.strings_trimRightByte n s0_ (b1.toNat:Int)).bind fun trimri=>(idx cutset 0).bind fun b2=>(M.strings_trimLeftByte n trimri (b2.toNat:Int)).bind fun trimle=>some trimle else (M.strings_makeASCIISet n cutset).bind fun makeas=>if makeas.2=true then (M.strings_trimRightASCII n s0_ makeas.1).bind fun trimri1=>(M.strings_trimLeftASCII n trimri1 makeas.1).bind fun trimle1=>some trimle1 else none
def M.kY(n:Nat)(s0_:Str):Option Bool:=(if (s0_.length:Int)< 1 then some true else if 16 < (s0_.length:Int) then some true else (idx s0_ 0).bind fun b=>if (b.toNat:Int)< 97 then some true else (idx s0_ 0).bind fun b1=>some (decide (122 < (b1.toNat:Int)))).bind fun v=>if v then some false else (M.sj n s0_ ([97,98,99,100,101,102,103,104,105,106,107,108,109,110,111,112,113,114,115,116,117,118,119,120,121,122,48,49,50,51,52,53,54,55,56,57,45]:Str)).bind fun trim=>some (trim==([]:Str))
def M.qZ(n:Nat)(it:ah):Option Bool:=(M.kY n it.Event).bind fun isname=>if isname then (M.kW it.Day 0 1048576).bind fun within=>some within else some false
def M.rf(it:ah):Option ah:=some (⟨(0:Int),([]:List ax),([]:List ax),(0:Int),(0:Int),au,([]:List Str),([]:List Str),([]:Str),([]:Str),kJ,it.Act,it.Item,(0:Int),([]:Str),it.By⟩:ah)
def M.uC(n:Nat):Option (List (Int×dX)):=some (mset (mset (mset (mset (mset (mset (mset (mset (mset (mset (mset (mset ([]:List (Int×dX)) (0:Int) (⟨(fun s0=>M.qd s0),(fun s0=>M.ni n s0)⟩:dX)) 1 (⟨(fun s0=>M.qg s0),(fun s0=>M.qh s0)⟩:dX)) 2 (⟨(fun s0=>M.qi s0),(fun s0=>M.nk n s0)⟩:dX)) 3 (⟨(fun s0=>M.qj s0),(fun s0=>M.nu n s0)⟩:dX)) 4 (⟨(fun s0=>M.ql s0),(fun s0=>M.lX n s0)⟩:dX)) 5 (⟨(fun s0=>M.oz s0),(fun s0=>M.lY n s0)⟩:dX)) 6 (⟨(fun s0=>M.oC s0),(fun s0=>M.lZ n s0)⟩:dX)) 7 gv0) 8 gv0) 9 gv0) 10 (⟨(fun s0=>M.qY s0),(fun s0=>M.qZ n s0)⟩:dX)) 11 (⟨(fun s0=>M.rf s0),(fun _=>none)⟩:dX))
def M.pq(n:Nat)(s0_:fZ):Option Bool:=(if s0_.Kind=0 then some (decide (s0_.Kind=0)) else some (decide (s0_.Kind=2))).bind fun v=>if v then if s0_.Day=0 then some (s0_.Event==([]:Str)) else some false else if s0_.Kind=1 then (M.kW s0_.Day 0 1048576).bind fun within=>if within then some (s0_.Event==([]:Str)) else some false else if s0_.Kind=3 then if s0_.Day=0 then (M.kY n s0_.Event).bind fun isname=>some isname else some false else some false
def M.bi(s1_:List ax)(s2_:List ax):Nat->Int->Option (Unit ⊕ Bool)
 | 0,_=>none
 | n+1,v=>if v<(s1_.length:Int) then (idx s1_ v).bind fun v1=>(idx s2_ v).bind fun v2=>if v1≠v2 then some (.inr false) else M.bi s1_ s2_ n (v+1) else some (.inl ())
def M.dG(n:Nat)(s1_:List ax)(s2_:List ax):Option Bool:=if (s1_.length:Int)≠(s2_.length:Int) then some false else (M.bi s1_ s2_ n 0).bind fun
 | .inl _=>some true
 | .inr ret0=>some ret0
def M.bn(s1_:List af)(s2_:List af):Nat->Int->Option (Unit ⊕ Bool)
 | 0,_=>none
 | n+1,v=>if v<(s1_.length:Int) then (idx s1_ v).bind fun v1=>(idx s2_ v).bind fun v2=>if v1≠v2 then some (.inr false) else M.bn s1_ s2_ n (v+1) else some (.inl ())
def M.dH(n:Nat)(s1_:List af)(s2_:List af):Option Bool:=if (s1_.length:Int)≠(s2_.length:Int) then some false else (M.bn s1_ s2_ n 0).bind fun
 | .inl _=>some true
 | .inr ret0=>some ret0
def M.aJ(s2_:List aa)(eq:aa->aa->Option Bool):List aa->Int->Option (Unit ⊕ Bool)
 | [],_=>some (.inl ())
 | e :: es,i=>(idx s2_ i).bind fun v=>(eq e v).bind fun v1=>if v1=false then some (.inr false) else M.aJ s2_ eq es (i+1)
def M.bP(s1_:List aa)(s2_:List aa)(eq:aa->aa->Option Bool):Option Bool:=if (s1_.length:Int)≠(s2_.length:Int) then some false else (M.aJ s2_ eq s1_ 0).bind fun
 | .inl _=>some true
 | .inr ret0=>some ret0
def M.qm:Nat->aa->aa->Option Bool
 | 0,_,_=>none
 | n+1,a,b=>if a.Id=b.Id then if a.Kind=b.Kind then if (a.Label==b.Label)=true then (M.dH n a.Head b.Head).bind fun word=>if word then (M.dH n a.Words b.Words).bind fun word1=>if word1 then (M.bP a.Kids b.Kids (fun s0 s1=>M.qm n s0 s1)).bind fun unit=>some unit else some false else some false else some false else some false else some false
def M.aQ(s2_:List ah)(eq:ah->ah->Option Bool):List ah->Int->Option (Unit ⊕ Bool)
 | [],_=>some (.inl ())
 | e :: es,i=>(idx s2_ i).bind fun v=>(eq e v).bind fun v1=>if v1=false then some (.inr false) else M.aQ s2_ eq es (i+1)
def M.bQ(s1_:List ah)(s2_:List ah)(eq:ah->ah->Option Bool):Option Bool:=if (s1_.length:Int)≠(s2_.length:Int) then some false else (M.aQ s2_ eq s1_ 0).bind fun
 | .inl _=>some true
 | .inr ret0=>some ret0
def M.qE:Nat->ah->ah->Option Bool
 | 0,_,_=>none
 | n+1,a,b=>(if a.Kind=b.Kind then if a.Where=b.Where then if a.Nth=b.Nth then if a.Act=b.Act then if a.Item=b.Item then some (decide (a.Day=b.Day)) else some false else some false else some false else some false else some false).bind fun numbers=>(if (a.Label==b.Label)=true then if (a.For==b.For)=true then if (a.Event==b.Event)=true then some (decide (a.Start=b.Start)) else some false else some false else some false).bind fun texts=>((M.dG n a.At b.At).bind fun step=>if step then (M.dG n a.To b.To).bind fun step1=>if step1 then (M.df n a.Old b.Old).bind fun string=>if string then (M.df n a.New b.New).bind fun string1=>some string1 else some false else some false else some false).bind fun rows=>if numbers then if texts then if rows then (M.qm n a.Unit b.Unit).bind fun equal=>if equal then (M.bQ a.By b.By (fun s0 s1=>M.qE n s0 s1)).bind fun item=>some item else some false else some false else some false else some false
def M.j3(n:Nat)(it:ah):Option Bool:=(M.uC n).bind fun rules=>if ((mget rules it.Kind nQ,mhas rules it.Kind).2)=false then some false else (((mget rules it.Kind nQ,mhas rules it.Kind).1).has_ it).bind fun v=>(((M.jS it.Kind).bind fun isamen=>if isamen then (M.mF n it.At).bind fun valid=>if valid=false then some (.inr false) else if (it.For !=([]:Str))=true then (M.kY n it.For).bind fun isname=>if isname=false then some (.inr false) else (M.pq n it.Start).bind fun begins=>if begins=false then some (.inr false) else some (.inl ({({({({v with Kind:=it.Kind}:ah) with At:=it.At}:ah) with For:=it.For}:ah) with Start:=it.Start}:ah)) else (M.pq n it.Start).bind fun begins1=>if begins1=false then some (.inr false) else some (.inl ({({({({v with Kind:=it.Kind}:ah) with At:=it.At}:ah) with For:=it.For}:ah) with Start:=it.Start}:ah)) else some (.inl ({v with Kind:=it.Kind}:ah))):Option (ah ⊕ Bool)).bind fun
 | .inl just=>(M.qE n it just).bind fun equal=>if equal then (((mget rules it.Kind nQ,mhas rules it.Kind).1).may_ it).bind fun v1=>some v1 else some false
 | .inr ret0=>some ret0
def M.bW(n:Nat)(u:aa)(d:ak):Option (aa×Int):=(M.vI n).bind fun doers=>(if ((mget doers d.It.Kind (fun _ _ _=>none:aa->aa->ak->Option (aa×Int)),mhas doers d.It.Kind).2)=false then some true else (M.j3 n d.It).bind fun valid=>some (!valid)).bind fun v=>if v then some (u,(1:Int)) else (M.cu n u d.It.At).bind fun findon=>if findon.2≠0 then some (u,findon.2) else (M.dC n u findon.1).bind fun find=>(if findon.1≠u.Id then some true else some (decide (d.It.Kind=0))).bind fun v1=>if v1 then ((mget doers d.It.Kind (fun _ _ _=>none:aa->aa->ak->Option (aa×Int)),mhas doers d.It.Kind).1 u find.1 d).bind fun v2=>some (v2.1,v2.2) else if d.It.Kind=6 then (M.cu n u d.It.To).bind fun findon1=>if findon1.2≠0 then some (u,findon1.2) else some (u,(9:Int)) else some (u,(9:Int))
def M.sM(n:Nat)(u:aa)(id:ai):Option az:=(M.jg n u id).bind fun parent=>some (⟨(0:Int),parent.2.1,id,parent.1,au,([]:Str),([]:List af)⟩:az)
def M.pu(n:Nat)(u:aa)(x:aa):Option az:=(M.sM n u x.Id).bind fun where0_=>some ({({where0_ with Kind:=1}:az) with Unit:=x}:az)
def M.mI(n:Nat)(u:aa)(x:aa):Option az:=(M.sM n u x.Id).bind fun where0_=>some ({where0_ with Kind:=2}:az)
def M.mJ(x:aa)(x1:aa):Option az:=(M.aM x1.Words).bind fun word=>some (⟨(4:Int),(0:Int),x1.Id,aF,au,([]:Str),word⟩:az)
def M.pz(x:aa)(x1:aa):Option az:=(M.aM x1.Head).bind fun word=>some (⟨(5:Int),(0:Int),x1.Id,aF,au,([]:Str),word⟩:az)
def M.qQ(x:aa)(x1:aa):Option az:=some (⟨(3:Int),(0:Int),x1.Id,aF,au,x1.Label,([]:List af)⟩:az)
def M.vJ(n:Nat):Option (List (Int×(aa->aa->Option az))):=some (mset (mset (mset (mset (mset (mset ([]:List (Int×(aa->aa->Option az))) (1:Int) (fun s0 s1=>M.pu n s0 s1)) 6 (fun s0 s1=>M.mI n s0 s1)) 2 (fun s0 s1=>M.mJ s0 s1)) 3 (fun s0 s1=>M.mJ s0 s1)) 4 (fun s0 s1=>M.pz s0 s1)) 5 (fun s0 s1=>M.qQ s0 s1))
def M.j4(n:Nat)(u:aa)(d:ak):Option (az×Int):=(M.bW n u d).bind fun apply0_=>if apply0_.2≠0 then some ((⟨(0:Int),(0:Int),aF,aF,au,([]:Str),([]:List af)⟩:az),apply0_.2) else if d.It.Kind=0 then some ((⟨(0:Int),(0:Int),(⟨d.Act,d.Item,(1:Int)⟩:ai),aF,au,([]:Str),([]:List af)⟩:az),(0:Int)) else (M.cu n u d.It.At).bind fun findon=>(M.dC n u findon.1).bind fun find=>(M.vJ n).bind fun makers=>(mget makers d.It.Kind (fun _ _=>none:aa->aa->Option az) u find.1).bind fun v=>some (v,(0:Int))
def M.cz(n:Nat):List ak->(List az)->aa->Option ((List az)×aa)
 | [],out,u1=>some (out,u1)
 | e :: es,out,u1=>(M.jS e.It.Kind).bind fun isamen=>if isamen=false then M.cz n es out u1 else (M.j4 n u1 e).bind fun invers=>if invers.2≠0 then M.cz n es out u1 else (M.bW n u1 e).bind fun apply0_=>(appC out [invers.1]).bind fun out1=>M.cz n es out1 apply0_.1
def M.pE(n:Nat)(u:aa)(l:List ak):Option (aa×(List az)):=(M.cz n l [] u).bind fun (out,u1)=>some (u1,out)
def M.iO(u:aa)(slf:aa->Option (List aa)):Nat->(List aa)->Int->Option (List aa)
 | 0,_,_=>none
 | n+1,out,i=>if i<(u.Kids.length:Int) then (idx u.Kids i).bind fun v=>(slf v).bind fun every=>(appC out every).bind fun out1=>M.iO u slf n out1 (i+1) else some out
def M.ny:Nat->aa->Option (List aa)
 | 0,_=>none
 | n+1,u=>(M.iO u (M.ny n) n [u] 0).bind fun out=>some out
def M.Bc(u:aa)(s0_:ax):Option Bool:=if u.Kind=s0_.Kind then some (u.Label==s0_.Label) else some false
def M.gI(p:List ax)(every:List aa):Nat->(List aa)->Int->Option (List aa)
 | 0,_,_=>none
 | n+1,now1,i=>if i<(every.length:Int) then (idx every i).bind fun v1=>(idx p 0).bind fun v2=>(M.Bc v1 v2).bind fun at0_=>if at0_ then (idx every i).bind fun v3=>(appC now1 [v3]).bind fun out1=>M.gI p every n out1 (i+1) else M.gI p every n now1 (i+1) else some now1
def M.gJ(p:List ax)(now2:List aa)(k5:Int)(i1:Int):Nat->(List aa)->Int->Option (List aa)
 | 0,_,_=>none
 | n+1,next1,j=>(idx now2 i1).bind fun v4=>if j<(v4.Kids.length:Int) then (idx now2 i1).bind fun v5=>(idx v5.Kids j).bind fun v6=>(idx p k5).bind fun v7=>(M.Bc v6 v7).bind fun at0_1=>if at0_1 then (idx now2 i1).bind fun v8=>(idx v8.Kids j).bind fun v9=>(appC next1 [v9]).bind fun out2=>M.gJ p now2 k5 i1 n out2 (j+1) else M.gJ p now2 k5 i1 n next1 (j+1) else some next1
def M.iP(p:List ax)(now2:List aa)(k5:Int):Nat->(List aa)->Int->Option (List aa)
 | 0,_,_=>none
 | n+1,next,i1=>if i1<(now2.length:Int) then (M.gJ p now2 k5 i1 n next 0).bind fun next1=>(addC i1 1).bind fun v10=>M.iP p now2 k5 n next1 v10 else some next
def M.iQ(p:List ax):Nat->(List aa)->Int->Option (List aa)
 | 0,_,_=>none
 | n+1,now2,k5=>if k5<(p.length:Int) then (M.iP p now2 k5 n [] 0).bind fun next=>(addC k5 1).bind fun v11=>M.iQ p n next v11 else some now2
def M.wE(n:Nat)(u:aa)(p:List ax):Option (List aa):=(M.vH n p).bind fun may=>if may=false then some ([]:List aa) else if (p.length:Int)=0 then some [u] else ((idx p 0).bind fun v=>(M.wB v).bind fun book=>if book then (appC [] [u]).bind fun out=>some out else (M.ny n u).bind fun every=>(M.gI p every n [] 0).bind fun now1=>some now1).bind fun now=>(M.iQ p n now 1).bind fun now2=>some now2
def M.jC(units:List aa):Nat->(List ai)->Int->Option (List ai)
 | 0,_,_=>none
 | n+1,out,i=>if i<(units.length:Int) then (idx units i).bind fun v=>(appC out [v.Id]).bind fun out1=>M.jC units n out1 (i+1) else some out
def M.xI(n:Nat)(u:aa)(p:List ax):Option (List ai):=(M.wE n u p).bind fun units=>(M.jC units n [] 0).bind fun out=>some out
def M.vK(n:Nat)(u:aa)(p:List ax):Option (ai×Int):=(M.xI n u p).bind fun find=>if (find.length:Int)=0 then some ((⟨(0:Int),(0:Int),(0:Int)⟩:ai),(7:Int)) else if 1 < (find.length:Int) then some ((⟨(0:Int),(0:Int),(0:Int)⟩:ai),(8:Int)) else (idx find 0).bind fun v=>some (v,(0:Int))
def M.gK(u:aa)(id:ai)(slf:aa->ai->Option (aa×Int)):Nat->Int->aa->Option (aa ⊕ (aa×Int))
 | 0,_,_=>none
 | n+1,i,v=>if i<(u.Kids.length:Int) then (idx u.Kids i).bind fun v1=>(slf v1 id).bind fun get=>if 0<=get.2 then (addC get.2 1).bind fun v2=>some (.inr (get.1,v2)) else M.gK u id slf n (i+1) v else some (.inl v)
def M.iR:Nat->aa->ai->Option (aa×Int)
 | 0,_,_=>none
 | n+1,u,id=>if u.Id=id then some (u,(0:Int)) else (M.gK u id (M.iR n) n 0 au).bind fun
  | .inl v=>some ((⟨aF,(0:Int),([]:Str),([]:List af),([]:List af),([]:List aa)⟩:aa),(-1:Int))
  | .inr ret0=>some ret0
def M.dS(u:aa)(id:ai)(slf:aa->ai->Option (aa×Int×Int)):Nat->Int->aa->Option (aa ⊕ (aa×Int×Int))
 | 0,_,_=>none
 | n+1,i1,v2=>if i1<(u.Kids.length:Int) then (idx u.Kids i1).bind fun v3=>(slf v3 id).bind fun parent=>if 0<=parent.2.2 then (addC parent.2.1 1).bind fun v4=>some (.inr (parent.1,v4,parent.2.2)) else M.dS u id slf n (i1+1) v2 else some (.inl v2)
def M.dU(u:aa)(id:ai):Nat->Int->aa->Option (aa ⊕ (aa×Int×Int))
 | 0,_,_=>none
 | n+1,i,v=>if i<(u.Kids.length:Int) then (idx u.Kids i).bind fun v1=>if v1.Id=id then some (.inr (u,(0:Int),i)) else M.dU u id n (i+1) v else some (.inl v)
def M.fT:Nat->aa->ai->Option (aa×Int×Int)
 | 0,_,_=>none
 | n+1,u,id=>(M.dU u id n 0 au).bind fun
  | .inl v=>(M.dS u id (M.fT n) n 0 v).bind fun
   | .inl v2=>some ((⟨aF,(0:Int),([]:Str),([]:List af),([]:List af),([]:List aa)⟩:aa),(0:Int),(-1:Int))
   | .inr ret0=>some ret0
  | .inr ret0=>some ret0
def M.iV(l:List af):Nat->(List Str)->Int->Option (List Str)
 | 0,_,_=>none
 | n+1,w,i=>if i<(l.length:Int) then (idx l i).bind fun v=>(appC w [v.Text]).bind fun out=>M.iV l n out (i+1) else some w
def M.uN(n:Nat)(l:List af):Option (List Str):=(M.iV l n [] 0).bind fun w=>some w
def M.jD(l:List Str)(act:Int)(item:Int)(from0_:Int):Nat->(List af)->Int->Option (List af)
 | 0,_,_=>none
 | n+1,w,i=>if i<(l.length:Int) then (idx l i).bind fun v=>(addC from0_ i).bind fun v1=>(appC w [(⟨v,(⟨act,item,v1⟩:kL)⟩:af)]).bind fun out=>M.jD l act item from0_ n out (i+1) else some w
def M.qR(n:Nat)(l:List Str)(act:Int)(item:Int)(from0_:Int):Option (List af):=(M.jD l act item from0_ n [] 0).bind fun w=>some w
def M.iW(u:aa)(act:Int)(item:Int)(n0_:Int)(mark:List af)(mark1:List af)(slf:aa->Int->Int->Int->Int->Option (aa×Int×Int)):Nat->Int->Int->(List aa)->Int->Option (Int×Int×(List aa))
 | 0,_,_,_,_=>none
 | n+1,n0_1,m0_1,kids,i=>if i<((({({({u with Id:=(⟨act,item,n0_⟩:ai)}:aa) with Head:=mark}:aa) with Words:=mark1}:aa).Kids).length:Int) then (idx (({({({u with Id:=(⟨act,item,n0_⟩:ai)}:aa) with Head:=mark}:aa) with Words:=mark1}:aa).Kids) i).bind fun v3=>(slf v3 act item n0_1 m0_1).bind fun stamp=>(appC kids [stamp.1]).bind fun out=>M.iW u act item n0_ mark mark1 slf n stamp.2.1 stamp.2.2 out (i+1) else some (n0_1,m0_1,kids)
def M.rU:Nat->aa->Int->Int->Int->Int->Option (aa×Int×Int)
 | 0,_,_,_,_,_=>none
 | n+1,u,act,item,n0_,m0_=>(addC n0_ 1).bind fun v=>(M.uN n (({u with Id:=(⟨act,item,n0_⟩:ai)}:aa).Head)).bind fun texts=>(M.qR n texts act item m0_).bind fun mark=>(addC m0_ ((({({u with Id:=(⟨act,item,n0_⟩:ai)}:aa) with Head:=mark}:aa).Head).length:Int)).bind fun v1=>(M.uN n (({({u with Id:=(⟨act,item,n0_⟩:ai)}:aa) with Head:=mark}:aa).Words)).bind fun texts1=>(M.qR n texts1 act item v1).bind fun mark1=>(addC v1 ((({({({u with Id:=(⟨act,item,n0_⟩:ai)}:aa) with Head:=mark}:aa) with Words:=mark1}:aa).Words).length:Int)).bind fun v2=>(M.iW u act item n0_ mark mark1 (M.rU n) n v v2 [] 0).bind fun (n0_1,m0_1,kids)=>some (({({({({u with Id:=(⟨act,item,n0_⟩:ai)}:aa) with Head:=mark}:aa) with Words:=mark1}:aa) with Kids:=kids}:aa),n0_1,m0_1)
def M.wF(n:Nat)(u:aa)(act:Int)(item:Int):Option aa:=(M.rU n u act item 1 0).bind fun stamp=>some stamp.1
def M.gL(l:List aa)(kind:Int)(label:Str):Nat->Int->Option (Unit ⊕ Bool)
 | 0,_=>none
 | n+1,i=>if i<(l.length:Int) then (idx l i).bind fun v=>if v.Kind=kind then (idx l i).bind fun v1=>if (v1.Label==label)=true then some (.inr true) else M.gL l kind label n (i+1) else M.gL l kind label n (i+1) else some (.inl ())
def M.sN(n:Nat)(l:List aa)(kind:Int)(label:Str):Option Bool:=(M.gL l kind label n 0).bind fun
 | .inl _=>some false
 | .inr ret0=>some ret0
def M.iD(u:aa)(slf:aa->Option Int):Nat->Int->Int->Option Int
 | 0,_,_=>none
 | n+1,n0_,i=>if i<(u.Kids.length:Int) then (idx u.Kids i).bind fun v=>(slf v).bind fun deep=>(addC 1 deep).bind fun v1=>if n0_<v1 then M.iD u slf n v1 (i+1) else M.iD u slf n n0_ (i+1) else some n0_
def M.qo:Nat->aa->Option Int
 | 0,_=>none
 | n+1,u=>(M.iD u (M.qo n) n 0 0).bind fun n0_=>some n0_
def M.wV(l:List aa)(at0_:Int)(x:aa):Option (List aa):=(slcHi l at0_).bind fun v=>(appC [] v).bind fun out=>(appC out [x]).bind fun out1=>(slcLo l at0_).bind fun v1=>(appC out1 v1).bind fun out2=>some out2
def M.jE(u:aa)(x:aa)(slf:aa->aa->Option aa):Nat->(List aa)->Int->Option (List aa)
 | 0,_,_=>none
 | n+1,kids,i=>if i<(u.Kids.length:Int) then (idx u.Kids i).bind fun v=>(slf v x).bind fun with0_=>(appC kids [with0_]).bind fun out=>M.jE u x slf n out (i+1) else some kids
def M.kM:Nat->aa->aa->Option aa
 | 0,_,_=>none
 | n+1,u,x=>if u.Id=x.Id then some x else (M.jE u x (M.kM n) n [] 0).bind fun kids=>some ({u with Kids:=kids}:aa)
def M.dV(u:aa)(every:List aa):Nat->Int->aa->Option (aa ⊕ (aa×Int))
 | 0,_,_=>none
 | n+1,i,v6=>if i<(every.length:Int) then (idx every i).bind fun v7=>(M.iR n u v7.Id).bind fun get1=>if 0<=get1.2 then some (.inr (u,(5:Int))) else M.dV u every n (i+1) v6 else some (.inl v6)
def M.jT(n:Nat)(u:aa)(id:ai)(d:ak):Option (aa×Int):=(M.iR n u id).bind fun get=>(if d.It.Where=0 then some (0:Int) else some (get.1.Kids.length:Int)).bind fun k=>(((if d.It.Where=2 then some true else some (decide (d.It.Where=3))).bind fun v1=>if v1 then if id=u.Id then some (.inr (u,(9:Int))) else (M.fT n u id).bind fun parent=>if d.It.Where=2 then (addC parent.2.2 1).bind fun v2=>some (.inl (parent.2.1,v2,au,parent.1)) else some (.inl (parent.2.1,parent.2.2,au,parent.1)) else some (.inl (get.2,k,au,get.1))):Option ((Int×Int×aa×aa) ⊕ (aa×Int))).bind fun
 | .inl (deep,k1,v,p)=>(M.wF n d.It.Unit d.Act d.Item).bind fun stamp=>(M.rP p.Kind stamp.Kind).bind fun nests=>if nests=false then some (u,(9:Int)) else (M.sN n p.Kids stamp.Kind stamp.Label).bind fun taken=>if taken then some (u,(10:Int)) else if 64<=(p.Kids.length:Int) then some (u,(6:Int)) else (addC deep 1).bind fun v3=>(M.qo n stamp).bind fun deep1=>(addC v3 deep1).bind fun v4=>if 8 < v4 then some (u,(6:Int)) else (M.lQ n u).bind fun count=>(M.lQ n stamp).bind fun count1=>(addC count count1).bind fun v5=>if 1024 < v5 then some (u,(6:Int)) else (M.ny n stamp).bind fun every=>(M.dV u every n 0 v).bind fun
  | .inl v6=>(M.wV p.Kids k1 stamp).bind fun in0_=>(M.kM n u ({p with Kids:=in0_}:aa)).bind fun with0_=>some (with0_,(0:Int))
  | .inr ret0=>some ret0
 | .inr ret0=>some ret0
def M.su(l:List aa)(at0_:Int):Option (List aa):=(slcHi l at0_).bind fun v=>(appC [] v).bind fun out=>(addC at0_ 1).bind fun v1=>(slcLo l v1).bind fun v2=>(appC out v2).bind fun out1=>some out1
def M.kQ(l:List aa)(id:ai):Nat->Int->Option (Unit ⊕ Int)
 | 0,_=>none
 | n+1,i=>if i<(l.length:Int) then (idx l i).bind fun v=>if v.Id=id then some (.inr i) else M.kQ l id n (i+1) else some (.inl ())
def M.zw(n:Nat)(l:List aa)(id:ai):Option Int:=(M.kQ l id n 0).bind fun
 | .inl _=>some (-1:Int)
 | .inr ret0=>some ret0
def M.ma(n:Nat)(u:aa)(id:ai)(d:ak):Option (aa×Int):=(M.vK n u d.It.To).bind fun one=>if one.2≠0 then some (u,one.2) else (if d.It.Where=2 then some true else some (decide (d.It.Where=3))).bind fun beside=>(M.iR n u id).bind fun get=>(M.iR n get.1 one.1).bind fun get1=>(if id=u.Id then some true else if beside then if one.1=u.Id then some true else if 0 < get1.2 then some true else if get1.2=0 then some (!beside) else some false else if 0 < get1.2 then some true else if get1.2=0 then some (!beside) else some false).bind fun v=>if v then some (u,(9:Int)) else (M.iR n u one.1).bind fun get2=>(if beside then (M.fT n u one.1).bind fun parent=>some (parent.2.1,parent.1) else some (get2.2,get2.1)).bind fun (deep,p)=>(M.rP p.Kind get.1.Kind).bind fun nests=>if nests=false then some (u,(9:Int)) else (M.fT n u id).bind fun parent1=>(if parent1.1.Id=p.Id then (M.su p.Kids parent1.2.2).bind fun out=>some out else some p.Kids).bind fun kids=>(M.sN n kids get.1.Kind get.1.Label).bind fun taken=>if taken then some (u,(10:Int)) else (if 64<=(kids.length:Int) then some true else (addC deep 1).bind fun v2=>(M.qo n get.1).bind fun deep1=>(addC v2 deep1).bind fun v3=>some (decide (8 < v3))).bind fun v1=>if v1 then some (u,(6:Int)) else if one.1=id then some (u,(0:Int)) else (M.su parent1.1.Kids parent1.2.2).bind fun out1=>(M.kM n u ({parent1.1 with Kids:=out1}:aa)).bind fun with0_=>(M.iR n with0_ p.Id).bind fun get3=>(if d.It.Where=0 then some (0:Int) else some (get3.1.Kids.length:Int)).bind fun k=>(if beside then (M.zw n get3.1.Kids one.1).bind fun at0_=>if d.It.Where=2 then (addC at0_ 1).bind fun v4=>some v4 else some at0_ else some k).bind fun k1=>(M.wV get3.1.Kids k1 get.1).bind fun in0_=>(M.kM n with0_ ({get3.1 with Kids:=in0_}:aa)).bind fun with0_1=>some (with0_1,(0:Int))
def M.gV(w:List af)(k:Int)(row:List Str):Nat->Int->Option (Unit ⊕ Bool)
 | 0,_=>none
 | n+1,i=>if i<(row.length:Int) then (addC k i).bind fun v1=>(idx w v1).bind fun v2=>(idx row i).bind fun v3=>if (v2.Text !=v3)=true then some (.inr false) else M.gV w k row n (i+1) else some (.inl ())
def M.uW(n:Nat)(w:List af)(k:Int)(row:List Str):Option Bool:=(addC k (row.length:Int)).bind fun v=>if (w.length:Int)< v then some false else (M.gV w k row n 0).bind fun
 | .inl _=>some true
 | .inr ret0=>some ret0
def M.dW(w:List af)(row:List Str):Nat->(List Int)->Int->Option (List Int)
 | 0,_,_=>none
 | n+1,l,i=>if i<(w.length:Int) then (M.uW n w i row).bind fun begins=>if begins then (appC l [i]).bind fun out=>(addC i (row.length:Int)).bind fun v=>M.dW w row n out v else M.dW w row n l (i+1) else some l
def M.rC(n:Nat)(w:List af)(row:List Str):Option (List Int):=(M.dW w row n [] 0).bind fun l=>some l
def M.fJ(w:List af)(it:ah)(act:Int)(item:Int)(places:List Int):Nat->(List af)->Int->Int->Int->Option ((List af)×Int)
 | 0,_,_,_,_=>none
 | n+1,l,from0_,m0_,i=>if i<(places.length:Int) then (if it.Nth≠0 then some (decide (it.Nth≠i+1)) else some false).bind fun v2=>if v2 then M.fJ w it act item places n l from0_ m0_ (i+1) else (idx places i).bind fun v3=>(slc w from0_ v3).bind fun v4=>(appC l v4).bind fun out1=>(idx places i).bind fun v5=>(addC v5 (it.Old.length:Int)).bind fun v6=>(if it.Kind=3 then (idx places i).bind fun v7=>(slc w v7 v6).bind fun v8=>(appC out1 v8).bind fun out2=>some out2 else some out1).bind fun l1=>(M.qR n it.New act item m0_).bind fun mark1=>(appC l1 mark1).bind fun out3=>(addC m0_ (it.New.length:Int)).bind fun v9=>M.fJ w it act item places n out3 v6 v9 (i+1) else some (l,from0_)
def M.qp(n:Nat)(w:List af)(it:ah)(act:Int)(item:Int):Option ((List af)×Int):=(if it.Kind=3 then some (decide ((it.Old.length:Int)=0)) else some false).bind fun v=>if v then (M.qR n it.New act item 0).bind fun mark=>(appC mark w).bind fun out=>if 256 < (out.length:Int) then some (([]:List af),(6:Int)) else some (out,(0:Int)) else (M.rC n w it.Old).bind fun places=>(if (places.length:Int)=0 then some true else some (decide ((places.length:Int)< it.Nth))).bind fun v1=>if v1 then some (([]:List af),(4:Int)) else (M.fJ w it act item places n [] 0 0 0).bind fun (l,from0_)=>(slcLo w from0_).bind fun v10=>(appC l v10).bind fun out4=>if 256 < (out4.length:Int) then some (([]:List af),(6:Int)) else some (out4,(0:Int))
def M.mK(n:Nat)(u:aa)(d:ak):Option (aa×Int):=((M.nR d.It.Kind).bind fun change=>if change=false then some true else (M.nS n d.It).bind fun may=>some (!may)).bind fun v=>if v then some (u,(1:Int)) else (M.vK n u d.It.At).bind fun one=>if one.2≠0 then some (u,one.2) else if d.It.Kind=0 then (M.jT n u one.1 d).bind fun insert=>some (insert.1,insert.2) else if d.It.Kind=6 then (M.ma n u one.1 d).bind fun move=>some (move.1,move.2) else if one.1=u.Id then some (u,(9:Int)) else (M.iR n u one.1).bind fun get=>(M.fT n u one.1).bind fun parent=>((if d.It.Kind=1 then (M.su parent.1.Kids parent.2.2).bind fun out=>(M.kM n u ({parent.1 with Kids:=out}:aa)).bind fun with0_=>some (.inr (with0_,(0:Int))) else (if d.It.Kind=2 then some (decide (d.It.Kind=2)) else some (decide (d.It.Kind=3))).bind fun v2=>if v2 then (M.qp n get.1.Words d.It d.Act d.Item).bind fun edit=>if edit.2≠0 then some (.inr (u,edit.2)) else some (.inl (au,({get.1 with Words:=edit.1}:aa),parent.1)) else if d.It.Kind=4 then (M.qR n d.It.New d.Act d.Item 0).bind fun mark=>some (.inl (au,({get.1 with Head:=mark}:aa),parent.1)) else if d.It.Kind=5 then (M.sN n parent.1.Kids get.1.Kind d.It.Label).bind fun taken=>if taken then some (.inr (u,(10:Int))) else some (.inl (au,({get.1 with Label:=d.It.Label}:aa),parent.1)) else some (.inl (au,get.1,parent.1))):Option ((aa×aa×aa) ⊕ (aa×Int))).bind fun
 | .inl (v1,x,p)=>(M.kM n u x).bind fun with0_1=>some (with0_1,(0:Int))
 | .inr ret0=>some ret0
def M.gM(l:List ak):Nat->(List jL)->Int->aa->Option ((List jL)×aa)
 | 0,_,_,_=>none
 | n+1,m0_,i,u1=>if i<(l.length:Int) then (idx l i).bind fun v=>(M.nR v.It.Kind).bind fun change=>if change=false then M.gM l n m0_ (i+1) u1 else (idx l i).bind fun v1=>(M.mK n u1 v1).bind fun do0_=>if do0_.2≠0 then (idx l i).bind fun v2=>(idx l i).bind fun v3=>(appC m0_ [(⟨v2.Act,v3.Item,do0_.2⟩:jL)]).bind fun out=>M.gM l n out (i+1) do0_.1 else M.gM l n m0_ (i+1) do0_.1 else some (m0_,u1)
def M.yF(n:Nat)(u:aa)(l:List ak):Option (aa×(List jL)):=(M.gM l n [] 0 u).bind fun (m0_,u1)=>some (u1,m0_)
def M.iZ(a:List af)(b:List af):Nat->Int->Option (Unit ⊕ Bool)
 | 0,_=>none
 | n+1,i=>if i<(a.length:Int) then (idx a i).bind fun v=>(idx b i).bind fun v1=>if v≠v1 then some (.inr false) else M.iZ a b n (i+1) else some (.inl ())
def M.uO(n:Nat)(a:List af)(b:List af):Option Bool:=if (a.length:Int)≠(b.length:Int) then some false else (M.iZ a b n 0).bind fun
 | .inl _=>some true
 | .inr ret0=>some ret0
def M.jF(a:aa)(b:aa)(slf:aa->aa->Option Bool):Nat->Int->Option (Unit ⊕ Bool)
 | 0,_=>none
 | n+1,i=>if i<(a.Kids.length:Int) then (idx a.Kids i).bind fun v1=>(idx b.Kids i).bind fun v2=>(slf v1 v2).bind fun same=>if same=false then some (.inr false) else M.jF a b slf n (i+1) else some (.inl ())
def M.qU:Nat->aa->aa->Option Bool
 | 0,_,_=>none
 | n+1,a,b=>(if a.Id≠b.Id then some true else if a.Kind≠b.Kind then some true else if (a.Label !=b.Label)=true then some true else (M.uO n a.Head b.Head).bind fun words=>if words=false then some true else (M.uO n a.Words b.Words).bind fun words1=>if words1=false then some true else some (decide ((a.Kids.length:Int)≠(b.Kids.length:Int)))).bind fun v=>if v then some false else (M.jF a b (M.qU n) n 0).bind fun
  | .inl _=>some true
  | .inr ret0=>some ret0
def M.mf(id:ai):Option Bool:=some (decide (id=(⟨(0:Int),(0:Int),(0:Int)⟩:ai)))
def M.eU(n:Nat)(u:aa):Option Bool:=(M.oq n u).bind fun ids=>(if u.Kind=0 then (slcLo ids 1).bind fun v=>some v else some ids).bind fun ids1=>(M.mH n u).bind fun valid=>if valid then (M.bf n ids1 (fun s0=>M.mf s0)).bind fun id=>some (!id) else some false
def M.mg(n:Nat)(c:aa):Option Bool:=(M.eU n c).bind fun stands=>some (!stands)
def M.ja(n:Nat)(u:aa)(id:ai):Option Bool:=(M.dC n u id).bind fun find=>some find.2
def M.mh(n:Nat)(c:aa)(c1:ai):Option Bool:=(M.ja n c c1).bind fun has=>some (!has)
def M.mi(c:aa)(c1:ai):Option Bool:=some (decide (c.Id=c1))
def M.bG:List aV->Option (Unit ⊕ Int)
 | []=>some (.inl ())
 | e :: es=>(e.wrong_ ()).bind fun v=>if v then some (.inr e.e_) else M.bG es
def M.iE(l:List aV):Option Int:=(M.bG l).bind fun
 | .inl _=>some (0:Int)
 | .inr ret0=>some ret0
def M.jU(p:aa)(c:Int):Option aa:=(M.bz p.Kids).bind fun unit=>(addC c 1).bind fun v=>(delC unit c v).bind fun l=>some ({p with Kids:=l}:aa)
def M.ed(unit:List aa)(slf:aa->Option aa):Nat->Int->aa->Option aa
 | 0,_,_=>none
 | n+1,v,u1=>if v<(unit.length:Int) then (idx u1.Kids v).bind fun v1=>(slf v1).bind fun copied=>(idx u1.Kids v).bind fun v2=>(setC u1.Kids v copied).bind fun w=>(addC v 1).bind fun v3=>M.ed unit slf n v3 ({u1 with Kids:=w}:aa) else some u1
def M.eX:Nat->aa->Option aa
 | 0,_=>none
 | n+1,u=>(M.aM u.Head).bind fun word=>(M.aM u.Words).bind fun word1=>(M.bz u.Kids).bind fun unit=>(M.ed unit (M.eX n) n 0 ({({({u with Head:=word}:aa) with Words:=word1}:aa) with Kids:=unit}:aa)).bind fun u1=>some u1
def M.dY(id:ai)(does:aa->Option aa)(slf:aa->ai->(aa->Option aa)->Option (aa×Bool)):List aa->Int->aa->aa->Option ((aa×aa) ⊕ (aa×Bool))
 | [],_,u1,v1=>some (.inl (u1,v1))
 | e :: es,i,u1,v1=>(slf e id does).bind fun at0_=>if at0_.2=true then (M.bz u1.Kids).bind fun unit=>(idx unit i).bind fun v2=>(setC unit i at0_.1).bind fun w=>some (.inr (({({u1 with Kids:=unit}:aa) with Kids:=w}:aa),true)) else M.dY id does slf es (i+1) u1 v1
def M.gZ:Nat->aa->ai->(aa->Option aa)->Option (aa×Bool)
 | 0,_,_,_=>none
 | n+1,u,id,does=>if u.Id=id then (does u).bind fun v=>some (v,true) else (M.dY id does (M.gZ n) u.Kids 0 u au).bind fun
  | .inl (u1,v1)=>some (u1,false)
  | .inr ret0=>some ret0
def M.jo(n:Nat)(u:aa)(id:ai)(does:aa->Option aa):Option aa:=(M.eX n u).bind fun copied=>(M.gZ n copied id does).bind fun at0_=>some at0_.1
def M.kZ(n:Nat)(u:aa)(id:ai):Option aa:=(M.jg n u id).bind fun parent=>(M.jo n u parent.1 (fun s0=>M.jU s0 parent.2.1)).bind fun done=>some done
def M.ru(n:Nat)(u:aa)(id:ai):Option (aa×aa×Int):=(M.iE [(⟨(fun (_:Unit)=>M.mg n u),(1:Int)⟩:aV),(⟨(fun (_:Unit)=>M.mh n u id),(4:Int)⟩:aV),(⟨(fun (_:Unit)=>M.mi u id),(9:Int)⟩:aV)]).bind fun first=>if first≠0 then some ((⟨aF,(0:Int),([]:Str),([]:List af),([]:List af),([]:List aa)⟩:aa),(⟨aF,(0:Int),([]:Str),([]:List af),([]:List af),([]:List aa)⟩:aa),first) else (M.dC n u id).bind fun find=>(M.kZ n u id).bind fun withou=>(M.eX n find.1).bind fun copied=>some (withou,copied,(0:Int))
def M.pG(n:Nat)(u:aa)(p:az):Option (aa×Int):=(M.ru n u p.Id).bind fun remove=>some (remove.1,remove.2.2)
def M.pU(n:Nat)(id:ai)(c:aa):Option Bool:=(M.ja n c id).bind fun has=>some has
def M.oD(n:Nat)(c:aa)(c1:aa):Option Bool:=(M.oq n c).bind fun ids=>(M.bf n ids (fun s0=>M.pU n s0 c1)).bind fun id=>some id
def M.kI(n:Nat)(u:aa)(id:ai):Option Int:=(M.iC n u id).bind fun ancest=>some (ancest.length:Int)
def M.oF(n:Nat)(c:aa)(c1:aa)(c2:ai)(c3:aa):Option Bool:=if 64<=(c.Kids.length:Int) then some true else (M.kI n c1 c2).bind fun level=>(addC level 1).bind fun v=>(M.lu n c3).bind fun depth=>(addC v depth).bind fun v1=>if 8 < v1 then some true else (M.lw n c1).bind fun count=>(M.lw n c3).bind fun count1=>(addC count count1).bind fun v2=>some (decide (1024 < v2))
def M.oG(c:Bool):Option Bool:=some (!c)
def M.oH(n:Nat)(c:aa)(c1:aa):Option Bool:=(M.jN n c.Kind c1.Kind).bind fun cancon=>some (!cancon)
def M.oI(c:Int)(c1:aa):Option Bool:=if c<0 then some true else some (decide ((c1.Kids.length:Int)< c))
def M.nz(k:aa)(c:Int)(c1:Str):Option Bool:=if k.Kind=c then some (k.Label==c1) else some false
def M.lG(n:Nat)(l:List aa)(kind:Int)(name:Str):Option Bool:=(M.bT n l (fun s0=>M.nz s0 kind name)).bind fun unit=>some unit
def M.oJ(n:Nat)(c:aa)(c1:aa):Option Bool:=(M.lG n c.Kids c1.Kind c1.Label).bind fun taken=>some taken
def M.sV(n:Nat)(u:aa)(parent:ai)(place:Int)(x:aa):Option Int:=((M.eU n u).bind fun stands=>if stands=false then some true else (M.eU n x).bind fun stands1=>if stands1=false then some true else some (decide (x.Kind=0))).bind fun v=>if v then some (1:Int) else (M.dC n u parent).bind fun find=>(M.iE [(⟨(fun (_:Unit)=>M.oG find.2),(4:Int)⟩:aV),(⟨(fun (_:Unit)=>M.oH n find.1 x),(9:Int)⟩:aV),(⟨(fun (_:Unit)=>M.oI place find.1),(3:Int)⟩:aV),(⟨(fun (_:Unit)=>M.oJ n find.1 x),(10:Int)⟩:aV),(⟨(fun (_:Unit)=>M.oF n find.1 u parent x),(6:Int)⟩:aV),(⟨(fun (_:Unit)=>M.oD n x u),(5:Int)⟩:aV)]).bind fun first=>some first
def M.nA(n:Nat)(p:aa)(c:Int)(c1:aa):Option aa:=(M.bz p.Kids).bind fun unit=>(M.eX n c1).bind fun copied=>(insC unit c [copied]).bind fun l=>some ({p with Kids:=l}:aa)
def M.qF(n:Nat)(place:Int)(x:aa):Option (aa->Option aa):=some (fun s0=>M.nA n s0 place x)
def M.ry(n:Nat)(u:aa)(parent:ai)(place:Int)(x:aa):Option (aa×Int):=(M.sV n u parent place x).bind fun fits=>if fits≠0 then some ((⟨aF,(0:Int),([]:Str),([]:List af),([]:List af),([]:List aa)⟩:aa),fits) else (M.qF n place x).bind fun put=>(M.jo n u parent put).bind fun done=>some (done,(0:Int))
def M.pI(n:Nat)(u:aa)(p:az):Option (aa×Int):=(M.ry n u p.Parent p.At p.Unit).bind fun insert=>some (insert.1,insert.2)
def M.oK(n:Nat)(c:aa):Option Bool:=(M.eU n c).bind fun stands=>some (!stands)
def M.oL(n:Nat)(c:aa)(c1:ai)(c2:ai):Option Bool:=(M.ja n c c1).bind fun has=>if has=false then some true else (M.ja n c c2).bind fun has1=>some (!has1)
def M.oM(n:Nat)(c:aa)(c1:aa)(c2:ai)(c3:aa):Option Bool:=if 64<=(c.Kids.length:Int) then some true else (M.kI n c1 c2).bind fun level=>(addC level 1).bind fun v=>(M.lu n c3).bind fun depth=>(addC v depth).bind fun v1=>some (decide (8 < v1))
def M.oN(c:Int)(c1:aa):Option Bool:=if c<0 then some true else some (decide ((c1.Kids.length:Int)< c))
def M.oO(n:Nat)(c:aa)(c1:aa):Option Bool:=(M.lG n c.Kids c1.Kind c1.Label).bind fun taken=>some taken
def M.sW(n:Nat)(u:aa)(id:ai)(parent:ai)(place:Int):Option (aa×Int):=(M.iE [(⟨(fun (_:Unit)=>M.oK n u),(1:Int)⟩:aV),(⟨(fun (_:Unit)=>M.oL n u id parent),(4:Int)⟩:aV)]).bind fun first=>if first≠0 then some ((⟨aF,(0:Int),([]:Str),([]:List af),([]:List af),([]:List aa)⟩:aa),first) else (M.dC n u id).bind fun find=>(M.dC n u parent).bind fun find1=>(if id=u.Id then some true else (M.ja n find.1 parent).bind fun has=>if has then some true else (M.jN n find1.1.Kind find.1.Kind).bind fun cancon=>some (!cancon)).bind fun v=>if v then some ((⟨aF,(0:Int),([]:Str),([]:List af),([]:List af),([]:List aa)⟩:aa),(9:Int)) else (M.kZ n u id).bind fun withou=>(M.dC n withou parent).bind fun find2=>(M.iE [(⟨(fun (_:Unit)=>M.oN place find2.1),(3:Int)⟩:aV),(⟨(fun (_:Unit)=>M.oO n find2.1 find.1),(10:Int)⟩:aV),(⟨(fun (_:Unit)=>M.oM n find2.1 withou parent find.1),(6:Int)⟩:aV)]).bind fun first1=>if first1≠0 then some ((⟨aF,(0:Int),([]:Str),([]:List af),([]:List af),([]:List aa)⟩:aa),first1) else (M.qF n place find.1).bind fun put=>(M.jo n withou parent put).bind fun done=>some (done,(0:Int))
def M.pJ(n:Nat)(u:aa)(p:az):Option (aa×Int):=(M.sW n u p.Id p.Parent p.At).bind fun move=>some (move.1,move.2)
def M.lH(n:Nat)(c:aa)(c1:ai)(c2:aa)(c3:Str):Option Bool:=(M.jg n c c1).bind fun parent=>(M.dC n c parent.1).bind fun find=>if (c2.Label==c3)=true then some true else if parent.2.2=true then (M.lG n find.1.Kids c2.Kind c3).bind fun taken=>some taken else some false
def M.lI(c:Bool):Option Bool:=some (!c)
def M.lJ(c:aa):Option Bool:=some (decide (c.Kind=0))
def M.lK(x:aa)(c:Str):Option aa:=some ({x with Label:=c}:aa)
def M.qG(n:Nat)(u:aa)(id:ai)(name:Str):Option (aa×Int):=((M.eU n u).bind fun stands=>if stands=false then some true else (M.nO n name).bind fun valid=>some (!valid)).bind fun v=>if v then some ((⟨aF,(0:Int),([]:Str),([]:List af),([]:List af),([]:List aa)⟩:aa),(1:Int)) else (M.dC n u id).bind fun find=>(M.iE [(⟨(fun (_:Unit)=>M.lI find.2),(4:Int)⟩:aV),(⟨(fun (_:Unit)=>M.lJ find.1),(9:Int)⟩:aV),(⟨(fun (_:Unit)=>M.lH n u id find.1 name),(10:Int)⟩:aV)]).bind fun first=>if first≠0 then some ((⟨aF,(0:Int),([]:Str),([]:List af),([]:List af),([]:List aa)⟩:aa),first) else (M.jo n u id (fun s0=>M.lK s0 name)).bind fun done=>some (done,(0:Int))
def M.pK(n:Nat)(u:aa)(p:az):Option (aa×Int):=(M.qG n u p.Id p.Label).bind fun relabe=>some (relabe.1,relabe.2)
def M.kN(x:aa)(c:List af):Option aa:=(M.aM c).bind fun word=>some ({x with Words:=word}:aa)
def M.jl(n:Nat)(w:af):Option Bool:=(M.mG n [w.Text]).bind fun valid=>some (!valid)
def M.lc(n:Nat)(c:aa)(c1:List af)(c2:af->Option Bool):Option Bool:=(M.eU n c).bind fun stands=>if stands=false then some true else (M.bv n c1 c2).bind fun word=>some word
def M.lg(c:Bool):Option Bool:=some (!c)
def M.lh(c:aa):Option Bool:=some (decide (c.Kind=0))
def M.ll(c:List af):Option Bool:=some (decide (256 < (c.length:Int)))
def M.nC(n:Nat)(u:aa)(id:ai)(l:List af)(does:aa->Option aa):Option (aa×Int):=(M.dC n u id).bind fun find=>(M.iE [(⟨(fun (_:Unit)=>M.lc n u l (fun s0=>M.jl n s0)),(1:Int)⟩:aV),(⟨(fun (_:Unit)=>M.lg find.2),(4:Int)⟩:aV),(⟨(fun (_:Unit)=>M.lh find.1),(9:Int)⟩:aV),(⟨(fun (_:Unit)=>M.ll l),(6:Int)⟩:aV)]).bind fun first=>if first≠0 then some ((⟨aF,(0:Int),([]:Str),([]:List af),([]:List af),([]:List aa)⟩:aa),first) else (M.jo n u id does).bind fun done=>some (done,(0:Int))
def M.pV(n:Nat)(u:aa)(id:ai)(l:List af):Option (aa×Int):=(M.nC n u id l (fun s0=>M.kN s0 l)).bind fun write=>some (write.1,write.2)
def M.pM(n:Nat)(u:aa)(p:az):Option (aa×Int):=(M.pV n u p.Id p.Words).bind fun setwor=>some (setwor.1,setwor.2)
def M.jR(x:aa)(c:List af):Option aa:=(M.aM c).bind fun word=>some ({x with Head:=word}:aa)
def M.mM(n:Nat)(u:aa)(id:ai)(l:List af):Option (aa×Int):=(M.nC n u id l (fun s0=>M.jR s0 l)).bind fun write=>some (write.1,write.2)
def M.pO(n:Nat)(u:aa)(p:az):Option (aa×Int):=(M.mM n u p.Id p.Words).bind fun sethea=>some (sethea.1,sethea.2)
def M.mq(n:Nat):Option (List (Int×(aa->az->Option (aa×Int)))):=some (mset (mset (mset (mset (mset (mset ([]:List (Int×(aa->az->Option (aa×Int)))) (0:Int) (fun s0 s1=>M.pG n s0 s1)) 1 (fun s0 s1=>M.pI n s0 s1)) 2 (fun s0 s1=>M.pJ n s0 s1)) 3 (fun s0 s1=>M.pK n s0 s1)) 4 (fun s0 s1=>M.pM n s0 s1)) 5 (fun s0 s1=>M.pO n s0 s1))
def M.di(n:Nat)(u:aa)(p:az):Option (aa×Int):=(M.mq n).bind fun takers=>((mget takers p.Kind (fun _ _=>none:aa->az->Option (aa×Int))) u p).bind fun v=>(mget takers p.Kind (fun _ _=>none:aa->az->Option (aa×Int)) u p).bind fun v1=>some (v1.1,v1.2)
def M.kP(n:Nat)(u:aa)(x:az):Option (aa ⊕ (aa×Int)):=(M.di n u x).bind fun revert=>if revert.2≠0 then some (.inr ((⟨aF,(0:Int),([]:Str),([]:List af),([]:List af),([]:List aa)⟩:aa),revert.2)) else some (.inl revert.1)
def M.lL(n:Nat)(u:aa)(l:List az):Option (aa×Int):=(foldB (M.kP n) u l.reverse).bind fun v=>some (match v with
 | .inl u=>(u,(0:Int))
 | .inr r=>r)
def M.nW(n:Nat)(u:aa)(l:List ak)(cut:Int):Option Bool:=((M.oh n u 16).bind fun book=>if book=false then some true else (M.qb n l 8).bind fun row=>some (!row)).bind fun v=>if v then some true else (M.pE n u l).bind fun applya=>(M.yF n u l).bind fun all=>((M.qU n applya.1 all.1).bind fun same=>if same=false then some true else (addC (applya.2.length:Int) (all.2.length:Int)).bind fun v2=>some (decide (v2≠(l.length:Int)))).bind fun v1=>if v1 then some false else (M.lL n applya.1 applya.2).bind fun revert=>(if revert.2≠0 then some true else (M.qU n revert.1 u).bind fun same1=>some (!same1)).bind fun v3=>if v3 then some false else (addC (l.length:Int) 1).bind fun v4=>(remC cut v4).bind fun v5=>(slcHi l v5).bind fun v6=>(M.pE n u v6).bind fun applya1=>(slcLo applya.2 (applya1.2.length:Int)).bind fun v7=>(M.lL n applya.1 v7).bind fun revert1=>(slcHi l v5).bind fun v8=>(M.yF n u v8).bind fun all1=>if revert1.2=0 then (M.qU n revert1.1 all1.1).bind fun same2=>some same2 else some false
end Go.Proofs.YtapobcikfdbjiaaGreatDoor
