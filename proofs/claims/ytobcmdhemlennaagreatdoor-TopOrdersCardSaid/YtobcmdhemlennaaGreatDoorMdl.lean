/-
  What the functions compute: plain functions, written by program out of the code; no machine in sight.
-/
import Derived.Test.YtobcmdhemlennaaGreatDoorDec4
set_option linter.unusedVariables false
set_option linter.unusedSimpArgs false
namespace Go.Proofs.YtobcmdhemlennaaGreatDoor
open Go Go.Dec
def gv1:List (List Int):=[[(1:Int),(2:Int)],[(2:Int)],[(3:Int),(4:Int),(7:Int)],[(3:Int),(4:Int),(7:Int)],[(5:Int)],[(6:Int)],([]:List Int),([]:List Int)]
def gv4:List Str:=[([98,111,111,107]:Str),([112,97,114,116]:Str),([115,101,99,116,105,111,110]:Str),([112,97,114,97,103,114,97,112,104]:Str),([116,97,98,108,101]:Str),([114,111,119]:Str),([99,101,108,108]:Str),([110,111,116,101]:Str)]
structure ai where
 Act:Int
 Item:Int
 N:Int
theorem ai.tq(a b:ai):(a.Act=b.Act/\a.Item=b.Item/\a.N=b.N) ↔ a=b:=⟨λh=>by cases a;cases b;simp_all,λh=>by subst h;simp⟩
instance:DecidableEq ai:=λa b=>decidable_of_iff _ (ai.tq a b)
abbrev aO:ai:=⟨(0:Int),(0:Int),(0:Int)⟩
structure kU where
 Act:Int
 Item:Int
 At:Int
theorem kU.tq(a b:kU):(a.Act=b.Act/\a.Item=b.Item/\a.At=b.At) ↔ a=b:=⟨λh=>by cases a;cases b;simp_all,λh=>by subst h;simp⟩
instance:DecidableEq kU:=λa b=>decidable_of_iff _ (kU.tq a b)
abbrev mE:kU:=⟨(0:Int),(0:Int),(0:Int)⟩
structure af where
 Text:Str
 By:kU
theorem af.tq(a b:af):(a.Text=b.Text/\a.By=b.By) ↔ a=b:=⟨λh=>by cases a;cases b;simp_all,λh=>by subst h;simp⟩
instance:DecidableEq af:=λa b=>decidable_of_iff _ (af.tq a b)
abbrev sK:af:=⟨([]:Str),mE⟩
structure aa where
 Id:ai
 Kind:Int
 Label:Str
 Head:List af
 Words:List af
 Kids:List aa
abbrev az:aa:=⟨aO,(0:Int),([]:Str),([]:List af),([]:List af),([]:List aa)⟩
structure fP where
 Kind:Int
 Day:Int
 Event:Str
theorem fP.tq(a b:fP):(a.Kind=b.Kind/\a.Day=b.Day/\a.Event=b.Event) ↔ a=b:=⟨λh=>by cases a;cases b;simp_all,λh=>by subst h;simp⟩
instance:DecidableEq fP:=λa b=>decidable_of_iff _ (fP.tq a b)
abbrev j5:fP:=⟨(0:Int),(0:Int),([]:Str)⟩
structure av where
 Kind:Int
 Label:Str
theorem av.tq(a b:av):(a.Kind=b.Kind/\a.Label=b.Label) ↔ a=b:=⟨λh=>by cases a;cases b;simp_all,λh=>by subst h;simp⟩
instance:DecidableEq av:=λa b=>decidable_of_iff _ (av.tq a b)
abbrev LP:av:=⟨(0:Int),([]:Str)⟩
structure ag where
 Kind:Int
 At:List av
 To:List av
 Where:Int
 Nth:Int
 Unit:aa
 Old:List Str
 New:List Str
 Label:Str
 For:Str
 Start:fP
 Act:Int
 Item:Int
 Day:Int
 Event:Str
 By:List ag
abbrev xC:ag:=⟨(0:Int),([]:List av),([]:List av),(0:Int),(0:Int),az,([]:List Str),([]:List Str),([]:Str),([]:Str),j5,(0:Int),(0:Int),(0:Int),([]:Str),([]:List ag)⟩
structure aS where
 Number:Int
 Title:Str
 Day:Int
 Start:fP
 Items:List ag
abbrev zf:aS:=⟨(0:Int),([]:Str),(0:Int),j5,([]:List ag)⟩
structure eF where
 has_:ag->Option ag
 may_:ag->Option Bool
abbrev nz:eF:=⟨(λ_=>none:ag->Option ag),(λ_=>none:ag->Option Bool)⟩
structure iC where
 Act:Int
 Item:Int
 Why:Int
abbrev zg:iC:=⟨(0:Int),(0:Int),(0:Int)⟩
structure ak where
 Act:Int
 Item:Int
 Day:Int
 It:ag
abbrev qV:ak:=⟨(0:Int),(0:Int),(0:Int),xC⟩
structure aF where
 parent_:ai
 at_:Int
abbrev zh:aF:=⟨aO,(0:Int)⟩
structure au where
 act_:Int
 item_:Int
 unit_:Int
 word_:Int
abbrev uR:au:=⟨(0:Int),(0:Int),(0:Int),(0:Int)⟩
structure bG where
 kind_:Int
 label_:Str
theorem bG.tq(a b:bG):(a.kind_=b.kind_/\a.label_=b.label_) ↔ a=b:=⟨λh=>by cases a;cases b;simp_all,λh=>by subst h;simp⟩
instance:DecidableEq bG:=λa b=>decidable_of_iff _ (bG.tq a b)
abbrev zi:bG:=⟨(0:Int),([]:Str)⟩
def gv0:eF:=nz
def M.iH(u:aa)(deep:Int)(most:Int)(slf:aa->Int->Int->Option Int):Nat->Int->Int->Option Int
 | 0,_,_=>none
 | n+1,n0_,i=>(if i<(u.Kids.length:Int) then some (decide (n0_<=most)) else some false).bind λv1=>if v1 then (idx u.Kids i).bind λv2=>(addC deep 1).bind λv3=>(subC most n0_).bind λv4=>(slf v2 v3 v4).bind λsize=>(addC n0_ size).bind λv5=>(addC i 1).bind λv6=>M.iH u deep most slf n v5 v6 else some n0_
def M.qI:Nat->aa->Int->Int->Option Int
 | 0,_,_,_=>none
 | n+1,u,deep,most=>if 20 < deep then (addC most 1).bind λv=>some v else (M.iH u deep most (M.qI n) n 1 0).bind λn0_=>some n0_
def M.gL(l:List af):Nat->Int->Option (Unit ⊕ Bool)
 | 0,_=>none
 | n+1,i=>if i<(l.length:Int) then (idx l i).bind λv=>if 100 < (v.Text.length:Int) then some (.inr false) else M.gL l n (i+1) else some (.inl ())
def M.qm(n:Nat)(l:List af):Option Bool:=(M.gL l n 0).bind λ
 | .inl _=>some (decide ((l.length:Int)<=300))
 | .inr ret0=>some ret0
def M.eY(u:aa)(slf:aa->Option Bool):Nat->Int->Option (Unit ⊕ Bool)
 | 0,_=>none
 | n+1,i=>if i<(u.Kids.length:Int) then (idx u.Kids i).bind λv1=>(slf v1).bind λwords=>if words=false then some (.inr false) else M.eY u slf n (i+1) else some (.inl ())
def M.mF:Nat->aa->Option Bool
 | 0,_=>none
 | n+1,u=>(if 30 < (u.Label.length:Int) then some true else (M.qm n u.Head).bind λshort=>if short=false then some true else (M.qm n u.Words).bind λshort1=>some (!short1)).bind λv=>if v then some false else (M.eY u (M.mF n) n 0).bind λ
  | .inl _=>some true
  | .inr ret0=>some ret0
def M.rZ(n:Nat)(u:aa)(most:Int):Option Bool:=(M.qI n u 0 most).bind λsize=>if size<=most then (M.mF n u).bind λwords=>some words else some false
def M.iR(l:List af):Nat->(List Str)->Int->Option (List Str)
 | 0,_,_=>none
 | n+1,out,i=>if i<(l.length:Int) then (idx l i).bind λv=>(appC out [v.Text]).bind λout1=>M.iR l n out1 (i+1) else some out
def M.uS(n:Nat)(l:List af):Option (List Str):=(M.iR l n [] 0).bind λout=>some out
def M.jG(s0_:Str):Nat->Int->Option (Unit ⊕ Bool)
 | 0,_=>none
 | n+1,i=>if i<(s0_.length:Int) then (idx s0_ i).bind λb=>if (b.toNat:Int)< 33 then some (.inr false) else (idx s0_ i).bind λb1=>if 126 < (b1.toNat:Int) then some (.inr false) else M.jG s0_ n (i+1) else some (.inl ())
def M.wB(n:Nat)(s0_:Str):Option Bool:=(if (s0_.length:Int)< 1 then some true else some (decide (24 < (s0_.length:Int)))).bind λv=>if v then some false else (M.jG s0_ n 0).bind λ
 | .inl _=>some true
 | .inr ret0=>some ret0
def M.kw(l:List Str):Nat->Int->Option (Unit ⊕ Bool)
 | 0,_=>none
 | n+1,i=>if i<(l.length:Int) then (idx l i).bind λv=>(M.wB n v).bind λword=>if word=false then some (.inr false) else M.kw l n (i+1) else some (.inl ())
def M.xD(n:Nat)(l:List Str):Option Bool:=if 256 < (l.length:Int) then some false else (M.kw l n 0).bind λ
 | .inl _=>some true
 | .inr ret0=>some ret0
def M.xE(n:Nat)(l:List af):Option Bool:=if (l.length:Int)<=256 then (M.uS n l).bind λtexts=>(M.xD n texts).bind λmay=>some may else some false
def M.ib(s0_:Str):Nat->Int->Option Int
 | 0,_=>none
 | n+1,n0_=>if n0_<(s0_.length:Int) then (idx s0_ n0_).bind λb=>if 48<=(b.toNat:Int) then (idx s0_ n0_).bind λb1=>if (b1.toNat:Int)<=57 then M.ib s0_ n (n0_+1) else some n0_ else some n0_ else some n0_
def M.tu(n:Nat)(s0_:Str):Option Int:=(M.ib s0_ n 0).bind λn0_=>some n0_
def M.ky(s0_:Str):Nat->Int->Option (Unit ⊕ Bool)
 | 0,_=>none
 | n+1,i=>if i<(s0_.length:Int) then (idx s0_ i).bind λb1=>if (b1.toNat:Int)< 65 then some (.inr false) else (idx s0_ i).bind λb2=>if 90 < (b2.toNat:Int) then some (.inr false) else M.ky s0_ n (i+1) else some (.inl ())
def M.uq(n:Nat)(s0_:Str):Option Bool:=(M.tu n s0_).bind λdigits=>(if digits<1 then some true else if 4 < digits then some true else (idx s0_ 0).bind λb=>if (b.toNat:Int)=48 then some true else (subC (s0_.length:Int) digits).bind λv1=>some (decide (3 < v1))).bind λv=>if v then some false else (M.ky s0_ n digits).bind λ
 | .inl _=>some true
 | .inr ret0=>some ret0
def M.uT(n:Nat)(u:aa):Option Bool:=(if u.Kind<0 then some true else if 7 < u.Kind then some true else if 64 < (u.Kids.length:Int) then some true else (M.xE n u.Head).bind λrow=>if row=false then some true else (M.xE n u.Words).bind λrow1=>some (!row1)).bind λv=>if v then some false else if u.Kind=0 then (if (u.Label==([]:Str))=true then if (u.Head.length:Int)=0 then some (decide ((u.Words.length:Int)=0)) else some false else some false).bind λv1=>some v1 else (M.uq n u.Label).bind λmay=>some may
def M.uU(parent:Int)(kind:Int):Option Bool:=if parent=0 then if kind=1 then some true else some (decide (kind=2)) else if parent=1 then some (decide (kind=2)) else (if parent=2 then some (decide (parent=2)) else some (decide (parent=3))).bind λv=>if v then if kind=3 then some true else if kind=4 then some true else some (decide (kind=7)) else if parent=4 then some (decide (kind=5)) else if parent=5 then some (decide (kind=6)) else some false
def M.dF(u:aa)(i:Int):Nat->Int->Option (Unit ⊕ Bool)
 | 0,_=>none
 | n+1,k=>if k<i then (idx u.Kids k).bind λv2=>(idx u.Kids i).bind λv3=>if v2.Kind=v3.Kind then (idx u.Kids k).bind λv4=>(idx u.Kids i).bind λv5=>if (v4.Label==v5.Label)=true then some (.inr false) else (addC k 1).bind λv6=>M.dF u i n v6 else (addC k 1).bind λv7=>M.dF u i n v7 else some (.inl ())
def M.eZ(u:aa)(slf:aa->Option Bool):Nat->Int->Option (Unit ⊕ Bool)
 | 0,_=>none
 | n+1,i=>if i<(u.Kids.length:Int) then (idx u.Kids i).bind λv=>(M.uU u.Kind v.Kind).bind λnests=>if nests=false then some (.inr false) else (idx u.Kids i).bind λv1=>(slf v1).bind λright=>if right=false then some (.inr false) else (M.dF u i n 0).bind λ
  | .inl _=>(addC i 1).bind λv8=>M.eZ u slf n v8
  | .inr ret0=>some (.inr ret0) else some (.inl ())
def M.nY:Nat->aa->Option Bool
 | 0,_=>none
 | n+1,u=>(M.uT n u).bind λalone=>if alone=false then some false else (M.eZ u (M.nY n) n 0).bind λ
  | .inl _=>some true
  | .inr ret0=>some ret0
def M.iU(u:aa)(slf:aa->Option Int):Nat->Int->Int->Option Int
 | 0,_,_=>none
 | n+1,d,i=>if i<(u.Kids.length:Int) then (idx u.Kids i).bind λv=>(slf v).bind λdepth=>(addC 1 depth).bind λv1=>M.iU u slf n (max d v1) (i+1) else some d
def M.qo:Nat->aa->Option Int
 | 0,_=>none
 | n+1,u=>(M.iU u (M.qo n) n 0 0).bind λd=>some d
def M.iV(u:aa)(slf:aa->Option Int):Nat->Int->Int->Option Int
 | 0,_,_=>none
 | n+1,n0_,i=>if i<(u.Kids.length:Int) then (idx u.Kids i).bind λv=>(slf v).bind λcount=>(addC n0_ count).bind λv1=>M.iV u slf n v1 (i+1) else some n0_
def M.qp:Nat->aa->Option Int
 | 0,_=>none
 | n+1,u=>(M.iV u (M.qp n) n 1 0).bind λn0_=>some n0_
def M.kz(u:aa)(slf:aa->Option (List ai)):Nat->(List ai)->Int->Option (List ai)
 | 0,_,_=>none
 | n+1,out,i=>if i<(u.Kids.length:Int) then (idx u.Kids i).bind λv=>(slf v).bind λall=>(appC out all).bind λout1=>M.kz u slf n out1 (i+1) else some out
def M.ut:Nat->aa->Option (List ai)
 | 0,_=>none
 | n+1,u=>(M.kz u (M.ut n) n [u.Id] 0).bind λout=>some out
def M.dV(all:List ai)(i1:Int):Nat->Int->Option (Unit ⊕ Bool)
 | 0,_=>none
 | n+1,k=>if k<i1 then (idx all k).bind λv2=>(idx all i1).bind λv3=>if v2=v3 then some (.inr false) else (addC k 1).bind λv4=>M.dV all i1 n v4 else some (.inl ())
def M.eG(all:List ai):Nat->Int->Option (Unit ⊕ Bool)
 | 0,_=>none
 | n+1,i1=>if i1<(all.length:Int) then (M.dV all i1 n 0).bind λ
  | .inl _=>(addC i1 1).bind λv5=>M.eG all n v5
  | .inr ret0=>some (.inr ret0) else some (.inl ())
def M.fw(all:List ai):Nat->Bool->Int->Option Bool
 | 0,_,_=>none
 | n+1,none0_,i=>if i<(all.length:Int) then if none0_ then (idx all i).bind λv=>M.fw all n (decide (v=(⟨(0:Int),(0:Int),(0:Int)⟩:ai))) (i+1) else M.fw all n false (i+1) else some none0_
def M.r9(n:Nat)(u:aa):Option Bool:=(M.ut n u).bind λall=>(M.fw all n true 0).bind λnone0_=>if none0_ then some true else (idx all 0).bind λv1=>if ((decide (v1=(⟨(0:Int),(0:Int),(0:Int)⟩:ai))) !=(decide (u.Kind=0)))=true then some false else (M.eG all n 0).bind λ
 | .inl _=>some true
 | .inr ret0=>some ret0
def M.xG(n:Nat)(u:aa):Option Bool:=(M.nY n u).bind λright=>if right then (M.qo n u).bind λdepth=>if depth<=8 then (M.qp n u).bind λcount=>if count<=1024 then (M.r9 n u).bind λids=>some ids else some false else some false else some false
def M.nN(n:Nat)(u:aa)(most:Int):Option Bool:=(M.rZ n u most).bind λfew=>if few then if u.Kind=0 then (M.xG n u).bind λmay=>if may then if (u.Kids.length:Int)=0 then some true else (idx u.Kids 0).bind λv=>some (decide (v.Id≠u.Id)) else some false else some false else some false
def M.fQ(x:ag)(slf:ag->Option Bool):Nat->Int->Option (Unit ⊕ Bool)
 | 0,_=>none
 | n+1,i4=>if i4<(x.By.length:Int) then (idx x.By i4).bind λv5=>if 0 < (v5.By.length:Int) then (idx x.By i4).bind λv6=>(idx v6.By 0).bind λv7=>if 0 < (v7.By.length:Int) then some (.inr false) else (idx x.By i4).bind λv8=>(slf v8).bind λfew1=>if few1=false then some (.inr false) else M.fQ x slf n (i4+1) else (idx x.By i4).bind λv9=>(slf v9).bind λfew2=>if few2=false then some (.inr false) else M.fQ x slf n (i4+1) else some (.inl ())
def M.gM(x:ag):Nat->Int->Option (Unit ⊕ Bool)
 | 0,_=>none
 | n+1,i3=>if i3<(x.To.length:Int) then (idx x.To i3).bind λv4=>if 100 < (v4.Label.length:Int) then some (.inr false) else M.gM x n (i3+1) else some (.inl ())
def M.gN(x:ag):Nat->Int->Option (Unit ⊕ Bool)
 | 0,_=>none
 | n+1,i2=>if i2<(x.At.length:Int) then (idx x.At i2).bind λv3=>if 100 < (v3.Label.length:Int) then some (.inr false) else M.gN x n (i2+1) else some (.inl ())
def M.gP(x:ag):Nat->Int->Option (Unit ⊕ Bool)
 | 0,_=>none
 | n+1,i1=>if i1<(x.New.length:Int) then (idx x.New i1).bind λv2=>if 100 < (v2.length:Int) then some (.inr false) else M.gP x n (i1+1) else some (.inl ())
def M.gQ(x:ag):Nat->Int->Option (Unit ⊕ Bool)
 | 0,_=>none
 | n+1,i=>if i<(x.Old.length:Int) then (idx x.Old i).bind λv1=>if 100 < (v1.length:Int) then some (.inr false) else M.gQ x n (i+1) else some (.inl ())
def M.uu:Nat->ag->Option Bool
 | 0,_=>none
 | n+1,x=>(if 12 < (x.At.length:Int) then some true else if 12 < (x.To.length:Int) then some true else if 300 < (x.Old.length:Int) then some true else if 300 < (x.New.length:Int) then some true else if 100 < (x.Label.length:Int) then some true else if 100 < (x.For.length:Int) then some true else if 100 < (x.Start.Event.length:Int) then some true else if 100 < (x.Event.length:Int) then some true else if 2 < (x.By.length:Int) then some true else (M.rZ n x.Unit 30).bind λfew=>some (!few)).bind λv=>if v then some false else (M.gQ x n 0).bind λ
  | .inl _=>(M.gP x n 0).bind λ
   | .inl _=>(M.gN x n 0).bind λ
    | .inl _=>(M.gM x n 0).bind λ
     | .inl _=>(M.fQ x (M.uu n) n 0).bind λ
      | .inl _=>some true
      | .inr ret0=>some ret0
     | .inr ret0=>some ret0
    | .inr ret0=>some ret0
   | .inr ret0=>some ret0
  | .inr ret0=>some ret0
def M.jF(l:List aS)(i:Int):Nat->Int->Option (Unit ⊕ Bool)
 | 0,_=>none
 | n+1,k=>(idx l i).bind λv1=>if k<(v1.Items.length:Int) then (idx l i).bind λv2=>(idx v2.Items k).bind λv3=>(M.uu n v3).bind λfew=>if few=false then some (.inr false) else M.jF l i n (k+1) else some (.inl ())
def M.iI(l:List aS)(items:Int):Nat->Int->Option (Unit ⊕ Bool)
 | 0,_=>none
 | n+1,i=>if i<(l.length:Int) then (idx l i).bind λv=>if items<(v.Items.length:Int) then some (.inr false) else (M.jF l i n 0).bind λ
  | .inl _=>(addC i 1).bind λv4=>M.iI l items n v4
  | .inr ret0=>some (.inr ret0) else some (.inl ())
def M.zk(n:Nat)(l:List aS)(most:Int)(items:Int):Option Bool:=if most<(l.length:Int) then some false else (M.iI l items n 0).bind λ
 | .inl _=>some true
 | .inr ret0=>some ret0
def M.oJ(n0_:Int)(low:Int)(high:Int):Option Bool:=if low<=n0_ then some (decide (n0_<=high)) else some false
def M.lZ(x:ag):Option ag:=(if x.Kind<=6 then some ({({({(⟨x.Kind,([]:List av),([]:List av),(0:Int),(0:Int),az,([]:List Str),([]:List Str),([]:Str),([]:Str),j5,(0:Int),(0:Int),(0:Int),([]:Str),([]:List ag)⟩:ag) with At:=x.At}:ag) with For:=x.For}:ag) with Start:=x.Start}:ag) else some ({(⟨x.Kind,([]:List av),([]:List av),(0:Int),(0:Int),az,([]:List Str),([]:List Str),([]:Str),([]:Str),j5,(0:Int),(0:Int),(0:Int),([]:Str),([]:List ag)⟩:ag) with Day:=x.Day}:ag)).bind λy=>if x.Kind=0 then some ({({y with Where:=x.Where}:ag) with Unit:=x.Unit}:ag) else (if x.Kind=2 then some (decide (x.Kind=2)) else some (decide (x.Kind=3))).bind λv=>if v then some ({({({y with Old:=x.Old}:ag) with New:=x.New}:ag) with Nth:=x.Nth}:ag) else if x.Kind=4 then some ({y with New:=x.New}:ag) else if x.Kind=5 then some ({y with Label:=x.Label}:ag) else if x.Kind=6 then some ({({y with To:=x.To}:ag) with Where:=x.Where}:ag) else (if x.Kind=7 then some (decide (x.Kind=7)) else if x.Kind=8 then some (decide (x.Kind=8)) else some (decide (x.Kind=9))).bind λv1=>if v1 then some ({({y with Act:=x.Act}:ag) with Item:=x.Item}:ag) else if x.Kind=10 then some ({y with Event:=x.Event}:ag) else if x.Kind=11 then some ({({({({y with Act:=x.Act}:ag) with Item:=x.Item}:ag) with By:=x.By}:ag) with Day:=0}:ag) else some y
def M.iJ(a:List av)(b:List av):Nat->Int->Option (Unit ⊕ Bool)
 | 0,_=>none
 | n+1,i=>if i<(a.length:Int) then (idx a i).bind λv=>(idx b i).bind λv1=>if v≠v1 then some (.inr false) else M.iJ a b n (i+1) else some (.inl ())
def M.uV(n:Nat)(a:List av)(b:List av):Option Bool:=if (a.length:Int)≠(b.length:Int) then some false else (M.iJ a b n 0).bind λ
 | .inl _=>some true
 | .inr ret0=>some ret0
def M.iK(a:List Str)(b:List Str):Nat->Int->Option (Unit ⊕ Bool)
 | 0,_=>none
 | n+1,i=>if i<(a.length:Int) then (idx a i).bind λv=>(idx b i).bind λv1=>if (v !=v1)=true then some (.inr false) else M.iK a b n (i+1) else some (.inl ())
def M.uW(n:Nat)(a:List Str)(b:List Str):Option Bool:=if (a.length:Int)≠(b.length:Int) then some false else (M.iK a b n 0).bind λ
 | .inl _=>some true
 | .inr ret0=>some ret0
def M.iL(a:List af)(b:List af):Nat->Int->Option (Unit ⊕ Bool)
 | 0,_=>none
 | n+1,i=>if i<(a.length:Int) then (idx a i).bind λv=>(idx b i).bind λv1=>if v≠v1 then some (.inr false) else M.iL a b n (i+1) else some (.inl ())
def M.rF(n:Nat)(a:List af)(b:List af):Option Bool:=if (a.length:Int)≠(b.length:Int) then some false else (M.iL a b n 0).bind λ
 | .inl _=>some true
 | .inr ret0=>some ret0
def M.iM(a:aa)(b:aa)(slf:aa->aa->Option Bool):Nat->Int->Option (Unit ⊕ Bool)
 | 0,_=>none
 | n+1,i=>if i<(a.Kids.length:Int) then (idx a.Kids i).bind λv1=>(idx b.Kids i).bind λv2=>(slf v1 v2).bind λsame=>if same=false then some (.inr false) else M.iM a b slf n (i+1) else some (.inl ())
def M.oK:Nat->aa->aa->Option Bool
 | 0,_,_=>none
 | n+1,a,b=>(if a.Id≠b.Id then some true else if a.Kind≠b.Kind then some true else if (a.Label !=b.Label)=true then some true else (M.rF n a.Head b.Head).bind λrows=>if rows=false then some true else (M.rF n a.Words b.Words).bind λrows1=>if rows1=false then some true else some (decide ((a.Kids.length:Int)≠(b.Kids.length:Int)))).bind λv=>if v then some false else (M.iM a b (M.oK n) n 0).bind λ
  | .inl _=>some true
  | .inr ret0=>some ret0
def M.gH(a:ag)(b:ag)(slf:ag->ag->Option Bool):Nat->Int->Option (Unit ⊕ Bool)
 | 0,_=>none
 | n+1,i=>if i<(a.By.length:Int) then (idx a.By i).bind λv2=>(idx b.By i).bind λv3=>(slf v2 v3).bind λsame5=>if same5=false then some (.inr false) else M.gH a b slf n (i+1) else some (.inl ())
def M.nO:Nat->ag->ag->Option Bool
 | 0,_,_=>none
 | n+1,a,b=>(if a.Kind≠b.Kind then some true else if a.Where≠b.Where then some true else if a.Nth≠b.Nth then some true else if (a.Label !=b.Label)=true then some true else if (a.For !=b.For)=true then some true else if a.Start≠b.Start then some true else if a.Act≠b.Act then some true else if a.Item≠b.Item then some true else if a.Day≠b.Day then some true else some (a.Event !=b.Event)).bind λv=>if v then some false else ((M.uV n a.At b.At).bind λsame=>if same=false then some true else (M.uV n a.To b.To).bind λsame1=>if same1=false then some true else (M.uW n a.Old b.Old).bind λsame2=>if same2=false then some true else (M.uW n a.New b.New).bind λsame3=>if same3=false then some true else (M.oK n a.Unit b.Unit).bind λsame4=>if same4=false then some true else some (decide ((a.By.length:Int)≠(b.By.length:Int)))).bind λv1=>if v1 then some false else (M.gH a b (M.nO n) n 0).bind λ
  | .inl _=>some true
  | .inr ret0=>some ret0
def M.uX(s0_:av):Option Bool:=if s0_.Kind=0 then some (s0_.Label==([]:Str)) else some false
def M.fA(p:List av):Nat->Int->Option (Unit ⊕ Bool)
 | 0,_=>none
 | n+1,i=>if i<(p.length:Int) then (if i=0 then (idx p i).bind λv1=>(M.uX v1).bind λbook=>some book else some false).bind λv=>if v then M.fA p n (i+1) else (idx p i).bind λv2=>if v2.Kind<1 then some (.inr false) else (idx p i).bind λv3=>if 7 < v3.Kind then some (.inr false) else (idx p i).bind λv4=>(M.uq n v4.Label).bind λmay=>if may=false then some (.inr false) else M.fA p n (i+1) else some (.inl ())
def M.uw(n:Nat)(p:List av):Option Bool:=if 9 < (p.length:Int) then some false else (M.fA p n 0).bind λ
 | .inl _=>some true
 | .inr ret0=>some ret0
def M.dz(s0_:Str):Nat->Int->Option (Unit ⊕ Bool)
 | 0,_=>none
 | n+1,i=>if i<(s0_.length:Int) then (idx s0_ i).bind λb2=>if 97<=(b2.toNat:Int) then if (b2.toNat:Int)<=122 then M.dz s0_ n (i+1) else if 48<=(b2.toNat:Int) then if (b2.toNat:Int)<=57 then M.dz s0_ n (i+1) else if ¬ ((b2.toNat:Int)=45) then some (.inr false) else M.dz s0_ n (i+1) else if ¬ ((b2.toNat:Int)=45) then some (.inr false) else M.dz s0_ n (i+1) else if 48<=(b2.toNat:Int) then if (b2.toNat:Int)<=57 then M.dz s0_ n (i+1) else if ¬ ((b2.toNat:Int)=45) then some (.inr false) else M.dz s0_ n (i+1) else if ¬ ((b2.toNat:Int)=45) then some (.inr false) else M.dz s0_ n (i+1) else some (.inl ())
def M.rG(n:Nat)(s0_:Str):Option Bool:=(if (s0_.length:Int)< 1 then some true else if 16 < (s0_.length:Int) then some true else (idx s0_ 0).bind λb=>if (b.toNat:Int)< 97 then some true else (idx s0_ 0).bind λb1=>some (decide (122 < (b1.toNat:Int)))).bind λv=>if v then some false else (M.dz s0_ n 0).bind λ
 | .inl _=>some true
 | .inr ret0=>some ret0
def M.qw(n:Nat)(s0_:fP):Option Bool:=if s0_.Kind=1 then (M.oJ s0_.Day 0 1048576).bind λin0_=>if in0_ then some (s0_.Event==([]:Str)) else some false else if s0_.Kind=3 then if s0_.Day=0 then (M.rG n s0_.Event).bind λname=>some name else some false else (if s0_.Kind=0 then some (decide (s0_.Kind=0)) else some (decide (s0_.Kind=2))).bind λv=>if v then if s0_.Day=0 then some (s0_.Event==([]:Str)) else some false else some false
def M.jH(s0_:Str):Nat->Int->Option (Unit ⊕ Bool)
 | 0,_=>none
 | n+1,i=>if i<(s0_.length:Int) then (idx s0_ i).bind λb=>if (b.toNat:Int)< 33 then some (.inr false) else (idx s0_ i).bind λb1=>if 126 < (b1.toNat:Int) then some (.inr false) else M.jH s0_ n (i+1) else some (.inl ())
def M.wC(n:Nat)(s0_:Str):Option Bool:=(M.jH s0_ n 0).bind λ
 | .inl _=>if 1<=(s0_.length:Int) then some (decide ((s0_.length:Int)<=24)) else some false
 | .inr ret0=>some ret0
def M.kE(l:List af):Nat->Int->Option (Unit ⊕ Bool)
 | 0,_=>none
 | n+1,i=>if i<(l.length:Int) then (idx l i).bind λv=>(M.wC n v.Text).bind λword=>if word=false then some (.inr false) else M.kE l n (i+1) else some (.inl ())
def M.xH(n:Nat)(l:List af):Option Bool:=(M.kE l n 0).bind λ
 | .inl _=>some (decide ((l.length:Int)<=256))
 | .inr ret0=>some ret0
def M.mG(n:Nat)(u:aa):Option Bool:=if u.Kind=0 then (if (u.Label==([]:Str))=true then if (u.Head.length:Int)=0 then some (decide ((u.Words.length:Int)=0)) else some false else some false).bind λv=>some v else if 0 < u.Kind then if u.Kind<=7 then (M.uq n u.Label).bind λmay=>if may then (M.xH n u.Head).bind λrow=>if row then (M.xH n u.Words).bind λrow1=>some row1 else some false else some false else some false else some false
def M.qx(parent:Int)(kind:Int):Option Bool:=if parent=0 then if kind=1 then some true else some (decide (kind=2)) else if parent=1 then some (decide (kind=2)) else if parent=2 then if kind=3 then some true else if kind=4 then some true else some (decide (kind=7)) else if parent=3 then if kind=3 then some true else if kind=4 then some true else some (decide (kind=7)) else if parent=4 then some (decide (kind=5)) else if parent=5 then some (decide (kind=6)) else some false
def M.gT(u:aa)(i:Int)(v1:aa):Nat->Int->Option (Unit ⊕ Bool)
 | 0,_=>none
 | n+1,k=>if k<i then (idx u.Kids k).bind λv4=>if v4.Kind=v1.Kind then (idx u.Kids k).bind λv5=>if (v5.Label==v1.Label)=true then some (.inr false) else (addC k 1).bind λv6=>M.gT u i v1 n v6 else (addC k 1).bind λv7=>M.gT u i v1 n v7 else some (.inl ())
def M.iW(u:aa)(depth:Int)(slf:aa->Int->Option Bool):Nat->Int->Option (Unit ⊕ Bool)
 | 0,_=>none
 | n+1,i=>if i<(u.Kids.length:Int) then (idx u.Kids i).bind λv1=>((M.qx u.Kind v1.Kind).bind λnests=>if nests=false then some true else (addC depth 1).bind λv3=>(slf v1 v3).bind λshape=>some (!shape)).bind λv2=>if v2 then some (.inr false) else (M.gT u i v1 n 0).bind λ
  | .inl _=>(addC i 1).bind λv8=>M.iW u depth slf n v8
  | .inr ret0=>some (.inr ret0) else some (.inl ())
def M.qy:Nat->aa->Int->Option Bool
 | 0,_,_=>none
 | n+1,u,depth=>(if 8 < depth then some true else if 0 < depth then if u.Kind=0 then some true else (M.mG n u).bind λalone=>if alone=false then some true else some (decide (64 < (u.Kids.length:Int))) else (M.mG n u).bind λalone1=>if alone1=false then some true else some (decide (64 < (u.Kids.length:Int)))).bind λv=>if v then some false else (M.iW u depth (M.qy n) n 0).bind λ
  | .inl _=>some true
  | .inr ret0=>some ret0
def M.iZ(u:aa)(slf:aa->Option Int):Nat->Int->Int->Option Int
 | 0,_,_=>none
 | n+1,n0_,i=>if i<(u.Kids.length:Int) then (idx u.Kids i).bind λv=>(slf v).bind λcount=>(addC n0_ count).bind λv1=>M.iZ u slf n v1 (i+1) else some n0_
def M.lJ:Nat->aa->Option Int
 | 0,_=>none
 | n+1,u=>(M.iZ u (M.lJ n) n 1 0).bind λn0_=>some n0_
def M.sM(n:Nat)(u:aa):Option Bool:=(M.qy n u 0).bind λshape=>if shape then (M.lJ n u).bind λcount=>some (decide (count<=1024)) else some false
def M.zU:Option (List Str):=some ([([98,111,111,107]:Str),([112,97,114,116]:Str),([115,101,99,116,105,111,110]:Str),([112,97,114,97,103,114,97,112,104]:Str),([116,97,98,108,101]:Str),([114,111,119]:Str),([99,101,108,108]:Str),([110,111,116,101]:Str)])
def M.fe(l:List af):Nat->Str->Int->Option Str
 | 0,_,_=>none
 | n+1,s0_,i=>if i<(l.length:Int) then (idx l i).bind λv=>((idx v.Text 0).bind λb=>if (b.toNat:Int)=124 then some true else (idx v.Text 0).bind λb1=>some (decide ((b1.toNat:Int)=92))).bind λv1=>if v1 then (catC ([92]:Str) v.Text).bind λv2=>(catC s0_ ([32]:Str)).bind λv3=>(catC v3 v2).bind λv4=>M.fe l n v4 (i+1) else (catC s0_ ([32]:Str)).bind λv5=>(catC v5 v.Text).bind λv6=>M.fe l n v6 (i+1) else some s0_
def M.sN(n:Nat)(l:List af):Option Str:=(M.fe l n [] 0).bind λs0_=>some s0_
def M.jI(depth:Int):Nat->Str->Int->Option Str
 | 0,_,_=>none
 | n+1,s0_,i=>if i<depth then (catC s0_ ([32,32]:Str)).bind λv1=>(addC i 1).bind λv2=>M.jI depth n v1 v2 else some s0_
def M.wD(n:Nat)(u:aa)(depth:Int):Option Str:=(if depth<0 then some true else if 8 < depth then some true else (M.mG n u).bind λalone=>some (!alone)).bind λv=>if v then some ([]:Str) else (M.jI depth n [] 0).bind λs0_=>Option.bind M.zU λnames=>(idx names u.Kind).bind λv3=>(catC s0_ v3).bind λv4=>(if u.Kind≠0 then (catC v4 ([32]:Str)).bind λv5=>(catC v5 u.Label).bind λv6=>some v6 else some v4).bind λs0_1=>(if 0 < (u.Head.length:Int) then (catC s0_1 ([58]:Str)).bind λv7=>(M.sN n u.Head).bind λwords=>(catC v7 words).bind λv8=>some v8 else some s0_1).bind λs0_2=>if 0 < (u.Words.length:Int) then (catC s0_2 ([32,124]:Str)).bind λv9=>(M.sN n u.Words).bind λwords1=>(catC v9 words1).bind λv10=>some v10 else some s0_2
def M.ja(u:aa)(depth:Int)(slf:aa->Int->Option (List Str)):Nat->(List Str)->Int->Option (List Str)
 | 0,_,_=>none
 | n+1,out,i=>if i<(u.Kids.length:Int) then (idx u.Kids i).bind λv=>(addC depth 1).bind λv1=>(slf v v1).bind λlines=>(appC out lines).bind λout1=>M.ja u depth slf n out1 (i+1) else some out
def M.qz:Nat->aa->Int->Option (List Str)
 | 0,_,_=>none
 | n+1,u,depth=>(M.wD n u depth).bind λline=>(M.ja u depth (M.qz n) n [line] 0).bind λout=>some out
def M.uY(n:Nat)(u:aa):Option (List Str):=(M.sM n u).bind λshape=>if shape=false then some ([]:List Str) else (M.qz n u 0).bind λlines=>some lines
def M.jJ(lines:List Str):Nat->Str->Int->Option Str
 | 0,_,_=>none
 | n+1,s0_,i=>if i<(lines.length:Int) then (idx lines i).bind λv=>(catC s0_ v).bind λv1=>(catC v1 ([10]:Str)).bind λv2=>M.jJ lines n v2 (i+1) else some s0_
def M.wE(n:Nat)(u:aa):Option (Str×Int):=(M.sM n u).bind λshape=>if shape=false then some (([]:Str),(1:Int)) else (M.uY n u).bind λlines=>(M.jJ lines n [] 0).bind λs0_=>if 16384 < (s0_.length:Int) then some (([]:Str),(6:Int)) else some (s0_,(0:Int))
def M.jb(l:List af):Nat->(List af)->Int->Option (List af)
 | 0,_,_=>none
 | n+1,out,i=>if i<(l.length:Int) then (idx l i).bind λv=>(appC out [(⟨v.Text,mE⟩:af)]).bind λout1=>M.jb l n out1 (i+1) else some out
def M.sO(n:Nat)(l:List af):Option (List af):=(M.jb l n [] 0).bind λout=>some out
def M.j3(u:aa)(slf:aa->Option aa):Nat->Int->aa->Option aa
 | 0,_,_=>none
 | n+1,i,out=>if i<(u.Kids.length:Int) then (idx u.Kids i).bind λv=>(slf v).bind λstrip=>(appC out.Kids [strip]).bind λout1=>M.j3 u slf n (i+1) ({out with Kids:=out1}:aa) else some out
def M.og:Nat->aa->Option aa
 | 0,_=>none
 | n+1,u=>(M.sO n u.Head).bind λbared=>(M.sO n u.Words).bind λbared1=>(M.j3 u (M.og n) n 0 (⟨aO,u.Kind,u.Label,bared,bared1,([]:List aa)⟩:aa)).bind λout=>some out
def M.wF(n:Nat)(u:aa):Option Bool:=(M.xG n u).bind λmay=>if may then (M.og n u).bind λstrip=>(M.oK n u strip).bind λsame=>some same else some false
def M.si(n:Nat)(l:List Str)(least:Int):Option Bool:=(M.xD n l).bind λmay=>if may then some (decide (least<=(l.length:Int))) else some false
def M.mq:Nat->ag->Option Bool
 | 0,_=>none
 | n+1,x=>(M.oJ x.Kind 0 11).bind λin0_=>if in0_=false then some false else (M.lZ x).bind λtold=>(M.nO n x told).bind λsame=>if same=false then some false else (if x.Kind<=6 then (M.uw n x.At).bind λmay=>if may=false then some true else if (x.For !=([]:Str))=true then (M.rG n x.For).bind λname=>if name=false then some true else (M.qw n x.Start).bind λstart=>some (!start) else (M.qw n x.Start).bind λstart1=>some (!start1) else some false).bind λv=>if v then some false else if x.Kind=0 then (M.wE n x.Unit).bind λtext=>(M.oJ x.Where 0 3).bind λin0_1=>if in0_1 then (M.wF n x.Unit).bind λbare=>if bare then if x.Unit.Kind≠0 then some (decide (text.2=0)) else some false else some false else some false else if x.Kind=2 then (M.si n x.Old 1).bind λrow=>if row then (M.si n x.New 0).bind λrow1=>if row1 then (M.oJ x.Nth 0 256).bind λin0_2=>some in0_2 else some false else some false else if x.Kind=3 then (M.si n x.Old 0).bind λrow2=>if row2 then (M.si n x.New 1).bind λrow3=>if row3 then (M.oJ x.Nth 0 256).bind λin0_3=>if in0_3 then if 0 < (x.Old.length:Int) then some true else some (decide (x.Nth=0)) else some false else some false else some false else if x.Kind=4 then (M.si n x.New 0).bind λrow4=>some row4 else if x.Kind=5 then (M.uq n x.Label).bind λmay1=>some may1 else if x.Kind=6 then (M.oJ x.Where 0 3).bind λin0_4=>if in0_4 then (M.uw n x.To).bind λmay2=>some may2 else some false else (if x.Kind=7 then some (decide (x.Kind=7)) else if x.Kind=8 then some (decide (x.Kind=8)) else some (decide (x.Kind=9))).bind λv1=>if v1 then (M.oJ x.Act 1 1048576).bind λin0_5=>if in0_5 then (M.oJ x.Item (-1:Int) 31).bind λin0_6=>if in0_6 then (M.oJ x.Day 0 1048576).bind λin0_7=>some in0_7 else some false else some false else if x.Kind=10 then (M.rG n x.Event).bind λname1=>if name1 then (M.oJ x.Day 0 1048576).bind λin0_8=>some in0_8 else some false else if x.Kind=11 then (M.oJ x.Act 1 1048576).bind λin0_9=>if in0_9 then (M.oJ x.Item 0 31).bind λin0_10=>if in0_10 then if (x.By.length:Int)=1 then (idx x.By 0).bind λv2=>(M.oJ v2.Kind 0 6).bind λin0_11=>if in0_11 then (idx x.By 0).bind λv3=>((M.mq n) v3).bind λmay3=>some may3 else some false else some false else some false else some false else some true
def M.jw(n0_:Int):Nat->(List Int)->Int->Option (List Int)
 | 0,_,_=>none
 | n+1,out,v=>if v<n0_ then (appC out [v]).bind λout1=>(addC v 1).bind λv1=>M.jw n0_ n out1 v1 else some out
def M.mH(n:Nat)(n0_:Int):Option (List Int):=(M.jw n0_ n [] 0).bind λout=>some out
def M.fo(s1_:List Int)(s2_:List Int):Nat->Int->Option (Unit ⊕ Bool)
 | 0,_=>none
 | n+1,v=>if v<(s1_.length:Int) then (idx s1_ v).bind λv1=>(idx s2_ v).bind λv2=>if v1≠v2 then some (.inr false) else M.fo s1_ s2_ n (v+1) else some (.inl ())
def M.l6(n:Nat)(s1_:List Int)(s2_:List Int):Option Bool:=if (s1_.length:Int)≠(s2_.length:Int) then some false else (M.fo s1_ s2_ n 0).bind λ
 | .inl _=>some true
 | .inr ret0=>some ret0
def M.dP(r:List Int)(i1:Int):Nat->Int->Option Int
 | 0,_=>none
 | n+1,k1=>(idx r k1).bind λv6=>(idx r i1).bind λv7=>if v6<v7 then (subC k1 1).bind λv8=>M.dP r i1 n v8 else some k1
def M.jy(r:List Int):Nat->Int->Option Int
 | 0,_=>none
 | n+1,i1=>if 0<=i1 then (idx r i1).bind λv1=>(addC i1 1).bind λv2=>(idx r v2).bind λv3=>if v3<v1 then (subC i1 1).bind λv4=>M.jy r n v4 else some i1 else some i1
def M.nA(n:Nat)(n0:Int)(r:List Int):Option (Option (List Int)):=(subC n0 2).bind λv=>(M.jy r n v).bind λi1=>if i1<0 then some none else (subC n0 1).bind λv5=>(M.dP r i1 n v5).bind λk1=>(idx r k1).bind λv9=>(idx r i1).bind λv10=>(idx r i1).bind λv11=>(setC r i1 v9).bind λrow=>(idx row k1).bind λv12=>(setC row k1 v10).bind λrow1=>(addC i1 1).bind λv13=>(rngLo row1 v13).bind λ_=>(revFrom row1 v13).bind λrow2=>some (some row2)
def M.jK:Nat->Int->List Int->Option (List (List Int))
 | 0,_,_=>none
 | n+1,n0,r=>(M.nA n n0 r).bind λo=>match o with
  | none=>some [r]
  | some r'=>(M.jK n n0 r').bind λrs=>some (r :: rs)
def M.oH(n:Nat)(n0:Int):Option (List (List Int)):=(M.mH n n0).bind λr=>M.jK n n0 r
def M.dW:List Int->(List Bool)->Option (List Bool)
 | [],out=>some out
 | e :: es,out=>if 0<=e then if e<5 then (rngC 5 e).bind λ_=>M.dW es (out.set e.toNat true) else M.dW es out else M.dW es out
def M.kF(keep:List Int):Option (List Bool):=(M.dW keep (List.replicate 5 false)).bind λout=>some out
def M.iG:List Int->Int->(List Int)->Option (List Int)
 | [],_,out=>some out
 | e :: es,i,out=>(rngC 5 e).bind λ_=>M.iG es (i+1) (out.set e.toNat i)
def M.pY(order:List Int):Option (List Int):=(M.iG order 0 (List.replicate 5 0)).bind λout=>some out
def M.fB(is:List Bool)(places:List Int)(places1:List Int)(v:Int):Nat->Int->Option (Unit ⊕ Bool)
 | 0,_=>none
 | n+1,v1=>if v1<v then (idx is v).bind λv2=>if v2 then (idx places v).bind λv3=>(idx places v1).bind λv4=>(idx places1 v).bind λv5=>(idx places1 v1).bind λv6=>if ((decide (v3<v4)) !=(decide (v5<v6)))=true then some (.inr false) else (addC v1 1).bind λv7=>M.fB is places places1 v n v7 else (idx is v1).bind λv8=>if v8 then (idx places v).bind λv9=>(idx places v1).bind λv10=>(idx places1 v).bind λv11=>(idx places1 v1).bind λv12=>if ((decide (v9<v10)) !=(decide (v11<v12)))=true then some (.inr false) else (addC v1 1).bind λv13=>M.fB is places places1 v n v13 else (addC v1 1).bind λv14=>M.fB is places places1 v n v14 else some (.inl ())
def M.jA(order:List Int)(is:List Bool)(places:List Int)(places1:List Int):Nat->Int->Option (Unit ⊕ Bool)
 | 0,_=>none
 | n+1,v=>if v<(order.length:Int) then (M.fB is places places1 v n 0).bind λ
  | .inl _=>(addC v 1).bind λv15=>M.jA order is places places1 n v15
  | .inr ret0=>some (.inr ret0) else some (.inl ())
def M.lv(n:Nat)(order:List Int)(by0_:List Int)(is:List Bool):Option Bool:=(M.pY order).bind λplaces=>(M.pY by0_).bind λplaces1=>(M.jA order is places places1 n 0).bind λ
 | .inl _=>some true
 | .inr ret0=>some ret0
def M.gI(l:List Int):Option (List Int):=appC [] l
def M.kI(n:Nat)(n0_:Int)(keep:List Int)(by0_:List Int)(q:List (List Int))(x:List Int):Option (List (List Int)):=(M.kF keep).bind λkept=>(M.lv n x by0_ kept).bind λkeeps=>if keeps then (M.gI x).bind λcl=>(appC q [cl]).bind λout=>some out else some q
def M.kS(n:Nat)(n0_:Int)(keep:List Int)(by0_:List Int):Option (List (List Int)):=(sortedC by0_).bind λsorted=>(if n0_<0 then some true else if 5 < n0_ then some true else (M.mH n n0_).bind λgiven=>(M.l6 n sorted given).bind λint=>some (!int)).bind λv=>if v then none else (M.oH n n0_).bind λrows=>(foldS (M.kI n n0_ keep by0_) ([]:List (List Int)) rows).bind λov=>some ov
def M.gJ(kind:Int):Option Bool:=if 0<=kind then some (decide (kind<=6)) else some false
def M.lw(where0_:Int):Option Bool:=if 0<=where0_ then some (decide (where0_<=3)) else some false
def M.o9(s0_:av):Option Bool:=if s0_.Kind=0 then some (s0_.Label==([]:Str)) else some false
def M.dC(s0_:Str)(f:Int->Option Bool)(truth:Bool):Nat->Nat->Option (Nat ⊕ Int)
 | 0,_=>none
 | n+1,v=>if v<s0_.length then (f ((runeAt s0_ v).1:Int)).bind λv1=>if (v1==truth)=true then some (.inr (v:Int)) else M.dC s0_ f truth n (v+(runeAt s0_ v).2) else some (.inl v)
def M.strings_indexFunc(n:Nat)(s0_:Str)(f:Int->Option Bool)(truth:Bool):Option Int:=(M.dC s0_ f truth n 0).bind λ
 | .inl v=>some (-1:Int)
 | .inr ret0=>some ret0
def M.strings_IndexFunc(n:Nat)(s0_:Str)(f:Int->Option Bool):Option Int:=(M.strings_indexFunc n s0_ f true).bind λindexf=>some indexf
def M.mI(b:Int):Option Bool:=if b<48 then some true else some (decide (57 < b))
def M.qJ(n:Nat)(s0_:Str):Option (Str×Str):=(M.strings_IndexFunc n s0_ (λs0=>M.mI s0)).bind λindexf=>if indexf<0 then some (s0_,([]:Str)) else (slcHi s0_ indexf).bind λv=>(slcLo s0_ indexf).bind λv1=>some (v,v1)
def M.strings_ContainsFunc(n:Nat)(s0_:Str)(f:Int->Option Bool):Option Bool:=(M.strings_IndexFunc n s0_ f).bind λindexf=>some (decide (0<=indexf))
def M.oh(b:Int):Option Bool:=if b<65 then some true else some (decide (90 < b))
def M.oL(n:Nat)(s0_:Str):Option Bool:=(M.qJ n s0_).bind λparted=>if 1<=(parted.1.length:Int) then if (parted.1.length:Int)<=4 then (idx parted.1 0).bind λb=>if (b.toNat:Int)≠48 then if (parted.2.length:Int)<=3 then (M.strings_ContainsFunc n parted.2 (λs0=>M.oh s0)).bind λcontai=>some (!contai) else some false else some false else some false else some false
def M.bO(n:Nat):List av->Int->Option (Unit ⊕ Bool)
 | [],_=>some (.inl ())
 | e :: es,i=>(if i=0 then (M.o9 e).bind λbook=>some book else some false).bind λv=>if v then M.bO n es (i+1) else if e.Kind<=0 then some (.inr false) else if 7 < e.Kind then some (.inr false) else (M.oL n e.Label).bind λvalid=>if valid=false then some (.inr false) else M.bO n es (i+1)
def M.mh(n:Nat)(p:List av):Option Bool:=(M.bO n p 0).bind λ
 | .inl _=>some (decide ((p.length:Int)<=9))
 | .inr ret0=>some ret0
def M.mJ(u:aa)(s0_:av):Option Bool:=if u.Kind=s0_.Kind then some (u.Label==s0_.Label) else some false
def M.nP(x:aa)(c:List av)(c1:List aa):Option (List aa):=(idx c 0).bind λv=>(M.mJ x v).bind λcalled=>if called then (appC c1 [x]).bind λout=>some out else some c1
def M.dE(c:List av)(slf:aa->(List av)->(List aa)->Option (List aa)):List aa->(List aa)->Option (List aa)
 | [],v=>some v
 | e :: es,v=>(slf e c v).bind λw1=>M.dE c slf es w1
def M.jc:Nat->aa->(List av)->(List aa)->Option (List aa)
 | 0,_,_,_=>none
 | n+1,u,c,c1=>(M.nP u c c1).bind λw=>(M.dE c (M.jc n) u.Kids w).bind λv=>some v
def M.dX(e:av):List aa->(List aa)->Option (List aa)
 | [],next1=>some next1
 | e2 :: es2,next1=>(M.mJ e2 e).bind λcalled=>if called then (appC next1 [e2]).bind λnext2=>M.dX e es2 next2 else M.dX e es2 next1
def M.eQ(e:av):List aa->(List aa)->Option (List aa)
 | [],next=>some next
 | e1 :: es1,next=>(M.dX e e1.Kids next).bind λnext1=>M.eQ e es1 next1
def M.dY:List av->(List aa)->Option (List aa)
 | [],at0_2=>some at0_2
 | e :: es,at0_2=>(M.eQ e at0_2 []).bind λnext=>M.dY es next
def M.pI(n:Nat)(u:aa)(p:List av):Option (List aa):=(M.mh n p).bind λvalid=>if valid=false then some ([]:List aa) else ((if (p.length:Int)=0 then some (.inr [u]) else (idx p 0).bind λv=>(M.o9 v).bind λbook=>if book then some (.inl [u]) else (M.jc n u p []).bind λat0_1=>some (.inl at0_1)):Option (((List aa)) ⊕ (List aa))).bind λ
 | .inl at0_=>(slcLo p 1).bind λv1=>(M.dY v1 at0_).bind λat0_2=>some at0_2
 | .inr ret0=>some ret0
def M.dN:List aa->(List ai)->Option (List ai)
 | [],out=>some out
 | e :: es,out=>(appC out [e.Id]).bind λout1=>M.dN es out1
def M.nQ(n:Nat)(u:aa)(p:List av):Option (List ai):=(M.pI n u p).bind λfound=>(M.dN found []).bind λout=>some out
def M.dM(n:Nat)(u:aa)(p:List av):Option (ai×Int):=(M.nQ n u p).bind λfindal=>if (findal.length:Int)=0 then some ((⟨(0:Int),(0:Int),(0:Int)⟩:ai),(7:Int)) else if (findal.length:Int)=1 then (idx findal 0).bind λv=>some (v,(0:Int)) else some ((⟨(0:Int),(0:Int),(0:Int)⟩:ai),(8:Int))
def M.kJ(u:aa)(id:ai)(slf:aa->ai->Option (List aa)):List aa->Option (Unit ⊕ (List aa))
 | []=>some (.inl ())
 | e :: es=>(slf e id).bind λway=>if way.isEmpty=false then (appC [u] way).bind λout=>(neC out).bind λ_=>some (.inr out) else M.kJ u id slf es
def M.mK:Nat->aa->ai->Option (List aa)
 | 0,_,_=>none
 | n+1,u,id=>if u.Id=id then (neC [u]).bind λ_=>some [u] else (M.kJ u id (M.mK n) u.Kids).bind λ
  | .inl _=>some ([]:List aa)
  | .inr ret0=>some ret0
def M.bP(l:List af):Option (List af):=appC [] l
def M.bY(slf:aa->Option aa):List aa->(List aa)->Option (List aa)
 | [],kids=>some kids
 | e :: es,kids=>(slf e).bind λcopied=>(appC kids [copied]).bind λkids1=>M.bY slf es kids1
def M.fZ:Nat->aa->Option aa
 | 0,_=>none
 | n+1,u=>(M.bP u.Head).bind λword=>(M.bP u.Words).bind λword1=>(M.bY (M.fZ n) (({({u with Head:=word}:aa) with Words:=word1}:aa).Kids) []).bind λkids=>some ({({({u with Head:=word}:aa) with Words:=word1}:aa) with Kids:=kids}:aa)
def M.j6(n:Nat)(u:aa)(id:ai):Option (aa×Bool):=(M.mK n u id).bind λway=>if (way.length:Int)=0 then some ((⟨aO,(0:Int),([]:Str),([]:List af),([]:List af),([]:List aa)⟩:aa),false) else (subC (way.length:Int) 1).bind λv=>(idx way v).bind λv1=>(M.fZ n v1).bind λcopied=>some (copied,true)
def M.qA(n:Nat)(u:aa)(id:ai)(number:Int->Option Int):Option (aF×Int):=(M.j6 n u id).bind λfind=>(number (find.1.Kids.length:Int)).bind λv=>some ((⟨id,v⟩:aF),(0:Int))
def M.pg(a:Int):Option Int:=some (0:Int)
def M.kK(n:Nat)(u:aa)(id:ai):Option (aF×Int):=(M.qA n u id (λs0=>M.pg s0)).bind λinto=>some (into.1,into.2)
def M.pq(kids:Int):Option Int:=some kids
def M.kL(n:Nat)(u:aa)(id:ai):Option (aF×Int):=(M.qA n u id (λs0=>M.pq s0)).bind λinto=>some (into.1,into.2)
def M.ol(n:Nat)(k:aa)(c:ai):Option Bool:=(M.mK n k c).bind λway=>some (!way.isEmpty)
def M.aU(s0_:List aa)(f:aa->Option Bool):Nat->Int->Option (Unit ⊕ Int)
 | 0,_=>none
 | n+1,v=>if v<(s0_.length:Int) then (idx s0_ v).bind λv1=>(f v1).bind λv2=>if v2 then some (.inr v) else M.aU s0_ f n (v+1) else some (.inl ())
def M.dm(n:Nat)(s0_:List aa)(f:aa->Option Bool):Option Int:=(M.aU s0_ f n 0).bind λ
 | .inl _=>some (-1:Int)
 | .inr ret0=>some ret0
def M.kY(n:Nat)(u:aa)(id:ai):Option (ai×Int×Bool):=(M.mK n u id).bind λway=>if (way.length:Int)< 2 then some ((⟨(0:Int),(0:Int),(0:Int)⟩:ai),(-1:Int),false) else (subC (way.length:Int) 2).bind λv=>(idx way v).bind λv1=>(M.dm n v1.Kids (λs0=>M.ol n s0 id)).bind λunit=>some (v1.Id,unit,true)
def M.om(n:Nat)(u:aa)(id:ai)(behind:Int):Option (aF×Int):=(M.kY n u id).bind λparent=>if parent.2.2=false then some ((⟨aO,(0:Int)⟩:aF),(9:Int)) else (addC parent.2.1 behind).bind λv=>some ((⟨parent.1,v⟩:aF),(0:Int))
def M.kM(n:Nat)(u:aa)(id:ai):Option (aF×Int):=(M.om n u id 1).bind λbeside=>some (beside.1,beside.2)
def M.kN(n:Nat)(u:aa)(id:ai):Option (aF×Int):=(M.om n u id 0).bind λbeside=>some (beside.1,beside.2)
def M.l7(n:Nat):Option (List (aa->ai->Option (aF×Int))):=some [(λs0 s1=>M.kK n s0 s1),(λs0 s1=>M.kL n s0 s1),(λs0 s1=>M.kM n s0 s1),(λs0 s1=>M.kN n s0 s1)]
def M.j4(n:Nat)(u:aa)(p:List av)(where0_:Int):Option (ai×Int×Int):=(M.lw where0_).bind λiswher=>if iswher=false then some ((⟨(0:Int),(0:Int),(0:Int)⟩:ai),(0:Int),(1:Int)) else (M.dM n u p).bind λfindon=>if findon.2≠0 then some ((⟨(0:Int),(0:Int),(0:Int)⟩:ai),(0:Int),findon.2) else (M.l7 n).bind λleads=>(idx leads where0_).bind λv=>(v u findon.1).bind λv1=>if v1.2≠0 then some ((⟨(0:Int),(0:Int),(0:Int)⟩:ai),(0:Int),v1.2) else some (v1.1.parent_,v1.1.at_,(0:Int))
def M.bQ(way:List aa):Nat->(List ai)->Int->Option (List ai)
 | 0,_,_=>none
 | n+1,out,i=>if 0<=i then (idx way i).bind λv1=>(appC out [v1.Id]).bind λout1=>(subC i 1).bind λv2=>M.bQ way n out1 v2 else some out
def M.jL(n:Nat)(u:aa)(id:ai):Option (List ai):=(M.mK n u id).bind λway=>(subC (way.length:Int) 2).bind λv=>(M.bQ way n [] v).bind λout=>some out
def M.aT(s0_:List ai)(v:ai):Nat->Int->Option (Unit ⊕ Int)
 | 0,_=>none
 | n+1,v1=>if v1<(s0_.length:Int) then (idx s0_ v1).bind λv2=>if v=v2 then some (.inr v1) else M.aT s0_ v n (v1+1) else some (.inl ())
def M.jM(n:Nat)(s0_:List ai)(v:ai):Option Int:=(M.aT s0_ v n 0).bind λ
 | .inl _=>some (-1:Int)
 | .inr ret0=>some ret0
def M.dQ(n:Nat)(s0_:List ai)(v:ai):Option Bool:=(M.jM n s0_ v).bind λid=>some (decide (0<=id))
def M.rH(n:Nat)(u:aa)(id:ai)(to0_:ai)(where0_:Int):Option (aF×Int):=(if where0_=2 then some true else some (decide (where0_=3))).bind λbesides=>(M.kY n u id).bind λparent=>if to0_≠id then (M.jL n u to0_).bind λancest=>(M.dQ n ancest id).bind λid1=>(if parent.2.2=false then some true else if id1 then some true else if to0_=id then some (!besides) else some false).bind λv=>if v then some ((⟨aO,(0:Int)⟩:aF),(9:Int)) else if to0_=id then some ((⟨parent.1,parent.2.1⟩:aF),(0:Int)) else (M.l7 n).bind λleads=>(idx leads where0_).bind λv1=>(v1 u to0_).bind λv2=>(if v2.2=0 then if v2.1.parent_=parent.1 then some (decide (parent.2.1<v2.1.at_)) else some false else some false).bind λv3=>if v3 then (subC v2.1.at_ 1).bind λv4=>some (({v2.1 with at_:=v4}:aF),v2.2) else some (v2.1,v2.2) else (if parent.2.2=false then some true else if to0_=id then some (!besides) else some false).bind λv5=>if v5 then some ((⟨aO,(0:Int)⟩:aF),(9:Int)) else if to0_=id then some ((⟨parent.1,parent.2.1⟩:aF),(0:Int)) else (M.l7 n).bind λleads1=>(idx leads1 where0_).bind λv6=>(v6 u to0_).bind λv7=>(if v7.2=0 then if v7.1.parent_=parent.1 then some (decide (parent.2.1<v7.1.at_)) else some false else some false).bind λv8=>if v8 then (subC v7.1.at_ 1).bind λv9=>some (({v7.1 with at_:=v9}:aF),v7.2) else some (v7.1,v7.2)
def M.jm(n:Nat)(u:aa)(it:ag):Option (ai×Int×Int):=if it.Kind=0 then (M.j4 n u it.At it.Where).bind λinsert=>some (insert.1,insert.2.1,insert.2.2) else (if it.Kind≠6 then some true else (M.lw it.Where).bind λiswher=>some (!iswher)).bind λv=>if v then some ((⟨(0:Int),(0:Int),(0:Int)⟩:ai),(0:Int),(1:Int)) else (M.dM n u it.At).bind λfindon=>if findon.2≠0 then some ((⟨(0:Int),(0:Int),(0:Int)⟩:ai),(0:Int),findon.2) else (M.dM n u it.To).bind λfindon1=>if findon1.2≠0 then some ((⟨(0:Int),(0:Int),(0:Int)⟩:ai),(0:Int),findon1.2) else (M.rH n u findon.1 findon1.1 it.Where).bind λgoes=>if goes.2≠0 then some ((⟨(0:Int),(0:Int),(0:Int)⟩:ai),(0:Int),goes.2) else some (goes.1.parent_,goes.1.at_,(0:Int))
def M.dO:List af->(List Str)->Option (List Str)
 | [],out=>some out
 | e :: es,out=>(appC out [e.Text]).bind λout1=>M.dO es out1
def M.lK(w:List af):Option (List Str):=(M.dO w []).bind λout=>some out
def M.fF(act:Int)(item:Int)(from0_:Int):List Str->Int->(List af)->Option (List af)
 | [],_,out=>some out
 | e :: es,i,out=>(addC from0_ i).bind λv=>(appC out [(⟨e,(⟨act,item,v⟩:kU)⟩:af)]).bind λout1=>M.fF act item from0_ es (i+1) out1
def M.nC(l:List Str)(act:Int)(item:Int)(from0_:Int):Option (List af):=(M.fF act item from0_ l 0 []).bind λout=>some out
def M.jX(s0_:au)(w:List af):Option ((List af)×au):=(M.lK w).bind λstring=>(M.nC string s0_.act_ s0_.item_ s0_.word_).bind λmark=>(addC s0_.word_ (mark.length:Int)).bind λv=>some (mark,({s0_ with word_:=v}:au))
def M.dA(w:List aa)(slf:au->aa->Option (aa×au)):Nat->(List aa)->Int->au->Option ((List aa)×au)
 | 0,_,_,_=>none
 | n+1,kids,v1,s0_3=>if v1<(w.length:Int) then (idx kids v1).bind λv2=>(slf s0_3 v2).bind λ(tree,s0_4)=>(idx kids v1).bind λv3=>(setC kids v1 tree).bind λw1=>(addC v1 1).bind λv4=>M.dA w slf n w1 v4 s0_4 else some (kids,s0_3)
def M.dI:Nat->au->aa->Option (aa×au)
 | 0,_,_=>none
 | n+1,s0_,u=>(addC s0_.unit_ 1).bind λv=>(M.jX ({s0_ with unit_:=v}:au) (({u with Id:=(⟨({s0_ with unit_:=v}:au).act_,({s0_ with unit_:=v}:au).item_,({s0_ with unit_:=v}:au).unit_⟩:ai)}:aa).Head)).bind λ(row,s0_1)=>(M.jX s0_1 (({({u with Id:=(⟨({s0_ with unit_:=v}:au).act_,({s0_ with unit_:=v}:au).item_,({s0_ with unit_:=v}:au).unit_⟩:ai)}:aa) with Head:=row}:aa).Words)).bind λ(row1,s0_2)=>(makeC az ((({({({u with Id:=(⟨({s0_ with unit_:=v}:au).act_,({s0_ with unit_:=v}:au).item_,({s0_ with unit_:=v}:au).unit_⟩:ai)}:aa) with Head:=row}:aa) with Words:=row1}:aa).Kids).length:Int)).bind λmk=>(copyC mk (({({({u with Id:=(⟨({s0_ with unit_:=v}:au).act_,({s0_ with unit_:=v}:au).item_,({s0_ with unit_:=v}:au).unit_⟩:ai)}:aa) with Head:=row}:aa) with Words:=row1}:aa).Kids)).bind λw=>(M.dA w (M.dI n) n w 0 s0_2).bind λ(kids,s0_3)=>some (({({({({u with Id:=(⟨({s0_ with unit_:=v}:au).act_,({s0_ with unit_:=v}:au).item_,({s0_ with unit_:=v}:au).unit_⟩:ai)}:aa) with Head:=row}:aa) with Words:=row1}:aa) with Kids:=kids}:aa),s0_3)
def M.pJ(n:Nat)(u:aa)(act:Int)(item:Int):Option aa:=(M.dI n (⟨act,item,(0:Int),(0:Int)⟩:au) u).bind λ(tree,s0_)=>some tree
def M.bH(s0_:List Int)(v:Int):Nat->Int->Option (Unit ⊕ Int)
 | 0,_=>none
 | n+1,v1=>if v1<(s0_.length:Int) then (idx s0_ v1).bind λv2=>if v=v2 then some (.inr v1) else M.bH s0_ v n (v1+1) else some (.inl ())
def M.l8(n:Nat)(s0_:List Int)(v:Int):Option Int:=(M.bH s0_ v n 0).bind λ
 | .inl _=>some (-1:Int)
 | .inr ret0=>some ret0
def M.jB(n:Nat)(s0_:List Int)(v:Int):Option Bool:=(M.l8 n s0_ v).bind λint=>some (decide (0<=int))
def M.lL(n:Nat)(parent:Int)(kind:Int):Option Bool:=if 0<=parent then if parent<8 then (idx gv1 parent).bind λv=>(M.jB n v kind).bind λint=>some int else some false else some false
def M.pK(k:aa)(c:aa):Option Bool:=if k.Kind=c.Kind then some (k.Label==c.Label) else some false
def M.bX(n:Nat)(s0_:List aa)(f:aa->Option Bool):Option Bool:=(M.dm n s0_ f).bind λunit=>some (decide (0<=unit))
def M.l9(n:Nat)(p:aa)(x:aa):Option Int:=(M.lL n p.Kind x.Kind).bind λcancon=>if cancon=false then some (9:Int) else (M.bX n p.Kids (λs0=>M.pK s0 x)).bind λunit=>if unit then some (10:Int) else some (0:Int)
def M.jC(slf:aa->Option Int):List aa->Int->Option Int
 | [],deep=>some deep
 | e :: es,deep=>(slf e).bind λdepth=>(addC 1 depth).bind λv=>M.jC slf es (max deep v)
def M.nD:Nat->aa->Option Int
 | 0,_=>none
 | n+1,u=>(M.jC (M.nD n) u.Kids 0).bind λdeep=>some deep
def M.lC(n:Nat)(u:aa)(parent:ai)(x:aa):Option Bool:=(M.jL n u parent).bind λancest=>(addC (ancest.length:Int) 1).bind λv=>(M.nD n x).bind λdepth=>(addC v depth).bind λv1=>some (decide (8 < v1))
def M.sj(a:aa)(c:Int):Option (Bool×Int):=(addC c 1).bind λv=>some (true,v)
def M.eT(slf:aa->Int->Option (Bool×Int)):List aa->Int->Option (Int ⊕ (Bool×Int))
 | [],v=>some (.inl v)
 | e :: es,v=>(slf e v).bind λ(every,w1)=>if every=false then some (.inr (false,w1)) else M.eT slf es w1
def M.kZ:Nat->aa->Int->Option (Bool×Int)
 | 0,_,_=>none
 | n+1,u,c=>(M.sj u c).bind λ(v1_,w)=>if v1_=false then some (false,w) else (M.eT (M.kZ n) u.Kids w).bind λ
  | .inl v=>some (true,v)
  | .inr ret0=>some ret0
def M.nE(n:Nat)(u:aa):Option Int:=(M.kZ n u 0).bind λ(every,n0_)=>some n0_
def M.vG(x:aa)(c:List ai):Option (Bool×(List ai)):=(appC c [x.Id]).bind λout=>some (true,out)
def M.eU(slf:aa->(List ai)->Option (Bool×(List ai))):List aa->(List ai)->Option (((List ai)) ⊕ (Bool×(List ai)))
 | [],v=>some (.inl v)
 | e :: es,v=>(slf e v).bind λ(every,w1)=>if every=false then some (.inr (false,w1)) else M.eU slf es w1
def M.lc:Nat->aa->(List ai)->Option (Bool×(List ai))
 | 0,_,_=>none
 | n+1,u,c=>(M.vG u c).bind λ(v1_,w)=>if v1_=false then some (false,w) else (M.eU (M.lc n) u.Kids w).bind λ
  | .inl v=>some (true,v)
  | .inr ret0=>some ret0
def M.pM(n:Nat)(u:aa):Option (List ai):=(M.lc n u []).bind λ(every,out)=>some out
def M.lD(n:Nat)(id:ai)(c:List ai):Option Bool:=(M.dQ n c id).bind λid1=>some id1
def M.aV(s0_:List ai)(f:ai->Option Bool):Nat->Int->Option (Unit ⊕ Int)
 | 0,_=>none
 | n+1,v=>if v<(s0_.length:Int) then (idx s0_ v).bind λv1=>(f v1).bind λv2=>if v2 then some (.inr v) else M.aV s0_ f n (v+1) else some (.inl ())
def M.ic(n:Nat)(s0_:List ai)(f:ai->Option Bool):Option Int:=(M.aV s0_ f n 0).bind λ
 | .inl _=>some (-1:Int)
 | .inr ret0=>some ret0
def M.bV(n:Nat)(s0_:List ai)(f:ai->Option Bool):Option Bool:=(M.ic n s0_ f).bind λid=>some (decide (0<=id))
def M.kP(p:aa)(c:Int)(c1:aa):Option aa:=(insC p.Kids c [c1]).bind λl=>some ({p with Kids:=l}:aa)
def M.dK(l:List aa):Option (List aa):=appC [] l
def M.jD(id:ai)(do0_:aa->Option aa)(unit1:List aa)(slf:aa->ai->(aa->Option aa)->Option aa):Nat->Int->Option (List aa)
 | 0,_=>none
 | n+1,v=>if v<(unit1.length:Int) then (idx unit1 v).bind λv1=>(M.j6 n v1 id).bind λfind=>if find.2=true then (slf v1 id do0_).bind λwith0_=>(idx unit1 v).bind λv2=>(setC unit1 v with0_).bind λw=>some w else (addC v 1).bind λv3=>M.jD id do0_ unit1 slf n v3 else some unit1
def M.gu:Nat->aa->ai->(aa->Option aa)->Option aa
 | 0,_,_,_=>none
 | n+1,u,id,do0_=>if u.Id=id then (M.dK u.Kids).bind λunit=>(do0_ ({u with Kids:=unit}:aa)).bind λu1=>some u1 else (M.dK u.Kids).bind λunit1=>(M.jD id do0_ unit1 (M.gu n) n 0).bind λw=>some ({u with Kids:=w}:aa)
def M.fG(n:Nat)(u:aa)(found:aa)(d:ak):Option (aa×Int):=(M.jm n u d.It).bind λdestin=>if destin.2.2≠0 then some (u,destin.2.2) else (M.j6 n u destin.1).bind λfind=>(M.pJ n d.It.Unit d.Act d.Item).bind λstamp=>(M.l9 n find.1 stamp).bind λtakes=>if takes≠0 then some (u,takes) else if 64<=(find.1.Kids.length:Int) then some (u,(6:Int)) else (M.lC n u destin.1 stamp).bind λdeep=>if deep then some (u,(6:Int)) else (M.nE n u).bind λcount=>(M.nE n stamp).bind λcount1=>(addC count count1).bind λv=>if 1024 < v then some (u,(6:Int)) else (M.pM n u).bind λids=>(M.pM n stamp).bind λids1=>(M.bV n ids1 (λs0=>M.lD n s0 ids)).bind λid=>if id then some (u,(5:Int)) else (M.gu n u destin.1 (λs0=>M.kP s0 destin.2.1 stamp)).bind λwith0_=>some (with0_,(0:Int))
def M.lM(x:aa)(c:Int):Option aa:=(addC c 1).bind λv=>(delC x.Kids c v).bind λl=>some ({x with Kids:=l}:aa)
def M.oo(n:Nat)(u:aa)(id:ai):Option aa:=(M.kY n u id).bind λparent=>(M.gu n u parent.1 (λs0=>M.lM s0 parent.2.1)).bind λwith0_=>some with0_
def M.nG(n:Nat)(u:aa)(x:aa)(d:ak):Option (aa×Int):=(M.oo n u x.Id).bind λwithou=>some (withou,(0:Int))
def M.bi(s1_:List Str)(s2_:List Str):Nat->Int->Option (Unit ⊕ Bool)
 | 0,_=>none
 | n+1,v=>if v<(s1_.length:Int) then (idx s1_ v).bind λv1=>(idx s2_ v).bind λv2=>if (v1 !=v2)=true then some (.inr false) else M.bi s1_ s2_ n (v+1) else some (.inl ())
def M.dB(n:Nat)(s1_:List Str)(s2_:List Str):Option Bool:=if (s1_.length:Int)≠(s2_.length:Int) then some false else (M.bi s1_ s2_ n 0).bind λ
 | .inl _=>some true
 | .inr ret0=>some ret0
def M.bW(l:List Str)(part:List Str):Nat->(List Int)->Int->Option (List Int)
 | 0,_,_=>none
 | n+1,out,i=>(addC i (part.length:Int)).bind λv=>if v<=(l.length:Int) then (addC i (part.length:Int)).bind λv1=>(slc l i v1).bind λv2=>(M.dB n v2 part).bind λstring=>if string=false then (addC i 1).bind λv3=>M.bW l part n out v3 else (appC out [i]).bind λout1=>(addC i (part.length:Int)).bind λv4=>M.bW l part n out1 v4 else some out
def M.lN(n:Nat)(l:List Str)(part:List Str):Option (List Int):=if (part.length:Int)=0 then some ([]:List Int) else (M.bW l part n [] 0).bind λout=>some out
def M.mM(n:Nat)(w:List af)(part:List Str)(nth:Int):Option (List Int):=(M.lK w).bind λstring=>(M.lN n string part).bind λfindal=>if nth=0 then some findal else if (findal.length:Int)< nth then some ([]:List Int) else (subC nth 1).bind λv=>(slc findal v nth).bind λv1=>some v1
def M.iD(places:List Int)(gone:Int)(fresh:List Str)(act:Int)(item:Int):Nat->(List af)->Int->Option (List af)
 | 0,_,_=>none
 | n+1,out,i=>if 0<=i then (idx places i).bind λv1=>(addC v1 gone).bind λv2=>(slcLo out v2).bind λv3=>(slcHi out v1).bind λv8=>(mulC i (fresh.length:Int)).bind λv9=>(M.nC fresh act item v9).bind λmark1=>(appC v8 mark1).bind λv10=>(appC v10 v3).bind λv11=>(subC i 1).bind λv12=>M.iD places gone fresh act item n v11 v12 else some out
def M.nu(n:Nat)(w:List af)(places:List Int)(gone:Int)(fresh:List Str)(act:Int)(item:Int):Option ((List af)×Int):=(makeC sK (w.length:Int)).bind λmk=>(copyC mk w).bind λw1=>(subC (places.length:Int) 1).bind λv=>(M.iD places gone fresh act item n w1 v).bind λout=>if 256 < (out.length:Int) then some (([]:List af),(6:Int)) else some (out,(0:Int))
def M.kT(n:Nat)(w:List af)(old:List Str)(new:List Str)(nth:Int)(act:Int)(item:Int):Option ((List af)×Int):=(if (old.length:Int)=0 then some true else some (decide (nth<0))).bind λv=>if v then some (([]:List af),(1:Int)) else (M.mM n w old nth).bind λplaces=>if (places.length:Int)=0 then some (([]:List af),(4:Int)) else (M.nu n w places (old.length:Int) new act item).bind λput=>some (put.1,put.2)
def M.pO(x:aa)(c:List af):Option aa:=some ({x with Words:=c}:aa)
def M.oM(n:Nat)(u:aa)(x:aa)(d:ak):Option (aa×Int):=(M.kT n x.Words d.It.Old d.It.New d.It.Nth d.Act d.Item).bind λreplac=>if replac.2≠0 then some (u,replac.2) else (M.gu n u x.Id (λs0=>M.pO s0 replac.1)).bind λwith0_=>some (with0_,(0:Int))
def M.dG(part:List Str)(int:List Int):Nat->(List Int)->Int->Option (List Int)
 | 0,_,_=>none
 | n+1,l,v1=>if v1<(int.length:Int) then (idx l v1).bind λv2=>(addC v2 (part.length:Int)).bind λv3=>(idx l v1).bind λv4=>(setC l v1 v3).bind λw1=>(addC v1 1).bind λv5=>M.dG part int n w1 v5 else some l
def M.eX(n:Nat)(w:List af)(part:List Str)(new:List Str)(nth:Int)(act:Int)(item:Int):Option ((List af)×Int):=(if (new.length:Int)=0 then some true else if nth<0 then some true else if (part.length:Int)=0 then some (decide (nth≠0)) else some false).bind λv=>if v then some (([]:List af),(1:Int)) else if (part.length:Int)=0 then (M.nu n w [(0:Int)] 0 new act item).bind λput=>some (put.1,put.2) else (M.mM n w part nth).bind λplaces=>(M.gI places).bind λint=>if (int.length:Int)=0 then some (([]:List af),(4:Int)) else (M.dG part int n int 0).bind λl=>(M.nu n w l 0 new act item).bind λput1=>some (put1.1,put1.2)
def M.rM(x:aa)(c:List af):Option aa:=some ({x with Words:=c}:aa)
def M.qW(n:Nat)(u:aa)(x:aa)(d:ak):Option (aa×Int):=(M.eX n x.Words d.It.Old d.It.New d.It.Nth d.Act d.Item).bind λinsert=>if insert.2≠0 then some (u,insert.2) else (M.gu n u x.Id (λs0=>M.rM s0 insert.1)).bind λwith0_=>some (with0_,(0:Int))
def M.p8(x:aa)(c:List af):Option aa:=some ({x with Head:=c}:aa)
def M.lg(n:Nat)(u:aa)(x:aa)(d:ak):Option (aa×Int):=(M.nC d.It.New d.Act d.Item 0).bind λmark=>(M.gu n u x.Id (λs0=>M.p8 s0 mark)).bind λwith0_=>some (with0_,(0:Int))
def M.nR(x:aa)(c:ak):Option aa:=some ({x with Label:=c.It.Label}:aa)
def M.lh(n:Nat)(u:aa)(x:aa)(d:ak):Option (aa×Int):=(M.kY n u x.Id).bind λparent=>(M.j6 n u parent.1).bind λfind=>(M.l9 n find.1 ({x with Label:=d.It.Label}:aa)).bind λtakes=>if takes=10 then some (u,(10:Int)) else (M.gu n u (({x with Label:=d.It.Label}:aa).Id) (λs0=>M.nR s0 d)).bind λwith0_=>some (with0_,(0:Int))
def M.su(p:aa)(c:Int)(c1:aa):Option aa:=(insC p.Kids c [c1]).bind λl=>some ({p with Kids:=l}:aa)
def M.jo(n:Nat)(u:aa)(x:aa)(d:ak):Option (aa×Int):=(M.jm n u d.It).bind λdestin=>if destin.2.2≠0 then some (u,destin.2.2) else (M.kY n u x.Id).bind λparent=>(M.oo n u x.Id).bind λwithou=>(M.j6 n withou destin.1).bind λfind=>(M.l9 n find.1 x).bind λtakes=>if takes≠0 then some (u,takes) else (if destin.1≠parent.1 then if 64<=(find.1.Kids.length:Int) then some true else (M.lC n withou destin.1 x).bind λdeep=>some deep else (M.lC n withou destin.1 x).bind λdeep1=>some deep1).bind λv=>if v then some (u,(6:Int)) else (M.gu n withou destin.1 (λs0=>M.su s0 destin.2.1 x)).bind λwith0_=>some (with0_,(0:Int))
def M.uy(n:Nat):Option (List (Int×(aa->aa->ak->Option (aa×Int)))):=some (mset (mset (mset (mset (mset (mset (mset ([]:List (Int×(aa->aa->ak->Option (aa×Int)))) (0:Int) (λs0 s1 s2=>M.fG n s0 s1 s2)) 1 (λs0 s1 s2=>M.nG n s0 s1 s2)) 2 (λs0 s1 s2=>M.oM n s0 s1 s2)) 3 (λs0 s1 s2=>M.qW n s0 s1 s2)) 4 (λs0 s1 s2=>M.lg n s0 s1 s2)) 5 (λs0 s1 s2=>M.lh n s0 s1 s2)) 6 (λs0 s1 s2=>M.jo n s0 s1 s2))
def M.oN(it:ag):Option ag:=some (⟨(0:Int),([]:List av),([]:List av),it.Where,(0:Int),it.Unit,([]:List Str),([]:List Str),([]:Str),([]:Str),j5,(0:Int),(0:Int),(0:Int),([]:Str),([]:List ag)⟩:ag)
def M.ll(n0_:Int)(least:Int)(most:Int):Option Bool:=if least<=n0_ then some (decide (n0_<=most)) else some false
def M.pu(n0_:Int):Option Bool:=(M.ll n0_ 0 3).bind λwithin=>some within
def M.bareWs(l:List af):List af:=l.map λw=>{w with By:=mE}
def M.mapKids(f:aa->Option aa):List aa->Option (List aa)
 | []=>some []
 | x :: l=>(f x).bind λy=>(M.mapKids f l).bind λr=>some (y :: r)
def M.lF:Nat->aa->Option aa
 | 0,_=>none
 | n+1,u=>(M.fZ n u).bind λv=>(M.mapKids (M.lF n) v.Kids).bind λks=>some {v with Id:=aO,Head:=M.bareWs v.Head,Words:=M.bareWs v.Words,Kids:=ks}
def M.oq(kind:Int):Option Str:=if kind<0 then some ([]:Str) else if 8<=kind then some ([]:Str) else (idx gv4 kind).bind λv=>some v
def M.aW(s0_:List Str)(f:Str->Option Bool):Nat->Int->Option (Unit ⊕ Int)
 | 0,_=>none
 | n+1,v=>if v<(s0_.length:Int) then (idx s0_ v).bind λv1=>(f v1).bind λv2=>if v2 then some (.inr v) else M.aW s0_ f n (v+1) else some (.inl ())
def M.ig(n:Nat)(s0_:List Str)(f:Str->Option Bool):Option Int:=(M.aW s0_ f n 0).bind λ
 | .inl _=>some (-1:Int)
 | .inr ret0=>some ret0
def M.d9(n:Nat)(s0_:List Str)(f:Str->Option Bool):Option Bool:=(M.ig n s0_ f).bind λstring=>some (decide (0<=string))
def M.bf(s0_:List Int)(f:Int->Option Bool):Nat->Int->Option (Unit ⊕ Int)
 | 0,_=>none
 | n+1,v=>if v<(s0_.length:Int) then (idx s0_ v).bind λv1=>(f v1).bind λv2=>if v2 then some (.inr v) else M.bf s0_ f n (v+1) else some (.inl ())
def M.jN(n:Nat)(s0_:List Int)(f:Int->Option Bool):Option Int:=(M.bf s0_ f n 0).bind λ
 | .inl _=>some (-1:Int)
 | .inr ret0=>some ret0
def M.fC(n:Nat)(s0_:List Int)(f:Int->Option Bool):Option Bool:=(M.jN n s0_ f).bind λbyte=>some (decide (0<=byte))
def M.lG(c:Int):Option Bool:=if c<33 then some true else some (decide (126 < c))
def M.pz(n:Nat)(s0_:Str):Option Bool:=if (s0_ !=([]:Str))=true then if (s0_.length:Int)<=24 then (M.fC n (bytesOf s0_) (λs0=>M.lG s0)).bind λbyte=>some (!byte) else some false else some false
def M.nS(n:Nat)(s0_:Str):Option Bool:=(M.pz n s0_).bind λword=>some (!word)
def M.ou(n:Nat)(l:List Str):Option Bool:=if (l.length:Int)<=256 then (M.d9 n l (λs0=>M.nS n s0)).bind λstring=>some (!string) else some false
def M.jO:List af->(List Str)->Option (List Str)
 | [],texts=>some texts
 | e :: es,texts=>(appC texts [e.Text]).bind λtexts1=>M.jO es texts1
def M.uZ(n:Nat)(l:List af):Option Bool:=(M.jO l []).bind λtexts=>if (l.length:Int)<=256 then (M.ou n texts).bind λvalid=>some valid else some false
def M.fq(n:Nat)(u:aa):List aa->(List (bG×Bool))->Option (((List (bG×Bool))) ⊕ Bool)
 | [],v1=>some (.inl v1)
 | e :: es,v1=>(M.lL n u.Kind e.Kind).bind λcancon=>if cancon=false then some (.inr false) else if (mget v1 (⟨e.Kind,e.Label⟩:bG) false)=true then some (.inr false) else M.fq n u es (mset v1 (⟨e.Kind,e.Label⟩:bG) true)
def M.tC(n:Nat)(u:aa):Option Bool:=((if u.Kind=0 then if (u.Label !=([]:Str))=true then some (.inr false) else (addC (u.Head.length:Int) (u.Words.length:Int)).bind λv=>if 0 < v then some (.inr false) else some (.inl ()) else (M.oq u.Kind).bind λkindna=>if (kindna==([]:Str))=true then some (.inr false) else (M.oL n u.Label).bind λvalid=>if valid=false then some (.inr false) else (M.uZ n u.Head).bind λrow=>if row=false then some (.inr false) else (M.uZ n u.Words).bind λrow1=>if row1=false then some (.inr false) else some (.inl ())):Option (Unit ⊕ Bool)).bind λ
 | .inl _=>(M.fq n u u.Kids []).bind λ
  | .inl v1=>some (decide ((u.Kids.length:Int)<=64))
  | .inr ret0=>some ret0
 | .inr ret0=>some ret0
def M.gm(slf:aa->Option Bool):List aa->Option (Unit ⊕ Bool)
 | []=>some (.inl ())
 | e :: es=>(slf e).bind λevery=>if every=false then some (.inr false) else M.gm slf es
def M.lm:Nat->aa->Option Bool
 | 0,_=>none
 | n+1,u=>(M.tC n u).bind λalone=>if alone=false then some false else (M.gm (M.lm n) u.Kids).bind λ
  | .inl _=>some true
  | .inr ret0=>some ret0
def M.iN:List ai->(List (ai×Bool))->Option ((List (ai×Bool)))
 | [],v=>some v
 | e :: es,v=>M.iN es (mset v e true)
def M.wG(n:Nat)(u:aa):Option Bool:=(M.pM n u).bind λids=>(M.iN ids []).bind λv=>if (mget v (⟨(0:Int),(0:Int),(0:Int)⟩:ai) false)=true then (growC (v.length:Int)).bind λ_=>if (v.length:Int)=1 then some true else (growC (v.length:Int)).bind λ_=>if (v.length:Int)=(ids.length:Int) then some ((decide (u.Kind=0))==(decide (u.Id=(⟨(0:Int),(0:Int),(0:Int)⟩:ai)))) else some false else (growC (v.length:Int)).bind λ_=>if (v.length:Int)=(ids.length:Int) then some ((decide (u.Kind=0))==(decide (u.Id=(⟨(0:Int),(0:Int),(0:Int)⟩:ai)))) else some false
def M.qg(n:Nat)(u:aa):Option Bool:=(M.lm n u).bind λevery=>if every then (M.nD n u).bind λdepth=>if depth<=8 then (M.nE n u).bind λcount=>if count<=1024 then (M.wG n u).bind λids=>some ids else some false else some false else some false
def M.pQ(n:Nat)(u:aa)(depth:Int):Option Bool:=if 0<=depth then if depth<=8 then (M.lF n ({({u with Id:=(⟨(0:Int),(0:Int),(0:Int)⟩:ai)}:aa) with Kids:=([]:List aa)}:aa)).bind λstrip=>(M.qg n strip).bind λvalid=>some valid else some false else some false
def M.dZ:List af->Str->Option Str
 | [],line1=>some line1
 | e :: es,line1=>(catC line1 ([32]:Str)).bind λv=>((idx e.Text 0).bind λb1=>if (b1.toNat:Int)=124 then some true else (idx e.Text 0).bind λb2=>some (decide ((b2.toNat:Int)=92))).bind λv1=>if v1 then (catC v ([92]:Str)).bind λv2=>(catC v2 e.Text).bind λv3=>M.dZ es v3 else (catC v e.Text).bind λv4=>M.dZ es v4
def M.ow(line:Str)(w:List af):Option Str:=(M.dZ w line).bind λline1=>some line1
def M.kQ(n:Nat)(u:aa)(depth:Int):Option Str:=(M.pQ n u depth).bind λmay=>if may=false then some ([]:Str) else (repeatM ([32,32]:Str) depth).bind λrepeat0_=>(M.oq u.Kind).bind λkindna=>(catC repeat0_ kindna).bind λv=>(if u.Kind≠0 then (catC ([32]:Str) u.Label).bind λv1=>(catC v v1).bind λv2=>some v2 else some v).bind λs0_=>(if 0 < (u.Head.length:Int) then (catC s0_ ([58]:Str)).bind λv3=>(M.ow v3 u.Head).bind λput=>some put else some s0_).bind λs0_1=>if 0 < (u.Words.length:Int) then (catC s0_1 ([32,124]:Str)).bind λv4=>(M.ow v4 u.Words).bind λput1=>some put1 else some s0_1
def M.dR(depth:Int)(slf:aa->Int->(List Str)->Option (List Str)):List aa->(List Str)->Option (List Str)
 | [],v=>some v
 | e :: es,v=>(addC depth 1).bind λv1=>(slf e v1 v).bind λw=>M.dR depth slf es w
def M.gD:Nat->aa->Int->(List Str)->Option (List Str)
 | 0,_,_,_=>none
 | n+1,u,depth,c=>(M.kQ n u depth).bind λformat=>(appC c [format]).bind λout=>(M.dR depth (M.gD n) u.Kids out).bind λv=>some v
def M.lQ(n:Nat)(u:aa):Option (List Str):=(M.lF n u).bind λstrip=>(M.qg n strip).bind λvalid=>if valid=false then some ([]:List Str) else (M.gD n u 0 []).bind λout=>some out
def M.fH(sep:Str):List Str->Str->Option Str
 | [],b2=>some b2
 | e1 :: es1,b2=>(appC b2 sep).bind λb3=>(appC b3 e1).bind λb4=>M.fH sep es1 b4
def M.jq:List Str->Int->Option Int
 | [],n0_1=>some n0_1
 | e :: es,n0_1=>(subC 9223372036854775807 n0_1).bind λv6=>if v6<(e.length:Int) then none else (addC n0_1 (e.length:Int)).bind λv7=>M.jq es v7
def M.strings_Join(elems:List Str)(sep:Str):Option Str:=if (elems.length:Int)=0 then some ([]:Str) else if (elems.length:Int)=1 then (idx elems 0).bind λv=>some v else (if 0 < (sep.length:Int) then ((subC (elems.length:Int) 1).bind λv1=>(quoC 9223372036854775807 v1).bind λv2=>if v2<=(sep.length:Int) then none else some ()).bind λ_=>(subC (elems.length:Int) 1).bind λv3=>(mulC (sep.length:Int) v3).bind λv4=>(addC 0 v4).bind λv5=>some v5 else some (0:Int)).bind λn0_=>(M.jq elems n0_).bind λn0_1=>(growC n0_1).bind λ_=>(idx elems 0).bind λv8=>(appC [] v8).bind λb1=>(slcLo elems 1).bind λv9=>(M.fH sep v9 b1).bind λb2=>some b2
def M.mO(n:Nat)(u:aa):Option (Str×Int):=(M.lQ n u).bind λlines=>if (lines.length:Int)=0 then some (([]:Str),(1:Int)) else (M.strings_Join lines ([10]:Str)).bind λjoin=>(catC join ([10]:Str)).bind λv=>if 16384 < (v.length:Int) then some (([]:Str),(6:Int)) else some (v,(0:Int))
def M.il(visit:aa->Option Bool)(slf:aa->(aa->Option Bool)->Option Bool):List aa->Option (Unit ⊕ Bool)
 | []=>some (.inl ())
 | e :: es=>(slf e visit).bind λevery=>if every=false then some (.inr false) else M.il visit slf es
def M.oO:Nat->aa->(aa->Option Bool)->Option Bool
 | 0,_,_=>none
 | n+1,u,visit=>(visit u).bind λv=>if v=false then some false else (M.il visit (M.oO n) u.Kids).bind λ
  | .inl _=>some true
  | .inr ret0=>some ret0
def M.aQ(s0_:List af)(f:af->Option Bool):Nat->Int->Option (Unit ⊕ Int)
 | 0,_=>none
 | n+1,v=>if v<(s0_.length:Int) then (idx s0_ v).bind λv1=>(f v1).bind λv2=>if v2 then some (.inr v) else M.aQ s0_ f n (v+1) else some (.inl ())
def M.fI(n:Nat)(s0_:List af)(f:af->Option Bool):Option Int:=(M.aQ s0_ f n 0).bind λ
 | .inl _=>some (-1:Int)
 | .inr ret0=>some ret0
def M.bC(n:Nat)(s0_:List af)(f:af->Option Bool):Option Bool:=(M.fI n s0_ f).bind λword=>some (decide (0<=word))
def M.lS(w:af):Option Bool:=some (decide (w.By≠(⟨(0:Int),(0:Int),(0:Int)⟩:kU)))
def M.pR(n:Nat)(x:aa):Option Bool:=if x.Id=(⟨(0:Int),(0:Int),(0:Int)⟩:ai) then (M.bC n x.Head (λs0=>M.lS s0)).bind λword=>if word=false then (M.bC n x.Words (λs0=>M.lS s0)).bind λword1=>some (!word1) else some false else some false
def M.rO(n:Nat)(u:aa):Option Bool:=(M.qg n u).bind λvalid=>if valid then (M.oO n u (λs0=>M.pR n s0)).bind λevery=>some every else some false
def M.rz(n:Nat)(u:aa):Option Bool:=(M.mO n u).bind λformat=>(M.rO n u).bind λisbare=>if isbare then if u.Kind≠0 then some (decide (format.2=0)) else some false else some false
def M.mP(n:Nat)(it:ag):Option Bool:=(M.pu it.Where).bind λwhere0_=>if where0_ then (M.rz n it.Unit).bind λisunit=>some isunit else some false
def M.oP(a:ag):Option ag:=some (⟨(0:Int),([]:List av),([]:List av),(0:Int),(0:Int),az,([]:List Str),([]:List Str),([]:Str),([]:Str),j5,(0:Int),(0:Int),(0:Int),([]:Str),([]:List ag)⟩:ag)
def M.oQ(a:ag):Option Bool:=some true
def M.oU(it:ag):Option ag:=some (⟨(0:Int),([]:List av),([]:List av),(0:Int),it.Nth,az,it.Old,it.New,([]:Str),([]:Str),j5,(0:Int),(0:Int),(0:Int),([]:Str),([]:List ag)⟩:ag)
def M.nH(n:Nat)(l:List Str)(least:Int):Option Bool:=(M.ou n l).bind λvalid=>if valid then some (decide (least<=(l.length:Int))) else some false
def M.qX(it:ag):Option Bool:=(M.ll it.Nth 0 256).bind λwithin=>some within
def M.mQ(n:Nat)(it:ag):Option Bool:=(M.nH n it.Old 1).bind λrow=>if row then (M.nH n it.New 0).bind λrow1=>if row1 then (M.qX it).bind λnth=>some nth else some false else some false
def M.oV(it:ag):Option ag:=some (⟨(0:Int),([]:List av),([]:List av),(0:Int),it.Nth,az,it.Old,it.New,([]:Str),([]:Str),j5,(0:Int),(0:Int),(0:Int),([]:Str),([]:List ag)⟩:ag)
def M.mR(n:Nat)(it:ag):Option Bool:=(M.nH n it.Old 0).bind λrow=>if row then (M.nH n it.New 1).bind λrow1=>if row1 then (M.qX it).bind λnth=>if nth then if 0 < (it.Old.length:Int) then some true else some (decide (it.Nth=0)) else some false else some false else some false
def M.oW(it:ag):Option ag:=some (⟨(0:Int),([]:List av),([]:List av),(0:Int),(0:Int),az,([]:List Str),it.New,([]:Str),([]:Str),j5,(0:Int),(0:Int),(0:Int),([]:Str),([]:List ag)⟩:ag)
def M.lT(n:Nat)(it:ag):Option Bool:=(M.nH n it.New 0).bind λrow=>some row
def M.nT(it:ag):Option ag:=some (⟨(0:Int),([]:List av),([]:List av),(0:Int),(0:Int),az,([]:List Str),([]:List Str),it.Label,([]:Str),j5,(0:Int),(0:Int),(0:Int),([]:Str),([]:List ag)⟩:ag)
def M.lU(n:Nat)(it:ag):Option Bool:=(M.oL n it.Label).bind λvalid=>some valid
def M.nU(it:ag):Option ag:=some (⟨(0:Int),([]:List av),it.To,it.Where,(0:Int),az,([]:List Str),([]:List Str),([]:Str),([]:Str),j5,(0:Int),(0:Int),(0:Int),([]:Str),([]:List ag)⟩:ag)
def M.lV(n:Nat)(it:ag):Option Bool:=(M.pu it.Where).bind λwhere0_=>if where0_ then (M.mh n it.To).bind λvalid=>some valid else some false
def M.p9(it:ag):Option ag:=some (⟨(0:Int),([]:List av),([]:List av),(0:Int),(0:Int),az,([]:List Str),([]:List Str),([]:Str),([]:Str),j5,(0:Int),(0:Int),it.Day,it.Event,([]:List ag)⟩:ag)
def M.eH(c:Int):Nat->Str->Option Str
 | 0,_=>none
 | n+1,s0_1=>if 0 < (s0_1.length:Int) then (subC (s0_1.length:Int) 1).bind λv=>(idx s0_1 v).bind λb=>if (b.toNat:Int)=c then (subC (s0_1.length:Int) 1).bind λv1=>(slcHi s0_1 v1).bind λv2=>M.eH c n v2 else some s0_1 else some s0_1
def M.strings_trimRightByte(n:Nat)(s0_:Str)(c:Int):Option Str:=(M.eH c n s0_).bind λs0_1=>some s0_1
def M.fu(c:Int):Nat->Str->Option Str
 | 0,_=>none
 | n+1,s0_1=>if 0 < (s0_1.length:Int) then (idx s0_1 0).bind λb=>if (b.toNat:Int)=c then (slcLo s0_1 1).bind λv=>M.fu c n v else some s0_1 else some s0_1
def M.strings_trimLeftByte(n:Nat)(s0_:Str)(c:Int):Option Str:=(M.fu c n s0_).bind λs0_1=>some s0_1
def M.cu(chars:Str):Nat->Int->(List Bool)->Option (((List Bool)) ⊕ ((List Bool)×Bool))
 | 0,_,_=>none
 | n+1,i,as0_=>if i<(chars.length:Int) then (idx chars i).bind λb1=>if 128<=(b1.toNat:Int) then some (.inr (as0_,false)) else (rngC 256 (b1.toNat:Int)).bind λ_=>M.cu chars n (i+1) (as0_.set (b1.toNat:Int).toNat true) else some (.inl as0_)
def M.strings_makeASCIISet(n:Nat)(chars:Str):Option ((List Bool)×Bool):=(M.cu chars n 0 (List.replicate 256 false)).bind λ
 | .inl as0_=>some (as0_,true)
 | .inr ret0=>some ret0
def M.fE(as0_:List Bool)(c:Int):Option Bool:=(idx as0_ c).bind λv=>some v
def M.bK(as0_:List Bool):Nat->Str->Option Str
 | 0,_=>none
 | n+1,s0_1=>if 0 < (s0_1.length:Int) then (subC (s0_1.length:Int) 1).bind λv=>(idx s0_1 v).bind λb=>(M.fE as0_ (b.toNat:Int)).bind λcontai=>if contai=false then some s0_1 else (subC (s0_1.length:Int) 1).bind λv1=>(slcHi s0_1 v1).bind λv2=>M.bK as0_ n v2 else some s0_1
def M.strings_trimRightASCII(n:Nat)(s0_:Str)(as0_:List Bool):Option Str:=(M.bK as0_ n s0_).bind λs0_1=>some s0_1
def M.dH(as0_:List Bool):Nat->Str->Option Str
 | 0,_=>none
 | n+1,s0_1=>if 0 < (s0_1.length:Int) then (idx s0_1 0).bind λb=>(M.fE as0_ (b.toNat:Int)).bind λcontai=>if contai=false then some s0_1 else (slcLo s0_1 1).bind λv=>M.dH as0_ n v else some s0_1
def M.strings_trimLeftASCII(n:Nat)(s0_:Str)(as0_:List Bool):Option Str:=(M.dH as0_ n s0_).bind λs0_1=>some s0_1
def M.qK(n:Nat)(s0_:Str)(cutset:Str):Option Str:=(if (s0_==([]:Str))=true then some true else some (cutset==([]:Str))).bind λv=>if v then some s0_ else (if (cutset.length:Int)=1 then (idx cutset 0).bind λb=>some (decide ((b.toNat:Int)< 128)) else some false).bind λv1=>if v1 then (idx cutset 0).bind λb1=>(M.strings_trimRightByte n s0_ (b1.toNat:Int)).bind λtrimri=>(idx cutset 0).bind λb2=>(M.strings_trimLeftByte n trimri (b2.toNat:Int)).bind λtrimle=>some trimle else (M.strings_makeASCIISet n cutset).bind λmakeas=>if makeas.2=true then (M.strings_trimRightASCII n s0_ makeas.1).bind λtrimri1=>(M.strings_trimLeftASCII n trimri1 makeas.1).bind λtrimle1=>some trimle1 else none
def M.lq(n:Nat)(s0_:Str):Option Bool:=(if (s0_.length:Int)< 1 then some true else if 16 < (s0_.length:Int) then some true else (idx s0_ 0).bind λb=>if (b.toNat:Int)< 97 then some true else (idx s0_ 0).bind λb1=>some (decide (122 < (b1.toNat:Int)))).bind λv=>if v then some false else (M.qK n s0_ ([97,98,99,100,101,102,103,104,105,106,107,108,109,110,111,112,113,114,115,116,117,118,119,120,121,122,48,49,50,51,52,53,54,55,56,57,45]:Str)).bind λtrim=>some (trim==([]:Str))
def M.qa(n:Nat)(it:ag):Option Bool:=(M.lq n it.Event).bind λisname=>if isname then (M.ll it.Day 0 1048576).bind λwithin=>some within else some false
def M.qb(it:ag):Option ag:=some (⟨(0:Int),([]:List av),([]:List av),(0:Int),(0:Int),az,([]:List Str),([]:List Str),([]:Str),([]:Str),j5,it.Act,it.Item,(0:Int),([]:Str),it.By⟩:ag)
def M.sw(n:Nat):Option (List (Int×eF)):=some (mset (mset (mset (mset (mset (mset (mset (mset (mset (mset (mset (mset ([]:List (Int×eF)) (0:Int) (⟨(λs0=>M.oN s0),(λs0=>M.mP n s0)⟩:eF)) 1 (⟨(λs0=>M.oP s0),(λs0=>M.oQ s0)⟩:eF)) 2 (⟨(λs0=>M.oU s0),(λs0=>M.mQ n s0)⟩:eF)) 3 (⟨(λs0=>M.oV s0),(λs0=>M.mR n s0)⟩:eF)) 4 (⟨(λs0=>M.oW s0),(λs0=>M.lT n s0)⟩:eF)) 5 (⟨(λs0=>M.nT s0),(λs0=>M.lU n s0)⟩:eF)) 6 (⟨(λs0=>M.nU s0),(λs0=>M.lV n s0)⟩:eF)) 7 gv0) 8 gv0) 9 gv0) 10 (⟨(λs0=>M.p9 s0),(λs0=>M.qa n s0)⟩:eF)) 11 (⟨(λs0=>M.qb s0),(λ_=>none)⟩:eF))
def M.oz(n:Nat)(s0_:fP):Option Bool:=(if s0_.Kind=0 then some (decide (s0_.Kind=0)) else some (decide (s0_.Kind=2))).bind λv=>if v then if s0_.Day=0 then some (s0_.Event==([]:Str)) else some false else if s0_.Kind=1 then (M.ll s0_.Day 0 1048576).bind λwithin=>if within then some (s0_.Event==([]:Str)) else some false else if s0_.Kind=3 then if s0_.Day=0 then (M.lq n s0_.Event).bind λisname=>some isname else some false else some false
def M.aZ(s1_:List av)(s2_:List av):Nat->Int->Option (Unit ⊕ Bool)
 | 0,_=>none
 | n+1,v=>if v<(s1_.length:Int) then (idx s1_ v).bind λv1=>(idx s2_ v).bind λv2=>if v1≠v2 then some (.inr false) else M.aZ s1_ s2_ n (v+1) else some (.inl ())
def M.dL(n:Nat)(s1_:List av)(s2_:List av):Option Bool:=if (s1_.length:Int)≠(s2_.length:Int) then some false else (M.aZ s1_ s2_ n 0).bind λ
 | .inl _=>some true
 | .inr ret0=>some ret0
def M.aK(s1_:List af)(s2_:List af):Nat->Int->Option (Unit ⊕ Bool)
 | 0,_=>none
 | n+1,v=>if v<(s1_.length:Int) then (idx s1_ v).bind λv1=>(idx s2_ v).bind λv2=>if v1≠v2 then some (.inr false) else M.aK s1_ s2_ n (v+1) else some (.inl ())
def M.bR(n:Nat)(s1_:List af)(s2_:List af):Option Bool:=if (s1_.length:Int)≠(s2_.length:Int) then some false else (M.aK s1_ s2_ n 0).bind λ
 | .inl _=>some true
 | .inr ret0=>some ret0
def M.aA(s2_:List aa)(eq:aa->aa->Option Bool):List aa->Int->Option (Unit ⊕ Bool)
 | [],_=>some (.inl ())
 | e :: es,i=>(idx s2_ i).bind λv=>(eq e v).bind λv1=>if v1=false then some (.inr false) else M.aA s2_ eq es (i+1)
def M.bn(s1_:List aa)(s2_:List aa)(eq:aa->aa->Option Bool):Option Bool:=if (s1_.length:Int)≠(s2_.length:Int) then some false else (M.aA s2_ eq s1_ 0).bind λ
 | .inl _=>some true
 | .inr ret0=>some ret0
def M.iB:Nat->aa->aa->Option Bool
 | 0,_,_=>none
 | n+1,a,b=>if a.Id=b.Id then if a.Kind=b.Kind then if (a.Label==b.Label)=true then (M.bR n a.Head b.Head).bind λword=>if word then (M.bR n a.Words b.Words).bind λword1=>if word1 then (M.bn a.Kids b.Kids (λs0 s1=>M.iB n s0 s1)).bind λunit=>some unit else some false else some false else some false else some false else some false
def M.aN(s2_:List ag)(eq:ag->ag->Option Bool):List ag->Int->Option (Unit ⊕ Bool)
 | [],_=>some (.inl ())
 | e :: es,i=>(idx s2_ i).bind λv=>(eq e v).bind λv1=>if v1=false then some (.inr false) else M.aN s2_ eq es (i+1)
def M.bU(s1_:List ag)(s2_:List ag)(eq:ag->ag->Option Bool):Option Bool:=if (s1_.length:Int)≠(s2_.length:Int) then some false else (M.aN s2_ eq s1_ 0).bind λ
 | .inl _=>some true
 | .inr ret0=>some ret0
def M.pE:Nat->ag->ag->Option Bool
 | 0,_,_=>none
 | n+1,a,b=>(if a.Kind=b.Kind then if a.Where=b.Where then if a.Nth=b.Nth then if a.Act=b.Act then if a.Item=b.Item then some (decide (a.Day=b.Day)) else some false else some false else some false else some false else some false).bind λnumbers=>(if (a.Label==b.Label)=true then if (a.For==b.For)=true then if (a.Event==b.Event)=true then some (decide (a.Start=b.Start)) else some false else some false else some false).bind λtexts=>((M.dL n a.At b.At).bind λstep=>if step then (M.dL n a.To b.To).bind λstep1=>if step1 then (M.dB n a.Old b.Old).bind λstring=>if string then (M.dB n a.New b.New).bind λstring1=>some string1 else some false else some false else some false).bind λrows=>if numbers then if texts then if rows then (M.iB n a.Unit b.Unit).bind λequal=>if equal then (M.bU a.By b.By (λs0 s1=>M.pE n s0 s1)).bind λitem=>some item else some false else some false else some false else some false
def M.kG(n:Nat)(it:ag):Option Bool:=(M.sw n).bind λrules=>if ((mget rules it.Kind nz,mhas rules it.Kind).2)=false then some false else (((mget rules it.Kind nz,mhas rules it.Kind).1).has_ it).bind λv=>(((M.gJ it.Kind).bind λisamen=>if isamen then (M.mh n it.At).bind λvalid=>if valid=false then some (.inr false) else if (it.For !=([]:Str))=true then (M.lq n it.For).bind λisname=>if isname=false then some (.inr false) else (M.oz n it.Start).bind λbegins=>if begins=false then some (.inr false) else some (.inl ({({({({v with Kind:=it.Kind}:ag) with At:=it.At}:ag) with For:=it.For}:ag) with Start:=it.Start}:ag)) else (M.oz n it.Start).bind λbegins1=>if begins1=false then some (.inr false) else some (.inl ({({({({v with Kind:=it.Kind}:ag) with At:=it.At}:ag) with For:=it.For}:ag) with Start:=it.Start}:ag)) else some (.inl ({v with Kind:=it.Kind}:ag))):Option (ag ⊕ Bool)).bind λ
 | .inl just=>(M.pE n it just).bind λequal=>if equal then (((mget rules it.Kind nz,mhas rules it.Kind).1).may_ it).bind λv1=>some v1 else some false
 | .inr ret0=>some ret0
def M.dS(n:Nat)(u:aa)(d:ak):Option (aa×Int):=(M.uy n).bind λdoers=>(if ((mget doers d.It.Kind (λ_ _ _=>none:aa->aa->ak->Option (aa×Int)),mhas doers d.It.Kind).2)=false then some true else (M.kG n d.It).bind λvalid=>some (!valid)).bind λv=>if v then some (u,(1:Int)) else (M.dM n u d.It.At).bind λfindon=>if findon.2≠0 then some (u,findon.2) else (M.j6 n u findon.1).bind λfind=>(if findon.1≠u.Id then some true else some (decide (d.It.Kind=0))).bind λv1=>if v1 then ((mget doers d.It.Kind (λ_ _ _=>none:aa->aa->ak->Option (aa×Int)),mhas doers d.It.Kind).1 u find.1 d).bind λv2=>some (v2.1,v2.2) else if d.It.Kind=6 then (M.dM n u d.It.To).bind λfindon1=>if findon1.2≠0 then some (u,findon1.2) else some (u,(9:Int)) else some (u,(9:Int))
def M.cZ(n:Nat):List ak->(List iC)->aa->Option ((List iC)×aa)
 | [],misses,u1=>some (misses,u1)
 | e :: es,misses,u1=>(M.gJ e.It.Kind).bind λisamen=>if isamen=false then M.cZ n es misses u1 else (M.dS n u1 e).bind λapply0_=>if apply0_.2≠0 then (appC misses [(⟨e.Act,e.Item,apply0_.2⟩:iC)]).bind λmisses1=>M.cZ n es misses1 apply0_.1 else M.cZ n es misses apply0_.1
def M.qL(n:Nat)(u:aa)(l:List ak):Option (aa×(List iC)):=(M.cZ n l [] u).bind λ(misses,u1)=>some (u1,misses)
def M.dJ(a:aS):List ag->Int->(List ak)->Option (List ak)
 | [],_,l=>some l
 | e :: es,i,l=>(appC l [(⟨a.Number,i,a.Day,e⟩:ak)]).bind λl1=>M.dJ a es (i+1) l1
def M.oZ(n:Nat)(u:aa)(a:aS):Option (aa×(List iC)):=(M.dJ a a.Items 0 []).bind λl=>(M.qL n u l).bind λapplya=>some (applya.1,applya.2)
def M.gp(n:Nat)(l:List aS):List Int->aa->Option aa
 | [],u1=>some u1
 | e :: es,u1=>(idx l e).bind λv=>(M.oZ n u1 v).bind λapplya=>M.gp n l es applya.1
def M.oC(n:Nat)(u:aa)(order:List Int)(l:List aS):Option aa:=(M.gp n l order u).bind λu1=>some u1
def M.gq(n:Nat)(u:aa)(l:List aS):List (List Int)->(List aa)->Option (List aa)
 | [],books=>some books
 | e :: es,books=>(M.oC n u e l).bind λbook=>(appC books [book]).bind λbooks1=>M.gq n u l es books1
def M.mi(n:Nat)(u:aa)(l:List aS):Option ((List (List Int))×(List aa)):=(M.mH n (l.length:Int)).bind λgiven=>(M.kS n (l.length:Int) [] given).bind λorders=>(M.gq n u l orders []).bind λbooks=>some (orders,books)
def M.cmp_isNaN_int(x:Int):Option Bool:=some (decide (x≠x))
def M.cmp_Compare_int(x:Int)(y:Int):Option Int:=(M.cmp_isNaN_int x).bind λint=>(M.cmp_isNaN_int y).bind λint1=>if int then if int1 then some (0:Int) else some (-1:Int) else if int1 then some (1:Int) else if x<y then some (-1:Int) else if y<x then some (1:Int) else some (0:Int)
def M.df(s2_:List Int):List Int->Int->Option (Unit ⊕ Int)
 | [],_=>some (.inl ())
 | e :: es,i=>if (s2_.length:Int)<=i then some (.inr (1:Int)) else (idx s2_ i).bind λv=>(M.cmp_Compare_int e v).bind λint=>if int≠0 then some (.inr int) else M.df s2_ es (i+1)
def M.iq(s1_:List Int)(s2_:List Int):Option Int:=(M.df s2_ s1_ 0).bind λ
 | .inl _=>if (s1_.length:Int)< (s2_.length:Int) then some (-1:Int) else some (0:Int)
 | .inr ret0=>some ret0
def M.di(n:Nat)(all:List (List Int))(books:List aa)(is:List Bool):List (List Int)->Int->Option (Unit ⊕ Bool)
 | [],_=>some (.inl ())
 | e :: es,i=>(idx all 0).bind λv=>(M.lv n e v is).bind λkeeps=>if keeps then (idx books i).bind λv1=>(idx books 0).bind λv2=>(M.iB n v1 v2).bind λequal=>if equal=false then some (.inr false) else M.di n all books is es (i+1) else M.di n all books is es (i+1)
def M.lW(n:Nat)(all:List (List Int))(books:List aa)(is:List Bool):Option Bool:=(M.di n all books is all 0).bind λ
 | .inl _=>some true
 | .inr ret0=>some ret0
def M.bq(l:List aS)(v1:Int):Nat->(List Int)->Int->Option (List Int)
 | 0,_,_=>none
 | n+1,row,v2=>if v2<(l.length:Int) then (shrI v1 v2).bind λv3=>if andI v3 (1:Int)=1 then (appC row [v2]).bind λrow1=>M.bq l v1 n row1 (v2+1) else M.bq l v1 n row (v2+1) else some row
def M.bD(l:List aS)(rows:(List (List Int))×(List aa))(v:Int):Nat->(List Int)->Bool->Int->Option (List Int)
 | 0,_,_,_=>none
 | n+1,best,found,v1=>if v1<v then (M.bq l v1 n [] 0).bind λrow=>(if found=false then some true else if (row.length:Int)< (best.length:Int) then some true else if (row.length:Int)=(best.length:Int) then (M.iq row best).bind λint=>some (decide (int<0)) else some false).bind λahead=>if ahead then (M.kF row).bind λkept=>(M.lW n rows.1 rows.2 kept).bind λenough=>if enough then (addC v1 1).bind λv4=>M.bD l rows v n row true v4 else (addC v1 1).bind λv5=>M.bD l rows v n best found v5 else (addC v1 1).bind λv6=>M.bD l rows v n best found v6 else some best
def M.mU(n:Nat)(u:aa)(l:List aS):Option ((List Int)×Int):=if 5 < (l.length:Int) then some (([]:List Int),(6:Int)) else (M.mi n u l).bind λrows=>(shlI (1:Int) (l.length:Int)).bind λv=>(M.bD l rows v n [] false 0).bind λbest=>some (best,(0:Int))
def M.jY(n:Nat)(u:aa)(keep:List Int)(l:List aS):Option Bool:=if 5 < (l.length:Int) then some false else (M.mi n u l).bind λrows=>(M.kF keep).bind λkept=>(M.lW n rows.1 rows.2 kept).bind λenough=>some enough
def M.jd(a:aS):Nat->(List ak)->Int->Option (List ak)
 | 0,_,_=>none
 | n+1,l,i=>if i<(a.Items.length:Int) then (idx a.Items i).bind λv=>(appC l [(⟨a.Number,i,a.Day,v⟩:ak)]).bind λout=>M.jd a n out (i+1) else some l
def M.u6(n:Nat)(a:aS):Option (List ak):=(M.jd a n [] 0).bind λl=>some l
def M.nI(kind:Int):Option Bool:=if 0<=kind then some (decide (kind<=6)) else some false
def M.qh(n:Nat)(d:ak):Option Bool:=(M.nI d.It.Kind).bind λchange=>if change then (M.mq n d.It).bind λmay=>some may else some false
def M.je(u:aa)(slf:aa->Option (List aa)):Nat->(List aa)->Int->Option (List aa)
 | 0,_,_=>none
 | n+1,out,i=>if i<(u.Kids.length:Int) then (idx u.Kids i).bind λv=>(slf v).bind λevery=>(appC out every).bind λout1=>M.je u slf n out1 (i+1) else some out
def M.mV:Nat->aa->Option (List aa)
 | 0,_=>none
 | n+1,u=>(M.je u (M.mV n) n [u] 0).bind λout=>some out
def M.zV(u:aa)(s0_:av):Option Bool:=if u.Kind=s0_.Kind then some (u.Label==s0_.Label) else some false
def M.gU(p:List av)(every:List aa):Nat->(List aa)->Int->Option (List aa)
 | 0,_,_=>none
 | n+1,now1,i=>if i<(every.length:Int) then (idx every i).bind λv1=>(idx p 0).bind λv2=>(M.zV v1 v2).bind λat0_=>if at0_ then (idx every i).bind λv3=>(appC now1 [v3]).bind λout1=>M.gU p every n out1 (i+1) else M.gU p every n now1 (i+1) else some now1
def M.gV(p:List av)(now2:List aa)(k5:Int)(i1:Int):Nat->(List aa)->Int->Option (List aa)
 | 0,_,_=>none
 | n+1,next1,j=>(idx now2 i1).bind λv4=>if j<(v4.Kids.length:Int) then (idx now2 i1).bind λv5=>(idx v5.Kids j).bind λv6=>(idx p k5).bind λv7=>(M.zV v6 v7).bind λat0_1=>if at0_1 then (idx now2 i1).bind λv8=>(idx v8.Kids j).bind λv9=>(appC next1 [v9]).bind λout2=>M.gV p now2 k5 i1 n out2 (j+1) else M.gV p now2 k5 i1 n next1 (j+1) else some next1
def M.jf(p:List av)(now2:List aa)(k5:Int):Nat->(List aa)->Int->Option (List aa)
 | 0,_,_=>none
 | n+1,next,i1=>if i1<(now2.length:Int) then (M.gV p now2 k5 i1 n next 0).bind λnext1=>(addC i1 1).bind λv10=>M.jf p now2 k5 n next1 v10 else some next
def M.jg(p:List av):Nat->(List aa)->Int->Option (List aa)
 | 0,_,_=>none
 | n+1,now2,k5=>if k5<(p.length:Int) then (M.jf p now2 k5 n [] 0).bind λnext=>(addC k5 1).bind λv11=>M.jg p n next v11 else some now2
def M.u7(n:Nat)(u:aa)(p:List av):Option (List aa):=(M.uw n p).bind λmay=>if may=false then some ([]:List aa) else if (p.length:Int)=0 then some [u] else ((idx p 0).bind λv=>(M.uX v).bind λbook=>if book then (appC [] [u]).bind λout=>some out else (M.mV n u).bind λevery=>(M.gU p every n [] 0).bind λnow1=>some now1).bind λnow=>(M.jg p n now 1).bind λnow2=>some now2
def M.jP(units:List aa):Nat->(List ai)->Int->Option (List ai)
 | 0,_,_=>none
 | n+1,out,i=>if i<(units.length:Int) then (idx units i).bind λv=>(appC out [v.Id]).bind λout1=>M.jP units n out1 (i+1) else some out
def M.wH(n:Nat)(u:aa)(p:List av):Option (List ai):=(M.u7 n u p).bind λunits=>(M.jP units n [] 0).bind λout=>some out
def M.uz(n:Nat)(u:aa)(p:List av):Option (ai×Int):=(M.wH n u p).bind λfind=>if (find.length:Int)=0 then some ((⟨(0:Int),(0:Int),(0:Int)⟩:ai),(7:Int)) else if 1 < (find.length:Int) then some ((⟨(0:Int),(0:Int),(0:Int)⟩:ai),(8:Int)) else (idx find 0).bind λv=>some (v,(0:Int))
def M.gW(u:aa)(id:ai)(slf:aa->ai->Option (aa×Int)):Nat->Int->aa->Option (aa ⊕ (aa×Int))
 | 0,_,_=>none
 | n+1,i,v=>if i<(u.Kids.length:Int) then (idx u.Kids i).bind λv1=>(slf v1 id).bind λget=>if 0<=get.2 then (addC get.2 1).bind λv2=>some (.inr (get.1,v2)) else M.gW u id slf n (i+1) v else some (.inl v)
def M.jh:Nat->aa->ai->Option (aa×Int)
 | 0,_,_=>none
 | n+1,u,id=>if u.Id=id then some (u,(0:Int)) else (M.gW u id (M.jh n) n 0 az).bind λ
  | .inl v=>some ((⟨aO,(0:Int),([]:Str),([]:List af),([]:List af),([]:List aa)⟩:aa),(-1:Int))
  | .inr ret0=>some ret0
def M.ed(u:aa)(id:ai)(slf:aa->ai->Option (aa×Int×Int)):Nat->Int->aa->Option (aa ⊕ (aa×Int×Int))
 | 0,_,_=>none
 | n+1,i1,v2=>if i1<(u.Kids.length:Int) then (idx u.Kids i1).bind λv3=>(slf v3 id).bind λparent=>if 0<=parent.2.2 then (addC parent.2.1 1).bind λv4=>some (.inr (parent.1,v4,parent.2.2)) else M.ed u id slf n (i1+1) v2 else some (.inl v2)
def M.eu(u:aa)(id:ai):Nat->Int->aa->Option (aa ⊕ (aa×Int×Int))
 | 0,_,_=>none
 | n+1,i,v=>if i<(u.Kids.length:Int) then (idx u.Kids i).bind λv1=>if v1.Id=id then some (.inr (u,(0:Int),i)) else M.eu u id n (i+1) v else some (.inl v)
def M.gy:Nat->aa->ai->Option (aa×Int×Int)
 | 0,_,_=>none
 | n+1,u,id=>(M.eu u id n 0 az).bind λ
  | .inl v=>(M.ed u id (M.gy n) n 0 v).bind λ
   | .inl v2=>some ((⟨aO,(0:Int),([]:Str),([]:List af),([]:List af),([]:List aa)⟩:aa),(0:Int),(-1:Int))
   | .inr ret0=>some ret0
  | .inr ret0=>some ret0
def M.ji(l:List af):Nat->(List Str)->Int->Option (List Str)
 | 0,_,_=>none
 | n+1,w,i=>if i<(l.length:Int) then (idx l i).bind λv=>(appC w [v.Text]).bind λout=>M.ji l n out (i+1) else some w
def M.sP(n:Nat)(l:List af):Option (List Str):=(M.ji l n [] 0).bind λw=>some w
def M.jQ(l:List Str)(act:Int)(item:Int)(from0_:Int):Nat->(List af)->Int->Option (List af)
 | 0,_,_=>none
 | n+1,w,i=>if i<(l.length:Int) then (idx l i).bind λv=>(addC from0_ i).bind λv1=>(appC w [(⟨v,(⟨act,item,v1⟩:kU)⟩:af)]).bind λout=>M.jQ l act item from0_ n out (i+1) else some w
def M.pU(n:Nat)(l:List Str)(act:Int)(item:Int)(from0_:Int):Option (List af):=(M.jQ l act item from0_ n [] 0).bind λw=>some w
def M.jk(u:aa)(act:Int)(item:Int)(n0_:Int)(mark:List af)(mark1:List af)(slf:aa->Int->Int->Int->Int->Option (aa×Int×Int)):Nat->Int->Int->(List aa)->Int->Option (Int×Int×(List aa))
 | 0,_,_,_,_=>none
 | n+1,n0_1,m0_1,kids,i=>if i<((({({({u with Id:=(⟨act,item,n0_⟩:ai)}:aa) with Head:=mark}:aa) with Words:=mark1}:aa).Kids).length:Int) then (idx (({({({u with Id:=(⟨act,item,n0_⟩:ai)}:aa) with Head:=mark}:aa) with Words:=mark1}:aa).Kids) i).bind λv3=>(slf v3 act item n0_1 m0_1).bind λstamp=>(appC kids [stamp.1]).bind λout=>M.jk u act item n0_ mark mark1 slf n stamp.2.1 stamp.2.2 out (i+1) else some (n0_1,m0_1,kids)
def M.qB:Nat->aa->Int->Int->Int->Int->Option (aa×Int×Int)
 | 0,_,_,_,_,_=>none
 | n+1,u,act,item,n0_,m0_=>(addC n0_ 1).bind λv=>(M.sP n (({u with Id:=(⟨act,item,n0_⟩:ai)}:aa).Head)).bind λtexts=>(M.pU n texts act item m0_).bind λmark=>(addC m0_ ((({({u with Id:=(⟨act,item,n0_⟩:ai)}:aa) with Head:=mark}:aa).Head).length:Int)).bind λv1=>(M.sP n (({({u with Id:=(⟨act,item,n0_⟩:ai)}:aa) with Head:=mark}:aa).Words)).bind λtexts1=>(M.pU n texts1 act item v1).bind λmark1=>(addC v1 ((({({({u with Id:=(⟨act,item,n0_⟩:ai)}:aa) with Head:=mark}:aa) with Words:=mark1}:aa).Words).length:Int)).bind λv2=>(M.jk u act item n0_ mark mark1 (M.qB n) n v v2 [] 0).bind λ(n0_1,m0_1,kids)=>some (({({({({u with Id:=(⟨act,item,n0_⟩:ai)}:aa) with Head:=mark}:aa) with Words:=mark1}:aa) with Kids:=kids}:aa),n0_1,m0_1)
def M.ve(n:Nat)(u:aa)(act:Int)(item:Int):Option aa:=(M.qB n u act item 1 0).bind λstamp=>some stamp.1
def M.gY(l:List aa)(kind:Int)(label:Str):Nat->Int->Option (Unit ⊕ Bool)
 | 0,_=>none
 | n+1,i=>if i<(l.length:Int) then (idx l i).bind λv=>if v.Kind=kind then (idx l i).bind λv1=>if (v1.Label==label)=true then some (.inr true) else M.gY l kind label n (i+1) else M.gY l kind label n (i+1) else some (.inl ())
def M.qY(n:Nat)(l:List aa)(kind:Int)(label:Str):Option Bool:=(M.gY l kind label n 0).bind λ
 | .inl _=>some false
 | .inr ret0=>some ret0
def M.iO(u:aa)(slf:aa->Option Int):Nat->Int->Int->Option Int
 | 0,_,_=>none
 | n+1,n0_,i=>if i<(u.Kids.length:Int) then (idx u.Kids i).bind λv=>(slf v).bind λdeep=>(addC 1 deep).bind λv1=>if n0_<v1 then M.iO u slf n v1 (i+1) else M.iO u slf n n0_ (i+1) else some n0_
def M.o5:Nat->aa->Option Int
 | 0,_=>none
 | n+1,u=>(M.iO u (M.o5 n) n 0 0).bind λn0_=>some n0_
def M.vH(l:List aa)(at0_:Int)(x:aa):Option (List aa):=(slcHi l at0_).bind λv=>(appC [] v).bind λout=>(appC out [x]).bind λout1=>(slcLo l at0_).bind λv1=>(appC out1 v1).bind λout2=>some out2
def M.jR(u:aa)(x:aa)(slf:aa->aa->Option aa):Nat->(List aa)->Int->Option (List aa)
 | 0,_,_=>none
 | n+1,kids,i=>if i<(u.Kids.length:Int) then (idx u.Kids i).bind λv=>(slf v x).bind λwith0_=>(appC kids [with0_]).bind λout=>M.jR u x slf n out (i+1) else some kids
def M.kV:Nat->aa->aa->Option aa
 | 0,_,_=>none
 | n+1,u,x=>if u.Id=x.Id then some x else (M.jR u x (M.kV n) n [] 0).bind λkids=>some ({u with Kids:=kids}:aa)
def M.eB(u:aa)(every:List aa):Nat->Int->aa->Option (aa ⊕ (aa×Int))
 | 0,_,_=>none
 | n+1,i,v6=>if i<(every.length:Int) then (idx every i).bind λv7=>(M.jh n u v7.Id).bind λget1=>if 0<=get1.2 then some (.inr (u,(5:Int))) else M.eB u every n (i+1) v6 else some (.inl v6)
def M.kg(n:Nat)(u:aa)(id:ai)(d:ak):Option (aa×Int):=(M.jh n u id).bind λget=>(if d.It.Where=0 then some (0:Int) else some (get.1.Kids.length:Int)).bind λk=>(((if d.It.Where=2 then some true else some (decide (d.It.Where=3))).bind λv1=>if v1 then if id=u.Id then some (.inr (u,(9:Int))) else (M.gy n u id).bind λparent=>if d.It.Where=2 then (addC parent.2.2 1).bind λv2=>some (.inl (parent.2.1,v2,az,parent.1)) else some (.inl (parent.2.1,parent.2.2,az,parent.1)) else some (.inl (get.2,k,az,get.1))):Option ((Int×Int×aa×aa) ⊕ (aa×Int))).bind λ
 | .inl (deep,k1,v,p)=>(M.ve n d.It.Unit d.Act d.Item).bind λstamp=>(M.qx p.Kind stamp.Kind).bind λnests=>if nests=false then some (u,(9:Int)) else (M.qY n p.Kids stamp.Kind stamp.Label).bind λtaken=>if taken then some (u,(10:Int)) else if 64<=(p.Kids.length:Int) then some (u,(6:Int)) else (addC deep 1).bind λv3=>(M.o5 n stamp).bind λdeep1=>(addC v3 deep1).bind λv4=>if 8 < v4 then some (u,(6:Int)) else (M.lJ n u).bind λcount=>(M.lJ n stamp).bind λcount1=>(addC count count1).bind λv5=>if 1024 < v5 then some (u,(6:Int)) else (M.mV n stamp).bind λevery=>(M.eB u every n 0 v).bind λ
  | .inl v6=>(M.vH p.Kids k1 stamp).bind λin0_=>(M.kV n u ({p with Kids:=in0_}:aa)).bind λwith0_=>some (with0_,(0:Int))
  | .inr ret0=>some ret0
 | .inr ret0=>some ret0
def M.qM(l:List aa)(at0_:Int):Option (List aa):=(slcHi l at0_).bind λv=>(appC [] v).bind λout=>(addC at0_ 1).bind λv1=>(slcLo l v1).bind λv2=>(appC out v2).bind λout1=>some out1
def M.kX(l:List aa)(id:ai):Nat->Int->Option (Unit ⊕ Int)
 | 0,_=>none
 | n+1,i=>if i<(l.length:Int) then (idx l i).bind λv=>if v.Id=id then some (.inr i) else M.kX l id n (i+1) else some (.inl ())
def M.yE(n:Nat)(l:List aa)(id:ai):Option Int:=(M.kX l id n 0).bind λ
 | .inl _=>some (-1:Int)
 | .inr ret0=>some ret0
def M.ma(n:Nat)(u:aa)(id:ai)(d:ak):Option (aa×Int):=(M.uz n u d.It.To).bind λone=>if one.2≠0 then some (u,one.2) else (if d.It.Where=2 then some true else some (decide (d.It.Where=3))).bind λbeside=>(M.jh n u id).bind λget=>(M.jh n get.1 one.1).bind λget1=>(if id=u.Id then some true else if beside then if one.1=u.Id then some true else if 0 < get1.2 then some true else if get1.2=0 then some (!beside) else some false else if 0 < get1.2 then some true else if get1.2=0 then some (!beside) else some false).bind λv=>if v then some (u,(9:Int)) else (M.jh n u one.1).bind λget2=>(if beside then (M.gy n u one.1).bind λparent=>some (parent.2.1,parent.1) else some (get2.2,get2.1)).bind λ(deep,p)=>(M.qx p.Kind get.1.Kind).bind λnests=>if nests=false then some (u,(9:Int)) else (M.gy n u id).bind λparent1=>(if parent1.1.Id=p.Id then (M.qM p.Kids parent1.2.2).bind λout=>some out else some p.Kids).bind λkids=>(M.qY n kids get.1.Kind get.1.Label).bind λtaken=>if taken then some (u,(10:Int)) else (if 64<=(kids.length:Int) then some true else (addC deep 1).bind λv2=>(M.o5 n get.1).bind λdeep1=>(addC v2 deep1).bind λv3=>some (decide (8 < v3))).bind λv1=>if v1 then some (u,(6:Int)) else if one.1=id then some (u,(0:Int)) else (M.qM parent1.1.Kids parent1.2.2).bind λout1=>(M.kV n u ({parent1.1 with Kids:=out1}:aa)).bind λwith0_=>(M.jh n with0_ p.Id).bind λget3=>(if d.It.Where=0 then some (0:Int) else some (get3.1.Kids.length:Int)).bind λk=>(if beside then (M.yE n get3.1.Kids one.1).bind λat0_=>if d.It.Where=2 then (addC at0_ 1).bind λv4=>some v4 else some at0_ else some k).bind λk1=>(M.vH get3.1.Kids k1 get.1).bind λin0_=>(M.kV n with0_ ({get3.1 with Kids:=in0_}:aa)).bind λwith0_1=>some (with0_1,(0:Int))
def M.iw(w:List af)(k:Int)(row:List Str):Nat->Int->Option (Unit ⊕ Bool)
 | 0,_=>none
 | n+1,i=>if i<(row.length:Int) then (addC k i).bind λv1=>(idx w v1).bind λv2=>(idx row i).bind λv3=>if (v2.Text !=v3)=true then some (.inr false) else M.iw w k row n (i+1) else some (.inl ())
def M.tH(n:Nat)(w:List af)(k:Int)(row:List Str):Option Bool:=(addC k (row.length:Int)).bind λv=>if (w.length:Int)< v then some false else (M.iw w k row n 0).bind λ
 | .inl _=>some true
 | .inr ret0=>some ret0
def M.eD(w:List af)(row:List Str):Nat->(List Int)->Int->Option (List Int)
 | 0,_,_=>none
 | n+1,l,i=>if i<(w.length:Int) then (M.tH n w i row).bind λbegins=>if begins then (appC l [i]).bind λout=>(addC i (row.length:Int)).bind λv=>M.eD w row n out v else M.eD w row n l (i+1) else some l
def M.qi(n:Nat)(w:List af)(row:List Str):Option (List Int):=(M.eD w row n [] 0).bind λl=>some l
def M.fK(w:List af)(it:ag)(act:Int)(item:Int)(places:List Int):Nat->(List af)->Int->Int->Int->Option ((List af)×Int)
 | 0,_,_,_,_=>none
 | n+1,l,from0_,m0_,i=>if i<(places.length:Int) then (if it.Nth≠0 then some (decide (it.Nth≠i+1)) else some false).bind λv2=>if v2 then M.fK w it act item places n l from0_ m0_ (i+1) else (idx places i).bind λv3=>(slc w from0_ v3).bind λv4=>(appC l v4).bind λout1=>(idx places i).bind λv5=>(addC v5 (it.Old.length:Int)).bind λv6=>(if it.Kind=3 then (idx places i).bind λv7=>(slc w v7 v6).bind λv8=>(appC out1 v8).bind λout2=>some out2 else some out1).bind λl1=>(M.pU n it.New act item m0_).bind λmark1=>(appC l1 mark1).bind λout3=>(addC m0_ (it.New.length:Int)).bind λv9=>M.fK w it act item places n out3 v6 v9 (i+1) else some (l,from0_)
def M.o6(n:Nat)(w:List af)(it:ag)(act:Int)(item:Int):Option ((List af)×Int):=(if it.Kind=3 then some (decide ((it.Old.length:Int)=0)) else some false).bind λv=>if v then (M.pU n it.New act item 0).bind λmark=>(appC mark w).bind λout=>if 256 < (out.length:Int) then some (([]:List af),(6:Int)) else some (out,(0:Int)) else (M.qi n w it.Old).bind λplaces=>(if (places.length:Int)=0 then some true else some (decide ((places.length:Int)< it.Nth))).bind λv1=>if v1 then some (([]:List af),(4:Int)) else (M.fK w it act item places n [] 0 0 0).bind λ(l,from0_)=>(slcLo w from0_).bind λv10=>(appC l v10).bind λout4=>if 256 < (out4.length:Int) then some (([]:List af),(6:Int)) else some (out4,(0:Int))
def M.nJ(n:Nat)(u:aa)(d:ak):Option (aa×Int):=((M.nI d.It.Kind).bind λchange=>if change=false then some true else (M.mq n d.It).bind λmay=>some (!may)).bind λv=>if v then some (u,(1:Int)) else (M.uz n u d.It.At).bind λone=>if one.2≠0 then some (u,one.2) else if d.It.Kind=0 then (M.kg n u one.1 d).bind λinsert=>some (insert.1,insert.2) else if d.It.Kind=6 then (M.ma n u one.1 d).bind λmove=>some (move.1,move.2) else if one.1=u.Id then some (u,(9:Int)) else (M.jh n u one.1).bind λget=>(M.gy n u one.1).bind λparent=>((if d.It.Kind=1 then (M.qM parent.1.Kids parent.2.2).bind λout=>(M.kV n u ({parent.1 with Kids:=out}:aa)).bind λwith0_=>some (.inr (with0_,(0:Int))) else (if d.It.Kind=2 then some (decide (d.It.Kind=2)) else some (decide (d.It.Kind=3))).bind λv2=>if v2 then (M.o6 n get.1.Words d.It d.Act d.Item).bind λedit=>if edit.2≠0 then some (.inr (u,edit.2)) else some (.inl (az,({get.1 with Words:=edit.1}:aa),parent.1)) else if d.It.Kind=4 then (M.pU n d.It.New d.Act d.Item 0).bind λmark=>some (.inl (az,({get.1 with Head:=mark}:aa),parent.1)) else if d.It.Kind=5 then (M.qY n parent.1.Kids get.1.Kind d.It.Label).bind λtaken=>if taken then some (.inr (u,(10:Int))) else some (.inl (az,({get.1 with Label:=d.It.Label}:aa),parent.1)) else some (.inl (az,get.1,parent.1))):Option ((aa×aa×aa) ⊕ (aa×Int))).bind λ
 | .inl (v1,x,p)=>(M.kV n u x).bind λwith0_1=>some (with0_1,(0:Int))
 | .inr ret0=>some ret0
def M.fM(l:List ak):Nat->Int->aa->Option aa
 | 0,_,_=>none
 | n+1,i,u1=>if i<(l.length:Int) then (idx l i).bind λv=>(M.qh n v).bind λcounts=>if counts then (idx l i).bind λv1=>(M.nJ n u1 v1).bind λdo0_=>M.fM l n (i+1) do0_.1 else M.fM l n (i+1) u1 else some u1
def M.zl(n:Nat)(u:aa)(l:List ak):Option aa:=(M.fM l n 0 u).bind λu1=>some u1
def M.zm(n:Nat)(u:aa)(a:aS):Option aa:=(M.u6 n a).bind λdeeds=>(M.zl n u deeds).bind λdone=>some done
def M.dw(l:List aS)(order:List Int):Nat->Int->aa->Option aa
 | 0,_,_=>none
 | n+1,i,u1=>if i<(order.length:Int) then (idx order i).bind λv=>(idx l v).bind λv1=>(M.zm n u1 v1).bind λact=>M.dw l order n (i+1) act else some u1
def M.jr(n:Nat)(u:aa)(l:List aS)(order:List Int):Option aa:=(M.dw l order n 0 u).bind λu1=>some u1
def M.jl(a:List af)(b:List af):Nat->Int->Option (Unit ⊕ Bool)
 | 0,_=>none
 | n+1,i=>if i<(a.length:Int) then (idx a i).bind λv=>(idx b i).bind λv1=>if v≠v1 then some (.inr false) else M.jl a b n (i+1) else some (.inl ())
def M.sQ(n:Nat)(a:List af)(b:List af):Option Bool:=if (a.length:Int)≠(b.length:Int) then some false else (M.jl a b n 0).bind λ
 | .inl _=>some true
 | .inr ret0=>some ret0
def M.jS(a:aa)(b:aa)(slf:aa->aa->Option Bool):Nat->Int->Option (Unit ⊕ Bool)
 | 0,_=>none
 | n+1,i=>if i<(a.Kids.length:Int) then (idx a.Kids i).bind λv1=>(idx b.Kids i).bind λv2=>(slf v1 v2).bind λsame=>if same=false then some (.inr false) else M.jS a b slf n (i+1) else some (.inl ())
def M.rP:Nat->aa->aa->Option Bool
 | 0,_,_=>none
 | n+1,a,b=>(if a.Id≠b.Id then some true else if a.Kind≠b.Kind then some true else if (a.Label !=b.Label)=true then some true else (M.sQ n a.Head b.Head).bind λwords=>if words=false then some true else (M.sQ n a.Words b.Words).bind λwords1=>if words1=false then some true else some (decide ((a.Kids.length:Int)≠(b.Kids.length:Int)))).bind λv=>if v then some false else (M.jS a b (M.rP n) n 0).bind λ
  | .inl _=>some true
  | .inr ret0=>some ret0
def M.iP(n:Nat)(x:aa)(c:aa):Option Bool:=(M.iB n x c).bind λequal=>some equal
def M.bA(n:Nat):List aa->(List aa)->Option (List aa)
 | [],unlike=>some unlike
 | e :: es,unlike=>(M.bX n unlike (λs0=>M.iP n s0 e)).bind λunit=>if unit=false then (appC unlike [e]).bind λunlike1=>M.bA n es unlike1 else M.bA n es unlike
def M.jT(n:Nat)(u:aa)(l:List aS):Option Int:=if 5 < (l.length:Int) then some (0:Int) else (M.mi n u l).bind λrows=>(M.bA n rows.2 []).bind λunlike=>some (unlike.length:Int)
def M.bJ(l:List aS)(i:Int):Nat->Int->Option (Unit ⊕ Bool)
 | 0,_=>none
 | n+1,k=>(idx l i).bind λv1=>if k<(v1.Items.length:Int) then (idx l i).bind λv2=>(idx v2.Items k).bind λv3=>(M.mq n v3).bind λmay=>if may=false then some (.inr true) else M.bJ l i n (k+1) else some (.inl ())
def M.cz(u:aa)(l:List aS)(minimu:(List Int)×Int):Nat->Int->Option (Unit ⊕ Bool)
 | 0,_=>none
 | n+1,i3=>if i3<(minimu.1.length:Int) then (slcHi minimu.1 i3).bind λv7=>(appC [] v7).bind λout1=>(addC i3 1).bind λv8=>(slcLo minimu.1 v8).bind λv9=>(appC out1 v9).bind λout2=>(M.jY n u out2 l).bind λsuffic1=>if suffic1 then some (.inr false) else M.cz u l minimu n (i3+1) else some (.inl ())
def M.cK(u:aa)(l:List aS)(inorde:aa)(orders:List (List Int)):Nat->Int->Option (Unit ⊕ Bool)
 | 0,_=>none
 | n+1,i2=>if i2<(orders.length:Int) then (idx orders i2).bind λv6=>(M.jr n u l v6).bind λinorde1=>(M.rP n inorde1 inorde).bind λsame=>if same=false then some (.inr false) else M.cK u l inorde orders n (i2+1) else some (.inl ())
def M.bv(l:List aS):Nat->(List Int)->Int->Option (List Int)
 | 0,_,_=>none
 | n+1,by0_,i1=>if i1<(l.length:Int) then (appC by0_ [i1]).bind λout=>M.bv l n out (i1+1) else some by0_
def M.bz(l:List aS):Nat->Int->Option (Unit ⊕ Bool)
 | 0,_=>none
 | n+1,i=>if i<(l.length:Int) then (M.bJ l i n 0).bind λ
  | .inl _=>(addC i 1).bind λv4=>M.bz l n v4
  | .inr ret0=>some (.inr ret0) else some (.inl ())
def M.mf(n:Nat)(u:aa)(l:List aS):Option Bool:=((M.nN n u 10).bind λbook=>if book=false then some true else (M.zk n l 4 2).bind λfew=>some (!few)).bind λv=>if v then some true else (M.bz l n 0).bind λ
 | .inl _=>(M.mU n u l).bind λminimu=>(if minimu.2≠0 then some true else (M.jY n u minimu.1 l).bind λsuffic=>some (!suffic)).bind λv5=>if v5 then some false else (M.bv l n [] 0).bind λby0_=>(M.jr n u l by0_).bind λinorde=>(M.kS n (l.length:Int) minimu.1 by0_).bind λorders=>(M.cK u l inorde orders n 0).bind λ
  | .inl _=>(M.cz u l minimu n 0).bind λ
   | .inl _=>(M.jT n u l).bind λcounto=>some ((decide ((minimu.1.length:Int)=0))==(decide (counto=1)))
   | .inr ret0=>some ret0
  | .inr ret0=>some ret0
 | .inr ret0=>some ret0
end Go.Proofs.YtobcmdhemlennaaGreatDoor
