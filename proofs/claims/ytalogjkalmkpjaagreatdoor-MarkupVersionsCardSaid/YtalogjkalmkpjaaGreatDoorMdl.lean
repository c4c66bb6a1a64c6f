/-
  What the functions compute: plain functions, written by program out of the code; no machine in sight.
-/
import Derived.Test.YtalogjkalmkpjaaGreatDoorDec4
set_option linter.unusedVariables false
set_option linter.unusedSimpArgs false
namespace Go.Proofs.YtalogjkalmkpjaaGreatDoor
open Go Go.Dec
def gv0:List Str:=[([]:Str),([91,43,32]:Str),([91,45,32]:Str)]
def gv1:List Str:=[([]:Str),([32,43,93]:Str),([32,45,93]:Str)]
def gv2:List Str:=[([98,111,111,107]:Str),([112,97,114,116]:Str),([115,101,99,116,105,111,110]:Str),([112,97,114,97,103,114,97,112,104]:Str),([116,97,98,108,101]:Str),([114,111,119]:Str),([99,101,108,108]:Str),([110,111,116,101]:Str)]
def gv4:List (List Int):=[[(1:Int),(2:Int)],[(2:Int)],[(3:Int),(4:Int),(7:Int)],[(3:Int),(4:Int),(7:Int)],[(5:Int)],[(6:Int)],([]:List Int),([]:List Int)]
structure au where
 Act:Int
 Item:Int
 N:Int
theorem au.o7(a b:au):(a.Act=b.Act∧a.Item=b.Item∧a.N=b.N) ↔ a=b:=⟨fun h=>by cases a;cases b;simp_all,fun h=>by subst h;simp⟩
instance:DecidableEq au:=fun a b=>decidable_of_iff _ (au.o7 a b)
def cu:au:=⟨(0:Int),(0:Int),(0:Int)⟩
structure mP where
 Act:Int
 Item:Int
 At:Int
theorem mP.o7(a b:mP):(a.Act=b.Act∧a.Item=b.Item∧a.At=b.At) ↔ a=b:=⟨fun h=>by cases a;cases b;simp_all,fun h=>by subst h;simp⟩
instance:DecidableEq mP:=fun a b=>decidable_of_iff _ (mP.o7 a b)
def oQ:mP:=⟨(0:Int),(0:Int),(0:Int)⟩
structure aH where
 Text:Str
 By:mP
theorem aH.o7(a b:aH):(a.Text=b.Text∧a.By=b.By) ↔ a=b:=⟨fun h=>by cases a;cases b;simp_all,fun h=>by subst h;simp⟩
instance:DecidableEq aH:=fun a b=>decidable_of_iff _ (aH.o7 a b)
def zU:aH:=⟨([]:Str),oQ⟩
structure af where
 Id:au
 Kind:Int
 Label:Str
 Head:List aH
 Words:List aH
 Kids:List af
def aB:af:=⟨cu,(0:Int),([]:Str),([]:List aH),([]:List aH),([]:List af)⟩
structure ah where
 State:Int
 Text:Str
theorem ah.o7(a b:ah):(a.State=b.State∧a.Text=b.Text) ↔ a=b:=⟨fun h=>by cases a;cases b;simp_all,fun h=>by subst h;simp⟩
instance:DecidableEq ah:=fun a b=>decidable_of_iff _ (ah.o7 a b)
def jv:ah:=⟨(0:Int),([]:Str)⟩
structure aa where
 State:Int
 Kind:Int
 Id:au
 Label:Str
 Was:Str
 Moved:Bool
 Head:List ah
 Words:List ah
 Kids:List aa
def av:aa:=⟨(0:Int),(0:Int),cu,([]:Str),([]:Str),false,([]:List ah),([]:List ah),([]:List aa)⟩
structure ay where
 a_:List (au×af)
 b_:List (au×af)
 moved_:List (au×Bool)
def jy:ay:=⟨([]:List (au×af)),([]:List (au×af)),([]:List (au×Bool))⟩
structure bO where
 kind_:Int
 label_:Str
theorem bO.o7(a b:bO):(a.kind_=b.kind_∧a.label_=b.label_) ↔ a=b:=⟨fun h=>by cases a;cases b;simp_all,fun h=>by subst h;simp⟩
instance:DecidableEq bO:=fun a b=>decidable_of_iff _ (bO.o7 a b)
def Bi:bO:=⟨(0:Int),([]:Str)⟩
structure aC where
 parent_:au
 at_:Int
 unit_:af
def aY:aC:=⟨cu,(0:Int),aB⟩
structure aW where
 a_:af
 b_:af
 p_:List (au×aC)
 q_:List (au×aC)
def ky:aW:=⟨aB,aB,([]:List (au×aC)),([]:List (au×aC))⟩
structure aI where
 A:Int
 B:Int
theorem aI.o7(a b:aI):(a.A=b.A∧a.B=b.B) ↔ a=b:=⟨fun h=>by cases a;cases b;simp_all,fun h=>by subst h;simp⟩
instance:DecidableEq aI:=fun a b=>decidable_of_iff _ (aI.o7 a b)
def lJ:aI:=⟨(0:Int),(0:Int)⟩
structure bB where
 moved_:List (au×aa)
 met_:List (au×Bool)
def gD:bB:=⟨([]:List (au×aa)),([]:List (au×Bool))⟩
def M.dU:List Int→Option (Unit ⊕ Bool)
 | []=>
  some (.inl ())
 | e :: es=>
  if e<(0:Int) then
   some (.inr false)
  else
   if (1048576:Int)< e then
    some (.inr false)
   else
    M.dU es
def M.iO(id:au):Option Bool:=
 Option.bind (M.dU [id.Act,id.Item,id.N]) fun
  | .inl _=>
   some true
  | .inr ret0=>some ret0
def M.dH(t:aa):Option Bool:=
 Option.bind (
   if t.Kind=(0:Int) then
    if (t.Label==([]:Str))=true then
     if (t.Was==([]:Str))=true then
      Option.bind (addC (t.Head.length:Int) (t.Words.length:Int)) fun v=>
      Option.bind (addC v (t.Kids.length:Int)) fun v1=>
      some (decide (v1=(0:Int)))
     else
      some false
    else
     some false
   else
    some false
  ) fun empty=>
  if empty=true then
   if t.State=(2:Int) then
    if t.Moved=true then
     Option.bind (M.iO t.Id) fun validi=>
     some validi
    else
     some false
   else
    some false
  else
   some false
def M.aK(s0_:List ah)(f:ah→Option Bool):Nat→Int→Option (Unit ⊕ Int)
 | 0,_=>none
 | n+1,v=>
  if v<(s0_.length:Int) then
   Option.bind (idx s0_ v) fun v1=>
   Option.bind (f v1) fun v2=>
   if v2=true then
    some (.inr v)
   else
    M.aK s0_ f n (v+1)
  else
   some (.inl ())
def M.di(n:Nat)(s0_:List ah)(f:ah→Option Bool):Option Int:=
 Option.bind (M.aK s0_ f n (0:Int)) fun
  | .inl _=>
   some (-1:Int)
  | .inr ret0=>some ret0
def M.bI(n:Nat)(s0_:List ah)(f:ah→Option Bool):Option Bool:=
 Option.bind (M.di n s0_ f) fun tracke=>
 some (decide ((0:Int)≤tracke))
def M.bf(s0_:List Str)(f:Str→Option Bool):Nat→Int→Option (Unit ⊕ Int)
 | 0,_=>none
 | n+1,v=>
  if v<(s0_.length:Int) then
   Option.bind (idx s0_ v) fun v1=>
   Option.bind (f v1) fun v2=>
   if v2=true then
    some (.inr v)
   else
    M.bf s0_ f n (v+1)
  else
   some (.inl ())
def M.fQ(n:Nat)(s0_:List Str)(f:Str→Option Bool):Option Int:=
 Option.bind (M.bf s0_ f n (0:Int)) fun
  | .inl _=>
   some (-1:Int)
  | .inr ret0=>some ret0
def M.dQ(n:Nat)(s0_:List Str)(f:Str→Option Bool):Option Bool:=
 Option.bind (M.fQ n s0_ f) fun string=>
 some (decide ((0:Int)≤string))
def M.bF(s0_:List Int)(f:Int→Option Bool):Nat→Int→Option (Unit ⊕ Int)
 | 0,_=>none
 | n+1,v=>
  if v<(s0_.length:Int) then
   Option.bind (idx s0_ v) fun v1=>
   Option.bind (f v1) fun v2=>
   if v2=true then
    some (.inr v)
   else
    M.bF s0_ f n (v+1)
  else
   some (.inl ())
def M.gX(n:Nat)(s0_:List Int)(f:Int→Option Bool):Option Int:=
 Option.bind (M.bF s0_ f n (0:Int)) fun
  | .inl _=>
   some (-1:Int)
  | .inr ret0=>some ret0
def M.eB(n:Nat)(s0_:List Int)(f:Int→Option Bool):Option Bool:=
 Option.bind (M.gX n s0_ f) fun byte=>
 some (decide ((0:Int)≤byte))
def M.jA(c:Int):Option Bool:=
 if c<(33:Int) then
  some true
 else
  some (decide ((126:Int)< c))
def M.mQ(n:Nat)(s0_:Str):Option Bool:=
 if (s0_ !=([]:Str))=true then
  if (s0_.length:Int)≤(24:Int) then
   Option.bind (M.eB n (bytesOf s0_) (fun s0=>M.jA s0)) fun byte=>
   some (!byte)
  else
   some false
 else
  some false
def M.kK(n:Nat)(s0_:Str):Option Bool:=
 Option.bind (M.mQ n s0_) fun word=>
 some (!word)
def M.kV(n:Nat)(l:List Str):Option Bool:=
 if (l.length:Int)≤(256:Int) then
  Option.bind (M.dQ n l (fun s0=>M.kK n s0)) fun string=>
  some (!string)
 else
  some false
def M.lU(n:Nat)(s0_:Str):Option Bool:=
 Option.bind (M.kV n [s0_]) fun valid=>
 some valid
def M.jN(n:Nat)(w:ah):Option Bool:=
 Option.bind (M.lU n w.Text) fun isword=>
 if isword=false then
  some true
 else
  if w.State<(0:Int) then
   some true
  else
   some (decide ((2:Int)< w.State))
def M.iw(n:Nat)(l:List ah):Option Bool:=
 if (l.length:Int)≤(512:Int) then
  Option.bind (M.bI n l (fun s0=>M.jN n s0)) fun tracke=>
  some (!tracke)
 else
  some false
def M.dC(s0_:Str)(f:Int→Option Bool)(truth:Bool):Nat→Nat→Option (Nat ⊕ Int)
 | 0,_=>none
 | n+1,v=>
  if v<s0_.length then
   Option.bind (f ((runeAt s0_ v).1:Int)) fun v1=>
   if (v1==truth)=true then
    some (.inr (v:Int))
   else
    M.dC s0_ f truth n (v+(runeAt s0_ v).2)
  else
   some (.inl v)
def M.strings_indexFunc(n:Nat)(s0_:Str)(f:Int→Option Bool)(truth:Bool):Option Int:=
 Option.bind (M.dC s0_ f truth n 0) fun
  | .inl v=>
   some (-1:Int)
  | .inr ret0=>some ret0
def M.strings_IndexFunc(n:Nat)(s0_:Str)(f:Int→Option Bool):Option Int:=
 Option.bind (M.strings_indexFunc n s0_ f true) fun indexf=>
 some indexf
def M.j5(b:Int):Option Bool:=
 if b<(48:Int) then
  some true
 else
  some (decide ((57:Int)< b))
def M.mR(n:Nat)(s0_:Str):Option (Str×Str):=
 Option.bind (M.strings_IndexFunc n s0_ (fun s0=>M.j5 s0)) fun indexf=>
 if indexf<(0:Int) then
  some (s0_,([]:Str))
 else
  Option.bind (slcHi s0_ indexf) fun v=>
  Option.bind (slcLo s0_ indexf) fun v1=>
  some (v,v1)
def M.strings_ContainsFunc(n:Nat)(s0_:Str)(f:Int→Option Bool):Option Bool:=
 Option.bind (M.strings_IndexFunc n s0_ f) fun indexf=>
 some (decide ((0:Int)≤indexf))
def M.kW(b:Int):Option Bool:=
 if b<(65:Int) then
  some true
 else
  some (decide ((90:Int)< b))
def M.ko(n:Nat)(s0_:Str):Option Bool:=
 Option.bind (M.mR n s0_) fun parted=>
 if (1:Int)≤(parted.1.length:Int) then
  if (parted.1.length:Int)≤(4:Int) then
   Option.bind (idx parted.1 (0:Int)) fun b=>
   if (b.toNat:Int)≠(48:Int) then
    if (parted.2.length:Int)≤(3:Int) then
     Option.bind (M.strings_ContainsFunc n parted.2 (fun s0=>M.kW s0)) fun contai=>
     some (!contai)
    else
     some false
   else
    some false
  else
   some false
 else
  some false
def M.iE(n:Nat)(t:aa):Option Bool:=
 Option.bind (
   if t.Kind<(0:Int) then
    some true
   else
    if (7:Int)< t.Kind then
     some true
    else
     Option.bind (M.iO t.Id) fun validi=>
     some (!validi)
  ) fun v=>
  if v=true then
   some false
  else
   Option.bind (
     Option.bind (M.iw n t.Head) fun validr=>
     if validr=false then
      some true
     else
      Option.bind (M.iw n t.Words) fun validr1=>
      some (!validr1)
    ) fun v1=>
    if v1=true then
     some false
    else
     Option.bind (
       if ((decide (t.Kind=(0:Int))) !=(t.Label==([]:Str)))=true then
        some ((decide (t.Kind=(0:Int))) !=(t.Label==([]:Str)))
       else
        if (t.Label !=([]:Str))=true then
         Option.bind (M.ko n t.Label) fun valid=>
         some (!valid)
        else
         some false
      ) fun v2=>
      if v2=true then
       some false
      else
       Option.bind (
         if (t.Was !=([]:Str))=true then
          Option.bind (M.ko n t.Was) fun valid1=>
          if valid1=false then
           some true
          else
           some (t.Was==t.Label)
         else
          some false
        ) fun v3=>
        if v3=true then
         some false
        else
         if t.State=(1:Int) then
          some true
         else
          if t.State=(0:Int) then
           some (!t.Moved)
          else
           if t.State=(2:Int) then
            some (!t.Moved)
           else
            some false
def M.iF(slf:aa→Int→Option Bool)(k:aa)(c:Int):Option Bool:=
 Option.bind (addC c (1:Int)) fun v=>
 Option.bind (slf k v) fun validt=>
 some (!validt)
def M.aL(s0_:List aa)(f:aa→Option Bool):Nat→Int→Option (Unit ⊕ Int)
 | 0,_=>none
 | n+1,v=>
  if v<(s0_.length:Int) then
   Option.bind (idx s0_ v) fun v1=>
   Option.bind (f v1) fun v2=>
   if v2=true then
    some (.inr v)
   else
    M.aL s0_ f n (v+1)
  else
   some (.inl ())
def M.dm(n:Nat)(s0_:List aa)(f:aa→Option Bool):Option Int:=
 Option.bind (M.aL s0_ f n (0:Int)) fun
  | .inl _=>
   some (-1:Int)
  | .inr ret0=>some ret0
def M.bJ(n:Nat)(s0_:List aa)(f:aa→Option Bool):Option Bool:=
 Option.bind (M.dm n s0_ f) fun tracke=>
 some (decide ((0:Int)≤tracke))
def M.ed:Nat→aa→Int→Option Bool
 | 0,_,_=>none
 | n+1,t,depth=>
  if (8:Int)< depth then
   some false
  else
   Option.bind (
     if (0:Int)< depth then
      Option.bind (M.dH t) fun isplac=>
      some isplac
     else
      some false
    ) fun v=>
    if v=true then
     some true
    else
     Option.bind (M.iE n t) fun validu=>
     if validu=true then
      Option.bind (M.bJ n t.Kids (fun s0=>M.iF (M.ed n) s0 depth)) fun tracke=>
      some (!tracke)
     else
      some false
def M.kw(t:aa):Option Str:=
 Option.bind (
   if t.Moved=true then
    some (decide (t.State=(1:Int)))
   else
    some false
  ) fun v=>
  if v=true then
   some ([62]:Str)
  else
   if t.Moved=true then
    some ([60]:Str)
   else
    if t.State=(1:Int) then
     some ([43]:Str)
    else
     if t.State=(2:Int) then
      some ([45]:Str)
     else
      some ([61]:Str)
def M.gK(id:au):Option Str:=
 Option.bind (itoaM id.Act) fun itoa=>
 Option.bind (catC ([35]:Str) itoa) fun v=>
 Option.bind (catC v ([46]:Str)) fun v1=>
 Option.bind (itoaM id.Item) fun itoa1=>
 Option.bind (catC v1 itoa1) fun v2=>
 Option.bind (catC v2 ([46]:Str)) fun v3=>
 Option.bind (itoaM id.N) fun itoa2=>
 Option.bind (catC v3 itoa2) fun v4=>
 some v4
def M.gF(kind:Int):Option Str:=
 if kind<(0:Int) then
  some ([]:Str)
 else
  if (8:Int)≤kind then
   some ([]:Str)
  else
   Option.bind (idx gv2 kind) fun v=>
   some v
def M.lV(s0_:Str):Option Str:=
 Option.bind (slcHi s0_ (1:Int)) fun v=>
 Option.bind (containsM ([91,93,43,45,124,35,92]:Str) v) fun contai=>
 if contai=true then
  Option.bind (catC ([92]:Str) s0_) fun v1=>
  some v1
 else
  some s0_
def M.dz(sep:Str):List Str→Str→Option Str
 | [],b2=>
  some b2
 | e1 :: es1,b2=>
  Option.bind (appC b2 sep) fun b3=>
  Option.bind (appC b3 e1) fun b4=>
  M.dz sep es1 b4
def M.gN:List Str→Int→Option Int
 | [],n0_1=>
  some n0_1
 | e :: es,n0_1=>
  Option.bind (subC (9223372036854775807:Int) n0_1) fun v6=>
  if v6<(e.length:Int) then
   none
  else
   Option.bind (addC n0_1 (e.length:Int)) fun v7=>
   M.gN es v7
def M.strings_Join(elems:List Str)(sep:Str):Option Str:=
 if (elems.length:Int)=(0:Int) then
  some ([]:Str)
 else
  if (elems.length:Int)=(1:Int) then
   Option.bind (idx elems (0:Int)) fun v=>
   some v
  else
   Option.bind (
     if (0:Int)< (sep.length:Int) then
      Option.bind (
        Option.bind (subC (elems.length:Int) (1:Int)) fun v1=>
        Option.bind (quoC (9223372036854775807:Int) v1) fun v2=>
        if v2≤(sep.length:Int) then
         none
        else
         some ()
       ) fun _=>
       Option.bind (subC (elems.length:Int) (1:Int)) fun v3=>
       Option.bind (mulC (sep.length:Int) v3) fun v4=>
       Option.bind (addC (0:Int) v4) fun v5=>
       some v5
     else
      some (0:Int)
    ) fun n0_=>
    Option.bind (M.gN elems n0_) fun n0_1=>
     Option.bind (growC n0_1) fun _=>
     Option.bind (idx elems (0:Int)) fun v8=>
     Option.bind (appC ([]:Str) v8) fun b1=>
     Option.bind (slcLo elems (1:Int)) fun v9=>
     Option.bind (M.dz sep v9 b1) fun b2=>
      some b2
def M.iP(state:Int)(words:List Str)(c:List Str):Option (List Str):=
 Option.bind (idx gv0 state) fun v=>
 Option.bind (M.strings_Join words ([32]:Str)) fun join=>
 Option.bind (catC v join) fun v1=>
 Option.bind (idx gv1 state) fun v2=>
 Option.bind (catC v1 v2) fun v3=>
 Option.bind (appC c [v3]) fun out=>
 some out
def M.eD(l:List ah)(from0_:Int):Nat→Int→(List Str)→Option (Int×(List Str))
 | 0,_,_=>none
 | n+1,to0_,words=>
  if to0_<(l.length:Int) then
   Option.bind (idx l to0_) fun v1=>
   Option.bind (idx l from0_) fun v2=>
   if v1.State=v2.State then
    Option.bind (idx l to0_) fun v3=>
    Option.bind (M.lV v3.Text) fun escape=>
    Option.bind (appC words [escape]) fun words1=>
    M.eD l from0_ n (to0_+1) words1
   else
    some (to0_,words)
  else
   some (to0_,words)
def M.dV(l:List ah):Nat→Int→(List Str)→Option ((List Str))
 | 0,_,_=>none
 | n+1,from0_,v=>
  if from0_<(l.length:Int) then
   Option.bind (M.eD l from0_ n from0_ ([]:List Str)) fun (to0_,words)=>
    Option.bind (idx l from0_) fun v4=>
    Option.bind (M.iP v4.State words v) fun w=>
    M.dV l n to0_ w
  else
   some v
def M.mU(n:Nat)(l:List ah)(c:List Str):Option (List Str):=
 Option.bind (M.dV l n (0:Int) c) fun v=>
  some v
def M.fG(n:Nat)(l:List ah):Option Str:=
 Option.bind (M.iw n l) fun validr=>
 if validr=false then
  some ([]:Str)
 else
  Option.bind (M.mU n l ([]:List Str)) fun out=>
  Option.bind (M.strings_Join out ([32]:Str)) fun join=>
  some join
def M.iQ(n:Nat)(t:aa)(depth:Int):Option Str:=
 Option.bind (repeatM ([32,32]:Str) depth) fun repeat0_=>
 Option.bind (M.kw t) fun sign=>
 Option.bind (catC repeat0_ sign) fun v=>
 Option.bind (catC v ([32]:Str)) fun v1=>
 Option.bind (M.kw t) fun sign1=>
 if (sign1==([60]:Str))=true then
  Option.bind (M.gK t.Id) fun format=>
  Option.bind (catC v1 format) fun v2=>
  some v2
 else
  Option.bind (M.gF t.Kind) fun kindna=>
  Option.bind (catC v1 kindna) fun v3=>
  Option.bind (
    if (t.Label !=([]:Str))=true then
     Option.bind (catC ([32]:Str) t.Label) fun v4=>
     Option.bind (catC v3 v4) fun v5=>
     some v5
    else
     some v3
   ) fun s0_=>
   Option.bind (
     if (t.Was !=([]:Str))=true then
      Option.bind (catC ([32,119,97,115,32]:Str) t.Was) fun v6=>
      Option.bind (catC s0_ v6) fun v7=>
      some v7
     else
      some s0_
    ) fun s0_1=>
    Option.bind (M.gK t.Id) fun format1=>
    Option.bind (catC ([32]:Str) format1) fun v8=>
    Option.bind (catC s0_1 v8) fun v9=>
    Option.bind (
      if (0:Int)< (t.Head.length:Int) then
       Option.bind (M.fG n t.Head) fun format2=>
       Option.bind (catC ([58,32]:Str) format2) fun v10=>
       Option.bind (catC v9 v10) fun v11=>
       some v11
      else
       some v9
     ) fun s0_2=>
     if (0:Int)< (t.Words.length:Int) then
      Option.bind (M.fG n t.Words) fun format3=>
      Option.bind (catC ([32,124,32]:Str) format3) fun v12=>
      Option.bind (catC s0_2 v12) fun v13=>
      some v13
     else
      some s0_2
def M.eF(depth:Int)(slf:aa→Int→(List Str)→Option (List Str)):List aa→(List Str)→Option ((List Str))
 | [],v=>
  some v
 | e :: es,v=>
  Option.bind (addC depth (1:Int)) fun v1=>
  Option.bind (slf e v1 v) fun w=>
  M.eF depth slf es w
def M.gY:Nat→aa→Int→(List Str)→Option (List Str)
 | 0,_,_,_=>none
 | n+1,t,depth,c=>
  Option.bind (M.iQ n t depth) fun line=>
  Option.bind (appC c [line]) fun out=>
  Option.bind (M.eF depth (M.gY n) t.Kids out) fun v=>
   some v
def M.jf(n:Nat)(t:aa):Option (List Str):=
 Option.bind (M.ed n t (0:Int)) fun validt=>
 if validt=false then
  some ([]:List Str)
 else
  Option.bind (M.gY n t (0:Int) ([]:List Str)) fun out=>
  some out
def M.iJ(n:Nat)(t:aa):Option (Str×Int):=
 Option.bind (M.jf n t) fun lines=>
 if (lines.length:Int)=(0:Int) then
  some (([]:Str),(1:Int))
 else
  Option.bind (M.strings_Join lines ([10]:Str)) fun join=>
  Option.bind (catC join ([10]:Str)) fun v=>
  if (16384:Int)< (v.length:Int) then
   some (([]:Str),(6:Int))
  else
   some (v,(0:Int))
def M.og(n:Nat):Option Bool:=
 Option.bind (M.iJ n (⟨(0:Int),(2:Int),(⟨(1:Int),(0:Int),(1:Int)⟩:au),([53]:Str),([52]:Str),false,([]:List ah),[(⟨(0:Int),([97]:Str)⟩:ah),(⟨(2:Int),([98]:Str)⟩:ah),(⟨(1:Int),([99]:Str)⟩:ah)],([]:List aa)⟩:aa)) fun format=>
 Option.bind (M.fG n ([(⟨(0:Int),([97]:Str)⟩:ah),(⟨(2:Int),([98]:Str)⟩:ah),(⟨(1:Int),([99]:Str)⟩:ah)])) fun format1=>
 if (format1==([97,32,91,45,32,98,32,45,93,32,91,43,32,99,32,43,93]:Str))=true then
  if format.2=(0:Int) then
   some (format.1==([61,32,115,101,99,116,105,111,110,32,53,32,119,97,115,32,52,32,35,49,46,48,46,49,32,124,32,97,32,91,45,32,98,32,45,93,32,91,43,32,99,32,43,93,10]:Str))
  else
   some false
 else
  some false
def M.gZ(u:af)(deep:Int)(most:Int)(slf:af→Int→Int→Option Int):Nat→Int→Int→Option Int
 | 0,_,_=>none
 | n+1,n0_,i=>
  Option.bind (
    if i<(u.Kids.length:Int) then
     some (decide (n0_≤most))
    else
     some false
   ) fun v1=>
   if v1=true then
    Option.bind (idx u.Kids i) fun v2=>
    Option.bind (addC deep (1:Int)) fun v3=>
    Option.bind (subC most n0_) fun v4=>
    Option.bind (slf v2 v3 v4) fun size=>
    Option.bind (addC n0_ size) fun v5=>
    Option.bind (addC i (1:Int)) fun v6=>
    M.gZ u deep most slf n v5 v6
   else
    some n0_
def M.lW:Nat→af→Int→Int→Option Int
 | 0,_,_,_=>none
 | n+1,u,deep,most=>
  if (20:Int)< deep then
   Option.bind (addC most (1:Int)) fun v=>
   some v
  else
   Option.bind (M.gZ u deep most (M.lW n) n (1:Int) (0:Int)) fun n0_=>
    some n0_
def M.dR(l:List aH):Nat→Int→Option (Unit ⊕ Bool)
 | 0,_=>none
 | n+1,i=>
  if i<(l.length:Int) then
   Option.bind (idx l i) fun v=>
   if (100:Int)< (v.Text.length:Int) then
    some (.inr false)
   else
    M.dR l n (i+1)
  else
   some (.inl ())
def M.jI(n:Nat)(l:List aH):Option Bool:=
 Option.bind (M.dR l n (0:Int)) fun
  | .inl _=>
   some (decide ((l.length:Int)≤(300:Int)))
  | .inr ret0=>some ret0
def M.cO(u:af)(slf:af→Option Bool):Nat→Int→Option (Unit ⊕ Bool)
 | 0,_=>none
 | n+1,i=>
  if i<(u.Kids.length:Int) then
   Option.bind (idx u.Kids i) fun v1=>
   Option.bind (slf v1) fun words=>
   if words=false then
    some (.inr false)
   else
    M.cO u slf n (i+1)
  else
   some (.inl ())
def M.fT:Nat→af→Option Bool
 | 0,_=>none
 | n+1,u=>
  Option.bind (
    if (30:Int)< (u.Label.length:Int) then
     some true
    else
     Option.bind (M.jI n u.Head) fun short=>
     if short=false then
      some true
     else
      Option.bind (M.jI n u.Words) fun short1=>
      some (!short1)
   ) fun v=>
   if v=true then
    some false
   else
    Option.bind (M.cO u (M.fT n) n (0:Int)) fun
     | .inl _=>
      some true
     | .inr ret0=>some ret0
def M.rM(n:Nat)(u:af)(most:Int):Option Bool:=
 Option.bind (M.lW n u (0:Int) most) fun size=>
 if size≤most then
  Option.bind (M.fT n u) fun words=>
  some words
 else
  some false
def M.jB:List aH→(List Str)→Option ((List Str))
 | [],texts=>
  some texts
 | e :: es,texts=>
  Option.bind (appC texts [e.Text]) fun texts1=>
  M.jB es texts1
def M.oh(n:Nat)(l:List aH):Option Bool:=
 Option.bind (M.jB l ([]:List Str)) fun texts=>
  if (l.length:Int)≤(256:Int) then
   Option.bind (M.kV n texts) fun valid=>
   some valid
  else
   some false
def M.cz(s0_:List Int)(v:Int):Nat→Int→Option (Unit ⊕ Int)
 | 0,_=>none
 | n+1,v1=>
  if v1<(s0_.length:Int) then
   Option.bind (idx s0_ v1) fun v2=>
   if v=v2 then
    some (.inr v1)
   else
    M.cz s0_ v n (v1+1)
  else
   some (.inl ())
def M.jO(n:Nat)(s0_:List Int)(v:Int):Option Int:=
 Option.bind (M.cz s0_ v n (0:Int)) fun
  | .inl _=>
   some (-1:Int)
  | .inr ret0=>some ret0
def M.gQ(n:Nat)(s0_:List Int)(v:Int):Option Bool:=
 Option.bind (M.jO n s0_ v) fun int=>
 some (decide ((0:Int)≤int))
def M.kL(n:Nat)(parent:Int)(kind:Int):Option Bool:=
 if (0:Int)≤parent then
  if parent<(8:Int) then
   Option.bind (idx gv4 parent) fun v=>
   Option.bind (M.gQ n v kind) fun int=>
   some int
  else
   some false
 else
  some false
def M.gT(n:Nat)(u:af):List af→(List (bO×Bool))→Option (((List (bO×Bool))) ⊕ Bool)
 | [],v1=>
  some (.inl v1)
 | e :: es,v1=>
  Option.bind (M.kL n u.Kind e.Kind) fun cancon=>
  if cancon=false then
   some (.inr false)
  else
   if (mget v1 (⟨e.Kind,e.Label⟩:bO) false)=true then
    some (.inr false)
   else
    M.gT n u es (mset v1 (⟨e.Kind,e.Label⟩:bO) true)
def M.o8(n:Nat)(u:af):Option Bool:=
 Option.bind ((
   if u.Kind=(0:Int) then
    if (u.Label !=([]:Str))=true then
     some (.inr false)
    else
     Option.bind (addC (u.Head.length:Int) (u.Words.length:Int)) fun v=>
     if (0:Int)< v then
      some (.inr false)
     else
      some (.inl ())
   else
    Option.bind (M.gF u.Kind) fun kindna=>
    if (kindna==([]:Str))=true then
     some (.inr false)
    else
     Option.bind (M.ko n u.Label) fun valid=>
     if valid=false then
      some (.inr false)
     else
      Option.bind (M.oh n u.Head) fun row=>
      if row=false then
       some (.inr false)
      else
       Option.bind (M.oh n u.Words) fun row1=>
       if row1=false then
        some (.inr false)
       else
        some (.inl ())
  ):Option (Unit ⊕ Bool)) fun
  | .inl _=>
   Option.bind (M.gT n u u.Kids ([]:List (bO×Bool))) fun
    | .inl v1=>
     some (decide ((u.Kids.length:Int)≤(64:Int)))
    | .inr ret0=>some ret0
  | .inr ret0=>some ret0
def M.eU(slf:af→Option Bool):List af→Option (Unit ⊕ Bool)
 | []=>
  some (.inl ())
 | e :: es=>
  Option.bind (slf e) fun every=>
  if every=false then
   some (.inr false)
  else
   M.eU slf es
def M.gG:Nat→af→Option Bool
 | 0,_=>none
 | n+1,u=>
  Option.bind (M.o8 n u) fun alone=>
  if alone=false then
   some false
  else
   Option.bind (M.eU (M.gG n) u.Kids) fun
    | .inl _=>
     some true
    | .inr ret0=>some ret0
def M.gU(slf:af→Option Int):List af→Int→Option Int
 | [],deep=>
  some deep
 | e :: es,deep=>
  Option.bind (slf e) fun depth=>
  Option.bind (addC (1:Int) depth) fun v=>
  M.gU slf es (max deep v)
def M.kC:Nat→af→Option Int
 | 0,_=>none
 | n+1,u=>
  Option.bind (M.gU (M.kC n) u.Kids (0:Int)) fun deep=>
   some deep
def M.oK(a:af)(c:Int):Option (Bool×Int):=
 Option.bind (addC c (1:Int)) fun v=>
 some (true,v)
def M.eX(slf:af→Int→Option (Bool×Int)):List af→Int→Option (Int ⊕ (Bool×Int))
 | [],v=>
  some (.inl v)
 | e :: es,v=>
  Option.bind (slf e v) fun (every,w1)=>
  if every=false then
   some (.inr (false,w1))
  else
   M.eX slf es w1
def M.iK:Nat→af→Int→Option (Bool×Int)
 | 0,_,_=>none
 | n+1,u,c=>
  Option.bind (M.oK u c) fun (v1_,w)=>
  if v1_=false then
   some (false,w)
  else
   Option.bind (M.eX (M.iK n) u.Kids w) fun
    | .inl v=>
     some (true,v)
    | .inr ret0=>some ret0
def M.jV(n:Nat)(u:af):Option Int:=
 Option.bind (M.iK n u (0:Int)) fun (every,n0_)=>
 some n0_
def M.rO(x:af)(c:List au):Option (Bool×(List au)):=
 Option.bind (appC c [x.Id]) fun out=>
 some (true,out)
def M.eY(slf:af→(List au)→Option (Bool×(List au))):List af→(List au)→Option (((List au)) ⊕ (Bool×(List au)))
 | [],v=>
  some (.inl v)
 | e :: es,v=>
  Option.bind (slf e v) fun (every,w1)=>
  if every=false then
   some (.inr (false,w1))
  else
   M.eY slf es w1
def M.iL:Nat→af→(List au)→Option (Bool×(List au))
 | 0,_,_=>none
 | n+1,u,c=>
  Option.bind (M.rO u c) fun (v1_,w)=>
  if v1_=false then
   some (false,w)
  else
   Option.bind (M.eY (M.iL n) u.Kids w) fun
    | .inl v=>
     some (true,v)
    | .inr ret0=>some ret0
def M.sG(n:Nat)(u:af):Option (List au):=
 Option.bind (M.iL n u ([]:List au)) fun (every,out)=>
 some out
def M.ic:List au→(List (au×Bool))→Option ((List (au×Bool)))
 | [],v=>
  some v
 | e :: es,v=>
  M.ic es (mset v e true)
def M.o9(n:Nat)(u:af):Option Bool:=
 Option.bind (M.sG n u) fun ids=>
 Option.bind (M.ic ids ([]:List (au×Bool))) fun v=>
  if (mget v (⟨(0:Int),(0:Int),(0:Int)⟩:au) false)=true then
   Option.bind (growC (v.length:Int)) fun _=>
   if (v.length:Int)=(1:Int) then
    some true
   else
    Option.bind (growC (v.length:Int)) fun _=>
    if (v.length:Int)=(ids.length:Int) then
     some ((decide (u.Kind=(0:Int)))==(decide (u.Id=(⟨(0:Int),(0:Int),(0:Int)⟩:au))))
    else
     some false
  else
   Option.bind (growC (v.length:Int)) fun _=>
   if (v.length:Int)=(ids.length:Int) then
    some ((decide (u.Kind=(0:Int)))==(decide (u.Id=(⟨(0:Int),(0:Int),(0:Int)⟩:au))))
   else
    some false
def M.ig(n:Nat)(u:af):Option Bool:=
 Option.bind (M.gG n u) fun every=>
 if every=true then
  Option.bind (M.kC n u) fun depth=>
  if depth≤(8:Int) then
   Option.bind (M.jV n u) fun count=>
   if count≤(1024:Int) then
    Option.bind (M.o9 n u) fun ids=>
    some ids
   else
    some false
  else
   some false
 else
  some false
def M.eZ(slf:af→(List (au×af))→Option (List (au×af))):List af→(List (au×af))→Option ((List (au×af)))
 | [],into1=>
  some into1
 | e :: es,into1=>
  Option.bind (slf e into1) fun into2=>
  M.eZ slf es into2
def M.fO:Nat→af→(List (au×af))→Option (List (au×af))
 | 0,_,_=>none
 | n+1,u,into=>
  Option.bind (M.eZ (M.fO n) u.Kids (mset into u.Id u)) fun into1=>
   some into1
def M.fe(u:af)(slf:af→(List (au×aC))→Option (List (au×aC))):List af→Int→(List (au×aC))→Option ((List (au×aC)))
 | [],_,v=>
  some v
 | e :: es,i,v=>
  Option.bind (slf e (mset v e.Id (⟨u.Id,i,e⟩:aC))) fun w=>
  M.fe u slf es (i+1) w
def M.jh:Nat→af→(List (au×aC))→Option (List (au×aC))
 | 0,_,_=>none
 | n+1,u,c=>
  Option.bind (M.fe u (M.jh n) u.Kids (0:Int) c) fun v=>
   some v
def M.lC(n:Nat)(u:af):Option (List (au×aC)):=
 Option.bind (M.jh n u (mset ([]:List (au×aC)) u.Id (⟨cu,(0:Int),u⟩:aC))) fun w=>
 some w
def M.oU(n:Nat)(u:af):Option Bool:=
 Option.bind (M.ig n u) fun valid=>
 if valid=true then
  if u.Kind=(0:Int) then
   Option.bind (M.lC n u) fun places=>
   Option.bind (growC (places.length:Int)) fun _=>
   Option.bind (M.jV n u) fun count=>
   some (decide ((places.length:Int)=count))
  else
   some false
 else
  some false
def M.l7(a:af)(b:af)(places:List (au×aC))(places1:List (au×aC))(e:au×aC):Option Bool:=
 if ((mget ((⟨a,b,places,places1⟩:aW).p_) e.1 aY,mhas ((⟨a,b,places,places1⟩:aW).p_) e.1).2)=true then
  if (((mget ((⟨a,b,places,places1⟩:aW).p_) e.1 aY,mhas ((⟨a,b,places,places1⟩:aW).p_) e.1).1).unit_).Kind≠e.2.unit_.Kind then
   some true
  else
   some false
 else
  some false
def M.qH(n:Nat)(a:af)(b:af):Option (aW×Bool):=
 Option.bind (
   Option.bind (M.oU n a) fun book=>
   if book=false then
    some true
   else
    Option.bind (M.oU n b) fun book1=>
    some (!book1)
  ) fun v=>
  if v=true then
   some ((⟨aB,aB,([]:List (au×aC)),([]:List (au×aC))⟩:aW),false)
  else
   Option.bind (M.lC n a) fun places=>
   Option.bind (M.lC n b) fun places1=>
   Option.bind (anyM (M.l7 a b places places1) ((⟨a,b,places,places1⟩:aW).q_)) fun any=>
   if any=true then
    some ((⟨aB,aB,([]:List (au×aC)),([]:List (au×aC))⟩:aW),false)
   else
    some ((⟨a,b,places,places1⟩:aW),true)
def M.bK(l:List Int)(i:Int):Nat→(List Int)→Int→Option ((List Int))
 | 0,_,_=>none
 | n+1,row1,k2=>
  if k2<(l.length:Int) then
   Option.bind (idx l k2) fun v3=>
   Option.bind (idx l i) fun v4=>
   if v4<v3 then
    Option.bind (idx row1 i) fun v5=>
    Option.bind (idx row1 k2) fun v6=>
    Option.bind (addC v6 (1:Int)) fun v7=>
    Option.bind (idx row1 i) fun v8=>
    Option.bind (setC row1 i (max v5 v7)) fun w1=>
    M.bK l i n w1 (k2+1)
   else
    M.bK l i n row1 (k2+1)
  else
   some row1
def M.aO(l:List Int)(row:List Int)(most:Int):Nat→(List Int)→Int→Option ((List Int))
 | 0,_,_=>none
 | n+1,out,v11=>
  if v11<(l.length:Int) then
   if (out.length:Int)< most then
    Option.bind (idx row v11) fun v12=>
    Option.bind (subC most (out.length:Int)) fun v13=>
    if v12=v13 then
     if (out.length:Int)=(0:Int) then
      Option.bind (appC out [v11]) fun out1=>
      M.aO l row most n out1 (v11+1)
     else
      Option.bind (idx l v11) fun v14=>
      Option.bind (subC (out.length:Int) (1:Int)) fun v15=>
      Option.bind (idx out v15) fun v16=>
      Option.bind (idx l v16) fun v17=>
      if v17<v14 then
       Option.bind (appC out [v11]) fun out2=>
       M.aO l row most n out2 (v11+1)
      else
       M.aO l row most n out (v11+1)
    else
     M.aO l row most n out (v11+1)
   else
    M.aO l row most n out (v11+1)
  else
   some out
def M.dw(l:List Int):Nat→(List Int)→Int→Int→Option ((List Int)×Int)
 | 0,_,_,_=>none
 | n+1,row,most,i=>
  if (0:Int)≤i then
   Option.bind (idx row i) fun v1=>
   Option.bind (setC row i (1:Int)) fun w=>
   Option.bind (addC i (1:Int)) fun v2=>
   Option.bind (M.bK l i n w v2) fun row1=>
    Option.bind (idx row1 i) fun v9=>
    Option.bind (subC i (1:Int)) fun v10=>
    M.dw l n row1 (max most v9) v10
  else
   some (row,most)
def M.iD(n:Nat)(l:List Int):Option (List Int):=
 if (256:Int)< (l.length:Int) then
  some ([]:List Int)
 else
  Option.bind (makeC (0:Int) (l.length:Int)) fun mk=>
  Option.bind (subC (l.length:Int) (1:Int)) fun v=>
  Option.bind (M.dw l n mk (0:Int) v) fun (row,most)=>
   Option.bind (M.aO l row most n ([]:List Int) (0:Int)) fun out=>
    some out
def M.dY(ids:List au):List Int→(List (au×Bool))→Option ((List (au×Bool)))
 | [],v1=>
  some v1
 | e1 :: es1,v1=>
  Option.bind (idx ids e1) fun v2=>
  M.dY ids es1 (mset v1 v2 true)
def M.dn(x:aW)(u:af):List af→(List au)→(List Int)→Option ((List au)×(List Int))
 | [],ids,at0_=>
  some (ids,at0_)
 | e :: es,ids,at0_=>
  Option.bind (
    if ((mget x.p_ e.Id aY,mhas x.p_ e.Id).2)=true then
     some (decide ((((mget x.p_ e.Id aY,mhas x.p_ e.Id).1).parent_)=u.Id))
    else
     some false
   ) fun v=>
   if v=true then
    if ((mget x.p_ u.Id aY,mhas x.p_ u.Id).2)=true then
     Option.bind (appC ids [e.Id]) fun ids2=>
     Option.bind (appC at0_ [((mget x.p_ e.Id aY,mhas x.p_ e.Id).1).at_]) fun at0_2=>
     M.dn x u es ids2 at0_2
    else
     M.dn x u es ids at0_
   else
    M.dn x u es ids at0_
def M.jJ(n:Nat)(x:aW)(u:af):Option (List (au×Bool)):=
 Option.bind (M.dn x u u.Kids ([]:List au) ([]:List Int)) fun (ids,at0_)=>
  Option.bind (M.iD n at0_) fun longes=>
  Option.bind (M.dY ids longes ([]:List (au×Bool))) fun v1=>
   some v1
def M.iW(n:Nat)(u:af)(parent:af)(c:aW)(c1:List (au×Bool))(c2:List au):Option ((List (au×Bool))×(List au)):=
 Option.bind (M.jJ n c u) fun stays=>
 Option.bind (setAll stays true c1) fun m0_1=>
 if ((mget c.p_ u.Id aY,mhas c.p_ u.Id).2)=true then
  if u.Kind≠(0:Int) then
   if (mget m0_1 u.Id false)=false then
    Option.bind (appC c2 [u.Id]) fun out=>
    some (m0_1,out)
   else
    some (m0_1,c2)
  else
   some (m0_1,c2)
 else
  some (m0_1,c2)
def M.fo(n:Nat)(u:af)(c:aW)(slf:af→aW→(List (au×Bool))→(List au)→Option ((List (au×Bool))×(List au))):List af→(List (au×Bool))→(List au)→Option ((List (au×Bool))×(List au))
 | [],v,v1=>
  some (v,v1)
 | e :: es,v,v1=>
  Option.bind (M.iW n e u c v v1) fun (w,w1)=>
  Option.bind (slf e c w w1) fun (w2,w3)=>
  M.fo n u c slf es w2 w3
def M.ji:Nat→af→aW→(List (au×Bool))→(List au)→Option ((List (au×Bool))×(List au))
 | 0,_,_,_,_=>none
 | n+1,u,c,c1,c2=>
  Option.bind (M.fo n u c (M.ji n) u.Kids c1 c2) fun (v,v1)=>
   some (v,v1)
def M.oL(n:Nat)(u:af)(c:aW)(c1:List (au×Bool))(c2:List au):Option ((List (au×Bool))×(List au)):=
 Option.bind (M.iW n u (⟨cu,(0:Int),([]:Str),([]:List aH),([]:List aH),([]:List af)⟩:af) c c1 c2) fun (w,w1)=>
 Option.bind (M.ji n u c w w1) fun (w2,w3)=>
 some (w2,w3)
def M.l8(n:Nat)(x:aW):Option (List au):=
 Option.bind (M.oL n x.b_ x ([]:List (au×Bool)) ([]:List au)) fun (w,out)=>
 some out
def M.pg(n:Nat)(a:af)(b:af):Option (List au):=
 Option.bind (M.qH n a b) fun held=>
 if held.2=false then
  some ([]:List au)
 else
  Option.bind (M.l8 n held.1) fun moved=>
  some moved
def M.gP:List au→(List (au×Bool))→Option ((List (au×Bool)))
 | [],v2=>
  some v2
 | e1 :: es,v2=>
  M.gP es (mset v2 e1 true)
def M.jC(w1:List (au×af))(e:au×af):Option Bool:=
 if ((mget w1 e.1 aB,mhas w1 e.1).2)=true then
  if ((mget w1 e.1 aB,mhas w1 e.1).1).Kind≠e.2.Kind then
   some true
  else
   some false
 else
  some false
def M.gL(n:Nat)(a:af)(b:af):Option (ay×Bool):=
 Option.bind (
   if a.Kind≠(0:Int) then
    some true
   else
    if b.Kind≠(0:Int) then
     some true
    else
     Option.bind (M.ig n a) fun valid=>
     if valid=false then
      some true
     else
      Option.bind (M.ig n b) fun valid1=>
      some (!valid1)
  ) fun v=>
  if v=true then
   some (({(⟨([]:List (au×af)),([]:List (au×af)),([]:List (au×Bool))⟩:ay) with a_:=([]:List (au×af)),b_:=([]:List (au×af)),moved_:=([]:List (au×Bool))}:ay),false)
  else
   Option.bind (M.fO n a ([]:List (au×af))) fun w=>
   Option.bind (M.fO n b ([]:List (au×af))) fun w1=>
   Option.bind (
     Option.bind (growC (w.length:Int)) fun _=>
     Option.bind (M.jV n a) fun count=>
     if (w.length:Int)≠count then
      some true
     else
      Option.bind (growC (w1.length:Int)) fun _=>
      Option.bind (M.jV n b) fun count1=>
      some (decide ((w1.length:Int)≠count1))
    ) fun v1=>
    if v1=true then
     some (({(⟨([]:List (au×af)),([]:List (au×af)),([]:List (au×Bool))⟩:ay) with a_:=w,b_:=w1,moved_:=([]:List (au×Bool))}:ay),false)
    else
     Option.bind (anyM (M.jC w1) w) fun any=>
     if any=true then
      some (({({(⟨([]:List (au×af)),([]:List (au×af)),([]:List (au×Bool))⟩:ay) with a_:=w}:ay) with b_:=w1,moved_:=([]:List (au×Bool))}:ay),false)
     else
      Option.bind (M.pg n a b) fun moved=>
      Option.bind (M.gP moved ([]:List (au×Bool))) fun v2=>
       some (({({(⟨([]:List (au×af)),([]:List (au×af)),([]:List (au×Bool))⟩:ay) with a_:=w}:ay) with b_:=w1,moved_:=v2}:ay),true)
def M.fq:List aH→(List Str)→Option ((List Str))
 | [],out=>
  some out
 | e :: es,out=>
  Option.bind (appC out [e.Text]) fun out1=>
  M.fq es out1
def M.kX(w:List aH):Option (List Str):=
 Option.bind (M.fq w ([]:List Str)) fun out=>
  some out
def M.jD(s0_:Str)(c:Int):Option ah:=
 some (⟨c,s0_⟩:ah)
def M.lK(state:Int):Option (Str→Option ah):=
 some (fun s0=>M.jD s0 state)
def M.bu(s0_:List (List Str))(f:(List Str)→Option Bool):Nat→Int→Option (Unit ⊕ Int)
 | 0,_=>none
 | n+1,v=>
  if v<(s0_.length:Int) then
   Option.bind (idx s0_ v) fun v1=>
   Option.bind (f v1) fun v2=>
   if v2=true then
    some (.inr v)
   else
    M.bu s0_ f n (v+1)
  else
   some (.inl ())
def M.fB(n:Nat)(s0_:List (List Str))(f:(List Str)→Option Bool):Option Int:=
 Option.bind (M.bu s0_ f n (0:Int)) fun
  | .inl _=>
   some (-1:Int)
  | .inr ret0=>some ret0
def M.dI(n:Nat)(s0_:List (List Str))(f:(List Str)→Option Bool):Option Bool:=
 Option.bind (M.fB n s0_ f) fun string=>
 some (decide ((0:Int)≤string))
def M.nI(l:List Str):Option Bool:=
 some (decide ((256:Int)< (l.length:Int)))
def M.vL(n:Nat)(rows:List (List Str)):Option Bool:=
 Option.bind (M.dI n rows (fun s0=>M.nI s0)) fun string=>
 some string
def M.jW(i:Int)(k:Int)(c:List Int)(c1:Int):Option Int:=
 Option.bind (mulC i c1) fun v=>
 Option.bind (addC v k) fun v1=>
 Option.bind (idx c v1) fun v2=>
 some v2
def M.kM(i:Int)(k:Int)(c:List Int)(c1:Int):Option Int:=
 Option.bind (mulC i c1) fun v=>
 Option.bind (addC v k) fun v1=>
 Option.bind (idx c v1) fun v2=>
 some v2
def M.gu(a:List Str)(b:List Str)(v:Int)(i:Int):Nat→Int→(List Int)→Option ((List Int))
 | 0,_,_=>none
 | n+1,k2,l1=>
  if (0:Int)≤k2 then
   Option.bind (addC i (1:Int)) fun v5=>
   Option.bind (M.jW v5 k2 l1 v) fun v1_=>
   Option.bind (addC k2 (1:Int)) fun v6=>
   Option.bind (M.jW i v6 l1 v) fun v1_1=>
   Option.bind (
     Option.bind (idx a i) fun v7=>
     Option.bind (idx b k2) fun v8=>
     if (v7==v8)=true then
      Option.bind (addC i (1:Int)) fun v9=>
      Option.bind (addC k2 (1:Int)) fun v10=>
      Option.bind (M.jW v9 v10 l1 v) fun v1_2=>
      Option.bind (addC v1_2 (1:Int)) fun v11=>
      some (max (max v1_ v1_1) v11,l1)
     else
      some (max v1_ v1_1,l1)
    ) fun (n0_,l2)=>
    Option.bind (mulC i v) fun v12=>
    Option.bind (addC v12 k2) fun v13=>
    Option.bind (idx l2 v13) fun v14=>
    Option.bind (setC l2 v13 n0_) fun w=>
    Option.bind (subC k2 (1:Int)) fun v15=>
    M.gu a b v i n v15 w
  else
   some l1
def M.gy(a:List Str)(b:List Str)(v:Int):Nat→Int→(List Int)→Option ((List Int))
 | 0,_,_=>none
 | n+1,i,l=>
  if (0:Int)≤i then
   Option.bind (subC (b.length:Int) (1:Int)) fun v4=>
   Option.bind (M.gu a b v i n v4 l) fun l1=>
    Option.bind (subC i (1:Int)) fun v16=>
    M.gy a b v n v16 l1
  else
   some l
def M.ol(n:Nat)(a:List Str)(b:List Str):Option (Int→Int→Option Int):=
 Option.bind (addC (b.length:Int) (1:Int)) fun v=>
 Option.bind (addC (a.length:Int) (1:Int)) fun v1=>
 Option.bind (mulC v1 v) fun v2=>
 Option.bind (makeC (0:Int) v2) fun mk=>
 Option.bind (subC (a.length:Int) (1:Int)) fun v3=>
 Option.bind (M.gy a b v n v3 mk) fun l=>
  some (fun s0 s1=>M.kM s0 s1 l v)
def M.dW(i:Int)(k:Int)(c:List Str)(c1:List Str)(c2:Int→Int→Option Int)(x:Int):Nat→Int→aI→Option (aI ⊕ aI)
 | 0,_,_=>none
 | n+1,y,v1=>
  if y<(c1.length:Int) then
   Option.bind (idx c x) fun v2=>
   Option.bind (idx c1 y) fun v3=>
   if (v2==v3)=true then
    Option.bind (addC x (1:Int)) fun v4=>
    Option.bind (addC y (1:Int)) fun v5=>
    Option.bind (c2 v4 v5) fun v6=>
    Option.bind (addC v6 (1:Int)) fun v7=>
    Option.bind (c2 i k) fun v8=>
    if v7=v8 then
     some (.inr (⟨x,y⟩:aI))
    else
     M.dW i k c c1 c2 x n (y+1) v1
   else
    M.dW i k c c1 c2 x n (y+1) v1
  else
   some (.inl v1)
def M.fC(i:Int)(k:Int)(c:List Str)(c1:List Str)(c2:Int→Int→Option Int):Nat→Int→aI→Option (aI ⊕ aI)
 | 0,_,_=>none
 | n+1,x,v=>
  if x<(c.length:Int) then
   Option.bind (M.dW i k c c1 c2 x n k v) fun
    | .inl v1=>
     Option.bind (addC x (1:Int)) fun v9=>
     M.fC i k c c1 c2 n v9 v1
    | .inr ret0=>some (.inr ret0)
  else
   some (.inl v)
def M.lD(n:Nat)(i:Int)(k:Int)(c:List Str)(c1:List Str)(c2:Int→Int→Option Int):Option aI:=
 Option.bind (M.fC i k c c1 c2 n i lJ) fun
  | .inl v=>
   some (⟨(c.length:Int),(c1.length:Int)⟩:aI)
  | .inr ret0=>some ret0
def M.gM(length:Int→Int→Option Int)(fn:Int→Int→Option aI):Nat→(List aI)→Int→Int→Option ((List aI))
 | 0,_,_,_=>none
 | n+1,out,i,k=>
  Option.bind (length i k) fun v=>
  if (0:Int)< v then
   Option.bind (fn i k) fun v1=>
   Option.bind (appC out [v1]) fun out1=>
   Option.bind (addC v1.A (1:Int)) fun v2=>
   Option.bind (addC v1.B (1:Int)) fun v3=>
   M.gM length fn n out1 v2 v3
  else
   some out
def M.qI(n:Nat)(a:List Str)(b:List Str):Option (List aI):=
 Option.bind (M.vL n [a,b]) fun long=>
 if long=true then
  some ([]:List aI)
 else
  Option.bind (M.ol n a b) fun length=>
  Option.bind (some (fun s0 s1=>M.lD n s0 s1 a b length)) fun fn=>
  Option.bind (M.gM length fn n ([]:List aI) (0:Int) (0:Int)) fun out=>
   some out
def M.kN(s0_:Str)(x:Str)(c:Str→Option ah):Option ah:=
 Option.bind (c s0_) fun v=>
 some v
def M.bU(l:List aI):Option (List aI):=appC [] l
def M.aU(b:List Str)(comes:Str→Option ah)(e:aI):Nat→(List ah)→Int→Option ((List ah)×Int)
 | 0,_,_=>none
 | n+1,out4,k6=>
  if k6<e.B then
   Option.bind (idx b k6) fun v3=>
   Option.bind (comes v3) fun v4=>
   Option.bind (appC out4 [v4]) fun out5=>
   Option.bind (addC k6 (1:Int)) fun v5=>
   M.aU b comes e n out5 v5
  else
   some (out4,k6)
def M.aV(a:List Str)(goes:Str→Option ah)(e:aI):Nat→(List ah)→Int→Option ((List ah)×Int)
 | 0,_,_=>none
 | n+1,out2,i2=>
  if i2<e.A then
   Option.bind (idx a i2) fun v=>
   Option.bind (goes v) fun v1=>
   Option.bind (appC out2 [v1]) fun out3=>
   Option.bind (addC i2 (1:Int)) fun v2=>
   M.aV a goes e n out3 v2
  else
   some (out2,i2)
def M.aP(n:Nat)(a:List Str)(b:List Str)(goes:Str→Option ah)(comes:Str→Option ah)(stays:Str→Str→Option ah):List aI→(List ah)→Int→Int→Option ((List ah))
 | [],out1,i,k2=>
  some out1
 | e :: es,out1,i,k2=>
  Option.bind (M.aV a goes e n out1 i) fun (out2,i2)=>
   Option.bind (M.aU b comes e n out2 k2) fun (out4,k6)=>
    Option.bind (
      if e.A<(a.length:Int) then
       some (decide (e.B<(b.length:Int)))
      else
       some false
     ) fun v6=>
     if v6=true then
      Option.bind (idx a i2) fun v7=>
      Option.bind (idx b k6) fun v8=>
      Option.bind (stays v7 v8) fun v9=>
      Option.bind (appC out4 [v9]) fun out6=>
      Option.bind (addC i2 (1:Int)) fun v10=>
      Option.bind (addC k6 (1:Int)) fun v11=>
      M.aP n a b goes comes stays es out6 v10 v11
     else
      M.aP n a b goes comes stays es out4 i2 k6
def M.bY(n:Nat)(a:List Str)(b:List Str)(pairs:List aI)(goes:Str→Option ah)(comes:Str→Option ah)(stays:Str→Str→Option ah):Option (List ah):=
 Option.bind (M.bU pairs) fun pair=>
 Option.bind (appC pair [(⟨(a.length:Int),(b.length:Int)⟩:aI)]) fun out=>
 Option.bind (M.aP n a b goes comes stays out ([]:List ah) (0:Int) (0:Int)) fun out1=>
  some out1
def M.jk(n:Nat)(a:List aH)(b:List aH):Option (List ah):=
 Option.bind (M.kX a) fun texts=>
 Option.bind (M.kX b) fun texts1=>
 Option.bind (M.lK (0:Int)) fun word=>
 Option.bind (M.qI n texts texts1) fun pairs=>
 Option.bind (M.lK (2:Int)) fun word1=>
 Option.bind (M.lK (1:Int)) fun word2=>
 Option.bind (M.bY n texts texts1 pairs word1 word2 (fun s0 s1=>M.kN s0 s1 word)) fun tracke=>
 some tracke
def M.bD(y:af)(c:af):Option Bool:=
 some (decide (y.Id=c.Id))
def M.aZ(s0_:List af)(f:af→Option Bool):Nat→Int→Option (Unit ⊕ Int)
 | 0,_=>none
 | n+1,v=>
  if v<(s0_.length:Int) then
   Option.bind (idx s0_ v) fun v1=>
   Option.bind (f v1) fun v2=>
   if v2=true then
    some (.inr v)
   else
    M.aZ s0_ f n (v+1)
  else
   some (.inl ())
def M.bA(n:Nat)(s0_:List af)(f:af→Option Bool):Option Int:=
 Option.bind (M.aZ s0_ f n (0:Int)) fun
  | .inl _=>
   some (-1:Int)
  | .inr ret0=>some ret0
def M.dJ(x:ay)(slf:ay→af→Option aa):List af→aa→Option aa
 | [],t=>
  some t
 | e :: es,t=>
  Option.bind (slf x e) fun gone=>
  Option.bind (appC t.Kids [gone]) fun out=>
  M.dJ x slf es ({t with Kids:=out}:aa)
def M.bL:Nat→ay→af→Option aa
 | 0,_,_=>none
 | n+1,x,u=>
  if ((mget x.b_ u.Id aB,mhas x.b_ u.Id).2)=true then
   some (⟨(2:Int),(0:Int),u.Id,([]:Str),([]:Str),true,([]:List ah),([]:List ah),([]:List aa)⟩:aa)
  else
   Option.bind (M.jk n u.Head ([]:List aH)) fun words=>
   Option.bind (M.jk n u.Words ([]:List aH)) fun words1=>
   Option.bind (M.dJ x (M.bL n) u.Kids (⟨(2:Int),u.Kind,u.Id,u.Label,([]:Str),false,words,words1,([]:List aa)⟩:aa)) fun t=>
    some t
def M.fu(slf:ay→af→Option aa)(x:af)(y:af)(c:ay):Option aa:=
 Option.bind (slf c y) fun fresh=>
 some fresh
def M.aQ(b:List af)(comes:af→Option aa)(e:aI):Nat→(List aa)→Int→Option ((List aa)×Int)
 | 0,_,_=>none
 | n+1,out4,k6=>
  if k6<e.B then
   Option.bind (idx b k6) fun v3=>
   Option.bind (comes v3) fun v4=>
   Option.bind (appC out4 [v4]) fun out5=>
   Option.bind (addC k6 (1:Int)) fun v5=>
   M.aQ b comes e n out5 v5
  else
   some (out4,k6)
def M.aR(a:List af)(goes:af→Option aa)(e:aI):Nat→(List aa)→Int→Option ((List aa)×Int)
 | 0,_,_=>none
 | n+1,out2,i2=>
  if i2<e.A then
   Option.bind (idx a i2) fun v=>
   Option.bind (goes v) fun v1=>
   Option.bind (appC out2 [v1]) fun out3=>
   Option.bind (addC i2 (1:Int)) fun v2=>
   M.aR a goes e n out3 v2
  else
   some (out2,i2)
def M.aM(n:Nat)(a:List af)(b:List af)(goes:af→Option aa)(comes:af→Option aa)(stays:af→af→Option aa):List aI→(List aa)→Int→Int→Option ((List aa))
 | [],out1,i,k2=>
  some out1
 | e :: es,out1,i,k2=>
  Option.bind (M.aR a goes e n out1 i) fun (out2,i2)=>
   Option.bind (M.aQ b comes e n out2 k2) fun (out4,k6)=>
    Option.bind (
      if e.A<(a.length:Int) then
       some (decide (e.B<(b.length:Int)))
      else
       some false
     ) fun v6=>
     if v6=true then
      Option.bind (idx a i2) fun v7=>
      Option.bind (idx b k6) fun v8=>
      Option.bind (stays v7 v8) fun v9=>
      Option.bind (appC out4 [v9]) fun out6=>
      Option.bind (addC i2 (1:Int)) fun v10=>
      Option.bind (addC k6 (1:Int)) fun v11=>
      M.aM n a b goes comes stays es out6 v10 v11
     else
      M.aM n a b goes comes stays es out4 i2 k6
def M.bP(n:Nat)(a:List af)(b:List af)(pairs:List aI)(goes:af→Option aa)(comes:af→Option aa)(stays:af→af→Option aa):Option (List aa):=
 Option.bind (M.bU pairs) fun pair=>
 Option.bind (appC pair [(⟨(a.length:Int),(b.length:Int)⟩:aI)]) fun out=>
 Option.bind (M.aM n a b goes comes stays out ([]:List aa) (0:Int) (0:Int)) fun out1=>
  some out1
def M.bR(n:Nat)(x:ay)(u:af):List af→Int→(List aI)→Option ((List aI))
 | [],_,pairs=>
  some pairs
 | e :: es,i,pairs=>
  Option.bind (
    if ((mget x.b_ e.Id aB,mhas x.b_ e.Id).2)=true then
     some (!(mget x.moved_ e.Id false))
    else
     some false
   ) fun v=>
   if v=true then
    Option.bind (M.bA n u.Kids (fun s0=>M.bD s0 e)) fun unit=>
    Option.bind (appC pairs [(⟨i,unit⟩:aI)]) fun pairs1=>
    M.bR n x u es (i+1) pairs1
   else
    M.bR n x u es (i+1) pairs
def M.bv:Nat→ay→af→Option aa
 | 0,_,_=>none
 | n+1,x,u=>
  Option.bind (M.jk n (((mget x.a_ u.Id aB,mhas x.a_ u.Id).1).Head) u.Head) fun words=>
  Option.bind (M.jk n (((mget x.a_ u.Id aB,mhas x.a_ u.Id).1).Words) u.Words) fun words1=>
  Option.bind (
    if ((mget x.a_ u.Id aB,mhas x.a_ u.Id).2)=false then
     some ({(⟨(0:Int),u.Kind,u.Id,u.Label,([]:Str),mget x.moved_ u.Id false,words,words1,([]:List aa)⟩:aa) with State:=(1:Int)}:aa)
    else
     if ((⟨(0:Int),u.Kind,u.Id,u.Label,([]:Str),mget x.moved_ u.Id false,words,words1,([]:List aa)⟩:aa).Moved)=true then
      some ({(⟨(0:Int),u.Kind,u.Id,u.Label,([]:Str),mget x.moved_ u.Id false,words,words1,([]:List aa)⟩:aa) with State:=(1:Int)}:aa)
     else
      some (⟨(0:Int),u.Kind,u.Id,u.Label,([]:Str),mget x.moved_ u.Id false,words,words1,([]:List aa)⟩:aa)
   ) fun t=>
   Option.bind (
     if ((mget x.a_ u.Id aB,mhas x.a_ u.Id).2)=true then
      if ((((mget x.a_ u.Id aB,mhas x.a_ u.Id).1).Label) !=u.Label)=true then
       some ({t with Was:=((mget x.a_ u.Id aB,mhas x.a_ u.Id).1).Label}:aa)
      else
       some t
     else
      some t
    ) fun t1=>
    Option.bind (M.bR n x u (((mget x.a_ u.Id aB,mhas x.a_ u.Id).1).Kids) (0:Int) ([]:List aI)) fun pairs=>
     Option.bind (M.bP n (((mget x.a_ u.Id aB,mhas x.a_ u.Id).1).Kids) u.Kids pairs (fun s0=>M.bL n x s0) (fun s0=>(M.bv n) x s0) (fun s0 s1=>M.fu (M.bv n) s0 s1 x)) fun tracke=>
     some ({t1 with Kids:=tracke}:aa)
def M.lL(n:Nat)(a:af)(b:af):Option (aa×Int):=
 Option.bind (M.gL n a b) fun held=>
 if held.2=false then
  some ((⟨(0:Int),(0:Int),cu,([]:Str),([]:Str),false,([]:List ah),([]:List ah),([]:List aa)⟩:aa),(1:Int))
 else
  Option.bind (M.bv n held.1 b) fun fresh=>
  some (fresh,(0:Int))
def M.mh(n0_:Int):Option Bool:=
 if (0:Int)≤n0_ then
  some (decide (n0_≤(1048576:Int)))
 else
  some false
def M.mH(id:au):Option Bool:=
 Option.bind (M.mh id.Act) fun number=>
 if number=true then
  Option.bind (M.mh id.Item) fun number1=>
  if number1=true then
   Option.bind (M.mh id.N) fun number2=>
   some number2
  else
   some false
 else
  some false
def M.qJ(t:aa):Option Bool:=
 if t.State=(2:Int) then
  if t.Moved=true then
   Option.bind (M.mH t.Id) fun number=>
   if number=true then
    if t.Kind=(0:Int) then
     if (t.Label==([]:Str))=true then
      if (t.Was==([]:Str))=true then
       Option.bind (addC (t.Head.length:Int) (t.Words.length:Int)) fun v=>
       Option.bind (addC v (t.Kids.length:Int)) fun v1=>
       some (decide (v1=(0:Int)))
      else
       some false
     else
      some false
    else
     some false
   else
    some false
  else
   some false
 else
  some false
def M.iR(s0_:Str):Nat→Int→Option (Unit ⊕ Bool)
 | 0,_=>none
 | n+1,i=>
  if i<(s0_.length:Int) then
   Option.bind (idx s0_ i) fun b=>
   if (b.toNat:Int)< (33:Int) then
    some (.inr false)
   else
    Option.bind (idx s0_ i) fun b1=>
    if (126:Int)< (b1.toNat:Int) then
     some (.inr false)
    else
     M.iR s0_ n (i+1)
  else
   some (.inl ())
def M.sH(n:Nat)(s0_:Str):Option Bool:=
 Option.bind (
   if (s0_.length:Int)< (1:Int) then
    some true
   else
    some (decide ((24:Int)< (s0_.length:Int)))
  ) fun v=>
  if v=true then
   some false
  else
   Option.bind (M.iR s0_ n (0:Int)) fun
    | .inl _=>
     some true
    | .inr ret0=>some ret0
def M.gV(l:List ah):Nat→Int→Option (Unit ⊕ Bool)
 | 0,_=>none
 | n+1,i=>
  if i<(l.length:Int) then
   Option.bind (idx l i) fun v=>
   Option.bind (M.sH n v.Text) fun word=>
   if word=false then
    some (.inr false)
   else
    Option.bind (idx l i) fun v1=>
    if v1.State<(0:Int) then
     some (.inr false)
    else
     Option.bind (idx l i) fun v2=>
     if (2:Int)< v2.State then
      some (.inr false)
     else
      M.gV l n (i+1)
  else
   some (.inl ())
def M.nJ(n:Nat)(l:List ah):Option Bool:=
 Option.bind (M.gV l n (0:Int)) fun
  | .inl _=>
   some (decide ((l.length:Int)≤(512:Int)))
  | .inr ret0=>some ret0
def M.gW(s0_:Str):Nat→Int→Option Int
 | 0,_=>none
 | n+1,n0_=>
  if n0_<(s0_.length:Int) then
   Option.bind (idx s0_ n0_) fun b=>
   if (48:Int)≤(b.toNat:Int) then
    Option.bind (idx s0_ n0_) fun b1=>
    if (b1.toNat:Int)≤(57:Int) then
     M.gW s0_ n (n0_+1)
    else
     some n0_
   else
    some n0_
  else
   some n0_
def M.pu(n:Nat)(s0_:Str):Option Int:=
 Option.bind (M.gW s0_ n (0:Int)) fun n0_=>
  some n0_
def M.jl(s0_:Str):Nat→Int→Option (Unit ⊕ Bool)
 | 0,_=>none
 | n+1,i=>
  if i<(s0_.length:Int) then
   Option.bind (idx s0_ i) fun b1=>
   if (b1.toNat:Int)< (65:Int) then
    some (.inr false)
   else
    Option.bind (idx s0_ i) fun b2=>
    if (90:Int)< (b2.toNat:Int) then
     some (.inr false)
    else
     M.jl s0_ n (i+1)
  else
   some (.inl ())
def M.uk(n:Nat)(s0_:Str):Option Bool:=
 Option.bind (M.pu n s0_) fun digits=>
 Option.bind (
   if digits<(1:Int) then
    some true
   else
    if (4:Int)< digits then
     some true
    else
     Option.bind (idx s0_ (0:Int)) fun b=>
     if (b.toNat:Int)=(48:Int) then
      some true
     else
      Option.bind (subC (s0_.length:Int) digits) fun v1=>
      some (decide ((3:Int)< v1))
  ) fun v=>
  if v=true then
   some false
  else
   Option.bind (M.jl s0_ n digits) fun
    | .inl _=>
     some true
    | .inr ret0=>some ret0
def M.vM(n:Nat)(t:aa):Option Bool:=
 Option.bind (
   if t.Kind<(0:Int) then
    some true
   else
    if (7:Int)< t.Kind then
     some true
    else
     Option.bind (M.mH t.Id) fun number=>
     if number=false then
      some true
     else
      Option.bind (M.nJ n t.Head) fun mayrow=>
      if mayrow=false then
       some true
      else
       Option.bind (M.nJ n t.Words) fun mayrow1=>
       some (!mayrow1)
  ) fun v=>
  if v=true then
   some false
  else
   Option.bind (
     if ((decide (t.Kind=(0:Int))) !=(t.Label==([]:Str)))=true then
      some true
     else
      if (t.Label !=([]:Str))=true then
       Option.bind (M.uk n t.Label) fun may=>
       some (!may)
      else
       some false
    ) fun v1=>
    if v1=true then
     some false
    else
     Option.bind (
       if (t.Was !=([]:Str))=true then
        Option.bind (M.uk n t.Was) fun may1=>
        if may1=false then
         some true
        else
         some (t.Was==t.Label)
       else
        some false
      ) fun v2=>
      if v2=true then
       some false
      else
       if t.State=(1:Int) then
        some true
       else
        if t.State=(0:Int) then
         some (!t.Moved)
        else
         if t.State=(2:Int) then
          some (!t.Moved)
         else
          some false
def M.jm(t:aa)(depth:Int)(slf:aa→Int→Option Bool):Nat→Int→Option (Unit ⊕ Bool)
 | 0,_=>none
 | n+1,i=>
  if i<(t.Kids.length:Int) then
   Option.bind (idx t.Kids i) fun v1=>
   Option.bind (addC depth (1:Int)) fun v2=>
   Option.bind (slf v1 v2) fun may=>
   if may=false then
    some (.inr false)
   else
    M.jm t depth slf n (i+1)
  else
   some (.inl ())
def M.nT:Nat→aa→Int→Option Bool
 | 0,_,_=>none
 | n+1,t,depth=>
  if (8:Int)< depth then
   some false
  else
   Option.bind (
     if (0:Int)< depth then
      Option.bind (M.qJ t) fun place=>
      some place
     else
      some false
    ) fun v=>
    if v=true then
     some true
    else
     Option.bind (M.vM n t) fun own=>
     if own=false then
      some false
     else
      Option.bind (M.jm t depth (M.nT n) n (0:Int)) fun
       | .inl _=>
        some true
       | .inr ret0=>some ret0
def M.xR(n:Nat)(t:aa):Option Bool:=
 Option.bind (M.nT n t (0:Int)) fun may=>
 some may
def M.dB(c:Int):Nat→Str→Option Str
 | 0,_=>none
 | n+1,s0_1=>
  if (0:Int)< (s0_1.length:Int) then
   Option.bind (idx s0_1 (0:Int)) fun b=>
   if (b.toNat:Int)=c then
    Option.bind (slcLo s0_1 (1:Int)) fun v=>
    M.dB c n v
   else
    some s0_1
  else
   some s0_1
def M.strings_trimLeftByte(n:Nat)(s0_:Str)(c:Int):Option Str:=
 Option.bind (M.dB c n s0_) fun s0_1=>
  some s0_1
def M.fH(chars:Str):Nat→Int→(List Bool)→Option (((List Bool)) ⊕ ((List Bool)×Bool))
 | 0,_,_=>none
 | n+1,i,as0_=>
  if i<(chars.length:Int) then
   Option.bind (idx chars i) fun b1=>
   if (128:Int)≤(b1.toNat:Int) then
    some (.inr (as0_,false))
   else
    Option.bind (rngC 256 (b1.toNat:Int)) fun _=>
    M.fH chars n (i+1) (as0_.set (b1.toNat:Int).toNat true)
  else
   some (.inl as0_)
def M.strings_makeASCIISet(n:Nat)(chars:Str):Option ((List Bool)×Bool):=
 Option.bind (M.fH chars n (0:Int) (List.replicate 256 false)) fun
  | .inl as0_=>
   some (as0_,true)
  | .inr ret0=>some ret0
def M.jG(as0_:List Bool)(c:Int):Option Bool:=
 Option.bind (idx as0_ c) fun v=>
 some v
def M.fD(as0_:List Bool):Nat→Str→Option Str
 | 0,_=>none
 | n+1,s0_1=>
  if (0:Int)< (s0_1.length:Int) then
   Option.bind (idx s0_1 (0:Int)) fun b=>
   Option.bind (M.jG as0_ (b.toNat:Int)) fun contai=>
   if contai=false then
    some s0_1
   else
    Option.bind (slcLo s0_1 (1:Int)) fun v=>
    M.fD as0_ n v
  else
   some s0_1
def M.strings_trimLeftASCII(n:Nat)(s0_:Str)(as0_:List Bool):Option Str:=
 Option.bind (M.fD as0_ n s0_) fun s0_1=>
  some s0_1
def M.j6(n:Nat)(s0_:Str)(cutset:Str):Option Str:=
 Option.bind (
   if (s0_==([]:Str))=true then
    some true
   else
    some (cutset==([]:Str))
  ) fun v=>
  if v=true then
   some s0_
  else
   Option.bind (
     if (cutset.length:Int)=(1:Int) then
      Option.bind (idx cutset (0:Int)) fun b=>
      some (decide ((b.toNat:Int)< (128:Int)))
     else
      some false
    ) fun v1=>
    if v1=true then
     Option.bind (idx cutset (0:Int)) fun b1=>
     Option.bind (M.strings_trimLeftByte n s0_ (b1.toNat:Int)) fun trimle=>
     some trimle
    else
     Option.bind (M.strings_makeASCIISet n cutset) fun makeas=>
     if makeas.2=true then
      Option.bind (M.strings_trimLeftASCII n s0_ makeas.1) fun trimle1=>
      some trimle1
     else
      none
def M.fU(s0_:Str)(prefix0_:Str):Option Bool:=
 if (prefix0_.length:Int)≤(s0_.length:Int) then
  Option.bind (slcHi s0_ (prefix0_.length:Int)) fun v=>
  some (v==prefix0_)
 else
  some false
def M.fF(s0_:Str)(prefix0_:Str):Option Str:=
 Option.bind (M.fU s0_ prefix0_) fun haspre=>
 if haspre=true then
  Option.bind (slcLo s0_ (prefix0_.length:Int)) fun v=>
  some v
 else
  some s0_
def M.strings_TrimPrefix(s0_:Str)(prefix0_:Str):Option Str:=
 Option.bind (M.fF s0_ prefix0_) fun trimpr=>
 some trimpr
def M.fI:List Str→Int→au→(List Int)→Option ((au×(List Int)) ⊕ (au×Bool))
 | [],_,v,n0_=>
  some (.inl (v,n0_))
 | e :: es,i,v,n0_=>
  Option.bind (atoiB e) fun atoi=>
  if atoi.2=true then
   some (.inr ((⟨(0:Int),(0:Int),(0:Int)⟩:au),false))
  else
   Option.bind (rngC 3 i) fun _=>
   M.fI es (i+1) v (n0_.set i.toNat atoi.1)
def M.lF(s0_:Str):Option (au×Bool):=
 Option.bind (M.strings_TrimPrefix s0_ ([35]:Str)) fun trimpr=>
 Option.bind (splitM trimpr ([46]:Str)) fun split=>
 if (split.length:Int)≠(3:Int) then
  some ((⟨(0:Int),(0:Int),(0:Int)⟩:au),false)
 else
  Option.bind (M.fI split (0:Int) cu (List.replicate 3 (0:Int))) fun
   | .inl (v,n0_)=>
    Option.bind (rngC 3 (0:Int)) fun _=>
    Option.bind (rngC 3 (1:Int)) fun _=>
    Option.bind (rngC 3 (2:Int)) fun _=>
    Option.bind (M.iO (⟨(n0_[(0:Int).toNat]?).getD (0:Int),(n0_[(1:Int).toNat]?).getD (0:Int),(n0_[(2:Int).toNat]?).getD (0:Int)⟩:au)) fun validi=>
    if validi=true then
     Option.bind (M.gK (⟨(n0_[(0:Int).toNat]?).getD (0:Int),(n0_[(1:Int).toNat]?).getD (0:Int),(n0_[(2:Int).toNat]?).getD (0:Int)⟩:au)) fun format=>
     some ((⟨(n0_[(0:Int).toNat]?).getD (0:Int),(n0_[(1:Int).toNat]?).getD (0:Int),(n0_[(2:Int).toNat]?).getD (0:Int)⟩:au),format==s0_)
    else
     some ((⟨(n0_[(0:Int).toNat]?).getD (0:Int),(n0_[(1:Int).toNat]?).getD (0:Int),(n0_[(2:Int).toNat]?).getD (0:Int)⟩:au),false)
   | .inr ret0=>some ret0
def M.bV(v3:List Str):Nat→Int→aa→Option aa
 | 0,_,_=>none
 | n+1,kind,t1=>
  Option.bind (
    if kind≤(7:Int) then
     some (decide ((0:Int)< (v3.length:Int)))
    else
     some false
   ) fun v4=>
   if v4=true then
    Option.bind (M.gF kind) fun kindna=>
    Option.bind (idx v3 (0:Int)) fun v5=>
    if (kindna==v5)=true then
     Option.bind (addC kind (1:Int)) fun v6=>
     M.bV v3 n v6 ({t1 with Kind:=kind}:aa)
    else
     Option.bind (addC kind (1:Int)) fun v7=>
     M.bV v3 n v7 t1
   else
    some t1
def M.ik(n:Nat)(s0_:Str)(t:aa):Option (Bool×aa):=
 Option.bind (splitM s0_ ([32]:Str)) fun split=>
 Option.bind (subC (split.length:Int) (1:Int)) fun v=>
 Option.bind (idx split v) fun v1=>
 Option.bind (M.lF v1) fun parsei=>
 if parsei.2=false then
  some (false,t)
 else
  Option.bind (subC (split.length:Int) (1:Int)) fun v2=>
  Option.bind (slcHi split v2) fun v3=>
  Option.bind (M.bV v3 n (0:Int) ({t with Id:=parsei.1}:aa)) fun t1=>
   Option.bind (
     if (v3.length:Int)=(3:Int) then
      Option.bind (idx v3 (1:Int)) fun v9=>
      some (v9==([119,97,115]:Str))
     else
      some false
    ) fun v8=>
    if v8=true then
     Option.bind (idx v3 (2:Int)) fun v10=>
     some (true,({t1 with Was:=v10}:aa))
    else
     if (v3.length:Int)=(4:Int) then
      Option.bind (idx v3 (1:Int)) fun v11=>
      Option.bind (idx v3 (3:Int)) fun v12=>
      some (true,({({t1 with Label:=v11}:aa) with Was:=v12}:aa))
     else
      if (v3.length:Int)=(2:Int) then
       Option.bind (idx v3 (1:Int)) fun v13=>
       some (true,({t1 with Label:=v13}:aa))
      else
       some (true,t1)
def M.jK(s0_:Str):Option (Str×Bool):=
 if (s0_==([]:Str))=true then
  some (([]:Str),false)
 else
  Option.bind (
    Option.bind (idx s0_ (0:Int)) fun b=>
    if (b.toNat:Int)=(92:Int) then
     if (1:Int)< (s0_.length:Int) then
      Option.bind (slc s0_ (1:Int) (2:Int)) fun v1=>
      Option.bind (containsM ([91,93,43,45,124,35,92]:Str) v1) fun contai=>
      some contai
     else
      some false
    else
     some false
   ) fun v=>
   if v=true then
    Option.bind (slcLo s0_ (1:Int)) fun v2=>
    some (v2,true)
   else
    Option.bind (slcHi s0_ (1:Int)) fun v3=>
    Option.bind (containsM ([91,93,43,45,124,35,92]:Str) v3) fun contai1=>
    some (s0_,!contai1)
def M.bW:List Str→(List ah)→Int→Option (((List ah)) ⊕ ((List ah)×Bool))
 | [],out,state=>
  some (.inl out)
 | e :: es,out,state=>
  if (e==([91,43]:Str))=true then
   M.bW es out (1:Int)
  else
   if (e==([91,45]:Str))=true then
    M.bW es out (2:Int)
   else
    Option.bind (
      if (e==([43,93]:Str))=true then
       some (e==([43,93]:Str))
      else
       some (e==([45,93]:Str))
     ) fun v=>
     if v=true then
      M.bW es out (0:Int)
     else
      Option.bind (M.jK e) fun unesca=>
      if unesca.2=false then
       some (.inr (([]:List ah),false))
      else
       Option.bind (appC out [(⟨state,unesca.1⟩:ah)]) fun out1=>
       M.bW es out1 state
def M.iX(n:Nat)(s0_:Str):Option ((List ah)×Bool):=
 if (s0_==([]:Str))=true then
  some (([]:List ah),true)
 else
  Option.bind (splitM s0_ ([32]:Str)) fun split=>
  Option.bind (M.bW split ([]:List ah) (0:Int)) fun
   | .inl out=>
    Option.bind (M.iw n out) fun validr=>
    if validr=false then
     some (([]:List ah),false)
    else
     Option.bind (M.fG n out) fun format=>
     if (format !=s0_)=true then
      some (([]:List ah),false)
     else
      some (out,true)
   | .inr ret0=>some ret0
def M.kg(n:Nat)(s0_:Str):Option (aa×Int×Bool):=
 Option.bind (M.j6 n s0_ ([32]:Str)) fun trimle=>
 Option.bind (subC (s0_.length:Int) (trimle.length:Int)) fun v=>
 Option.bind (quoC v (2:Int)) fun v1=>
 Option.bind (
   if (trimle.length:Int)< (2:Int) then
    some true
   else
    Option.bind (idx trimle (1:Int)) fun b1=>
    some (decide ((b1.toNat:Int)≠(32:Int)))
  ) fun v2=>
  if v2=true then
   some ((⟨(0:Int),(0:Int),cu,([]:Str),([]:Str),false,([]:List ah),([]:List ah),([]:List aa)⟩:aa),(0:Int),false)
  else
   Option.bind ((
     Option.bind (idx trimle (0:Int)) fun b3=>
     if (b3.toNat:Int)=(61:Int) then
      some (.inl (av,av))
     else
      if (b3.toNat:Int)=(43:Int) then
       some (.inl (av,({av with State:=(1:Int)}:aa)))
      else
       if (b3.toNat:Int)=(62:Int) then
        some (.inl (av,({({av with State:=(1:Int)}:aa) with Moved:=true}:aa)))
       else
        if (b3.toNat:Int)=(45:Int) then
         some (.inl (av,({av with State:=(2:Int)}:aa)))
        else
         if (b3.toNat:Int)=(60:Int) then
          some (.inl (av,({({av with State:=(2:Int)}:aa) with Moved:=true}:aa)))
         else
          some (.inr ((⟨(0:Int),(0:Int),cu,([]:Str),([]:Str),false,([]:List ah),([]:List ah),([]:List aa)⟩:aa),(0:Int),false))
    ):Option ((aa×aa) ⊕ (aa×Int×Bool))) fun
    | .inl (v3,t)=>
     Option.bind (slcLo trimle (2:Int)) fun v4=>
     Option.bind (cutM v4 ([32,124,32]:Str)) fun cut=>
     Option.bind (cutM cut.1 ([58,32]:Str)) fun cut1=>
     Option.bind (M.ik n cut1.1 t) fun (parsef,t1)=>
     Option.bind (
       Option.bind (
         if cut1.2.2=true then
          some parsef
         else
          some false
        ) fun v5=>
        if v5=true then
         Option.bind (M.iX n cut1.2.1) fun parsew=>
         some (parsew.2,({t1 with Head:=parsew.1}:aa))
        else
         some (parsef,t1)
      ) fun (ok,t2)=>
      Option.bind (
        Option.bind (
          if cut.2.2=true then
           some ok
          else
           some false
         ) fun v6=>
         if v6=true then
          Option.bind (M.iX n cut.2.1) fun parsew1=>
          some (parsew1.2,({t2 with Words:=parsew1.1}:aa))
         else
          some (ok,t2)
       ) fun (ok1,t3)=>
       Option.bind (
         if ok1=false then
          some true
         else
          Option.bind (M.iE n t3) fun validu=>
          if validu=false then
           Option.bind (M.dH t3) fun isplac=>
           if isplac=false then
            some true
           else
            Option.bind (M.iQ n t3 v1) fun line=>
            some (line !=s0_)
          else
           Option.bind (M.iQ n t3 v1) fun line1=>
           some (line1 !=s0_)
        ) fun v7=>
        if v7=true then
         some ((⟨(0:Int),(0:Int),cu,([]:Str),([]:Str),false,([]:List ah),([]:List ah),([]:List aa)⟩:aa),(0:Int),false)
        else
         some (t3,v1,true)
    | .inr ret0=>some ret0
abbrev SpL:=List (List aa×aa)
def spSk(u:aa)(ks:List aa):aa:={u with Kids:=ks}
def M.rP:SpL→List aa
 | []=>[]
 | (xs,u) :: sp=>xs++ [spSk u (M.rP sp)]
def M.Cz:SpL→SpL
 | []=>[([],av)]
 | x :: sp=>x :: sp
def M.xS(sp:SpL):aa:=match M.Cz sp with
 | []=>av
 | (_,u) :: r=>spSk u (M.rP r)
def M.Ey(sp:SpL)(d:Nat):Option aa:=match sp.drop d with
 | []=>none
 | (_,u) :: r=>some (spSk u (M.rP r))
def M.vN(sp:SpL)(d:Nat)(w:aa):Option SpL:=match sp.drop d with
 | []=>none
 | (xs,u) :: r=>Option.bind (appC (M.rP r) [w]) fun ks=>some (sp.take d++ [(xs,spSk u ks),(M.rP r,w)])
def M.dD:Nat→Str→SpL→Nat→Option ((SpL×Nat) ⊕ (aa×Int×Int))
 | 0,_,_,_=>none
 | n+1,s,sp,i=>
  if s≠ []∨i=0 then
   Option.bind (cutM s [10]) fun c=>
   Option.bind (M.kg n c.1) fun v=>
   if c.2.2=false∨v.2.2=false then some (.inr (av,(i:Int),2)) else
   if i=0 then
    if 0<v.2.1 then some (.inr (av,(i:Int),3)) else
    Option.bind (M.dH v.1) fun p=>
    if p=true then some (.inr (av,(i:Int),9)) else
    Option.bind (addC (i:Int) 1) fun _=>
    M.dD n c.2.1 [([],v.1)] (i+1)
   else
    if v.2.1<1∨(sp.length:Int)< v.2.1∨8<v.2.1 then some (.inr (av,(i:Int),3)) else
    Option.bind (M.Ey sp (v.2.1.toNat-1)) fun q=>
    Option.bind (M.dH q) fun p=>
    if p=true then some (.inr (av,(i:Int),9)) else
    Option.bind (M.vN sp (v.2.1.toNat-1) v.1) fun sp2=>
    Option.bind (addC (i:Int) 1) fun _=>
    M.dD n c.2.1 sp2 (i+1)
  else some (.inl (sp,i))
def M.mV(n:Nat)(s:Str):Option (aa×Int×Int):=
 if (16384:Int)< (s.length:Int) then some (av,0,6) else
 Option.bind (M.dD n s [] 0) fun
  | .inl x=>some (M.xS x.1,(x.2:Int),0)
  | .inr r=>some r
def M.bM(slf:aa→(List (au×aa))→Option (List (au×aa))):List aa→(List (au×aa))→Option ((List (au×aa)))
 | [],into2=>
  some into2
 | e :: es,into2=>
  Option.bind (slf e into2) fun into3=>
  M.bM slf es into3
def M.eu:Nat→aa→(List (au×aa))→Option (List (au×aa))
 | 0,_,_=>none
 | n+1,t,into=>
  Option.bind (
    if ((mget into t.Id av,mhas into t.Id).2)=false then
     if t.State=(1:Int) then
      if t.Moved=true then
       some (mset into t.Id t)
      else
       some into
     else
      some into
    else
     some into
   ) fun into1=>
   Option.bind (M.bM (M.eu n) t.Kids into1) fun into2=>
    some into2
def M.dP(state:Int):List ah→(List aH)→Option ((List aH))
 | [],out=>
  some out
 | e :: es,out=>
  if e.State≠state then
   Option.bind (appC out [(⟨e.Text,oQ⟩:aH)]) fun out1=>
   M.dP state es out1
  else
   M.dP state es out
def M.fP(l:List ah)(state:Int):Option (List aH):=
 Option.bind (M.dP state l ([]:List aH)) fun out=>
  some out
def M.aX(slf:(List (au×aa))→(List (au×Bool))→aa→Option (af×(List (au×aa))×(List (au×Bool)))):List aa→af→(List (au×aa))→(List (au×Bool))→Option (af×(List (au×aa))×(List (au×Bool)))
 | [],u1,v,v1=>
  some (u1,v,v1)
 | e :: es,u1,v,v1=>
  Option.bind (
    if e.State≠(0:Int) then
     some (decide (e.State≠(2:Int)))
    else
     some false
   ) fun v2=>
   if v2=true then
    M.aX slf es u1 v v1
   else
    Option.bind (
      if e.State=(2:Int) then
       some e.Moved
      else
       some false
     ) fun v3=>
     if v3=true then
      Option.bind (
        if ((mget v e.Id av,mhas v e.Id).2)=false then
         some true
        else
         some (mget v1 e.Id false)
       ) fun v4=>
       if v4=true then
        M.aX slf es u1 v (mset v1 e.Id true)
       else
        Option.bind (slf v (mset v1 e.Id true) ((mget v e.Id av,mhas v e.Id).1)) fun (book,w,w1)=>
        Option.bind (appC u1.Kids [book]) fun out=>
        M.aX slf es ({u1 with Kids:=out}:af) w w1
     else
      Option.bind (slf v v1 e) fun (book1,w2,w3)=>
      Option.bind (appC u1.Kids [book1]) fun out1=>
      M.aX slf es ({u1 with Kids:=out1}:af) w2 w3
def M.dE:Nat→(List (au×aa))→(List (au×Bool))→aa→Option (af×(List (au×aa))×(List (au×Bool)))
 | 0,_,_,_=>none
 | n+1,moved,met,t=>
  Option.bind (M.fP t.Head (1:Int)) fun withou=>
  Option.bind (M.fP t.Words (1:Int)) fun withou1=>
  Option.bind (
    if (t.Was !=([]:Str))=true then
     some ({(⟨t.Id,t.Kind,t.Label,withou,withou1,([]:List af)⟩:af) with Label:=t.Was}:af)
    else
     some (⟨t.Id,t.Kind,t.Label,withou,withou1,([]:List af)⟩:af)
   ) fun u=>
   Option.bind (M.aX (M.dE n) t.Kids u moved met) fun (u1,v,v1)=>
    some (u1,v,v1)
def M.om(n:Nat)(t:aa):Option af:=
 Option.bind (M.eu n t ([]:List (au×aa))) fun w=>
 Option.bind (M.dE n w ([]:List (au×Bool)) t) fun (book,w1,w2)=>
 some book
def M.iy(l:List aH):Nat→(List Str)→Int→Option ((List Str))
 | 0,_,_=>none
 | n+1,out,i=>
  if i<(l.length:Int) then
   Option.bind (idx l i) fun v=>
   Option.bind (appC out [v.Text]) fun out1=>
   M.iy l n out1 (i+1)
  else
   some out
def M.mI(n:Nat)(l:List aH):Option (List Str):=
 Option.bind (M.iy l n ([]:List Str) (0:Int)) fun out=>
  some out
def M.iT(a:List Str)(b:List Str):Nat→Int→Option (Unit ⊕ Bool)
 | 0,_=>none
 | n+1,i=>
  if i<(a.length:Int) then
   Option.bind (idx a i) fun v=>
   Option.bind (idx b i) fun v1=>
   if (v !=v1)=true then
    some (.inr false)
   else
    M.iT a b n (i+1)
  else
   some (.inl ())
def M.qK(n:Nat)(a:List Str)(b:List Str):Option Bool:=
 if (a.length:Int)≠(b.length:Int) then
  some false
 else
  Option.bind (M.iT a b n (0:Int)) fun
   | .inl _=>
    some true
   | .inr ret0=>some ret0
def M.gz(a:af)(b:af)(slf:af→af→Option Bool):Nat→Int→Option (Unit ⊕ Bool)
 | 0,_=>none
 | n+1,i=>
  if i<(a.Kids.length:Int) then
   Option.bind (idx a.Kids i) fun v=>
   Option.bind (idx b.Kids i) fun v1=>
   Option.bind (slf v v1) fun alike=>
   if alike=false then
    some (.inr false)
   else
    M.gz a b slf n (i+1)
  else
   some (.inl ())
def M.jP:Nat→af→af→Option Bool
 | 0,_,_=>none
 | n+1,a,b=>
  if a.Id≠b.Id then
   some false
  else
   if a.Kind≠b.Kind then
    some false
   else
    if (a.Label !=b.Label)=true then
     some false
    else
     Option.bind (M.mI n a.Head) fun texts=>
     Option.bind (M.mI n b.Head) fun texts1=>
     Option.bind (M.qK n texts texts1) fun same=>
     if same=false then
      some false
     else
      Option.bind (M.mI n a.Words) fun texts2=>
      Option.bind (M.mI n b.Words) fun texts3=>
      Option.bind (M.qK n texts2 texts3) fun same1=>
      if same1=false then
       some false
      else
       if (a.Kids.length:Int)≠(b.Kids.length:Int) then
        some false
       else
        Option.bind (M.gz a b (M.jP n) n (0:Int)) fun
         | .inl _=>
          some true
         | .inr ret0=>some ret0
def M.dX(slf:aa→Option af):List aa→af→Option af
 | [],u=>
  some u
 | e :: es,u=>
  if e.State≠(2:Int) then
   Option.bind (slf e) fun new=>
   Option.bind (appC u.Kids [new]) fun out=>
   M.dX slf es ({u with Kids:=out}:af)
  else
   M.dX slf es u
def M.jQ:Nat→aa→Option af
 | 0,_=>none
 | n+1,t=>
  Option.bind (M.fP t.Head (2:Int)) fun withou=>
  Option.bind (M.fP t.Words (2:Int)) fun withou1=>
  Option.bind (M.dX (M.jQ n) t.Kids (⟨t.Id,t.Kind,t.Label,withou,withou1,([]:List af)⟩:af)) fun u=>
   some u
def M.jR(n:Nat)(a:af)(b:af):Option Bool:=
 Option.bind (M.og n) fun awake=>
 if awake=false then
  some false
 else
  Option.bind (
    Option.bind (M.rM n a (16:Int)) fun few=>
    if few=false then
     some true
    else
     Option.bind (M.rM n b (16:Int)) fun few1=>
     some (!few1)
   ) fun v=>
   if v=true then
    some true
   else
    Option.bind (M.lL n a b) fun diff=>
    if diff.2≠(0:Int) then
     some true
    else
     Option.bind (M.iJ n diff.1) fun format=>
     if format.2≠(0:Int) then
      Option.bind (
        if format.2=(6:Int) then
         some true
        else
         Option.bind (M.xR n diff.1) fun may=>
         some (!may)
       ) fun v1=>
       some v1
     else
      Option.bind (M.mV n format.1) fun parse=>
      if parse.2.2=(0:Int) then
       Option.bind (M.om n parse.1) fun old=>
       Option.bind (M.jP n old a) fun alike=>
       if alike=true then
        Option.bind (M.jQ n parse.1) fun new=>
        Option.bind (M.jP n new b) fun alike1=>
        some alike1
       else
        some false
      else
       some false
end Go.Proofs.YtalogjkalmkpjaaGreatDoor
