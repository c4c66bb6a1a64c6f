/-
  What the functions compute: plain functions, written by program out of the code; no machine in sight.
-/
import Derived.Test.YtofaogkcifaioaaGreatDoorMod
set_option linter.unusedVariables false
set_option linter.unusedSimpArgs false
namespace Go.Proofs.YtofaogkcifaioaaGreatDoor
open Go Go.Dec
def gv0:List Str:=[([98,111,111,107]:Str),([112,97,114,116]:Str),([115,101,99,116,105,111,110]:Str),([112,97,114,97,103,114,97,112,104]:Str),([116,97,98,108,101]:Str),([114,111,119]:Str),([99,101,108,108]:Str),([110,111,116,101]:Str)]
def gv2:List (List Int):=[[(1:Int),(2:Int)],[(2:Int)],[(3:Int),(4:Int),(7:Int)],[(3:Int),(4:Int),(7:Int)],[(5:Int)],[(6:Int)],([]:List Int),([]:List Int)]
structure api_Id where
 Act:Int
 Item:Int
 N:Int
theorem api_Id.eq_iff(a b:api_Id):(a.Act=b.Act∧a.Item=b.Item∧a.N=b.N) ↔ a=b:=⟨fun h=>by cases a;cases b;simp_all,fun h=>by subst h;simp⟩
instance:DecidableEq api_Id:=fun a b=>decidable_of_iff _ (api_Id.eq_iff a b)
def zapi_Id:api_Id:=⟨(0:Int),(0:Int),(0:Int)⟩
structure api_Mark where
 Act:Int
 Item:Int
 At:Int
theorem api_Mark.eq_iff(a b:api_Mark):(a.Act=b.Act∧a.Item=b.Item∧a.At=b.At) ↔ a=b:=⟨fun h=>by cases a;cases b;simp_all,fun h=>by subst h;simp⟩
instance:DecidableEq api_Mark:=fun a b=>decidable_of_iff _ (api_Mark.eq_iff a b)
def zapi_Mark:api_Mark:=⟨(0:Int),(0:Int),(0:Int)⟩
structure api_Word where
 Text:Str
 By:api_Mark
theorem api_Word.eq_iff(a b:api_Word):(a.Text=b.Text∧a.By=b.By) ↔ a=b:=⟨fun h=>by cases a;cases b;simp_all,fun h=>by subst h;simp⟩
instance:DecidableEq api_Word:=fun a b=>decidable_of_iff _ (api_Word.eq_iff a b)
def zapi_Word:api_Word:=⟨([]:Str),zapi_Mark⟩
structure api_Unit where
 Id:api_Id
 Kind:Int
 Label:Str
 Head:List api_Word
 Words:List api_Word
 Kids:List api_Unit
def zapi_Unit:api_Unit:=⟨zapi_Id,(0:Int),([]:Str),([]:List api_Word),([]:List api_Word),([]:List api_Unit)⟩
structure unit_called where
 kind_:Int
 label_:Str
theorem unit_called.eq_iff(a b:unit_called):(a.kind_=b.kind_∧a.label_=b.label_) ↔ a=b:=⟨fun h=>by cases a;cases b;simp_all,fun h=>by subst h;simp⟩
instance:DecidableEq unit_called:=fun a b=>decidable_of_iff _ (unit_called.eq_iff a b)
def zunit_called:unit_called:=⟨(0:Int),([]:Str)⟩
structure pandectref11_node where
 u_:api_Unit
 depth_:Int
 parent_:Int
def zpandectref11_node:pandectref11_node:=⟨zapi_Unit,(0:Int),(0:Int)⟩
def M.law11_section:Option api_Unit:=
 some (⟨zapi_Id,(2:Int),([53]:Str),[(⟨([97]:Str),zapi_Mark⟩:api_Word),(⟨([98]:Str),zapi_Mark⟩:api_Word)],[(⟨([99]:Str),zapi_Mark⟩:api_Word),(⟨([124]:Str),zapi_Mark⟩:api_Word),(⟨([100]:Str),zapi_Mark⟩:api_Word)],[(⟨zapi_Id,(3:Int),([49]:Str),([]:List api_Word),[(⟨([101]:Str),zapi_Mark⟩:api_Word)],([]:List api_Unit)⟩:api_Unit)]⟩:api_Unit)
def M.slices_Clone_api_Word_api_Word(l:List api_Word):Option (List api_Word):=appC [] l
def M.unit_copied_loop1(slf:api_Unit→Option api_Unit):List api_Unit→(List api_Unit)→Option ((List api_Unit))
 | [],kids=>
  some kids
 | e :: es,kids=>
  Option.bind (slf e) fun copied=>
  Option.bind (appC kids [copied]) fun kids1=>
  M.unit_copied_loop1 slf es kids1
def M.unit_copied:Nat→api_Unit→Option api_Unit
 | 0,_=>none
 | n+1,u=>
  Option.bind (M.slices_Clone_api_Word_api_Word u.Head) fun word=>
  Option.bind (M.slices_Clone_api_Word_api_Word u.Words) fun word1=>
  Option.bind (M.unit_copied_loop1 (M.unit_copied n) (({({u with Head:=word}:api_Unit) with Words:=word1}:api_Unit).Kids) ([]:List api_Unit)) fun kids=>
   some ({({({u with Head:=word}:api_Unit) with Words:=word1}:api_Unit) with Kids:=kids}:api_Unit)
def M.bareWs(l:List api_Word):List api_Word:=l.map fun w=>{w with By:=zapi_Mark}
def M.mapKids(f:api_Unit→Option api_Unit):List api_Unit→Option (List api_Unit)
 | []=>some []
 | x :: l=>Option.bind (f x) fun y=>Option.bind (M.mapKids f l) fun r=>some (y :: r)
def M.unit_Strip:Nat→api_Unit→Option api_Unit
 | 0,_=>none
 | n+1,u=>
  Option.bind (M.unit_copied n u) fun v=>
  Option.bind (M.mapKids (M.unit_Strip n) v.Kids) fun ks=>
   some {v with Id:=zapi_Id,Head:=M.bareWs v.Head,Words:=M.bareWs v.Words,Kids:=ks}
def M.unit_KindName(kind:Int):Option Str:=
 if kind<(0:Int) then
  some ([]:Str)
 else
  if (8:Int)≤kind then
   some ([]:Str)
  else
   Option.bind (idx gv0 kind) fun v=>
   some v
def M.strings_indexFunc_loop1(s0_:Str)(f:Int→Option Bool)(truth:Bool):Nat→Nat→Option (Nat ⊕ Int)
 | 0,_=>none
 | n+1,v=>
  if v<s0_.length then
   Option.bind (f ((runeAt s0_ v).1:Int)) fun v1=>
   if (v1==truth)=true then
    some (.inr (v:Int))
   else
    M.strings_indexFunc_loop1 s0_ f truth n (v+(runeAt s0_ v).2)
  else
   some (.inl v)
def M.strings_indexFunc(n:Nat)(s0_:Str)(f:Int→Option Bool)(truth:Bool):Option Int:=
 Option.bind (M.strings_indexFunc_loop1 s0_ f truth n 0) fun
  | .inl v=>
   some (-1:Int)
  | .inr ret0=>some ret0
def M.strings_IndexFunc(n:Nat)(s0_:Str)(f:Int→Option Bool):Option Int:=
 Option.bind (M.strings_indexFunc n s0_ f true) fun indexf=>
 some indexf
def M.label_parted_1(b:Int):Option Bool:=
 if b<(48:Int) then
  some true
 else
  some (decide ((57:Int)< b))
def M.label_parted(n:Nat)(s0_:Str):Option (Str×Str):=
 Option.bind (M.strings_IndexFunc n s0_ (fun s0=>M.label_parted_1 s0)) fun indexf=>
 if indexf<(0:Int) then
  some (s0_,([]:Str))
 else
  Option.bind (slcHi s0_ indexf) fun v=>
  Option.bind (slcLo s0_ indexf) fun v1=>
  some (v,v1)
def M.strings_ContainsFunc(n:Nat)(s0_:Str)(f:Int→Option Bool):Option Bool:=
 Option.bind (M.strings_IndexFunc n s0_ f) fun indexf=>
 some (decide ((0:Int)≤indexf))
def M.label_Valid_1(b:Int):Option Bool:=
 if b<(65:Int) then
  some true
 else
  some (decide ((90:Int)< b))
def M.label_Valid(n:Nat)(s0_:Str):Option Bool:=
 Option.bind (M.label_parted n s0_) fun parted=>
 if (1:Int)≤(parted.1.length:Int) then
  if (parted.1.length:Int)≤(4:Int) then
   Option.bind (idx parted.1 (0:Int)) fun b=>
   if (b.toNat:Int)≠(48:Int) then
    if (parted.2.length:Int)≤(3:Int) then
     Option.bind (M.strings_ContainsFunc n parted.2 (fun s0=>M.label_Valid_1 s0)) fun contai=>
     some (!contai)
    else
     some false
   else
    some false
  else
   some false
 else
  some false
def M.slices_IndexFunc_string_string_loop1(s0_:List Str)(f:Str→Option Bool):Nat→Int→Option (Unit ⊕ Int)
 | 0,_=>none
 | n+1,v=>
  if v<(s0_.length:Int) then
   Option.bind (idx s0_ v) fun v1=>
   Option.bind (f v1) fun v2=>
   if v2=true then
    some (.inr v)
   else
    M.slices_IndexFunc_string_string_loop1 s0_ f n (v+1)
  else
   some (.inl ())
def M.slices_IndexFunc_string_string(n:Nat)(s0_:List Str)(f:Str→Option Bool):Option Int:=
 Option.bind (M.slices_IndexFunc_string_string_loop1 s0_ f n (0:Int)) fun
  | .inl _=>
   some (-1:Int)
  | .inr ret0=>some ret0
def M.slices_ContainsFunc_string_string(n:Nat)(s0_:List Str)(f:Str→Option Bool):Option Bool:=
 Option.bind (M.slices_IndexFunc_string_string n s0_ f) fun string=>
 some (decide ((0:Int)≤string))
def M.slices_IndexFunc_byte_byte_loop1(s0_:List Int)(f:Int→Option Bool):Nat→Int→Option (Unit ⊕ Int)
 | 0,_=>none
 | n+1,v=>
  if v<(s0_.length:Int) then
   Option.bind (idx s0_ v) fun v1=>
   Option.bind (f v1) fun v2=>
   if v2=true then
    some (.inr v)
   else
    M.slices_IndexFunc_byte_byte_loop1 s0_ f n (v+1)
  else
   some (.inl ())
def M.slices_IndexFunc_byte_byte(n:Nat)(s0_:List Int)(f:Int→Option Bool):Option Int:=
 Option.bind (M.slices_IndexFunc_byte_byte_loop1 s0_ f n (0:Int)) fun
  | .inl _=>
   some (-1:Int)
  | .inr ret0=>some ret0
def M.slices_ContainsFunc_byte_byte(n:Nat)(s0_:List Int)(f:Int→Option Bool):Option Bool:=
 Option.bind (M.slices_IndexFunc_byte_byte n s0_ f) fun byte=>
 some (decide ((0:Int)≤byte))
def M.wordseq_word_1(c:Int):Option Bool:=
 if c<(33:Int) then
  some true
 else
  some (decide ((126:Int)< c))
def M.wordseq_word(n:Nat)(s0_:Str):Option Bool:=
 if (s0_ !=([]:Str))=true then
  if (s0_.length:Int)≤(24:Int) then
   Option.bind (M.slices_ContainsFunc_byte_byte n (bytesOf s0_) (fun s0=>M.wordseq_word_1 s0)) fun byte=>
   some (!byte)
  else
   some false
 else
  some false
def M.wordseq_Valid_1(n:Nat)(s0_:Str):Option Bool:=
 Option.bind (M.wordseq_word n s0_) fun word=>
 some (!word)
def M.wordseq_Valid(n:Nat)(l:List Str):Option Bool:=
 if (l.length:Int)≤(256:Int) then
  Option.bind (M.slices_ContainsFunc_string_string n l (fun s0=>M.wordseq_Valid_1 n s0)) fun string=>
  some (!string)
 else
  some false
def M.unit_row_loop1:List api_Word→(List Str)→Option ((List Str))
 | [],texts=>
  some texts
 | e :: es,texts=>
  Option.bind (appC texts [e.Text]) fun texts1=>
  M.unit_row_loop1 es texts1
def M.unit_row(n:Nat)(l:List api_Word):Option Bool:=
 Option.bind (M.unit_row_loop1 l ([]:List Str)) fun texts=>
  if (l.length:Int)≤(256:Int) then
   Option.bind (M.wordseq_Valid n texts) fun valid=>
   some valid
  else
   some false
def M.slices_Index_int_int_loop1(s0_:List Int)(v:Int):Nat→Int→Option (Unit ⊕ Int)
 | 0,_=>none
 | n+1,v1=>
  if v1<(s0_.length:Int) then
   Option.bind (idx s0_ v1) fun v2=>
   if v=v2 then
    some (.inr v1)
   else
    M.slices_Index_int_int_loop1 s0_ v n (v1+1)
  else
   some (.inl ())
def M.slices_Index_int_int(n:Nat)(s0_:List Int)(v:Int):Option Int:=
 Option.bind (M.slices_Index_int_int_loop1 s0_ v n (0:Int)) fun
  | .inl _=>
   some (-1:Int)
  | .inr ret0=>some ret0
def M.slices_Contains_int_int(n:Nat)(s0_:List Int)(v:Int):Option Bool:=
 Option.bind (M.slices_Index_int_int n s0_ v) fun int=>
 some (decide ((0:Int)≤int))
def M.unit_CanContain(n:Nat)(parent:Int)(kind:Int):Option Bool:=
 if (0:Int)≤parent then
  if parent<(8:Int) then
   Option.bind (idx gv2 parent) fun v=>
   Option.bind (M.slices_Contains_int_int n v kind) fun int=>
   some int
  else
   some false
 else
  some false
def M.unit_alone_loop1(n:Nat)(u:api_Unit):List api_Unit→(List (unit_called×Bool))→Option (((List (unit_called×Bool))) ⊕ Bool)
 | [],v1=>
  some (.inl v1)
 | e :: es,v1=>
  Option.bind (M.unit_CanContain n u.Kind e.Kind) fun cancon=>
  if cancon=false then
   some (.inr false)
  else
   if (mget v1 (⟨e.Kind,e.Label⟩:unit_called) false)=true then
    some (.inr false)
   else
    M.unit_alone_loop1 n u es (mset v1 (⟨e.Kind,e.Label⟩:unit_called) true)
def M.unit_alone(n:Nat)(u:api_Unit):Option Bool:=
 Option.bind ((
   if u.Kind=(0:Int) then
    if (u.Label !=([]:Str))=true then
     some (.inr false)
    else
     Option.bind (addC (u.Head.length:Int) (u.Words.length:Int)) fun v=>
     if (0:Int)< v then
      some (.inr false)
     else
      some (.inl ())
   else
    Option.bind (M.unit_KindName u.Kind) fun kindna=>
    if (kindna==([]:Str))=true then
     some (.inr false)
    else
     Option.bind (M.label_Valid n u.Label) fun valid=>
     if valid=false then
      some (.inr false)
     else
      Option.bind (M.unit_row n u.Head) fun row=>
      if row=false then
       some (.inr false)
      else
       Option.bind (M.unit_row n u.Words) fun row1=>
       if row1=false then
        some (.inr false)
       else
        some (.inl ())
  ):Option (Unit ⊕ Bool)) fun
  | .inl _=>
   Option.bind (M.unit_alone_loop1 n u u.Kids ([]:List (unit_called×Bool))) fun
    | .inl v1=>
     some (decide ((u.Kids.length:Int)≤(64:Int)))
    | .inr ret0=>some ret0
  | .inr ret0=>some ret0
def M.unit_every_i0_loop1(slf:api_Unit→Option Bool):List api_Unit→Option (Unit ⊕ Bool)
 | []=>
  some (.inl ())
 | e :: es=>
  Option.bind (slf e) fun every=>
  if every=false then
   some (.inr false)
  else
   M.unit_every_i0_loop1 slf es
def M.unit_every_i0:Nat→api_Unit→Option Bool
 | 0,_=>none
 | n+1,u=>
  Option.bind (M.unit_alone n u) fun alone=>
  if alone=false then
   some false
  else
   Option.bind (M.unit_every_i0_loop1 (M.unit_every_i0 n) u.Kids) fun
    | .inl _=>
     some true
    | .inr ret0=>some ret0
def M.unit_Depth_loop1(slf:api_Unit→Option Int):List api_Unit→Int→Option Int
 | [],deep=>
  some deep
 | e :: es,deep=>
  Option.bind (slf e) fun depth=>
  Option.bind (addC (1:Int) depth) fun v=>
  M.unit_Depth_loop1 slf es (max deep v)
def M.unit_Depth:Nat→api_Unit→Option Int
 | 0,_=>none
 | n+1,u=>
  Option.bind (M.unit_Depth_loop1 (M.unit_Depth n) u.Kids (0:Int)) fun deep=>
   some deep
def M.unit_Count_1(a:api_Unit)(c:Int):Option (Bool×Int):=
 Option.bind (addC c (1:Int)) fun v=>
 some (true,v)
def M.unit_every_i1_loop1(slf:api_Unit→Int→Option (Bool×Int)):List api_Unit→Int→Option (Int ⊕ (Bool×Int))
 | [],v=>
  some (.inl v)
 | e :: es,v=>
  Option.bind (slf e v) fun (every,w1)=>
  if every=false then
   some (.inr (false,w1))
  else
   M.unit_every_i1_loop1 slf es w1
def M.unit_every_i1:Nat→api_Unit→Int→Option (Bool×Int)
 | 0,_,_=>none
 | n+1,u,c=>
  Option.bind (M.unit_Count_1 u c) fun (v1_,w)=>
  if v1_=false then
   some (false,w)
  else
   Option.bind (M.unit_every_i1_loop1 (M.unit_every_i1 n) u.Kids w) fun
    | .inl v=>
     some (true,v)
    | .inr ret0=>some ret0
def M.unit_Count(n:Nat)(u:api_Unit):Option Int:=
 Option.bind (M.unit_every_i1 n u (0:Int)) fun (every,n0_)=>
 some n0_
def M.unit_IDs_1(x:api_Unit)(c:List api_Id):Option (Bool×(List api_Id)):=
 Option.bind (appC c [x.Id]) fun out=>
 some (true,out)
def M.unit_every_i2_loop1(slf:api_Unit→(List api_Id)→Option (Bool×(List api_Id))):List api_Unit→(List api_Id)→Option (((List api_Id)) ⊕ (Bool×(List api_Id)))
 | [],v=>
  some (.inl v)
 | e :: es,v=>
  Option.bind (slf e v) fun (every,w1)=>
  if every=false then
   some (.inr (false,w1))
  else
   M.unit_every_i2_loop1 slf es w1
def M.unit_every_i2:Nat→api_Unit→(List api_Id)→Option (Bool×(List api_Id))
 | 0,_,_=>none
 | n+1,u,c=>
  Option.bind (M.unit_IDs_1 u c) fun (v1_,w)=>
  if v1_=false then
   some (false,w)
  else
   Option.bind (M.unit_every_i2_loop1 (M.unit_every_i2 n) u.Kids w) fun
    | .inl v=>
     some (true,v)
    | .inr ret0=>some ret0
def M.unit_IDs(n:Nat)(u:api_Unit):Option ((List api_Id)):=
 Option.bind (M.unit_every_i2 n u ([]:List api_Id)) fun (every,out)=>
 some out
def M.unit_ids_loop1:List api_Id→(List (api_Id×Bool))→Option ((List (api_Id×Bool)))
 | [],v=>
  some v
 | e :: es,v=>
  M.unit_ids_loop1 es (mset v e true)
def M.unit_ids(n:Nat)(u:api_Unit):Option Bool:=
 Option.bind (M.unit_IDs n u) fun ids=>
 Option.bind (M.unit_ids_loop1 ids ([]:List (api_Id×Bool))) fun v=>
  if (mget v (⟨(0:Int),(0:Int),(0:Int)⟩:api_Id) false)=true then
   Option.bind (growC (v.length:Int)) fun _=>
   if (v.length:Int)=(1:Int) then
    some true
   else
    Option.bind (growC (v.length:Int)) fun _=>
    if (v.length:Int)=(ids.length:Int) then
     some ((decide (u.Kind=(0:Int)))==(decide (u.Id=(⟨(0:Int),(0:Int),(0:Int)⟩:api_Id))))
    else
     some false
  else
   Option.bind (growC (v.length:Int)) fun _=>
   if (v.length:Int)=(ids.length:Int) then
    some ((decide (u.Kind=(0:Int)))==(decide (u.Id=(⟨(0:Int),(0:Int),(0:Int)⟩:api_Id))))
   else
    some false
def M.unit_Valid(n:Nat)(u:api_Unit):Option Bool:=
 Option.bind (M.unit_every_i0 n u) fun every=>
 if every=true then
  Option.bind (M.unit_Depth n u) fun depth=>
  if depth≤(8:Int) then
   Option.bind (M.unit_Count n u) fun count=>
   if count≤(1024:Int) then
    Option.bind (M.unit_ids n u) fun ids=>
    some ids
   else
    some false
  else
   some false
 else
  some false
def M.plaintext_may(n:Nat)(u:api_Unit)(depth:Int):Option Bool:=
 if (0:Int)≤depth then
  if depth≤(8:Int) then
   Option.bind (M.unit_Strip n ({({u with Id:=(⟨(0:Int),(0:Int),(0:Int)⟩:api_Id)}:api_Unit) with Kids:=([]:List api_Unit)}:api_Unit)) fun strip=>
   Option.bind (M.unit_Valid n strip) fun valid=>
   some valid
  else
   some false
 else
  some false
def M.plaintext_put_loop1:List api_Word→Str→Option Str
 | [],line1=>
  some line1
 | e :: es,line1=>
  Option.bind (catC line1 ([32]:Str)) fun v=>
  Option.bind (
    Option.bind (idx e.Text (0:Int)) fun b1=>
    if (b1.toNat:Int)=(124:Int) then
     some true
    else
     Option.bind (idx e.Text (0:Int)) fun b2=>
     some (decide ((b2.toNat:Int)=(92:Int)))
   ) fun v1=>
   if v1=true then
    Option.bind (catC v ([92]:Str)) fun v2=>
    Option.bind (catC v2 e.Text) fun v3=>
    M.plaintext_put_loop1 es v3
   else
    Option.bind (catC v e.Text) fun v4=>
    M.plaintext_put_loop1 es v4
def M.plaintext_put(line:Str)(w:List api_Word):Option Str:=
 Option.bind (M.plaintext_put_loop1 w line) fun line1=>
  some line1
def M.plaintext_FormatLine(n:Nat)(u:api_Unit)(depth:Int):Option Str:=
 Option.bind (M.plaintext_may n u depth) fun may=>
 if may=false then
  some ([]:Str)
 else
  Option.bind (repeatM ([32,32]:Str) depth) fun repeat0_=>
  Option.bind (M.unit_KindName u.Kind) fun kindna=>
  Option.bind (catC repeat0_ kindna) fun v=>
  Option.bind (
    if u.Kind≠(0:Int) then
     Option.bind (catC ([32]:Str) u.Label) fun v1=>
     Option.bind (catC v v1) fun v2=>
     some v2
    else
     some v
   ) fun s0_=>
   Option.bind (
     if (0:Int)< (u.Head.length:Int) then
      Option.bind (catC s0_ ([58]:Str)) fun v3=>
      Option.bind (M.plaintext_put v3 u.Head) fun put=>
      some put
     else
      some s0_
    ) fun s0_1=>
    if (0:Int)< (u.Words.length:Int) then
     Option.bind (catC s0_1 ([32,124]:Str)) fun v4=>
     Option.bind (M.plaintext_put v4 u.Words) fun put1=>
     some put1
    else
     some s0_1
def M.plaintext_Lines_1_loop1(depth:Int)(slf:api_Unit→Int→(List Str)→Option (List Str)):List api_Unit→(List Str)→Option ((List Str))
 | [],v=>
  some v
 | e :: es,v=>
  Option.bind (addC depth (1:Int)) fun v1=>
  Option.bind (slf e v1 v) fun w=>
  M.plaintext_Lines_1_loop1 depth slf es w
def M.plaintext_Lines_1:Nat→api_Unit→Int→(List Str)→Option (List Str)
 | 0,_,_,_=>none
 | n+1,u,depth,c=>
  Option.bind (M.plaintext_FormatLine n u depth) fun format=>
  Option.bind (appC c [format]) fun out=>
  Option.bind (M.plaintext_Lines_1_loop1 depth (M.plaintext_Lines_1 n) u.Kids out) fun v=>
   some v
def M.plaintext_Lines(n:Nat)(u:api_Unit):Option ((List Str)):=
 Option.bind (M.unit_Strip n u) fun strip=>
 Option.bind (M.unit_Valid n strip) fun valid=>
 if valid=false then
  some ([]:List Str)
 else
  Option.bind (M.plaintext_Lines_1 n u (0:Int) ([]:List Str)) fun out=>
  some out
def M.strings_Join_loop2(sep:Str):List Str→Str→Option Str
 | [],b2=>
  some b2
 | e1 :: es1,b2=>
  Option.bind (appC b2 sep) fun b3=>
  Option.bind (appC b3 e1) fun b4=>
  M.strings_Join_loop2 sep es1 b4
def M.strings_Join_loop1:List Str→Int→Option Int
 | [],n0_1=>
  some n0_1
 | e :: es,n0_1=>
  Option.bind (subC (9223372036854775807:Int) n0_1) fun v6=>
  if v6<(e.length:Int) then
   none
  else
   Option.bind (addC n0_1 (e.length:Int)) fun v7=>
   M.strings_Join_loop1 es v7
def M.strings_Join(elems:List Str)(sep:Str):Option Str:=
 if (elems.length:Int)=(0:Int) then
  some ([]:Str)
 else
  if (elems.length:Int)=(1:Int) then
   Option.bind (idx elems (0:Int)) fun v=>
   some v
  else
   Option.bind (
     if (0:Int)< (sep.length:Int) then
      Option.bind (
        Option.bind (subC (elems.length:Int) (1:Int)) fun v1=>
        Option.bind (quoC (9223372036854775807:Int) v1) fun v2=>
        if v2≤(sep.length:Int) then
         none
        else
         some ()
       ) fun _=>
       Option.bind (subC (elems.length:Int) (1:Int)) fun v3=>
       Option.bind (mulC (sep.length:Int) v3) fun v4=>
       Option.bind (addC (0:Int) v4) fun v5=>
       some v5
     else
      some (0:Int)
    ) fun n0_=>
    Option.bind (M.strings_Join_loop1 elems n0_) fun n0_1=>
     Option.bind (growC n0_1) fun _=>
     Option.bind (idx elems (0:Int)) fun v8=>
     Option.bind (appC ([]:Str) v8) fun b1=>
     Option.bind (slcLo elems (1:Int)) fun v9=>
     Option.bind (M.strings_Join_loop2 sep v9 b1) fun b2=>
      some b2
def M.plaintext_Format(n:Nat)(u:api_Unit):Option (Str×Int):=
 Option.bind (M.plaintext_Lines n u) fun lines=>
 if (lines.length:Int)=(0:Int) then
  some (([]:Str),(1:Int))
 else
  Option.bind (M.strings_Join lines ([10]:Str)) fun join=>
  Option.bind (catC join ([10]:Str)) fun v=>
  if (16384:Int)< (v.length:Int) then
   some (([]:Str),(6:Int))
  else
   some (v,(0:Int))
def M.strings_trimLeftByte_loop1(c:Int):Nat→Str→Option Str
 | 0,_=>none
 | n+1,s0_1=>
  if (0:Int)< (s0_1.length:Int) then
   Option.bind (idx s0_1 (0:Int)) fun b=>
   if (b.toNat:Int)=c then
    Option.bind (slcLo s0_1 (1:Int)) fun v=>
    M.strings_trimLeftByte_loop1 c n v
   else
    some s0_1
  else
   some s0_1
def M.strings_trimLeftByte(n:Nat)(s0_:Str)(c:Int):Option Str:=
 Option.bind (M.strings_trimLeftByte_loop1 c n s0_) fun s0_1=>
  some s0_1
def M.strings_makeASCIISet_loop1(chars:Str):Nat→Int→(List Bool)→Option (((List Bool)) ⊕ ((List Bool)×Bool))
 | 0,_,_=>none
 | n+1,i,as0_=>
  if i<(chars.length:Int) then
   Option.bind (idx chars i) fun b1=>
   if (128:Int)≤(b1.toNat:Int) then
    some (.inr (as0_,false))
   else
    Option.bind (rngC 256 (b1.toNat:Int)) fun _=>
    M.strings_makeASCIISet_loop1 chars n (i+1) (as0_.set (b1.toNat:Int).toNat true)
  else
   some (.inl as0_)
def M.strings_makeASCIISet(n:Nat)(chars:Str):Option ((List Bool)×Bool):=
 Option.bind (M.strings_makeASCIISet_loop1 chars n (0:Int) (List.replicate 256 false)) fun
  | .inl as0_=>
   some (as0_,true)
  | .inr ret0=>some ret0
def M.strings_asciiSet_contains(as0_:List Bool)(c:Int):Option Bool:=
 Option.bind (idx as0_ c) fun v=>
 some v
def M.strings_trimLeftASCII_loop1(as0_:List Bool):Nat→Str→Option Str
 | 0,_=>none
 | n+1,s0_1=>
  if (0:Int)< (s0_1.length:Int) then
   Option.bind (idx s0_1 (0:Int)) fun b=>
   Option.bind (M.strings_asciiSet_contains as0_ (b.toNat:Int)) fun contai=>
   if contai=false then
    some s0_1
   else
    Option.bind (slcLo s0_1 (1:Int)) fun v=>
    M.strings_trimLeftASCII_loop1 as0_ n v
  else
   some s0_1
def M.strings_trimLeftASCII(n:Nat)(s0_:Str)(as0_:List Bool):Option Str:=
 Option.bind (M.strings_trimLeftASCII_loop1 as0_ n s0_) fun s0_1=>
  some s0_1
def M.strings_TrimLeft(n:Nat)(s0_:Str)(cutset:Str):Option Str:=
 Option.bind (
   if (s0_==([]:Str))=true then
    some true
   else
    some (cutset==([]:Str))
  ) fun v=>
  if v=true then
   some s0_
  else
   Option.bind (
     if (cutset.length:Int)=(1:Int) then
      Option.bind (idx cutset (0:Int)) fun b=>
      some (decide ((b.toNat:Int)< (128:Int)))
     else
      some false
    ) fun v1=>
    if v1=true then
     Option.bind (idx cutset (0:Int)) fun b1=>
     Option.bind (M.strings_trimLeftByte n s0_ (b1.toNat:Int)) fun trimle=>
     some trimle
    else
     Option.bind (M.strings_makeASCIISet n cutset) fun makeas=>
     if makeas.2=true then
      Option.bind (M.strings_trimLeftASCII n s0_ makeas.1) fun trimle1=>
      some trimle1
     else
      none
def M.plaintext_kind_loop1(s0_:Str):Nat→Int→Option (Unit ⊕ (Int×Bool))
 | 0,_=>none
 | n+1,v=>
  if v<(8:Int) then
   Option.bind (M.unit_KindName v) fun kindna=>
   if (kindna==s0_)=true then
    some (.inr (v,true))
   else
    Option.bind (addC v (1:Int)) fun v1=>
    M.plaintext_kind_loop1 s0_ n v1
  else
   some (.inl ())
def M.plaintext_kind(n:Nat)(s0_:Str):Option (Int×Bool):=
 Option.bind (M.plaintext_kind_loop1 s0_ n (0:Int)) fun
  | .inl _=>
   some ((0:Int),false)
  | .inr ret0=>some ret0
def M.internal_stringslite_HasSuffix(s0_:Str)(suffix:Str):Option Bool:=
 if (suffix.length:Int)≤(s0_.length:Int) then
  Option.bind (subC (s0_.length:Int) (suffix.length:Int)) fun v=>
  Option.bind (slcLo s0_ v) fun v1=>
  some (v1==suffix)
 else
  some false
def M.internal_stringslite_CutSuffix(s0_:Str)(suffix:Str):Option (Str×Bool):=
 Option.bind (M.internal_stringslite_HasSuffix s0_ suffix) fun hassuf=>
 if hassuf=false then
  some (s0_,false)
 else
  Option.bind (subC (s0_.length:Int) (suffix.length:Int)) fun v=>
  Option.bind (slcHi s0_ v) fun v1=>
  some (v1,true)
def M.strings_CutSuffix(s0_:Str)(suffix:Str):Option (Str×Bool):=
 Option.bind (M.internal_stringslite_CutSuffix s0_ suffix) fun cutsuf=>
 some (cutsuf.1,cutsuf.2)
def M.slices_Index_string_string_loop1(s0_:List Str)(v:Str):Nat→Int→Option (Unit ⊕ Int)
 | 0,_=>none
 | n+1,v1=>
  if v1<(s0_.length:Int) then
   Option.bind (idx s0_ v1) fun v2=>
   if (v==v2)=true then
    some (.inr v1)
   else
    M.slices_Index_string_string_loop1 s0_ v n (v1+1)
  else
   some (.inl ())
def M.slices_Index_string_string(n:Nat)(s0_:List Str)(v:Str):Option Int:=
 Option.bind (M.slices_Index_string_string_loop1 s0_ v n (0:Int)) fun
  | .inl _=>
   some (-1:Int)
  | .inr ret0=>some ret0
def M.internal_stringslite_HasPrefix(s0_:Str)(prefix0_:Str):Option Bool:=
 if (prefix0_.length:Int)≤(s0_.length:Int) then
  Option.bind (slcHi s0_ (prefix0_.length:Int)) fun v=>
  some (v==prefix0_)
 else
  some false
def M.internal_stringslite_TrimPrefix(s0_:Str)(prefix0_:Str):Option Str:=
 Option.bind (M.internal_stringslite_HasPrefix s0_ prefix0_) fun haspre=>
 if haspre=true then
  Option.bind (slcLo s0_ (prefix0_.length:Int)) fun v=>
  some v
 else
  some s0_
def M.strings_TrimPrefix(s0_:Str)(prefix0_:Str):Option Str:=
 Option.bind (M.internal_stringslite_TrimPrefix s0_ prefix0_) fun trimpr=>
 some trimpr
def M.plaintext_words_loop1:List Str→(List api_Word)→Option ((List api_Word))
 | [],out=>
  some out
 | e :: es,out=>
  Option.bind (M.strings_TrimPrefix e ([92]:Str)) fun trimpr=>
  Option.bind (appC out [(⟨trimpr,zapi_Mark⟩:api_Word)]) fun out1=>
  M.plaintext_words_loop1 es out1
def M.plaintext_words(l:List Str):Option ((List api_Word)):=
 Option.bind (M.plaintext_words_loop1 l ([]:List api_Word)) fun out=>
  some out
def M.plaintext_ParseLine(n:Nat)(s0_:Str):Option (api_Unit×Int×Int):=
 Option.bind (M.strings_TrimLeft n s0_ ([32]:Str)) fun trimle=>
 Option.bind (subC (s0_.length:Int) (trimle.length:Int)) fun v=>
 Option.bind (quoC v (2:Int)) fun v1=>
 Option.bind (splitM trimle ([32]:Str)) fun split=>
 Option.bind (idx split (0:Int)) fun v2=>
 Option.bind (M.plaintext_kind n v2) fun kind=>
 if kind.2=false then
  some ((⟨zapi_Id,(0:Int),([]:Str),([]:List api_Word),([]:List api_Word),([]:List api_Unit)⟩:api_Unit),(0:Int),(2:Int))
 else
  Option.bind (slcLo split (1:Int)) fun v3=>
  Option.bind (
    Option.bind (
      if kind.1≠(0:Int) then
       some (decide ((0:Int)< (v3.length:Int)))
      else
       some false
     ) fun v4=>
     if v4=true then
      Option.bind (idx v3 (0:Int)) fun v5=>
      Option.bind (M.strings_CutSuffix v5 ([58]:Str)) fun cutsuf=>
      Option.bind (slcLo v3 (1:Int)) fun v6=>
      Option.bind (M.slices_Index_string_string n v6 ([124]:Str)) fun string=>
      Option.bind (
        if string<(0:Int) then
         some (v6.length:Int)
        else
         some string
       ) fun bar=>
       Option.bind (
         if cutsuf.2=true then
          Option.bind (slcHi v6 bar) fun v7=>
          Option.bind (M.plaintext_words v7) fun words=>
          some ({({(⟨zapi_Id,kind.1,([]:Str),([]:List api_Word),([]:List api_Word),([]:List api_Unit)⟩:api_Unit) with Label:=cutsuf.1}:api_Unit) with Head:=words}:api_Unit)
         else
          some ({(⟨zapi_Id,kind.1,([]:Str),([]:List api_Word),([]:List api_Word),([]:List api_Unit)⟩:api_Unit) with Label:=cutsuf.1}:api_Unit)
        ) fun u1=>
        Option.bind (addC bar (1:Int)) fun v8=>
        Option.bind (slcLo v6 (min v8 (v6.length:Int))) fun v9=>
        Option.bind (M.plaintext_words v9) fun words1=>
        some ({u1 with Words:=words1}:api_Unit)
     else
      some (⟨zapi_Id,kind.1,([]:Str),([]:List api_Word),([]:List api_Word),([]:List api_Unit)⟩:api_Unit)
   ) fun u=>
   Option.bind (M.plaintext_FormatLine n u v1) fun format=>
   if (format !=s0_)=true then
    some ((⟨zapi_Id,(0:Int),([]:Str),([]:List api_Word),([]:List api_Word),([]:List api_Unit)⟩:api_Unit),(0:Int),(2:Int))
   else
    some (u,v1,(0:Int))
abbrev NodeL:=List (api_Unit×List Nat)
def M.node_same(ar:NodeL)(u:api_Unit):List Nat→Option Bool
 | []=>some false
 | j :: js=>Option.bind ar[j]? fun n=>if n.1.Kind=u.Kind then (if (n.1.Label==u.Label)=true then some true else M.node_same ar u js) else M.node_same ar u js
def M.node_takes(n:Nat)(ar:NodeL)(i:Nat)(u:api_Unit):Option Int:=
 Option.bind ar[i]? fun nd=>
 Option.bind (M.unit_CanContain n nd.1.Kind u.Kind) fun c=>
 if c=false then some 9 else
 Option.bind (M.node_same ar u nd.2) fun d=>
 if d=true then some 10 else if (64:Int)≤(nd.2.length:Int) then some 6 else some 0
def M.node_kids(f:Nat→Option api_Unit):List Nat→api_Unit→Option api_Unit
 | [],u=>some u
 | j :: js,u=>Option.bind (f j) fun y=>Option.bind (appC u.Kids [y]) fun ks=>M.node_kids f js {u with Kids:=ks}
def M.node_unit(ar:NodeL):Nat→Nat→Option api_Unit
 | 0,_=>none
 | n+1,i=>Option.bind ar[i]? fun nd=>M.node_kids (M.node_unit ar n) nd.2 nd.1
def M.plaintext_grow(n:Nat)(ar:NodeL)(way:List Nat)(line:Str)(count:Int):Option ((List Nat×Int)×NodeL):=
 Option.bind (M.plaintext_ParseLine n line) fun v=>
 if v.2.2≠(0:Int) then some (([],v.2.2),ar) else
 if (way.length:Int)=(0:Int) then
  (if v.2.1≠(0:Int) then some (([],3),ar) else some (([ar.length],0),ar++ [(v.1,[])]))
 else if v.2.1<(1:Int) then some (([],3),ar)
 else if (way.length:Int)< v.2.1 then some (([],3),ar) else
 Option.bind (subC v.2.1 (1:Int)) fun d=>
 Option.bind (idx way d) fun p=>
 Option.bind (M.node_takes n ar p v.1) fun e=>
 if e≠(0:Int) then some (([],e),ar) else
 if (1024:Int)≤count then some (([],6),ar) else
 Option.bind ar[p]? fun nd=>
 Option.bind (appC nd.2 [ar.length]) fun ks=>
 Option.bind (slcHi way v.2.1) fun w=>
 Option.bind (appC w [ar.length]) fun w2=>
 some ((w2,0),(ar.set p (nd.1,ks))++ [(v.1,[])])
def M.plaintext_Parse_loop:Nat→Str→NodeL→List Nat→Int→Option ((NodeL×List Nat×Int) ⊕ (api_Unit×Int×Int))
 | 0,_,_,_,_=>none
 | n+1,s,ar,way,i=>
  if (s !=([]:Str))=true then
   Option.bind (cutM s ([10]:Str)) fun c=>
   if c.2.2=false then some (.inr (zapi_Unit,i,2)) else
   Option.bind (M.plaintext_grow n ar way c.1 i) fun g=>
   if g.1.2≠(0:Int) then some (.inr (zapi_Unit,i,g.1.2)) else
   Option.bind (addC i (1:Int)) fun i2=>
   M.plaintext_Parse_loop n c.2.1 g.2 g.1.1 i2
  else some (.inl (ar,way,i))
def M.plaintext_Parse(n:Nat)(s:Str):Option (api_Unit×Int×Int):=
 if (16384:Int)< (s.length:Int) then some (zapi_Unit,0,6) else
 if (s==([]:Str))=true then some (zapi_Unit,0,2) else
 Option.bind (M.plaintext_Parse_loop n s [] [] (0:Int)) fun
  | .inl (ar,way,i)=>
   Option.bind (idx way (0:Int)) fun w=>
   Option.bind (M.node_unit ar n w) fun u=>some (u,i,0)
  | .inr r=>some r
def M.r11_Texts_loop1(a:List api_Word)(b:List api_Word):Nat→Int→Option (Unit ⊕ Bool)
 | 0,_=>none
 | n+1,i=>
  if i<(a.length:Int) then
   Option.bind (idx a i) fun v=>
   Option.bind (idx b i) fun v1=>
   if (v.Text !=v1.Text)=true then
    some (.inr false)
   else
    M.r11_Texts_loop1 a b n (i+1)
  else
   some (.inl ())
def M.r11_Texts(n:Nat)(a:List api_Word)(b:List api_Word):Option Bool:=
 if (a.length:Int)≠(b.length:Int) then
  some false
 else
  Option.bind (M.r11_Texts_loop1 a b n (0:Int)) fun
   | .inl _=>
    some true
   | .inr ret0=>some ret0
def M.r11_Says_loop1(a:api_Unit)(b:api_Unit)(slf:api_Unit→api_Unit→Option Bool):Nat→Int→Option (Unit ⊕ Bool)
 | 0,_=>none
 | n+1,i=>
  if i<(a.Kids.length:Int) then
   Option.bind (idx a.Kids i) fun v1=>
   Option.bind (idx b.Kids i) fun v2=>
   Option.bind (slf v1 v2) fun says=>
   if says=false then
    some (.inr false)
   else
    M.r11_Says_loop1 a b slf n (i+1)
  else
   some (.inl ())
def M.r11_Says:Nat→api_Unit→api_Unit→Option Bool
 | 0,_,_=>none
 | n+1,a,b=>
  Option.bind (
    if a.Kind≠b.Kind then
     some true
    else
     if (a.Label !=b.Label)=true then
      some true
     else
      Option.bind (M.r11_Texts n a.Head b.Head) fun texts=>
      if texts=false then
       some true
      else
       Option.bind (M.r11_Texts n a.Words b.Words) fun texts1=>
       if texts1=false then
        some true
       else
        some (decide ((a.Kids.length:Int)≠(b.Kids.length:Int)))
   ) fun v=>
   if v=true then
    some false
   else
    Option.bind (M.r11_Says_loop1 a b (M.r11_Says n) n (0:Int)) fun
     | .inl _=>
      some true
     | .inr ret0=>some ret0
def M.law11_awake(n:Nat):Option Bool:=
 Option.bind M.law11_section fun sectio=>
 Option.bind (M.plaintext_Format n sectio) fun format=>
 Option.bind (M.plaintext_Parse n format.1) fun parse=>
 if format.2=(0:Int) then
  if (format.1==([115,101,99,116,105,111,110,32,53,58,32,97,32,98,32,124,32,99,32,92,124,32,100,10,32,32,112,97,114,97,103,114,97,112,104,32,49,32,124,32,101,10]:Str))=true then
   if parse.2.2=(0:Int) then
    if parse.2.1=(2:Int) then
     Option.bind M.law11_section fun sectio1=>
     Option.bind (M.r11_Says n parse.1 sectio1) fun says=>
     some says
    else
     some false
   else
    some false
  else
   some false
 else
  some false
def M.r07_few_loop1(u:api_Unit)(deep:Int)(slf:api_Unit→Int→Int→Option Int):Nat→Int→Int→Option Int
 | 0,_,_=>none
 | n+1,left1,i=>
  Option.bind (
    if i<(u.Kids.length:Int) then
     some (decide ((0:Int)≤left1))
    else
     some false
   ) fun v7=>
   if v7=true then
    Option.bind (idx u.Kids i) fun v8=>
    Option.bind (addC deep (1:Int)) fun v9=>
    Option.bind (slf v8 left1 v9) fun few=>
    Option.bind (addC i (1:Int)) fun v10=>
    M.r07_few_loop1 u deep slf n few v10
   else
    some left1
def M.r07_few:Nat→api_Unit→Int→Int→Option Int
 | 0,_,_,_=>none
 | n+1,u,left,deep=>
  Option.bind (subC left (1:Int)) fun v=>
  Option.bind (quoC (u.Words.length:Int) (50:Int)) fun v1=>
  Option.bind (subC v v1) fun v2=>
  Option.bind (quoC (u.Head.length:Int) (50:Int)) fun v3=>
  Option.bind (subC v2 v3) fun v4=>
  Option.bind (quoC (u.Label.length:Int) (50:Int)) fun v5=>
  Option.bind (subC v4 v5) fun v6=>
  if (12:Int)< deep then
   some (-1:Int)
  else
   Option.bind (M.r07_few_loop1 u deep (M.r07_few n) n v6 (0:Int)) fun left1=>
    some left1
def M.r07_Few(n:Nat)(u:api_Unit)(most:Int):Option Bool:=
 Option.bind (M.r07_few n u most (0:Int)) fun few=>
 some (decide ((0:Int)≤few))
def M.law11_short_loop3(u:api_Unit)(slf:api_Unit→Option Bool):Nat→Int→Option (Unit ⊕ Bool)
 | 0,_=>none
 | n+1,i2=>
  if i2<(u.Kids.length:Int) then
   Option.bind (idx u.Kids i2) fun v2=>
   Option.bind (slf v2) fun short=>
   if short=false then
    some (.inr false)
   else
    M.law11_short_loop3 u slf n (i2+1)
  else
   some (.inl ())
def M.law11_short_loop2(u:api_Unit):Nat→Int→Option (Unit ⊕ Bool)
 | 0,_=>none
 | n+1,i1=>
  if i1<(u.Words.length:Int) then
   Option.bind (idx u.Words i1) fun v1=>
   if (200:Int)< (v1.Text.length:Int) then
    some (.inr false)
   else
    M.law11_short_loop2 u n (i1+1)
  else
   some (.inl ())
def M.law11_short_loop1(u:api_Unit):Nat→Int→Option (Unit ⊕ Bool)
 | 0,_=>none
 | n+1,i=>
  if i<(u.Head.length:Int) then
   Option.bind (idx u.Head i) fun v=>
   if (200:Int)< (v.Text.length:Int) then
    some (.inr false)
   else
    M.law11_short_loop1 u n (i+1)
  else
   some (.inl ())
def M.law11_short:Nat→api_Unit→Option Bool
 | 0,_=>none
 | n+1,u=>
  Option.bind (M.law11_short_loop1 u n (0:Int)) fun
   | .inl _=>
    Option.bind (M.law11_short_loop2 u n (0:Int)) fun
     | .inl _=>
      Option.bind (M.law11_short_loop3 u (M.law11_short n) n (0:Int)) fun
       | .inl _=>
        some true
       | .inr ret0=>some ret0
     | .inr ret0=>some ret0
   | .inr ret0=>some ret0
def M.law11_few(n:Nat)(u:api_Unit):Option Bool:=
 Option.bind (M.r07_Few n u (120:Int)) fun few=>
 if few=true then
  Option.bind (M.law11_short n u) fun short=>
  some short
 else
  some false
def M.r03_digits_loop1(s0_:Str):Nat→Int→Option Int
 | 0,_=>none
 | n+1,n0_=>
  if n0_<(s0_.length:Int) then
   Option.bind (idx s0_ n0_) fun b=>
   if (48:Int)≤(b.toNat:Int) then
    Option.bind (idx s0_ n0_) fun b1=>
    if (b1.toNat:Int)≤(57:Int) then
     M.r03_digits_loop1 s0_ n (n0_+1)
    else
     some n0_
   else
    some n0_
  else
   some n0_
def M.r03_digits(n:Nat)(s0_:Str):Option Int:=
 Option.bind (M.r03_digits_loop1 s0_ n (0:Int)) fun n0_=>
  some n0_
def M.r03_May_loop1(s0_:Str):Nat→Int→Option (Unit ⊕ Bool)
 | 0,_=>none
 | n+1,i=>
  if i<(s0_.length:Int) then
   Option.bind (idx s0_ i) fun b1=>
   if (b1.toNat:Int)< (65:Int) then
    some (.inr false)
   else
    Option.bind (idx s0_ i) fun b2=>
    if (90:Int)< (b2.toNat:Int) then
     some (.inr false)
    else
     M.r03_May_loop1 s0_ n (i+1)
  else
   some (.inl ())
def M.r03_May(n:Nat)(s0_:Str):Option Bool:=
 Option.bind (M.r03_digits n s0_) fun digits=>
 Option.bind (
   if digits<(1:Int) then
    some true
   else
    if (4:Int)< digits then
     some true
    else
     Option.bind (idx s0_ (0:Int)) fun b=>
     if (b.toNat:Int)=(48:Int) then
      some true
     else
      Option.bind (subC (s0_.length:Int) digits) fun v1=>
      some (decide ((3:Int)< v1))
  ) fun v=>
  if v=true then
   some false
  else
   Option.bind (M.r03_May_loop1 s0_ n digits) fun
    | .inl _=>
     some true
    | .inr ret0=>some ret0
def M.r11_Word_loop1(s0_:Str):Nat→Int→Option (Unit ⊕ Bool)
 | 0,_=>none
 | n+1,i=>
  if i<(s0_.length:Int) then
   Option.bind (idx s0_ i) fun b=>
   if (b.toNat:Int)< (33:Int) then
    some (.inr false)
   else
    Option.bind (idx s0_ i) fun b1=>
    if (126:Int)< (b1.toNat:Int) then
     some (.inr false)
    else
     M.r11_Word_loop1 s0_ n (i+1)
  else
   some (.inl ())
def M.r11_Word(n:Nat)(s0_:Str):Option Bool:=
 Option.bind (M.r11_Word_loop1 s0_ n (0:Int)) fun
  | .inl _=>
   if (1:Int)≤(s0_.length:Int) then
    some (decide ((s0_.length:Int)≤(24:Int)))
   else
    some false
  | .inr ret0=>some ret0
def M.r11_row_loop1(l:List api_Word):Nat→Int→Option (Unit ⊕ Bool)
 | 0,_=>none
 | n+1,i=>
  if i<(l.length:Int) then
   Option.bind (idx l i) fun v=>
   Option.bind (M.r11_Word n v.Text) fun word=>
   if word=false then
    some (.inr false)
   else
    M.r11_row_loop1 l n (i+1)
  else
   some (.inl ())
def M.r11_row(n:Nat)(l:List api_Word):Option Bool:=
 Option.bind (M.r11_row_loop1 l n (0:Int)) fun
  | .inl _=>
   some (decide ((l.length:Int)≤(256:Int)))
  | .inr ret0=>some ret0
def M.r11_Alone(n:Nat)(u:api_Unit):Option Bool:=
 if u.Kind=(0:Int) then
  Option.bind (
    if (u.Label==([]:Str))=true then
     if (u.Head.length:Int)=(0:Int) then
      some (decide ((u.Words.length:Int)=(0:Int)))
     else
      some false
    else
     some false
   ) fun v=>
   some v
 else
  if (0:Int)< u.Kind then
   if u.Kind≤(7:Int) then
    Option.bind (M.r03_May n u.Label) fun may=>
    if may=true then
     Option.bind (M.r11_row n u.Head) fun row=>
     if row=true then
      Option.bind (M.r11_row n u.Words) fun row1=>
      some row1
     else
      some false
    else
     some false
   else
    some false
  else
   some false
def M.r11_Nests(parent:Int)(kind:Int):Option Bool:=
 if parent=(0:Int) then
  if kind=(1:Int) then
   some true
  else
   some (decide (kind=(2:Int)))
 else
  if parent=(1:Int) then
   some (decide (kind=(2:Int)))
  else
   if parent=(2:Int) then
    if kind=(3:Int) then
     some true
    else
     if kind=(4:Int) then
      some true
     else
      some (decide (kind=(7:Int)))
   else
    if parent=(3:Int) then
     if kind=(3:Int) then
      some true
     else
      if kind=(4:Int) then
       some true
      else
       some (decide (kind=(7:Int)))
    else
     if parent=(4:Int) then
      some (decide (kind=(5:Int)))
     else
      if parent=(5:Int) then
       some (decide (kind=(6:Int)))
      else
       some false
def M.r11_shape_loop2(u:api_Unit)(i:Int)(v1:api_Unit):Nat→Int→Option (Unit ⊕ Bool)
 | 0,_=>none
 | n+1,k=>
  if k<i then
   Option.bind (idx u.Kids k) fun v4=>
   if v4.Kind=v1.Kind then
    Option.bind (idx u.Kids k) fun v5=>
    if (v5.Label==v1.Label)=true then
     some (.inr false)
    else
     Option.bind (addC k (1:Int)) fun v6=>
     M.r11_shape_loop2 u i v1 n v6
   else
    Option.bind (addC k (1:Int)) fun v7=>
    M.r11_shape_loop2 u i v1 n v7
  else
   some (.inl ())
def M.r11_shape_loop1(u:api_Unit)(depth:Int)(slf:api_Unit→Int→Option Bool):Nat→Int→Option (Unit ⊕ Bool)
 | 0,_=>none
 | n+1,i=>
  if i<(u.Kids.length:Int) then
   Option.bind (idx u.Kids i) fun v1=>
   Option.bind (
     Option.bind (M.r11_Nests u.Kind v1.Kind) fun nests=>
     if nests=false then
      some true
     else
      Option.bind (addC depth (1:Int)) fun v3=>
      Option.bind (slf v1 v3) fun shape=>
      some (!shape)
    ) fun v2=>
    if v2=true then
     some (.inr false)
    else
     Option.bind (M.r11_shape_loop2 u i v1 n (0:Int)) fun
      | .inl _=>
       Option.bind (addC i (1:Int)) fun v8=>
       M.r11_shape_loop1 u depth slf n v8
      | .inr ret0=>some (.inr ret0)
  else
   some (.inl ())
def M.r11_shape:Nat→api_Unit→Int→Option Bool
 | 0,_,_=>none
 | n+1,u,depth=>
  Option.bind (
    if (8:Int)< depth then
     some true
    else
     if (0:Int)< depth then
      if u.Kind=(0:Int) then
       some true
      else
       Option.bind (M.r11_Alone n u) fun alone=>
       if alone=false then
        some true
       else
        some (decide ((64:Int)< (u.Kids.length:Int)))
     else
      Option.bind (M.r11_Alone n u) fun alone1=>
      if alone1=false then
       some true
      else
       some (decide ((64:Int)< (u.Kids.length:Int)))
   ) fun v=>
   if v=true then
    some false
   else
    Option.bind (M.r11_shape_loop1 u depth (M.r11_shape n) n (0:Int)) fun
     | .inl _=>
      some true
     | .inr ret0=>some ret0
def M.r11_Count_loop1(u:api_Unit)(slf:api_Unit→Option Int):Nat→Int→Int→Option Int
 | 0,_,_=>none
 | n+1,n0_,i=>
  if i<(u.Kids.length:Int) then
   Option.bind (idx u.Kids i) fun v=>
   Option.bind (slf v) fun count=>
   Option.bind (addC n0_ count) fun v1=>
   M.r11_Count_loop1 u slf n v1 (i+1)
  else
   some n0_
def M.r11_Count:Nat→api_Unit→Option Int
 | 0,_=>none
 | n+1,u=>
  Option.bind (M.r11_Count_loop1 u (M.r11_Count n) n (1:Int) (0:Int)) fun n0_=>
   some n0_
def M.r11_Shape(n:Nat)(u:api_Unit):Option Bool:=
 Option.bind (M.r11_shape n u (0:Int)) fun shape=>
 if shape=true then
  Option.bind (M.r11_Count n u) fun count=>
  some (decide (count≤(1024:Int)))
 else
  some false
def M.r07_Names:Option ((List Str)):=
 some ([([98,111,111,107]:Str),([112,97,114,116]:Str),([115,101,99,116,105,111,110]:Str),([112,97,114,97,103,114,97,112,104]:Str),([116,97,98,108,101]:Str),([114,111,119]:Str),([99,101,108,108]:Str),([110,111,116,101]:Str)])
def M.r11_words_loop1(l:List api_Word):Nat→Str→Int→Option Str
 | 0,_,_=>none
 | n+1,s0_,i=>
  if i<(l.length:Int) then
   Option.bind (idx l i) fun v=>
   Option.bind (
     Option.bind (idx v.Text (0:Int)) fun b=>
     if (b.toNat:Int)=(124:Int) then
      some true
     else
      Option.bind (idx v.Text (0:Int)) fun b1=>
      some (decide ((b1.toNat:Int)=(92:Int)))
    ) fun v1=>
    if v1=true then
     Option.bind (catC ([92]:Str) v.Text) fun v2=>
     Option.bind (catC s0_ ([32]:Str)) fun v3=>
     Option.bind (catC v3 v2) fun v4=>
     M.r11_words_loop1 l n v4 (i+1)
    else
     Option.bind (catC s0_ ([32]:Str)) fun v5=>
     Option.bind (catC v5 v.Text) fun v6=>
     M.r11_words_loop1 l n v6 (i+1)
  else
   some s0_
def M.r11_words(n:Nat)(l:List api_Word):Option Str:=
 Option.bind (M.r11_words_loop1 l n ([]:Str) (0:Int)) fun s0_=>
  some s0_
def M.r11_Line_loop1(depth:Int):Nat→Str→Int→Option Str
 | 0,_,_=>none
 | n+1,s0_,i=>
  if i<depth then
   Option.bind (catC s0_ ([32,32]:Str)) fun v1=>
   Option.bind (addC i (1:Int)) fun v2=>
   M.r11_Line_loop1 depth n v1 v2
  else
   some s0_
def M.r11_Line(n:Nat)(u:api_Unit)(depth:Int):Option Str:=
 Option.bind (
   if depth<(0:Int) then
    some true
   else
    if (8:Int)< depth then
     some true
    else
     Option.bind (M.r11_Alone n u) fun alone=>
     some (!alone)
  ) fun v=>
  if v=true then
   some ([]:Str)
  else
   Option.bind (M.r11_Line_loop1 depth n ([]:Str) (0:Int)) fun s0_=>
    Option.bind M.r07_Names fun names=>
    Option.bind (idx names u.Kind) fun v3=>
    Option.bind (catC s0_ v3) fun v4=>
    Option.bind (
      if u.Kind≠(0:Int) then
       Option.bind (catC v4 ([32]:Str)) fun v5=>
       Option.bind (catC v5 u.Label) fun v6=>
       some v6
      else
       some v4
     ) fun s0_1=>
     Option.bind (
       if (0:Int)< (u.Head.length:Int) then
        Option.bind (catC s0_1 ([58]:Str)) fun v7=>
        Option.bind (M.r11_words n u.Head) fun words=>
        Option.bind (catC v7 words) fun v8=>
        some v8
       else
        some s0_1
      ) fun s0_2=>
      if (0:Int)< (u.Words.length:Int) then
       Option.bind (catC s0_2 ([32,124]:Str)) fun v9=>
       Option.bind (M.r11_words n u.Words) fun words1=>
       Option.bind (catC v9 words1) fun v10=>
       some v10
      else
       some s0_2
def M.r11_lines_loop1(u:api_Unit)(depth:Int)(slf:api_Unit→Int→Option ((List Str))):Nat→(List Str)→Int→Option ((List Str))
 | 0,_,_=>none
 | n+1,out,i=>
  if i<(u.Kids.length:Int) then
   Option.bind (idx u.Kids i) fun v=>
   Option.bind (addC depth (1:Int)) fun v1=>
   Option.bind (slf v v1) fun lines=>
   Option.bind (appC out lines) fun out1=>
   M.r11_lines_loop1 u depth slf n out1 (i+1)
  else
   some out
def M.r11_lines:Nat→api_Unit→Int→Option ((List Str))
 | 0,_,_=>none
 | n+1,u,depth=>
  Option.bind (M.r11_Line n u depth) fun line=>
  Option.bind (M.r11_lines_loop1 u depth (M.r11_lines n) n [line] (0:Int)) fun out=>
   some out
def M.r11_Lines(n:Nat)(u:api_Unit):Option ((List Str)):=
 Option.bind (M.r11_Shape n u) fun shape=>
 if shape=false then
  some ([]:List Str)
 else
  Option.bind (M.r11_lines n u (0:Int)) fun lines=>
  some lines
def M.r11_Text_loop1(lines:(List Str)):Nat→Str→Int→Option Str
 | 0,_,_=>none
 | n+1,s0_,i=>
  if i<(lines.length:Int) then
   Option.bind (idx lines i) fun v=>
   Option.bind (catC s0_ v) fun v1=>
   Option.bind (catC v1 ([10]:Str)) fun v2=>
   M.r11_Text_loop1 lines n v2 (i+1)
  else
   some s0_
def M.r11_Text(n:Nat)(u:api_Unit):Option (Str×Int):=
 Option.bind (M.r11_Shape n u) fun shape=>
 if shape=false then
  some (([]:Str),(1:Int))
 else
  Option.bind (M.r11_Lines n u) fun lines=>
  Option.bind (M.r11_Text_loop1 lines n ([]:Str) (0:Int)) fun s0_=>
   if (16384:Int)< (s0_.length:Int) then
    some (([]:Str),(6:Int))
   else
    some (s0_,(0:Int))
def M.law11_PlaintextFormat(n:Nat)(u:api_Unit):Option Bool:=
 Option.bind (
   Option.bind (M.law11_awake n) fun awake=>
   if awake=false then
    some true
   else
    Option.bind (M.law11_few n u) fun few=>
    some (!few)
  ) fun v=>
  if v=true then
   Option.bind (M.law11_awake n) fun awake1=>
   some awake1
  else
   Option.bind (M.plaintext_Format n u) fun format=>
   Option.bind (M.r11_Text n u) fun text=>
   if (format.1==text.1)=true then
    some (decide (format.2=text.2))
   else
    some false
def M.r07_Cut_loop1(s0_:Str):Nat→(List Str)→Int→Int→Option ((List Str))
 | 0,_,_,_=>none
 | n+1,out,from0_,i=>
  if i≤(s0_.length:Int) then
   Option.bind (
     if i=(s0_.length:Int) then
      some true
     else
      Option.bind (idx s0_ i) fun b=>
      some (decide ((b.toNat:Int)=(32:Int)))
    ) fun v=>
    if v=true then
     Option.bind (slc s0_ from0_ i) fun v1=>
     Option.bind (appC out [v1]) fun out1=>
     Option.bind (addC i (1:Int)) fun v2=>
     Option.bind (addC i (1:Int)) fun v3=>
     M.r07_Cut_loop1 s0_ n out1 v2 v3
    else
     Option.bind (addC i (1:Int)) fun v4=>
     M.r07_Cut_loop1 s0_ n out from0_ v4
  else
   some out
def M.r07_Cut(n:Nat)(s0_:Str):Option ((List Str)):=
 Option.bind (M.r07_Cut_loop1 s0_ n ([]:List Str) (0:Int) (0:Int)) fun out=>
  some out
def M.r07_Kind_loop1(s0_:Str):Nat→Int→Option (Unit ⊕ Int)
 | 0,_=>none
 | n+1,i=>
  if i<(8:Int) then
   Option.bind M.r07_Names fun names=>
   Option.bind (idx names i) fun v=>
   if (v==s0_)=true then
    some (.inr i)
   else
    Option.bind (addC i (1:Int)) fun v1=>
    M.r07_Kind_loop1 s0_ n v1
  else
   some (.inl ())
def M.r07_Kind(n:Nat)(s0_:Str):Option Int:=
 Option.bind (M.r07_Kind_loop1 s0_ n (0:Int)) fun
  | .inl _=>
   some (-1:Int)
  | .inr ret0=>some ret0
def M.r11_take_loop1(w:List Str):Nat→(List api_Word)→Int→Option (((List api_Word)) ⊕ ((List api_Word)×(List Str)×Bool))
 | 0,_,_=>none
 | n+1,out,i=>
  if i<(w.length:Int) then
   Option.bind (idx w i) fun v=>
   if (v==([124]:Str))=true then
    Option.bind (slcLo w i) fun v1=>
    some (.inr (out,v1,true))
   else
    Option.bind (
      if (1:Int)< (v.length:Int) then
       Option.bind (idx v (0:Int)) fun b=>
       if (b.toNat:Int)=(92:Int) then
        Option.bind (slcLo v (1:Int)) fun v2=>
        some v2
       else
        some v
      else
       some v
     ) fun t=>
     Option.bind (appC out [(⟨t,zapi_Mark⟩:api_Word)]) fun out1=>
     M.r11_take_loop1 w n out1 (i+1)
  else
   some (.inl out)
def M.r11_take(n:Nat)(w:List Str):Option ((List api_Word)×(List Str)×Bool):=
 Option.bind (M.r11_take_loop1 w n ([]:List api_Word) (0:Int)) fun
  | .inl out=>
   some (out,([]:List Str),true)
  | .inr ret0=>some ret0
def M.r11_Read_loop1(s0_:Str):Nat→Int→Option Int
 | 0,_=>none
 | n+1,n0_=>
  if n0_<(s0_.length:Int) then
   Option.bind (idx s0_ n0_) fun b1=>
   if (b1.toNat:Int)=(32:Int) then
    M.r11_Read_loop1 s0_ n (n0_+1)
   else
    some n0_
  else
   some n0_
def M.r11_Read(n:Nat)(s0_:Str):Option (api_Unit×Int×Bool):=
 Option.bind (M.r11_Read_loop1 s0_ n (0:Int)) fun n0_=>
  Option.bind (slcLo s0_ n0_) fun v=>
  Option.bind (M.r07_Cut n v) fun cut=>
  Option.bind (idx cut (0:Int)) fun v1=>
  Option.bind (M.r07_Kind n v1) fun kind=>
  if ({(⟨zapi_Id,(0:Int),([]:Str),([]:List api_Word),([]:List api_Word),([]:List api_Unit)⟩:api_Unit) with Kind:=kind}:api_Unit).Kind<(0:Int) then
   some ((⟨zapi_Id,(0:Int),([]:Str),([]:List api_Word),([]:List api_Word),([]:List api_Unit)⟩:api_Unit),(0:Int),false)
  else
   Option.bind ((
     if ({(⟨zapi_Id,(0:Int),([]:Str),([]:List api_Word),([]:List api_Word),([]:List api_Unit)⟩:api_Unit) with Kind:=kind}:api_Unit).Kind≠(0:Int) then
      if (cut.length:Int)< (2:Int) then
       some (.inr ((⟨zapi_Id,(0:Int),([]:Str),([]:List api_Word),([]:List api_Word),([]:List api_Unit)⟩:api_Unit),(0:Int),false))
      else
       Option.bind (idx cut (1:Int)) fun v3=>
       Option.bind (
         if (0:Int)< ((({({(⟨zapi_Id,(0:Int),([]:Str),([]:List api_Word),([]:List api_Word),([]:List api_Unit)⟩:api_Unit) with Kind:=kind}:api_Unit) with Label:=v3}:api_Unit).Label).length:Int) then
          Option.bind (subC ((({({(⟨zapi_Id,(0:Int),([]:Str),([]:List api_Word),([]:List api_Word),([]:List api_Unit)⟩:api_Unit) with Kind:=kind}:api_Unit) with Label:=v3}:api_Unit).Label).length:Int) (1:Int)) fun v5=>
          Option.bind (idx (({({(⟨zapi_Id,(0:Int),([]:Str),([]:List api_Word),([]:List api_Word),([]:List api_Unit)⟩:api_Unit) with Kind:=kind}:api_Unit) with Label:=v3}:api_Unit).Label) v5) fun b3=>
          some (decide ((b3.toNat:Int)=(58:Int)))
         else
          some false
        ) fun v4=>
        if v4=true then
         Option.bind (subC ((({({(⟨zapi_Id,(0:Int),([]:Str),([]:List api_Word),([]:List api_Word),([]:List api_Unit)⟩:api_Unit) with Kind:=kind}:api_Unit) with Label:=v3}:api_Unit).Label).length:Int) (1:Int)) fun v6=>
         Option.bind (slcHi (({({(⟨zapi_Id,(0:Int),([]:Str),([]:List api_Word),([]:List api_Word),([]:List api_Unit)⟩:api_Unit) with Kind:=kind}:api_Unit) with Label:=v3}:api_Unit).Label) v6) fun v7=>
         some (.inl (true,(2:Int),zapi_Unit,({({({(⟨zapi_Id,(0:Int),([]:Str),([]:List api_Word),([]:List api_Word),([]:List api_Unit)⟩:api_Unit) with Kind:=kind}:api_Unit) with Label:=v3}:api_Unit) with Label:=v7}:api_Unit)))
        else
         some (.inl (false,(2:Int),zapi_Unit,({({(⟨zapi_Id,(0:Int),([]:Str),([]:List api_Word),([]:List api_Word),([]:List api_Unit)⟩:api_Unit) with Kind:=kind}:api_Unit) with Label:=v3}:api_Unit)))
     else
      some (.inl (false,(1:Int),zapi_Unit,({(⟨zapi_Id,(0:Int),([]:Str),([]:List api_Word),([]:List api_Word),([]:List api_Unit)⟩:api_Unit) with Kind:=kind}:api_Unit)))
    ):Option ((Bool×Int×api_Unit×api_Unit) ⊕ (api_Unit×Int×Bool))) fun
    | .inl (headed,i,v2,u)=>
     Option.bind (slcLo cut i) fun v8=>
     Option.bind (
       if headed=true then
        Option.bind (M.r11_take n v8) fun take=>
        some (take.2.1,({u with Head:=take.1}:api_Unit))
       else
        some (v8,u)
      ) fun (rest,u1)=>
      Option.bind (
        Option.bind (
          if (0:Int)< (rest.length:Int) then
           Option.bind (idx rest (0:Int)) fun v10=>
           some (v10==([124]:Str))
          else
           some false
         ) fun v9=>
         if v9=true then
          Option.bind (slcLo rest (1:Int)) fun v11=>
          Option.bind (M.r11_take n v11) fun take1=>
          some (take1.2.1,({u1 with Words:=take1.1}:api_Unit))
         else
          some (rest,u1)
       ) fun (rest1,u2)=>
       Option.bind (
         if (0:Int)< (rest1.length:Int) then
          some true
         else
          Option.bind (quoC n0_ (2:Int)) fun v13=>
          Option.bind (M.r11_Line n u2 v13) fun line=>
          if (line !=s0_)=true then
           some true
          else
           some (s0_==([]:Str))
        ) fun v12=>
        if v12=true then
         some ((⟨zapi_Id,(0:Int),([]:Str),([]:List api_Word),([]:List api_Word),([]:List api_Unit)⟩:api_Unit),(0:Int),false)
        else
         Option.bind (quoC n0_ (2:Int)) fun v14=>
         some (u2,v14,true)
    | .inr ret0=>some ret0
def M.r11_parent_loop1(l:List pandectref11_node)(depth:Int):Nat→Int→Option Int
 | 0,_=>none
 | n+1,p=>
  Option.bind (idx l p) fun v1=>
  Option.bind (subC depth (1:Int)) fun v2=>
  if v1.depth_≠v2 then
   Option.bind (subC p (1:Int)) fun v3=>
   M.r11_parent_loop1 l depth n v3
  else
   some p
def M.r11_parent(n:Nat)(l:List pandectref11_node)(depth:Int):Option Int:=
 Option.bind (subC (l.length:Int) (1:Int)) fun v=>
 Option.bind (M.r11_parent_loop1 l depth n v) fun p=>
  some p
def M.r11_wrong_loop1(l:List pandectref11_node)(x:pandectref11_node)(parent:Int):Nat→Int→Int→Option (Int ⊕ Int)
 | 0,_,_=>none
 | n+1,n0_,i=>
  if i<(l.length:Int) then
   Option.bind (idx l i) fun v4=>
   if v4.parent_≠parent then
    M.r11_wrong_loop1 l x parent n n0_ (i+1)
   else
    Option.bind (addC n0_ (1:Int)) fun v5=>
    Option.bind (idx l i) fun v6=>
    if v6.u_.Kind=x.u_.Kind then
     Option.bind (idx l i) fun v7=>
     if (v7.u_.Label==x.u_.Label)=true then
      some (.inr (10:Int))
     else
      M.r11_wrong_loop1 l x parent n v5 (i+1)
    else
     M.r11_wrong_loop1 l x parent n v5 (i+1)
  else
   some (.inl n0_)
def M.r11_wrong(n:Nat)(l:List pandectref11_node)(x:pandectref11_node):Option Int:=
 if (l.length:Int)=(0:Int) then
  if x.depth_≠(0:Int) then
   some (3:Int)
  else
   some (0:Int)
 else
  if x.depth_<(1:Int) then
   some (3:Int)
  else
   Option.bind (subC (l.length:Int) (1:Int)) fun v=>
   Option.bind (idx l v) fun v1=>
   Option.bind (addC v1.depth_ (1:Int)) fun v2=>
   if v2<x.depth_ then
    some (3:Int)
   else
    Option.bind (M.r11_parent n l x.depth_) fun parent=>
    if x.u_.Kind=(0:Int) then
     some (9:Int)
    else
     Option.bind (idx l parent) fun v3=>
     Option.bind (M.r11_Nests v3.u_.Kind x.u_.Kind) fun nests=>
     if nests=false then
      some (9:Int)
     else
      Option.bind (M.r11_wrong_loop1 l x parent n (0:Int) (1:Int)) fun
       | .inl n0_=>
        if (64:Int)≤n0_ then
         some (6:Int)
        else
         if (1024:Int)≤(l.length:Int) then
          some (6:Int)
         else
          some (0:Int)
       | .inr ret0=>some ret0
def M.r11_build_loop1(l:List pandectref11_node)(at0_:Int)(slf:(List pandectref11_node)→Int→Option api_Unit):Nat→Int→api_Unit→Option api_Unit
 | 0,_,_=>none
 | n+1,i,u=>
  if i<(l.length:Int) then
   Option.bind (idx l i) fun v2=>
   if v2.parent_=at0_ then
    Option.bind (slf l i) fun build=>
    Option.bind (appC u.Kids [build]) fun out=>
    M.r11_build_loop1 l at0_ slf n (i+1) ({u with Kids:=out}:api_Unit)
   else
    M.r11_build_loop1 l at0_ slf n (i+1) u
  else
   some u
def M.r11_build:Nat→(List pandectref11_node)→Int→Option api_Unit
 | 0,_,_=>none
 | n+1,l,at0_=>
  Option.bind (idx l at0_) fun v=>
  Option.bind (addC at0_ (1:Int)) fun v1=>
  Option.bind (M.r11_build_loop1 l at0_ (M.r11_build n) n v1 v.u_) fun u=>
   some u
def M.r11_Parse_loop1(s0_:Str):Nat→(List pandectref11_node)→Int→Int→api_Unit→Option (((List pandectref11_node)×Int×api_Unit) ⊕ (api_Unit×Int×Int))
 | 0,_,_,_,_=>none
 | n+1,l,from0_,i,v=>
  if i<(s0_.length:Int) then
   Option.bind (idx s0_ i) fun b1=>
   if (b1.toNat:Int)≠(10:Int) then
    M.r11_Parse_loop1 s0_ n l from0_ (i+1) v
   else
    Option.bind (slc s0_ from0_ i) fun v1=>
    Option.bind (M.r11_Read n v1) fun read=>
    if read.2.2=false then
     some (.inr ((⟨zapi_Id,(0:Int),([]:Str),([]:List api_Word),([]:List api_Word),([]:List api_Unit)⟩:api_Unit),(l.length:Int),(2:Int)))
    else
     Option.bind (M.r11_wrong n l (⟨read.1,read.2.1,(-1:Int)⟩:pandectref11_node)) fun wrong=>
     if wrong≠(0:Int) then
      some (.inr ((⟨zapi_Id,(0:Int),([]:Str),([]:List api_Word),([]:List api_Word),([]:List api_Unit)⟩:api_Unit),(l.length:Int),wrong))
     else
      Option.bind (
        if (0:Int)< (l.length:Int) then
         Option.bind (M.r11_parent n l read.2.1) fun parent=>
         some ({(⟨read.1,read.2.1,(-1:Int)⟩:pandectref11_node) with parent_:=parent}:pandectref11_node)
        else
         some (⟨read.1,read.2.1,(-1:Int)⟩:pandectref11_node)
       ) fun x=>
       Option.bind (appC l [x]) fun out=>
       M.r11_Parse_loop1 s0_ n out (i+1) (i+1) v
  else
   some (.inl (l,from0_,v))
def M.r11_Parse(n:Nat)(s0_:Str):Option (api_Unit×Int×Int):=
 if (16384:Int)< (s0_.length:Int) then
  some ((⟨zapi_Id,(0:Int),([]:Str),([]:List api_Word),([]:List api_Word),([]:List api_Unit)⟩:api_Unit),(0:Int),(6:Int))
 else
  Option.bind (M.r11_Parse_loop1 s0_ n ([]:List pandectref11_node) (0:Int) (0:Int) zapi_Unit) fun
   | .inl (l,from0_,v)=>
    Option.bind (
      if from0_<(s0_.length:Int) then
       some true
      else
       some (decide ((l.length:Int)=(0:Int)))
     ) fun v2=>
     if v2=true then
      some ((⟨zapi_Id,(0:Int),([]:Str),([]:List api_Word),([]:List api_Word),([]:List api_Unit)⟩:api_Unit),(l.length:Int),(2:Int))
     else
      Option.bind (M.r11_build n l (0:Int)) fun build=>
      some (build,(l.length:Int),(0:Int))
   | .inr ret0=>some ret0
def M.r11_Bare_loop3(u:api_Unit)(slf:api_Unit→Option Bool):Nat→Int→Option (Unit ⊕ Bool)
 | 0,_=>none
 | n+1,i2=>
  if i2<(u.Kids.length:Int) then
   Option.bind (idx u.Kids i2) fun v2=>
   Option.bind (slf v2) fun bare=>
   if bare=false then
    some (.inr false)
   else
    M.r11_Bare_loop3 u slf n (i2+1)
  else
   some (.inl ())
def M.r11_Bare_loop2(u:api_Unit):Nat→Int→Option (Unit ⊕ Bool)
 | 0,_=>none
 | n+1,i1=>
  if i1<(u.Words.length:Int) then
   Option.bind (idx u.Words i1) fun v1=>
   if v1.By≠(⟨(0:Int),(0:Int),(0:Int)⟩:api_Mark) then
    some (.inr false)
   else
    M.r11_Bare_loop2 u n (i1+1)
  else
   some (.inl ())
def M.r11_Bare_loop1(u:api_Unit):Nat→Int→Option (Unit ⊕ Bool)
 | 0,_=>none
 | n+1,i=>
  if i<(u.Head.length:Int) then
   Option.bind (idx u.Head i) fun v=>
   if v.By≠(⟨(0:Int),(0:Int),(0:Int)⟩:api_Mark) then
    some (.inr false)
   else
    M.r11_Bare_loop1 u n (i+1)
  else
   some (.inl ())
def M.r11_Bare:Nat→api_Unit→Option Bool
 | 0,_=>none
 | n+1,u=>
  if u.Id≠(⟨(0:Int),(0:Int),(0:Int)⟩:api_Id) then
   some false
  else
   Option.bind (M.r11_Bare_loop1 u n (0:Int)) fun
    | .inl _=>
     Option.bind (M.r11_Bare_loop2 u n (0:Int)) fun
      | .inl _=>
       Option.bind (M.r11_Bare_loop3 u (M.r11_Bare n) n (0:Int)) fun
        | .inl _=>
         some true
        | .inr ret0=>some ret0
      | .inr ret0=>some ret0
    | .inr ret0=>some ret0
def M.law11_PlaintextParse(n:Nat)(s0_:Str):Option Bool:=
 Option.bind (
   Option.bind (M.law11_awake n) fun awake=>
   if awake=false then
    some true
   else
    some (decide ((6000:Int)< (s0_.length:Int)))
  ) fun v=>
  if v=true then
   Option.bind (M.law11_awake n) fun awake1=>
   some awake1
  else
   Option.bind (M.plaintext_Parse n s0_) fun parse=>
   Option.bind (M.r11_Parse n s0_) fun parse1=>
   if parse.2.1=parse1.2.1 then
    if parse.2.2=parse1.2.2 then
     Option.bind (M.r11_Says n parse.1 parse1.1) fun says=>
     if says=true then
      Option.bind (M.r11_Bare n parse.1) fun bare=>
      some bare
     else
      some false
    else
     some false
   else
    some false
def M.law11_PlaintextFormatLine(n:Nat)(u:api_Unit)(depth:Int):Option Bool:=
 Option.bind (
   Option.bind (M.law11_awake n) fun awake=>
   if awake=false then
    some true
   else
    Option.bind (M.law11_few n u) fun few=>
    some (!few)
  ) fun v=>
  if v=true then
   Option.bind (M.law11_awake n) fun awake1=>
   some awake1
  else
   Option.bind (M.plaintext_FormatLine n u depth) fun format=>
   Option.bind (M.r11_Line n u depth) fun line=>
   if (format !=line)=true then
    some false
   else
    if (format==([]:Str))=true then
     some true
    else
     Option.bind (M.plaintext_ParseLine n format) fun parsel=>
     if parsel.2.2=(0:Int) then
      if parsel.2.1=depth then
       Option.bind (M.r11_Says n parsel.1 ({u with Kids:=([]:List api_Unit)}:api_Unit)) fun says=>
       if says=true then
        Option.bind (M.r11_Bare n parsel.1) fun bare=>
        if bare=true then
         some (decide ((parsel.1.Kids.length:Int)=(0:Int)))
        else
         some false
       else
        some false
      else
       some false
     else
      some false
def M.law11_PlaintextParseLine(n:Nat)(s0_:Str):Option Bool:=
 Option.bind (
   Option.bind (M.law11_awake n) fun awake=>
   if awake=false then
    some true
   else
    some (decide ((2000:Int)< (s0_.length:Int)))
  ) fun v=>
  if v=true then
   Option.bind (M.law11_awake n) fun awake1=>
   some awake1
  else
   Option.bind (M.plaintext_ParseLine n s0_) fun parsel=>
   Option.bind (M.r11_Read n s0_) fun read=>
   if read.2.2=false then
    Option.bind (
      if parsel.2.2=(2:Int) then
       if parsel.2.1=(0:Int) then
        Option.bind (M.r11_Says n parsel.1 (⟨zapi_Id,(0:Int),([]:Str),([]:List api_Word),([]:List api_Word),([]:List api_Unit)⟩:api_Unit)) fun says=>
        some says
       else
        some false
      else
       some false
     ) fun v1=>
     some v1
   else
    if parsel.2.2=(0:Int) then
     if parsel.2.1=read.2.1 then
      Option.bind (M.r11_Says n parsel.1 read.1) fun says1=>
      if says1=true then
       Option.bind (M.plaintext_FormatLine n parsel.1 parsel.2.1) fun format=>
       some (format==s0_)
      else
       some false
     else
      some false
    else
     some false
def M.law11_PlaintextFormatParse(n:Nat)(u:api_Unit):Option Bool:=
 Option.bind (
   Option.bind (M.law11_awake n) fun awake=>
   if awake=false then
    some true
   else
    Option.bind (M.law11_few n u) fun few=>
    some (!few)
  ) fun v=>
  if v=true then
   Option.bind (M.law11_awake n) fun awake1=>
   some awake1
  else
   Option.bind (M.plaintext_Format n u) fun format=>
   if format.2≠(0:Int) then
    some (format.1==([]:Str))
   else
    Option.bind (M.plaintext_Parse n format.1) fun parse=>
    Option.bind (M.plaintext_Format n parse.1) fun format1=>
    if parse.2.2=(0:Int) then
     Option.bind (M.r11_Count n u) fun count=>
     if parse.2.1=count then
      Option.bind (M.r11_Says n u parse.1) fun says=>
      if says=true then
       Option.bind (M.r11_Bare n parse.1) fun bare=>
       if bare=true then
        if format1.2=(0:Int) then
         some (format1.1==format.1)
        else
         some false
       else
        some false
      else
       some false
     else
      some false
    else
     some false
def M.law11_stamped_loop3(u:api_Unit)(n0_:Int)(v:Int)(slf:api_Unit→Int→Option api_Unit):Nat→(List api_Unit)→Int→Option ((List api_Unit))
 | 0,_,_=>none
 | n+1,kids,i2=>
  if i2<((({u with Id:=(⟨n0_,(1:Int),v⟩:api_Id)}:api_Unit).Kids).length:Int) then
   Option.bind (idx (({u with Id:=(⟨n0_,(1:Int),v⟩:api_Id)}:api_Unit).Kids) i2) fun v3=>
   Option.bind (addC n0_ i2) fun v4=>
   Option.bind (slf v3 v4) fun stampe=>
   Option.bind (appC kids [stampe]) fun out2=>
   M.law11_stamped_loop3 u n0_ v slf n out2 (i2+1)
  else
   some kids
def M.law11_stamped_loop2(u:api_Unit)(n0_:Int)(v:Int):Nat→(List api_Word)→Int→Option ((List api_Word))
 | 0,_,_=>none
 | n+1,words,i1=>
  if i1<((({u with Id:=(⟨n0_,(1:Int),v⟩:api_Id)}:api_Unit).Words).length:Int) then
   Option.bind (idx (({u with Id:=(⟨n0_,(1:Int),v⟩:api_Id)}:api_Unit).Words) i1) fun v2=>
   Option.bind (appC words [(⟨v2.Text,(⟨n0_,(0:Int),wrap64 (0-i1)⟩:api_Mark)⟩:api_Word)]) fun out1=>
   M.law11_stamped_loop2 u n0_ v n out1 (i1+1)
  else
   some words
def M.law11_stamped_loop1(u:api_Unit)(n0_:Int)(v:Int):Nat→(List api_Word)→Int→Option ((List api_Word))
 | 0,_,_=>none
 | n+1,head,i=>
  if i<((({u with Id:=(⟨n0_,(1:Int),v⟩:api_Id)}:api_Unit).Head).length:Int) then
   Option.bind (idx (({u with Id:=(⟨n0_,(1:Int),v⟩:api_Id)}:api_Unit).Head) i) fun v1=>
   Option.bind (appC head [(⟨v1.Text,(⟨n0_,(0:Int),i⟩:api_Mark)⟩:api_Word)]) fun out=>
   M.law11_stamped_loop1 u n0_ v n out (i+1)
  else
   some head
def M.law11_stamped:Nat→api_Unit→Int→Option api_Unit
 | 0,_,_=>none
 | n+1,u,n0_=>
  Option.bind (addC n0_ (1:Int)) fun v=>
  Option.bind (M.law11_stamped_loop1 u n0_ v n ([]:List api_Word) (0:Int)) fun head=>
   Option.bind (M.law11_stamped_loop2 u n0_ v n ([]:List api_Word) (0:Int)) fun words=>
    Option.bind (M.law11_stamped_loop3 u n0_ v (M.law11_stamped n) n ([]:List api_Unit) (0:Int)) fun kids=>
     some ({({({({u with Id:=(⟨n0_,(1:Int),v⟩:api_Id)}:api_Unit) with Head:=head}:api_Unit) with Words:=words}:api_Unit) with Kids:=kids}:api_Unit)
def M.law11_PlaintextIgnoresMarks_loop1:List Str→Str→Option Str
 | [],all=>
  some all
 | e :: es,all=>
  Option.bind (catC e ([10]:Str)) fun v1=>
  Option.bind (catC all v1) fun v2=>
  M.law11_PlaintextIgnoresMarks_loop1 es v2
def M.law11_PlaintextIgnoresMarks(n:Nat)(u:api_Unit)(n0_:Int):Option Bool:=
 Option.bind (
   Option.bind (M.law11_awake n) fun awake=>
   if awake=false then
    some true
   else
    Option.bind (M.law11_few n u) fun few=>
    some (!few)
  ) fun v=>
  if v=true then
   Option.bind (M.law11_awake n) fun awake1=>
   some awake1
  else
   Option.bind (M.plaintext_Format n u) fun format=>
   Option.bind (M.law11_stamped n u n0_) fun stampe=>
   Option.bind (M.plaintext_Format n stampe) fun format1=>
   Option.bind (M.plaintext_Lines n u) fun lines=>
   Option.bind (M.law11_PlaintextIgnoresMarks_loop1 lines ([]:Str)) fun all=>
    if (format.1==format1.1)=true then
     if format.2=format1.2 then
      if format.2≠(0:Int) then
       if format.2≠(1:Int) then
        some true
       else
        some (all==([]:Str))
      else
       if (all==format.1)=true then
        if format.2≠(1:Int) then
         some true
        else
         some (all==([]:Str))
       else
        some false
     else
      some false
    else
     some false
end Go.Proofs.YtofaogkcifaioaaGreatDoor
