/-
  What the functions compute: plain functions, written by program out of the code; no machine in sight.
-/
import Derived.Test.YtofaogkcifaioaaDoorMod
set_option linter.unusedVariables false
set_option linter.unusedSimpArgs false
namespace Go.Proofs.YtofaogkcifaioaaDoor
open Go Go.Dec
def gv0:List Str:=[([98,111,111,107]:Str),([112,97,114,116]:Str),([115,101,99,116,105,111,110]:Str),([112,97,114,97,103,114,97,112,104]:Str),([116,97,98,108,101]:Str),([114,111,119]:Str),([99,101,108,108]:Str),([110,111,116,101]:Str)]
def gv2:List (List Int):=[[(1:Int),(2:Int)],[(2:Int)],[(3:Int),(4:Int),(7:Int)],[(3:Int),(4:Int),(7:Int)],[(5:Int)],[(6:Int)],([]:List Int),([]:List Int)]
structure api_Id where
 Act:Int
 Item:Int
 N:Int
theorem api_Id.eq_iff(a b:api_Id):(a.Act=b.Act∧a.Item=b.Item∧a.N=b.N) ↔ a=b:=⟨fun h=>by cases a;cases b;simp_all,fun h=>by subst h;simp⟩
instance:DecidableEq api_Id:=fun a b=>decidable_of_iff _ (api_Id.eq_iff a b)
def zapi_Id:api_Id:=⟨(0:Int),(0:Int),(0:Int)⟩
structure api_Mark where
 Act:Int
 Item:Int
 At:Int
theorem api_Mark.eq_iff(a b:api_Mark):(a.Act=b.Act∧a.Item=b.Item∧a.At=b.At) ↔ a=b:=⟨fun h=>by cases a;cases b;simp_all,fun h=>by subst h;simp⟩
instance:DecidableEq api_Mark:=fun a b=>decidable_of_iff _ (api_Mark.eq_iff a b)
def zapi_Mark:api_Mark:=⟨(0:Int),(0:Int),(0:Int)⟩
structure api_Word where
 Text:Str
 By:api_Mark
theorem api_Word.eq_iff(a b:api_Word):(a.Text=b.Text∧a.By=b.By) ↔ a=b:=⟨fun h=>by cases a;cases b;simp_all,fun h=>by subst h;simp⟩
instance:DecidableEq api_Word:=fun a b=>decidable_of_iff _ (api_Word.eq_iff a b)
def zapi_Word:api_Word:=⟨([]:Str),zapi_Mark⟩
structure api_Unit where
 Id:api_Id
 Kind:Int
 Label:Str
 Head:List api_Word
 Words:List api_Word
 Kids:List api_Unit
def zapi_Unit:api_Unit:=⟨zapi_Id,(0:Int),([]:Str),([]:List api_Word),([]:List api_Word),([]:List api_Unit)⟩
structure unit_called where
 kind_:Int
 label_:Str
theorem unit_called.eq_iff(a b:unit_called):(a.kind_=b.kind_∧a.label_=b.label_) ↔ a=b:=⟨fun h=>by cases a;cases b;simp_all,fun h=>by subst h;simp⟩
instance:DecidableEq unit_called:=fun a b=>decidable_of_iff _ (unit_called.eq_iff a b)
def zunit_called:unit_called:=⟨(0:Int),([]:Str)⟩
def M.law11_section:Option api_Unit:=
 some (⟨zapi_Id,(2:Int),([53]:Str),[(⟨([97]:Str),zapi_Mark⟩:api_Word),(⟨([98]:Str),zapi_Mark⟩:api_Word)],[(⟨([99]:Str),zapi_Mark⟩:api_Word),(⟨([124]:Str),zapi_Mark⟩:api_Word),(⟨([100]:Str),zapi_Mark⟩:api_Word)],[(⟨zapi_Id,(3:Int),([49]:Str),([]:List api_Word),[(⟨([101]:Str),zapi_Mark⟩:api_Word)],([]:List api_Unit)⟩:api_Unit)]⟩:api_Unit)
def M.slices_Clone_api_Word_api_Word(l:List api_Word):Option (List api_Word):=appC [] l
def M.unit_copied_loop1(slf:api_Unit→Option api_Unit):List api_Unit→(List api_Unit)→Option ((List api_Unit))
 | [],kids=>
  some kids
 | e :: es,kids=>
  Option.bind (slf e) fun copied=>
  Option.bind (appC kids [copied]) fun kids1=>
  M.unit_copied_loop1 slf es kids1
def M.unit_copied:Nat→api_Unit→Option api_Unit
 | 0,_=>none
 | n+1,u=>
  Option.bind (M.slices_Clone_api_Word_api_Word u.Head) fun word=>
  Option.bind (M.slices_Clone_api_Word_api_Word u.Words) fun word1=>
  Option.bind (M.unit_copied_loop1 (M.unit_copied n) (({({u with Head:=word}:api_Unit) with Words:=word1}:api_Unit).Kids) ([]:List api_Unit)) fun kids=>
   some ({({({u with Head:=word}:api_Unit) with Words:=word1}:api_Unit) with Kids:=kids}:api_Unit)
def M.bareWs(l:List api_Word):List api_Word:=l.map fun w=>{w with By:=zapi_Mark}
def M.mapKids(f:api_Unit→Option api_Unit):List api_Unit→Option (List api_Unit)
 | []=>some []
 | x :: l=>Option.bind (f x) fun y=>Option.bind (M.mapKids f l) fun r=>some (y :: r)
def M.unit_Strip:Nat→api_Unit→Option api_Unit
 | 0,_=>none
 | n+1,u=>
  Option.bind (M.unit_copied n u) fun v=>
  Option.bind (M.mapKids (M.unit_Strip n) v.Kids) fun ks=>
   some {v with Id:=zapi_Id,Head:=M.bareWs v.Head,Words:=M.bareWs v.Words,Kids:=ks}
def M.unit_KindName(kind:Int):Option Str:=
 if kind<(0:Int) then
  some ([]:Str)
 else
  if (8:Int)≤kind then
   some ([]:Str)
  else
   Option.bind (idx gv0 kind) fun v=>
   some v
def M.strings_indexFunc_loop1(s0_:Str)(f:Int→Option Bool)(truth:Bool):Nat→Nat→Option (Nat ⊕ Int)
 | 0,_=>none
 | n+1,v=>
  if v<s0_.length then
   Option.bind (f ((runeAt s0_ v).1:Int)) fun v1=>
   if (v1==truth)=true then
    some (.inr (v:Int))
   else
    M.strings_indexFunc_loop1 s0_ f truth n (v+(runeAt s0_ v).2)
  else
   some (.inl v)
def M.strings_indexFunc(n:Nat)(s0_:Str)(f:Int→Option Bool)(truth:Bool):Option Int:=
 Option.bind (M.strings_indexFunc_loop1 s0_ f truth n 0) fun
  | .inl v=>
   some (-1:Int)
  | .inr ret0=>some ret0
def M.strings_IndexFunc(n:Nat)(s0_:Str)(f:Int→Option Bool):Option Int:=
 Option.bind (M.strings_indexFunc n s0_ f true) fun indexf=>
 some indexf
def M.label_parted_1(b:Int):Option Bool:=
 if b<(48:Int) then
  some true
 else
  some (decide ((57:Int)< b))
def M.label_parted(n:Nat)(s0_:Str):Option (Str×Str):=
 Option.bind (M.strings_IndexFunc n s0_ (fun s0=>M.label_parted_1 s0)) fun indexf=>
 if indexf<(0:Int) then
  some (s0_,([]:Str))
 else
  Option.bind (slcHi s0_ indexf) fun v=>
  Option.bind (slcLo s0_ indexf) fun v1=>
  some (v,v1)
def M.strings_ContainsFunc(n:Nat)(s0_:Str)(f:Int→Option Bool):Option Bool:=
 Option.bind (M.strings_IndexFunc n s0_ f) fun indexf=>
 some (decide ((0:Int)≤indexf))
def M.label_Valid_1(b:Int):Option Bool:=
 if b<(65:Int) then
  some true
 else
  some (decide ((90:Int)< b))
def M.label_Valid(n:Nat)(s0_:Str):Option Bool:=
 Option.bind (M.label_parted n s0_) fun parted=>
 if (1:Int)≤(parted.1.length:Int) then
  if (parted.1.length:Int)≤(4:Int) then
   Option.bind (idx parted.1 (0:Int)) fun b=>
   if (b.toNat:Int)≠(48:Int) then
    if (parted.2.length:Int)≤(3:Int) then
     Option.bind (M.strings_ContainsFunc n parted.2 (fun s0=>M.label_Valid_1 s0)) fun contai=>
     some (!contai)
    else
     some false
   else
    some false
  else
   some false
 else
  some false
def M.slices_IndexFunc_string_string_loop1(s0_:List Str)(f:Str→Option Bool):Nat→Int→Option (Unit ⊕ Int)
 | 0,_=>none
 | n+1,v=>
  if v<(s0_.length:Int) then
   Option.bind (idx s0_ v) fun v1=>
   Option.bind (f v1) fun v2=>
   if v2=true then
    some (.inr v)
   else
    M.slices_IndexFunc_string_string_loop1 s0_ f n (v+1)
  else
   some (.inl ())
def M.slices_IndexFunc_string_string(n:Nat)(s0_:List Str)(f:Str→Option Bool):Option Int:=
 Option.bind (M.slices_IndexFunc_string_string_loop1 s0_ f n (0:Int)) fun
  | .inl _=>
   some (-1:Int)
  | .inr ret0=>some ret0
def M.slices_ContainsFunc_string_string(n:Nat)(s0_:List Str)(f:Str→Option Bool):Option Bool:=
 Option.bind (M.slices_IndexFunc_string_string n s0_ f) fun string=>
 some (decide ((0:Int)≤string))
def M.slices_IndexFunc_byte_byte_loop1(s0_:List Int)(f:Int→Option Bool):Nat→Int→Option (Unit ⊕ Int)
 | 0,_=>none
 | n+1,v=>
  if v<(s0_.length:Int) then
   Option.bind (idx s0_ v) fun v1=>
   Option.bind (f v1) fun v2=>
   if v2=true then
    some (.inr v)
   else
    M.slices_IndexFunc_byte_byte_loop1 s0_ f n (v+1)
  else
   some (.inl ())
def M.slices_IndexFunc_byte_byte(n:Nat)(s0_:List Int)(f:Int→Option Bool):Option Int:=
 Option.bind (M.slices_IndexFunc_byte_byte_loop1 s0_ f n (0:Int)) fun
  | .inl _=>
   some (-1:Int)
  | .inr ret0=>some ret0
def M.slices_ContainsFunc_byte_byte(n:Nat)(s0_:List Int)(f:Int→Option Bool):Option Bool:=
 Option.bind (M.slices_IndexFunc_byte_byte n s0_ f) fun byte=>
 some (decide ((0:Int)≤byte))
def M.wordseq_word_1(c:Int):Option Bool:=
 if c<(33:Int) then
  some true
 else
  some (decide ((126:Int)< c))
def M.wordseq_word(n:Nat)(s0_:Str):Option Bool:=
 if (s0_ !=([]:Str))=true then
  if (s0_.length:Int)≤(24:Int) then
   Option.bind (M.slices_ContainsFunc_byte_byte n (bytesOf s0_) (fun s0=>M.wordseq_word_1 s0)) fun byte=>
   some (!byte)
  else
   some false
 else
  some false
def M.wordseq_Valid_1(n:Nat)(s0_:Str):Option Bool:=
 Option.bind (M.wordseq_word n s0_) fun word=>
 some (!word)
def M.wordseq_Valid(n:Nat)(l:List Str):Option Bool:=
 if (l.length:Int)≤(256:Int) then
  Option.bind (M.slices_ContainsFunc_string_string n l (fun s0=>M.wordseq_Valid_1 n s0)) fun string=>
  some (!string)
 else
  some false
def M.unit_row_loop1:List api_Word→(List Str)→Option ((List Str))
 | [],texts=>
  some texts
 | e :: es,texts=>
  Option.bind (appC texts [e.Text]) fun texts1=>
  M.unit_row_loop1 es texts1
def M.unit_row(n:Nat)(l:List api_Word):Option Bool:=
 Option.bind (M.unit_row_loop1 l ([]:List Str)) fun texts=>
  if (l.length:Int)≤(256:Int) then
   Option.bind (M.wordseq_Valid n texts) fun valid=>
   some valid
  else
   some false
def M.slices_Index_int_int_loop1(s0_:List Int)(v:Int):Nat→Int→Option (Unit ⊕ Int)
 | 0,_=>none
 | n+1,v1=>
  if v1<(s0_.length:Int) then
   Option.bind (idx s0_ v1) fun v2=>
   if v=v2 then
    some (.inr v1)
   else
    M.slices_Index_int_int_loop1 s0_ v n (v1+1)
  else
   some (.inl ())
def M.slices_Index_int_int(n:Nat)(s0_:List Int)(v:Int):Option Int:=
 Option.bind (M.slices_Index_int_int_loop1 s0_ v n (0:Int)) fun
  | .inl _=>
   some (-1:Int)
  | .inr ret0=>some ret0
def M.slices_Contains_int_int(n:Nat)(s0_:List Int)(v:Int):Option Bool:=
 Option.bind (M.slices_Index_int_int n s0_ v) fun int=>
 some (decide ((0:Int)≤int))
def M.unit_CanContain(n:Nat)(parent:Int)(kind:Int):Option Bool:=
 if (0:Int)≤parent then
  if parent<(8:Int) then
   Option.bind (idx gv2 parent) fun v=>
   Option.bind (M.slices_Contains_int_int n v kind) fun int=>
   some int
  else
   some false
 else
  some false
def M.unit_alone_loop1(n:Nat)(u:api_Unit):List api_Unit→(List (unit_called×Bool))→Option (((List (unit_called×Bool))) ⊕ Bool)
 | [],v1=>
  some (.inl v1)
 | e :: es,v1=>
  Option.bind (M.unit_CanContain n u.Kind e.Kind) fun cancon=>
  if cancon=false then
   some (.inr false)
  else
   if (mget v1 (⟨e.Kind,e.Label⟩:unit_called) false)=true then
    some (.inr false)
   else
    M.unit_alone_loop1 n u es (mset v1 (⟨e.Kind,e.Label⟩:unit_called) true)
def M.unit_alone(n:Nat)(u:api_Unit):Option Bool:=
 Option.bind ((
   if u.Kind=(0:Int) then
    if (u.Label !=([]:Str))=true then
     some (.inr false)
    else
     Option.bind (addC (u.Head.length:Int) (u.Words.length:Int)) fun v=>
     if (0:Int)< v then
      some (.inr false)
     else
      some (.inl ())
   else
    Option.bind (M.unit_KindName u.Kind) fun kindna=>
    if (kindna==([]:Str))=true then
     some (.inr false)
    else
     Option.bind (M.label_Valid n u.Label) fun valid=>
     if valid=false then
      some (.inr false)
     else
      Option.bind (M.unit_row n u.Head) fun row=>
      if row=false then
       some (.inr false)
      else
       Option.bind (M.unit_row n u.Words) fun row1=>
       if row1=false then
        some (.inr false)
       else
        some (.inl ())
  ):Option (Unit ⊕ Bool)) fun
  | .inl _=>
   Option.bind (M.unit_alone_loop1 n u u.Kids ([]:List (unit_called×Bool))) fun
    | .inl v1=>
     some (decide ((u.Kids.length:Int)≤(64:Int)))
    | .inr ret0=>some ret0
  | .inr ret0=>some ret0
def M.unit_every_i0_loop1(slf:api_Unit→Option Bool):List api_Unit→Option (Unit ⊕ Bool)
 | []=>
  some (.inl ())
 | e :: es=>
  Option.bind (slf e) fun every=>
  if every=false then
   some (.inr false)
  else
   M.unit_every_i0_loop1 slf es
def M.unit_every_i0:Nat→api_Unit→Option Bool
 | 0,_=>none
 | n+1,u=>
  Option.bind (M.unit_alone n u) fun alone=>
  if alone=false then
   some false
  else
   Option.bind (M.unit_every_i0_loop1 (M.unit_every_i0 n) u.Kids) fun
    | .inl _=>
     some true
    | .inr ret0=>some ret0
def M.unit_Depth_loop1(slf:api_Unit→Option Int):List api_Unit→Int→Option Int
 | [],deep=>
  some deep
 | e :: es,deep=>
  Option.bind (slf e) fun depth=>
  Option.bind (addC (1:Int) depth) fun v=>
  M.unit_Depth_loop1 slf es (max deep v)
def M.unit_Depth:Nat→api_Unit→Option Int
 | 0,_=>none
 | n+1,u=>
  Option.bind (M.unit_Depth_loop1 (M.unit_Depth n) u.Kids (0:Int)) fun deep=>
   some deep
def M.unit_Count_1(a:api_Unit)(c:Int):Option (Bool×Int):=
 Option.bind (addC c (1:Int)) fun v=>
 some (true,v)
def M.unit_every_i1_loop1(slf:api_Unit→Int→Option (Bool×Int)):List api_Unit→Int→Option (Int ⊕ (Bool×Int))
 | [],v=>
  some (.inl v)
 | e :: es,v=>
  Option.bind (slf e v) fun (every,w1)=>
  if every=false then
   some (.inr (false,w1))
  else
   M.unit_every_i1_loop1 slf es w1
def M.unit_every_i1:Nat→api_Unit→Int→Option (Bool×Int)
 | 0,_,_=>none
 | n+1,u,c=>
  Option.bind (M.unit_Count_1 u c) fun (v1_,w)=>
  if v1_=false then
   some (false,w)
  else
   Option.bind (M.unit_every_i1_loop1 (M.unit_every_i1 n) u.Kids w) fun
    | .inl v=>
     some (true,v)
    | .inr ret0=>some ret0
def M.unit_Count(n:Nat)(u:api_Unit):Option Int:=
 Option.bind (M.unit_every_i1 n u (0:Int)) fun (every,n0_)=>
 some n0_
def M.unit_IDs_1(x:api_Unit)(c:List api_Id):Option (Bool×(List api_Id)):=
 Option.bind (appC c [x.Id]) fun out=>
 some (true,out)
def M.unit_every_i2_loop1(slf:api_Unit→(List api_Id)→Option (Bool×(List api_Id))):List api_Unit→(List api_Id)→Option (((List api_Id)) ⊕ (Bool×(List api_Id)))
 | [],v=>
  some (.inl v)
 | e :: es,v=>
  Option.bind (slf e v) fun (every,w1)=>
  if every=false then
   some (.inr (false,w1))
  else
   M.unit_every_i2_loop1 slf es w1
def M.unit_every_i2:Nat→api_Unit→(List api_Id)→Option (Bool×(List api_Id))
 | 0,_,_=>none
 | n+1,u,c=>
  Option.bind (M.unit_IDs_1 u c) fun (v1_,w)=>
  if v1_=false then
   some (false,w)
  else
   Option.bind (M.unit_every_i2_loop1 (M.unit_every_i2 n) u.Kids w) fun
    | .inl v=>
     some (true,v)
    | .inr ret0=>some ret0
def M.unit_IDs(n:Nat)(u:api_Unit):Option ((List api_Id)):=
 Option.bind (M.unit_every_i2 n u ([]:List api_Id)) fun (every,out)=>
 some out
def M.unit_ids_loop1:List api_Id→(List (api_Id×Bool))→Option ((List (api_Id×Bool)))
 | [],v=>
  some v
 | e :: es,v=>
  M.unit_ids_loop1 es (mset v e true)
def M.unit_ids(n:Nat)(u:api_Unit):Option Bool:=
 Option.bind (M.unit_IDs n u) fun ids=>
 Option.bind (M.unit_ids_loop1 ids ([]:List (api_Id×Bool))) fun v=>
  if (mget v (⟨(0:Int),(0:Int),(0:Int)⟩:api_Id) false)=true then
   Option.bind (growC (v.length:Int)) fun _=>
   if (v.length:Int)=(1:Int) then
    some true
   else
    Option.bind (growC (v.length:Int)) fun _=>
    if (v.length:Int)=(ids.length:Int) then
     some ((decide (u.Kind=(0:Int)))==(decide (u.Id=(⟨(0:Int),(0:Int),(0:Int)⟩:api_Id))))
    else
     some false
  else
   Option.bind (growC (v.length:Int)) fun _=>
   if (v.length:Int)=(ids.length:Int) then
    some ((decide (u.Kind=(0:Int)))==(decide (u.Id=(⟨(0:Int),(0:Int),(0:Int)⟩:api_Id))))
   else
    some false
def M.unit_Valid(n:Nat)(u:api_Unit):Option Bool:=
 Option.bind (M.unit_every_i0 n u) fun every=>
 if every=true then
  Option.bind (M.unit_Depth n u) fun depth=>
  if depth≤(8:Int) then
   Option.bind (M.unit_Count n u) fun count=>
   if count≤(1024:Int) then
    Option.bind (M.unit_ids n u) fun ids=>
    some ids
   else
    some false
  else
   some false
 else
  some false
def M.plaintext_may(n:Nat)(u:api_Unit)(depth:Int):Option Bool:=
 if (0:Int)≤depth then
  if depth≤(8:Int) then
   Option.bind (M.unit_Strip n ({({u with Id:=(⟨(0:Int),(0:Int),(0:Int)⟩:api_Id)}:api_Unit) with Kids:=([]:List api_Unit)}:api_Unit)) fun strip=>
   Option.bind (M.unit_Valid n strip) fun valid=>
   some valid
  else
   some false
 else
  some false
def M.plaintext_put_loop1:List api_Word→Str→Option Str
 | [],line1=>
  some line1
 | e :: es,line1=>
  Option.bind (catC line1 ([32]:Str)) fun v=>
  Option.bind (
    Option.bind (idx e.Text (0:Int)) fun b1=>
    if (b1.toNat:Int)=(124:Int) then
     some true
    else
     Option.bind (idx e.Text (0:Int)) fun b2=>
     some (decide ((b2.toNat:Int)=(92:Int)))
   ) fun v1=>
   if v1=true then
    Option.bind (catC v ([92]:Str)) fun v2=>
    Option.bind (catC v2 e.Text) fun v3=>
    M.plaintext_put_loop1 es v3
   else
    Option.bind (catC v e.Text) fun v4=>
    M.plaintext_put_loop1 es v4
def M.plaintext_put(line:Str)(w:List api_Word):Option Str:=
 Option.bind (M.plaintext_put_loop1 w line) fun line1=>
  some line1
def M.plaintext_FormatLine(n:Nat)(u:api_Unit)(depth:Int):Option Str:=
 Option.bind (M.plaintext_may n u depth) fun may=>
 if may=false then
  some ([]:Str)
 else
  Option.bind (repeatM ([32,32]:Str) depth) fun repeat0_=>
  Option.bind (M.unit_KindName u.Kind) fun kindna=>
  Option.bind (catC repeat0_ kindna) fun v=>
  Option.bind (
    if u.Kind≠(0:Int) then
     Option.bind (catC ([32]:Str) u.Label) fun v1=>
     Option.bind (catC v v1) fun v2=>
     some v2
    else
     some v
   ) fun s0_=>
   Option.bind (
     if (0:Int)< (u.Head.length:Int) then
      Option.bind (catC s0_ ([58]:Str)) fun v3=>
      Option.bind (M.plaintext_put v3 u.Head) fun put=>
      some put
     else
      some s0_
    ) fun s0_1=>
    if (0:Int)< (u.Words.length:Int) then
     Option.bind (catC s0_1 ([32,124]:Str)) fun v4=>
     Option.bind (M.plaintext_put v4 u.Words) fun put1=>
     some put1
    else
     some s0_1
def M.plaintext_Lines_1_loop1(depth:Int)(slf:api_Unit→Int→(List Str)→Option (List Str)):List api_Unit→(List Str)→Option ((List Str))
 | [],v=>
  some v
 | e :: es,v=>
  Option.bind (addC depth (1:Int)) fun v1=>
  Option.bind (slf e v1 v) fun w=>
  M.plaintext_Lines_1_loop1 depth slf es w
def M.plaintext_Lines_1:Nat→api_Unit→Int→(List Str)→Option (List Str)
 | 0,_,_,_=>none
 | n+1,u,depth,c=>
  Option.bind (M.plaintext_FormatLine n u depth) fun format=>
  Option.bind (appC c [format]) fun out=>
  Option.bind (M.plaintext_Lines_1_loop1 depth (M.plaintext_Lines_1 n) u.Kids out) fun v=>
   some v
def M.plaintext_Lines(n:Nat)(u:api_Unit):Option ((List Str)):=
 Option.bind (M.unit_Strip n u) fun strip=>
 Option.bind (M.unit_Valid n strip) fun valid=>
 if valid=false then
  some ([]:List Str)
 else
  Option.bind (M.plaintext_Lines_1 n u (0:Int) ([]:List Str)) fun out=>
  some out
def M.strings_Join_loop2(sep:Str):List Str→Str→Option Str
 | [],b2=>
  some b2
 | e1 :: es1,b2=>
  Option.bind (appC b2 sep) fun b3=>
  Option.bind (appC b3 e1) fun b4=>
  M.strings_Join_loop2 sep es1 b4
def M.strings_Join_loop1:List Str→Int→Option Int
 | [],n0_1=>
  some n0_1
 | e :: es,n0_1=>
  Option.bind (subC (9223372036854775807:Int) n0_1) fun v6=>
  if v6<(e.length:Int) then
   none
  else
   Option.bind (addC n0_1 (e.length:Int)) fun v7=>
   M.strings_Join_loop1 es v7
def M.strings_Join(elems:List Str)(sep:Str):Option Str:=
 if (elems.length:Int)=(0:Int) then
  some ([]:Str)
 else
  if (elems.length:Int)=(1:Int) then
   Option.bind (idx elems (0:Int)) fun v=>
   some v
  else
   Option.bind (
     if (0:Int)< (sep.length:Int) then
      Option.bind (
        Option.bind (subC (elems.length:Int) (1:Int)) fun v1=>
        Option.bind (quoC (9223372036854775807:Int) v1) fun v2=>
        if v2≤(sep.length:Int) then
         none
        else
         some ()
       ) fun _=>
       Option.bind (subC (elems.length:Int) (1:Int)) fun v3=>
       Option.bind (mulC (sep.length:Int) v3) fun v4=>
       Option.bind (addC (0:Int) v4) fun v5=>
       some v5
     else
      some (0:Int)
    ) fun n0_=>
    Option.bind (M.strings_Join_loop1 elems n0_) fun n0_1=>
     Option.bind (growC n0_1) fun _=>
     Option.bind (idx elems (0:Int)) fun v8=>
     Option.bind (appC ([]:Str) v8) fun b1=>
     Option.bind (slcLo elems (1:Int)) fun v9=>
     Option.bind (M.strings_Join_loop2 sep v9 b1) fun b2=>
      some b2
def M.plaintext_Format(n:Nat)(u:api_Unit):Option (Str×Int):=
 Option.bind (M.plaintext_Lines n u) fun lines=>
 if (lines.length:Int)=(0:Int) then
  some (([]:Str),(1:Int))
 else
  Option.bind (M.strings_Join lines ([10]:Str)) fun join=>
  Option.bind (catC join ([10]:Str)) fun v=>
  if (16384:Int)< (v.length:Int) then
   some (([]:Str),(6:Int))
  else
   some (v,(0:Int))
def M.strings_trimLeftByte_loop1(c:Int):Nat→Str→Option Str
 | 0,_=>none
 | n+1,s0_1=>
  if (0:Int)< (s0_1.length:Int) then
   Option.bind (idx s0_1 (0:Int)) fun b=>
   if (b.toNat:Int)=c then
    Option.bind (slcLo s0_1 (1:Int)) fun v=>
    M.strings_trimLeftByte_loop1 c n v
   else
    some s0_1
  else
   some s0_1
def M.strings_trimLeftByte(n:Nat)(s0_:Str)(c:Int):Option Str:=
 Option.bind (M.strings_trimLeftByte_loop1 c n s0_) fun s0_1=>
  some s0_1
def M.strings_makeASCIISet_loop1(chars:Str):Nat→Int→(List Bool)→Option (((List Bool)) ⊕ ((List Bool)×Bool))
 | 0,_,_=>none
 | n+1,i,as0_=>
  if i<(chars.length:Int) then
   Option.bind (idx chars i) fun b1=>
   if (128:Int)≤(b1.toNat:Int) then
    some (.inr (as0_,false))
   else
    Option.bind (rngC 256 (b1.toNat:Int)) fun _=>
    M.strings_makeASCIISet_loop1 chars n (i+1) (as0_.set (b1.toNat:Int).toNat true)
  else
   some (.inl as0_)
def M.strings_makeASCIISet(n:Nat)(chars:Str):Option ((List Bool)×Bool):=
 Option.bind (M.strings_makeASCIISet_loop1 chars n (0:Int) (List.replicate 256 false)) fun
  | .inl as0_=>
   some (as0_,true)
  | .inr ret0=>some ret0
def M.strings_asciiSet_contains(as0_:List Bool)(c:Int):Option Bool:=
 Option.bind (idx as0_ c) fun v=>
 some v
def M.strings_trimLeftASCII_loop1(as0_:List Bool):Nat→Str→Option Str
 | 0,_=>none
 | n+1,s0_1=>
  if (0:Int)< (s0_1.length:Int) then
   Option.bind (idx s0_1 (0:Int)) fun b=>
   Option.bind (M.strings_asciiSet_contains as0_ (b.toNat:Int)) fun contai=>
   if contai=false then
    some s0_1
   else
    Option.bind (slcLo s0_1 (1:Int)) fun v=>
    M.strings_trimLeftASCII_loop1 as0_ n v
  else
   some s0_1
def M.strings_trimLeftASCII(n:Nat)(s0_:Str)(as0_:List Bool):Option Str:=
 Option.bind (M.strings_trimLeftASCII_loop1 as0_ n s0_) fun s0_1=>
  some s0_1
def M.strings_TrimLeft(n:Nat)(s0_:Str)(cutset:Str):Option Str:=
 Option.bind (
   if (s0_==([]:Str))=true then
    some true
   else
    some (cutset==([]:Str))
  ) fun v=>
  if v=true then
   some s0_
  else
   Option.bind (
     if (cutset.length:Int)=(1:Int) then
      Option.bind (idx cutset (0:Int)) fun b=>
      some (decide ((b.toNat:Int)< (128:Int)))
     else
      some false
    ) fun v1=>
    if v1=true then
     Option.bind (idx cutset (0:Int)) fun b1=>
     Option.bind (M.strings_trimLeftByte n s0_ (b1.toNat:Int)) fun trimle=>
     some trimle
    else
     Option.bind (M.strings_makeASCIISet n cutset) fun makeas=>
     if makeas.2=true then
      Option.bind (M.strings_trimLeftASCII n s0_ makeas.1) fun trimle1=>
      some trimle1
     else
      none
def M.plaintext_kind_loop1(s0_:Str):Nat→Int→Option (Unit ⊕ (Int×Bool))
 | 0,_=>none
 | n+1,v=>
  if v<(8:Int) then
   Option.bind (M.unit_KindName v) fun kindna=>
   if (kindna==s0_)=true then
    some (.inr (v,true))
   else
    Option.bind (addC v (1:Int)) fun v1=>
    M.plaintext_kind_loop1 s0_ n v1
  else
   some (.inl ())
def M.plaintext_kind(n:Nat)(s0_:Str):Option (Int×Bool):=
 Option.bind (M.plaintext_kind_loop1 s0_ n (0:Int)) fun
  | .inl _=>
   some ((0:Int),false)
  | .inr ret0=>some ret0
def M.internal_stringslite_HasSuffix(s0_:Str)(suffix:Str):Option Bool:=
 if (suffix.length:Int)≤(s0_.length:Int) then
  Option.bind (subC (s0_.length:Int) (suffix.length:Int)) fun v=>
  Option.bind (slcLo s0_ v) fun v1=>
  some (v1==suffix)
 else
  some false
def M.internal_stringslite_CutSuffix(s0_:Str)(suffix:Str):Option (Str×Bool):=
 Option.bind (M.internal_stringslite_HasSuffix s0_ suffix) fun hassuf=>
 if hassuf=false then
  some (s0_,false)
 else
  Option.bind (subC (s0_.length:Int) (suffix.length:Int)) fun v=>
  Option.bind (slcHi s0_ v) fun v1=>
  some (v1,true)
def M.strings_CutSuffix(s0_:Str)(suffix:Str):Option (Str×Bool):=
 Option.bind (M.internal_stringslite_CutSuffix s0_ suffix) fun cutsuf=>
 some (cutsuf.1,cutsuf.2)
def M.slices_Index_string_string_loop1(s0_:List Str)(v:Str):Nat→Int→Option (Unit ⊕ Int)
 | 0,_=>none
 | n+1,v1=>
  if v1<(s0_.length:Int) then
   Option.bind (idx s0_ v1) fun v2=>
   if (v==v2)=true then
    some (.inr v1)
   else
    M.slices_Index_string_string_loop1 s0_ v n (v1+1)
  else
   some (.inl ())
def M.slices_Index_string_string(n:Nat)(s0_:List Str)(v:Str):Option Int:=
 Option.bind (M.slices_Index_string_string_loop1 s0_ v n (0:Int)) fun
  | .inl _=>
   some (-1:Int)
  | .inr ret0=>some ret0
def M.internal_stringslite_HasPrefix(s0_:Str)(prefix0_:Str):Option Bool:=
 if (prefix0_.length:Int)≤(s0_.length:Int) then
  Option.bind (slcHi s0_ (prefix0_.length:Int)) fun v=>
  some (v==prefix0_)
 else
  some false
def M.internal_stringslite_TrimPrefix(s0_:Str)(prefix0_:Str):Option Str:=
 Option.bind (M.internal_stringslite_HasPrefix s0_ prefix0_) fun haspre=>
 if haspre=true then
  Option.bind (slcLo s0_ (prefix0_.length:Int)) fun v=>
  some v
 else
  some s0_
def M.strings_TrimPrefix(s0_:Str)(prefix0_:Str):Option Str:=
 Option.bind (M.internal_stringslite_TrimPrefix s0_ prefix0_) fun trimpr=>
 some trimpr
def M.plaintext_words_loop1:List Str→(List api_Word)→Option ((List api_Word))
 | [],out=>
  some out
 | e :: es,out=>
  Option.bind (M.strings_TrimPrefix e ([92]:Str)) fun trimpr=>
  Option.bind (appC out [(⟨trimpr,zapi_Mark⟩:api_Word)]) fun out1=>
  M.plaintext_words_loop1 es out1
def M.plaintext_words(l:List Str):Option ((List api_Word)):=
 Option.bind (M.plaintext_words_loop1 l ([]:List api_Word)) fun out=>
  some out
def M.plaintext_ParseLine(n:Nat)(s0_:Str):Option (api_Unit×Int×Int):=
 Option.bind (M.strings_TrimLeft n s0_ ([32]:Str)) fun trimle=>
 Option.bind (subC (s0_.length:Int) (trimle.length:Int)) fun v=>
 Option.bind (quoC v (2:Int)) fun v1=>
 Option.bind (splitM trimle ([32]:Str)) fun split=>
 Option.bind (idx split (0:Int)) fun v2=>
 Option.bind (M.plaintext_kind n v2) fun kind=>
 if kind.2=false then
  some ((⟨zapi_Id,(0:Int),([]:Str),([]:List api_Word),([]:List api_Word),([]:List api_Unit)⟩:api_Unit),(0:Int),(2:Int))
 else
  Option.bind (slcLo split (1:Int)) fun v3=>
  Option.bind (
    Option.bind (
      if kind.1≠(0:Int) then
       some (decide ((0:Int)< (v3.length:Int)))
      else
       some false
     ) fun v4=>
     if v4=true then
      Option.bind (idx v3 (0:Int)) fun v5=>
      Option.bind (M.strings_CutSuffix v5 ([58]:Str)) fun cutsuf=>
      Option.bind (slcLo v3 (1:Int)) fun v6=>
      Option.bind (M.slices_Index_string_string n v6 ([124]:Str)) fun string=>
      Option.bind (
        if string<(0:Int) then
         some (v6.length:Int)
        else
         some string
       ) fun bar=>
       Option.bind (
         if cutsuf.2=true then
          Option.bind (slcHi v6 bar) fun v7=>
          Option.bind (M.plaintext_words v7) fun words=>
          some ({({(⟨zapi_Id,kind.1,([]:Str),([]:List api_Word),([]:List api_Word),([]:List api_Unit)⟩:api_Unit) with Label:=cutsuf.1}:api_Unit) with Head:=words}:api_Unit)
         else
          some ({(⟨zapi_Id,kind.1,([]:Str),([]:List api_Word),([]:List api_Word),([]:List api_Unit)⟩:api_Unit) with Label:=cutsuf.1}:api_Unit)
        ) fun u1=>
        Option.bind (addC bar (1:Int)) fun v8=>
        Option.bind (slcLo v6 (min v8 (v6.length:Int))) fun v9=>
        Option.bind (M.plaintext_words v9) fun words1=>
        some ({u1 with Words:=words1}:api_Unit)
     else
      some (⟨zapi_Id,kind.1,([]:Str),([]:List api_Word),([]:List api_Word),([]:List api_Unit)⟩:api_Unit)
   ) fun u=>
   Option.bind (M.plaintext_FormatLine n u v1) fun format=>
   if (format !=s0_)=true then
    some ((⟨zapi_Id,(0:Int),([]:Str),([]:List api_Word),([]:List api_Word),([]:List api_Unit)⟩:api_Unit),(0:Int),(2:Int))
   else
    some (u,v1,(0:Int))
abbrev NodeL:=List (api_Unit×List Nat)
def M.node_same(ar:NodeL)(u:api_Unit):List Nat→Option Bool
 | []=>some false
 | j :: js=>Option.bind ar[j]? fun n=>if n.1.Kind=u.Kind then (if (n.1.Label==u.Label)=true then some true else M.node_same ar u js) else M.node_same ar u js
def M.node_takes(n:Nat)(ar:NodeL)(i:Nat)(u:api_Unit):Option Int:=
 Option.bind ar[i]? fun nd=>
 Option.bind (M.unit_CanContain n nd.1.Kind u.Kind) fun c=>
 if c=false then some 9 else
 Option.bind (M.node_same ar u nd.2) fun d=>
 if d=true then some 10 else if (64:Int)≤(nd.2.length:Int) then some 6 else some 0
def M.node_kids(f:Nat→Option api_Unit):List Nat→api_Unit→Option api_Unit
 | [],u=>some u
 | j :: js,u=>Option.bind (f j) fun y=>Option.bind (appC u.Kids [y]) fun ks=>M.node_kids f js {u with Kids:=ks}
def M.node_unit(ar:NodeL):Nat→Nat→Option api_Unit
 | 0,_=>none
 | n+1,i=>Option.bind ar[i]? fun nd=>M.node_kids (M.node_unit ar n) nd.2 nd.1
def M.plaintext_grow(n:Nat)(ar:NodeL)(way:List Nat)(line:Str)(count:Int):Option ((List Nat×Int)×NodeL):=
 Option.bind (M.plaintext_ParseLine n line) fun v=>
 if v.2.2≠(0:Int) then some (([],v.2.2),ar) else
 if (way.length:Int)=(0:Int) then
  (if v.2.1≠(0:Int) then some (([],3),ar) else some (([ar.length],0),ar++ [(v.1,[])]))
 else if v.2.1<(1:Int) then some (([],3),ar)
 else if (way.length:Int)< v.2.1 then some (([],3),ar) else
 Option.bind (subC v.2.1 (1:Int)) fun d=>
 Option.bind (idx way d) fun p=>
 Option.bind (M.node_takes n ar p v.1) fun e=>
 if e≠(0:Int) then some (([],e),ar) else
 if (1024:Int)≤count then some (([],6),ar) else
 Option.bind ar[p]? fun nd=>
 Option.bind (appC nd.2 [ar.length]) fun ks=>
 Option.bind (slcHi way v.2.1) fun w=>
 Option.bind (appC w [ar.length]) fun w2=>
 some ((w2,0),(ar.set p (nd.1,ks))++ [(v.1,[])])
def M.plaintext_Parse_loop:Nat→Str→NodeL→List Nat→Int→Option ((NodeL×List Nat×Int) ⊕ (api_Unit×Int×Int))
 | 0,_,_,_,_=>none
 | n+1,s,ar,way,i=>
  if (s !=([]:Str))=true then
   Option.bind (cutM s ([10]:Str)) fun c=>
   if c.2.2=false then some (.inr (zapi_Unit,i,2)) else
   Option.bind (M.plaintext_grow n ar way c.1 i) fun g=>
   if g.1.2≠(0:Int) then some (.inr (zapi_Unit,i,g.1.2)) else
   Option.bind (addC i (1:Int)) fun i2=>
   M.plaintext_Parse_loop n c.2.1 g.2 g.1.1 i2
  else some (.inl (ar,way,i))
def M.plaintext_Parse(n:Nat)(s:Str):Option (api_Unit×Int×Int):=
 if (16384:Int)< (s.length:Int) then some (zapi_Unit,0,6) else
 if (s==([]:Str))=true then some (zapi_Unit,0,2) else
 Option.bind (M.plaintext_Parse_loop n s [] [] (0:Int)) fun
  | .inl (ar,way,i)=>
   Option.bind (idx way (0:Int)) fun w=>
   Option.bind (M.node_unit ar n w) fun u=>some (u,i,0)
  | .inr r=>some r
def M.r11_Texts_loop1(a:List api_Word)(b:List api_Word):Nat→Int→Option (Unit ⊕ Bool)
 | 0,_=>none
 | n+1,i=>
  if i<(a.length:Int) then
   Option.bind (idx a i) fun v=>
   Option.bind (idx b i) fun v1=>
   if (v.Text !=v1.Text)=true then
    some (.inr false)
   else
    M.r11_Texts_loop1 a b n (i+1)
  else
   some (.inl ())
def M.r11_Texts(n:Nat)(a:List api_Word)(b:List api_Word):Option Bool:=
 if (a.length:Int)≠(b.length:Int) then
  some false
 else
  Option.bind (M.r11_Texts_loop1 a b n (0:Int)) fun
   | .inl _=>
    some true
   | .inr ret0=>some ret0
def M.r11_Says_loop1(a:api_Unit)(b:api_Unit)(slf:api_Unit→api_Unit→Option Bool):Nat→Int→Option (Unit ⊕ Bool)
 | 0,_=>none
 | n+1,i=>
  if i<(a.Kids.length:Int) then
   Option.bind (idx a.Kids i) fun v1=>
   Option.bind (idx b.Kids i) fun v2=>
   Option.bind (slf v1 v2) fun says=>
   if says=false then
    some (.inr false)
   else
    M.r11_Says_loop1 a b slf n (i+1)
  else
   some (.inl ())
def M.r11_Says:Nat→api_Unit→api_Unit→Option Bool
 | 0,_,_=>none
 | n+1,a,b=>
  Option.bind (
    if a.Kind≠b.Kind then
     some true
    else
     if (a.Label !=b.Label)=true then
      some true
     else
      Option.bind (M.r11_Texts n a.Head b.Head) fun texts=>
      if texts=false then
       some true
      else
       Option.bind (M.r11_Texts n a.Words b.Words) fun texts1=>
       if texts1=false then
        some true
       else
        some (decide ((a.Kids.length:Int)≠(b.Kids.length:Int)))
   ) fun v=>
   if v=true then
    some false
   else
    Option.bind (M.r11_Says_loop1 a b (M.r11_Says n) n (0:Int)) fun
     | .inl _=>
      some true
     | .inr ret0=>some ret0
def M.law11_awake(n:Nat):Option Bool:=
 Option.bind M.law11_section fun sectio=>
 Option.bind (M.plaintext_Format n sectio) fun format=>
 Option.bind (M.plaintext_Parse n format.1) fun parse=>
 if format.2=(0:Int) then
  if (format.1==([115,101,99,116,105,111,110,32,53,58,32,97,32,98,32,124,32,99,32,92,124,32,100,10,32,32,112,97,114,97,103,114,97,112,104,32,49,32,124,32,101,10]:Str))=true then
   if parse.2.2=(0:Int) then
    if parse.2.1=(2:Int) then
     Option.bind M.law11_section fun sectio1=>
     Option.bind (M.r11_Says n parse.1 sectio1) fun says=>
     some says
    else
     some false
   else
    some false
  else
   some false
 else
  some false
def M.law11_PlaintextParseFormat(n:Nat)(s0_:Str):Option Bool:=
 Option.bind (
   Option.bind (M.law11_awake n) fun awake=>
   if awake=false then
    some true
   else
    some (decide ((6000:Int)< (s0_.length:Int)))
  ) fun v=>
  if v=true then
   Option.bind (M.law11_awake n) fun awake1=>
   some awake1
  else
   Option.bind (M.plaintext_Parse n s0_) fun parse=>
   if parse.2.2≠(0:Int) then
    Option.bind (M.r11_Says n parse.1 (⟨zapi_Id,(0:Int),([]:Str),([]:List api_Word),([]:List api_Word),([]:List api_Unit)⟩:api_Unit)) fun says=>
    some says
   else
    Option.bind (M.plaintext_Format n parse.1) fun format=>
    if format.2=(0:Int) then
     if (format.1==s0_)=true then
      Option.bind (M.plaintext_Lines n parse.1) fun lines=>
      some (decide ((lines.length:Int)=parse.2.1))
     else
      some false
    else
     some false
end Go.Proofs.YtofaogkcifaioaaDoor
