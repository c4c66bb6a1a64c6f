/-
  What the functions compute: plain functions, written by program out of the code; no machine in sight.
-/
import Derived.Test.YtalogjkalmkpjaaGreatDoorMod
set_option linter.unusedVariables false
set_option linter.unusedSimpArgs false
namespace Go.Proofs.YtalogjkalmkpjaaGreatDoor
open Go Go.Dec
def gv0:List Str:=[([]:Str),([91,43,32]:Str),([91,45,32]:Str)]
def gv1:List Str:=[([]:Str),([32,43,93]:Str),([32,45,93]:Str)]
def gv2:List Str:=[([98,111,111,107]:Str),([112,97,114,116]:Str),([115,101,99,116,105,111,110]:Str),([112,97,114,97,103,114,97,112,104]:Str),([116,97,98,108,101]:Str),([114,111,119]:Str),([99,101,108,108]:Str),([110,111,116,101]:Str)]
def gv4:List (List Int):=[[(1:Int),(2:Int)],[(2:Int)],[(3:Int),(4:Int),(7:Int)],[(3:Int),(4:Int),(7:Int)],[(5:Int)],[(6:Int)],([]:List Int),([]:List Int)]
structure api_Id where
 Act:Int
 Item:Int
 N:Int
theorem api_Id.eq_iff(a b:api_Id):(a.Act=b.Act∧a.Item=b.Item∧a.N=b.N) ↔ a=b:=⟨fun h=>by cases a;cases b;simp_all,fun h=>by subst h;simp⟩
instance:DecidableEq api_Id:=fun a b=>decidable_of_iff _ (api_Id.eq_iff a b)
def zapi_Id:api_Id:=⟨(0:Int),(0:Int),(0:Int)⟩
structure api_Mark where
 Act:Int
 Item:Int
 At:Int
theorem api_Mark.eq_iff(a b:api_Mark):(a.Act=b.Act∧a.Item=b.Item∧a.At=b.At) ↔ a=b:=⟨fun h=>by cases a;cases b;simp_all,fun h=>by subst h;simp⟩
instance:DecidableEq api_Mark:=fun a b=>decidable_of_iff _ (api_Mark.eq_iff a b)
def zapi_Mark:api_Mark:=⟨(0:Int),(0:Int),(0:Int)⟩
structure api_Word where
 Text:Str
 By:api_Mark
theorem api_Word.eq_iff(a b:api_Word):(a.Text=b.Text∧a.By=b.By) ↔ a=b:=⟨fun h=>by cases a;cases b;simp_all,fun h=>by subst h;simp⟩
instance:DecidableEq api_Word:=fun a b=>decidable_of_iff _ (api_Word.eq_iff a b)
def zapi_Word:api_Word:=⟨([]:Str),zapi_Mark⟩
structure api_Unit where
 Id:api_Id
 Kind:Int
 Label:Str
 Head:List api_Word
 Words:List api_Word
 Kids:List api_Unit
def zapi_Unit:api_Unit:=⟨zapi_Id,(0:Int),([]:Str),([]:List api_Word),([]:List api_Word),([]:List api_Unit)⟩
structure api_TrackedWord where
 State:Int
 Text:Str
theorem api_TrackedWord.eq_iff(a b:api_TrackedWord):(a.State=b.State∧a.Text=b.Text) ↔ a=b:=⟨fun h=>by cases a;cases b;simp_all,fun h=>by subst h;simp⟩
instance:DecidableEq api_TrackedWord:=fun a b=>decidable_of_iff _ (api_TrackedWord.eq_iff a b)
def zapi_TrackedWord:api_TrackedWord:=⟨(0:Int),([]:Str)⟩
structure api_TrackedUnit where
 State:Int
 Kind:Int
 Id:api_Id
 Label:Str
 Was:Str
 Moved:Bool
 Head:List api_TrackedWord
 Words:List api_TrackedWord
 Kids:List api_TrackedUnit
def zapi_TrackedUnit:api_TrackedUnit:=⟨(0:Int),(0:Int),zapi_Id,([]:Str),([]:Str),false,([]:List api_TrackedWord),([]:List api_TrackedWord),([]:List api_TrackedUnit)⟩
structure redline_books where
 a_:List (api_Id×api_Unit)
 b_:List (api_Id×api_Unit)
 moved_:List (api_Id×Bool)
def zredline_books:redline_books:=⟨([]:List (api_Id×api_Unit)),([]:List (api_Id×api_Unit)),([]:List (api_Id×Bool))⟩
structure unit_called where
 kind_:Int
 label_:Str
theorem unit_called.eq_iff(a b:unit_called):(a.kind_=b.kind_∧a.label_=b.label_) ↔ a=b:=⟨fun h=>by cases a;cases b;simp_all,fun h=>by subst h;simp⟩
instance:DecidableEq unit_called:=fun a b=>decidable_of_iff _ (unit_called.eq_iff a b)
def zunit_called:unit_called:=⟨(0:Int),([]:Str)⟩
structure diff_place where
 parent_:api_Id
 at_:Int
 unit_:api_Unit
def zdiff_place:diff_place:=⟨zapi_Id,(0:Int),zapi_Unit⟩
structure diff_pair where
 a_:api_Unit
 b_:api_Unit
 p_:List (api_Id×diff_place)
 q_:List (api_Id×diff_place)
def zdiff_pair:diff_pair:=⟨zapi_Unit,zapi_Unit,([]:List (api_Id×diff_place)),([]:List (api_Id×diff_place))⟩
structure api_Pair where
 A:Int
 B:Int
theorem api_Pair.eq_iff(a b:api_Pair):(a.A=b.A∧a.B=b.B) ↔ a=b:=⟨fun h=>by cases a;cases b;simp_all,fun h=>by subst h;simp⟩
instance:DecidableEq api_Pair:=fun a b=>decidable_of_iff _ (api_Pair.eq_iff a b)
def zapi_Pair:api_Pair:=⟨(0:Int),(0:Int)⟩
def M.markup_validID_loop1:List Int→Option (Unit ⊕ Bool)
 | []=>
  some (.inl ())
 | e :: es=>
  if e<(0:Int) then
   some (.inr false)
  else
   if (1048576:Int)< e then
    some (.inr false)
   else
    M.markup_validID_loop1 es
def M.markup_validID(id:api_Id):Option Bool:=
 Option.bind (M.markup_validID_loop1 [id.Act,id.Item,id.N]) fun
  | .inl _=>
   some true
  | .inr ret0=>some ret0
def M.markup_isPlaceholder(t:api_TrackedUnit):Option Bool:=
 Option.bind (
   if t.Kind=(0:Int) then
    if (t.Label==([]:Str))=true then
     if (t.Was==([]:Str))=true then
      Option.bind (addC (t.Head.length:Int) (t.Words.length:Int)) fun v=>
      Option.bind (addC v (t.Kids.length:Int)) fun v1=>
      some (decide (v1=(0:Int)))
     else
      some false
    else
     some false
   else
    some false
  ) fun empty=>
  if empty=true then
   if t.State=(2:Int) then
    if t.Moved=true then
     Option.bind (M.markup_validID t.Id) fun validi=>
     some validi
    else
     some false
   else
    some false
  else
   some false
def M.slices_IndexFunc_api_TrackedWord_api_TrackedWord_loop1(s0_:List api_TrackedWord)(f:api_TrackedWord→Option Bool):Nat→Int→Option (Unit ⊕ Int)
 | 0,_=>none
 | n+1,v=>
  if v<(s0_.length:Int) then
   Option.bind (idx s0_ v) fun v1=>
   Option.bind (f v1) fun v2=>
   if v2=true then
    some (.inr v)
   else
    M.slices_IndexFunc_api_TrackedWord_api_TrackedWord_loop1 s0_ f n (v+1)
  else
   some (.inl ())
def M.slices_IndexFunc_api_TrackedWord_api_TrackedWord(n:Nat)(s0_:List api_TrackedWord)(f:api_TrackedWord→Option Bool):Option Int:=
 Option.bind (M.slices_IndexFunc_api_TrackedWord_api_TrackedWord_loop1 s0_ f n (0:Int)) fun
  | .inl _=>
   some (-1:Int)
  | .inr ret0=>some ret0
def M.slices_ContainsFunc_api_TrackedWord_api_TrackedWord(n:Nat)(s0_:List api_TrackedWord)(f:api_TrackedWord→Option Bool):Option Bool:=
 Option.bind (M.slices_IndexFunc_api_TrackedWord_api_TrackedWord n s0_ f) fun tracke=>
 some (decide ((0:Int)≤tracke))
def M.slices_IndexFunc_string_string_loop1(s0_:List Str)(f:Str→Option Bool):Nat→Int→Option (Unit ⊕ Int)
 | 0,_=>none
 | n+1,v=>
  if v<(s0_.length:Int) then
   Option.bind (idx s0_ v) fun v1=>
   Option.bind (f v1) fun v2=>
   if v2=true then
    some (.inr v)
   else
    M.slices_IndexFunc_string_string_loop1 s0_ f n (v+1)
  else
   some (.inl ())
def M.slices_IndexFunc_string_string(n:Nat)(s0_:List Str)(f:Str→Option Bool):Option Int:=
 Option.bind (M.slices_IndexFunc_string_string_loop1 s0_ f n (0:Int)) fun
  | .inl _=>
   some (-1:Int)
  | .inr ret0=>some ret0
def M.slices_ContainsFunc_string_string(n:Nat)(s0_:List Str)(f:Str→Option Bool):Option Bool:=
 Option.bind (M.slices_IndexFunc_string_string n s0_ f) fun string=>
 some (decide ((0:Int)≤string))
def M.slices_IndexFunc_byte_byte_loop1(s0_:List Int)(f:Int→Option Bool):Nat→Int→Option (Unit ⊕ Int)
 | 0,_=>none
 | n+1,v=>
  if v<(s0_.length:Int) then
   Option.bind (idx s0_ v) fun v1=>
   Option.bind (f v1) fun v2=>
   if v2=true then
    some (.inr v)
   else
    M.slices_IndexFunc_byte_byte_loop1 s0_ f n (v+1)
  else
   some (.inl ())
def M.slices_IndexFunc_byte_byte(n:Nat)(s0_:List Int)(f:Int→Option Bool):Option Int:=
 Option.bind (M.slices_IndexFunc_byte_byte_loop1 s0_ f n (0:Int)) fun
  | .inl _=>
   some (-1:Int)
  | .inr ret0=>some ret0
def M.slices_ContainsFunc_byte_byte(n:Nat)(s0_:List Int)(f:Int→Option Bool):Option Bool:=
 Option.bind (M.slices_IndexFunc_byte_byte n s0_ f) fun byte=>
 some (decide ((0:Int)≤byte))
def M.wordseq_word_1(c:Int):Option Bool:=
 if c<(33:Int) then
  some true
 else
  some (decide ((126:Int)< c))
def M.wordseq_word(n:Nat)(s0_:Str):Option Bool:=
 if (s0_ !=([]:Str))=true then
  if (s0_.length:Int)≤(24:Int) then
   Option.bind (M.slices_ContainsFunc_byte_byte n (bytesOf s0_) (fun s0=>M.wordseq_word_1 s0)) fun byte=>
   some (!byte)
  else
   some false
 else
  some false
def M.wordseq_Valid_1(n:Nat)(s0_:Str):Option Bool:=
 Option.bind (M.wordseq_word n s0_) fun word=>
 some (!word)
def M.wordseq_Valid(n:Nat)(l:List Str):Option Bool:=
 if (l.length:Int)≤(256:Int) then
  Option.bind (M.slices_ContainsFunc_string_string n l (fun s0=>M.wordseq_Valid_1 n s0)) fun string=>
  some (!string)
 else
  some false
def M.markup_isWord(n:Nat)(s0_:Str):Option Bool:=
 Option.bind (M.wordseq_Valid n [s0_]) fun valid=>
 some valid
def M.markup_validRow_1(n:Nat)(w:api_TrackedWord):Option Bool:=
 Option.bind (M.markup_isWord n w.Text) fun isword=>
 if isword=false then
  some true
 else
  if w.State<(0:Int) then
   some true
  else
   some (decide ((2:Int)< w.State))
def M.markup_validRow(n:Nat)(l:List api_TrackedWord):Option Bool:=
 if (l.length:Int)≤(512:Int) then
  Option.bind (M.slices_ContainsFunc_api_TrackedWord_api_TrackedWord n l (fun s0=>M.markup_validRow_1 n s0)) fun tracke=>
  some (!tracke)
 else
  some false
def M.strings_indexFunc_loop1(s0_:Str)(f:Int→Option Bool)(truth:Bool):Nat→Nat→Option (Nat ⊕ Int)
 | 0,_=>none
 | n+1,v=>
  if v<s0_.length then
   Option.bind (f ((runeAt s0_ v).1:Int)) fun v1=>
   if (v1==truth)=true then
    some (.inr (v:Int))
   else
    M.strings_indexFunc_loop1 s0_ f truth n (v+(runeAt s0_ v).2)
  else
   some (.inl v)
def M.strings_indexFunc(n:Nat)(s0_:Str)(f:Int→Option Bool)(truth:Bool):Option Int:=
 Option.bind (M.strings_indexFunc_loop1 s0_ f truth n 0) fun
  | .inl v=>
   some (-1:Int)
  | .inr ret0=>some ret0
def M.strings_IndexFunc(n:Nat)(s0_:Str)(f:Int→Option Bool):Option Int:=
 Option.bind (M.strings_indexFunc n s0_ f true) fun indexf=>
 some indexf
def M.label_parted_1(b:Int):Option Bool:=
 if b<(48:Int) then
  some true
 else
  some (decide ((57:Int)< b))
def M.label_parted(n:Nat)(s0_:Str):Option (Str×Str):=
 Option.bind (M.strings_IndexFunc n s0_ (fun s0=>M.label_parted_1 s0)) fun indexf=>
 if indexf<(0:Int) then
  some (s0_,([]:Str))
 else
  Option.bind (slcHi s0_ indexf) fun v=>
  Option.bind (slcLo s0_ indexf) fun v1=>
  some (v,v1)
def M.strings_ContainsFunc(n:Nat)(s0_:Str)(f:Int→Option Bool):Option Bool:=
 Option.bind (M.strings_IndexFunc n s0_ f) fun indexf=>
 some (decide ((0:Int)≤indexf))
def M.label_Valid_1(b:Int):Option Bool:=
 if b<(65:Int) then
  some true
 else
  some (decide ((90:Int)< b))
def M.label_Valid(n:Nat)(s0_:Str):Option Bool:=
 Option.bind (M.label_parted n s0_) fun parted=>
 if (1:Int)≤(parted.1.length:Int) then
  if (parted.1.length:Int)≤(4:Int) then
   Option.bind (idx parted.1 (0:Int)) fun b=>
   if (b.toNat:Int)≠(48:Int) then
    if (parted.2.length:Int)≤(3:Int) then
     Option.bind (M.strings_ContainsFunc n parted.2 (fun s0=>M.label_Valid_1 s0)) fun contai=>
     some (!contai)
    else
     some false
   else
    some false
  else
   some false
 else
  some false
def M.markup_validUnit(n:Nat)(t:api_TrackedUnit):Option Bool:=
 Option.bind (
   if t.Kind<(0:Int) then
    some true
   else
    if (7:Int)< t.Kind then
     some true
    else
     Option.bind (M.markup_validID t.Id) fun validi=>
     some (!validi)
  ) fun v=>
  if v=true then
   some false
  else
   Option.bind (
     Option.bind (M.markup_validRow n t.Head) fun validr=>
     if validr=false then
      some true
     else
      Option.bind (M.markup_validRow n t.Words) fun validr1=>
      some (!validr1)
    ) fun v1=>
    if v1=true then
     some false
    else
     Option.bind (
       if ((decide (t.Kind=(0:Int))) !=(t.Label==([]:Str)))=true then
        some ((decide (t.Kind=(0:Int))) !=(t.Label==([]:Str)))
       else
        if (t.Label !=([]:Str))=true then
         Option.bind (M.label_Valid n t.Label) fun valid=>
         some (!valid)
        else
         some false
      ) fun v2=>
      if v2=true then
       some false
      else
       Option.bind (
         if (t.Was !=([]:Str))=true then
          Option.bind (M.label_Valid n t.Was) fun valid1=>
          if valid1=false then
           some true
          else
           some (t.Was==t.Label)
         else
          some false
        ) fun v3=>
        if v3=true then
         some false
        else
         if t.State=(1:Int) then
          some true
         else
          if t.State=(0:Int) then
           some (!t.Moved)
          else
           if t.State=(2:Int) then
            some (!t.Moved)
           else
            some false
def M.markup_validTree_1(slf:api_TrackedUnit→Int→Option Bool)(k:api_TrackedUnit)(c:Int):Option Bool:=
 Option.bind (addC c (1:Int)) fun v=>
 Option.bind (slf k v) fun validt=>
 some (!validt)
def M.slices_IndexFunc_api_TrackedUnit_api_TrackedUnit_loop1(s0_:List api_TrackedUnit)(f:api_TrackedUnit→Option Bool):Nat→Int→Option (Unit ⊕ Int)
 | 0,_=>none
 | n+1,v=>
  if v<(s0_.length:Int) then
   Option.bind (idx s0_ v) fun v1=>
   Option.bind (f v1) fun v2=>
   if v2=true then
    some (.inr v)
   else
    M.slices_IndexFunc_api_TrackedUnit_api_TrackedUnit_loop1 s0_ f n (v+1)
  else
   some (.inl ())
def M.slices_IndexFunc_api_TrackedUnit_api_TrackedUnit(n:Nat)(s0_:List api_TrackedUnit)(f:api_TrackedUnit→Option Bool):Option Int:=
 Option.bind (M.slices_IndexFunc_api_TrackedUnit_api_TrackedUnit_loop1 s0_ f n (0:Int)) fun
  | .inl _=>
   some (-1:Int)
  | .inr ret0=>some ret0
def M.slices_ContainsFunc_api_TrackedUnit_api_TrackedUnit(n:Nat)(s0_:List api_TrackedUnit)(f:api_TrackedUnit→Option Bool):Option Bool:=
 Option.bind (M.slices_IndexFunc_api_TrackedUnit_api_TrackedUnit n s0_ f) fun tracke=>
 some (decide ((0:Int)≤tracke))
def M.markup_validTree:Nat→api_TrackedUnit→Int→Option Bool
 | 0,_,_=>none
 | n+1,t,depth=>
  if (8:Int)< depth then
   some false
  else
   Option.bind (
     if (0:Int)< depth then
      Option.bind (M.markup_isPlaceholder t) fun isplac=>
      some isplac
     else
      some false
    ) fun v=>
    if v=true then
     some true
    else
     Option.bind (M.markup_validUnit n t) fun validu=>
     if validu=true then
      Option.bind (M.slices_ContainsFunc_api_TrackedUnit_api_TrackedUnit n t.Kids (fun s0=>M.markup_validTree_1 (M.markup_validTree n) s0 depth)) fun tracke=>
      some (!tracke)
     else
      some false
def M.markup_sign(t:api_TrackedUnit):Option Str:=
 Option.bind (
   if t.Moved=true then
    some (decide (t.State=(1:Int)))
   else
    some false
  ) fun v=>
  if v=true then
   some ([62]:Str)
  else
   if t.Moved=true then
    some ([60]:Str)
   else
    if t.State=(1:Int) then
     some ([43]:Str)
    else
     if t.State=(2:Int) then
      some ([45]:Str)
     else
      some ([61]:Str)
def M.markup_formatID(id:api_Id):Option Str:=
 Option.bind (itoaM id.Act) fun itoa=>
 Option.bind (catC ([35]:Str) itoa) fun v=>
 Option.bind (catC v ([46]:Str)) fun v1=>
 Option.bind (itoaM id.Item) fun itoa1=>
 Option.bind (catC v1 itoa1) fun v2=>
 Option.bind (catC v2 ([46]:Str)) fun v3=>
 Option.bind (itoaM id.N) fun itoa2=>
 Option.bind (catC v3 itoa2) fun v4=>
 some v4
def M.unit_KindName(kind:Int):Option Str:=
 if kind<(0:Int) then
  some ([]:Str)
 else
  if (8:Int)≤kind then
   some ([]:Str)
  else
   Option.bind (idx gv2 kind) fun v=>
   some v
def M.markup_escape(s0_:Str):Option Str:=
 Option.bind (slcHi s0_ (1:Int)) fun v=>
 Option.bind (containsM ([91,93,43,45,124,35,92]:Str) v) fun contai=>
 if contai=true then
  Option.bind (catC ([92]:Str) s0_) fun v1=>
  some v1
 else
  some s0_
def M.strings_Join_loop2(sep:Str):List Str→Str→Option Str
 | [],b2=>
  some b2
 | e1 :: es1,b2=>
  Option.bind (appC b2 sep) fun b3=>
  Option.bind (appC b3 e1) fun b4=>
  M.strings_Join_loop2 sep es1 b4
def M.strings_Join_loop1:List Str→Int→Option Int
 | [],n0_1=>
  some n0_1
 | e :: es,n0_1=>
  Option.bind (subC (9223372036854775807:Int) n0_1) fun v6=>
  if v6<(e.length:Int) then
   none
  else
   Option.bind (addC n0_1 (e.length:Int)) fun v7=>
   M.strings_Join_loop1 es v7
def M.strings_Join(elems:List Str)(sep:Str):Option Str:=
 if (elems.length:Int)=(0:Int) then
  some ([]:Str)
 else
  if (elems.length:Int)=(1:Int) then
   Option.bind (idx elems (0:Int)) fun v=>
   some v
  else
   Option.bind (
     if (0:Int)< (sep.length:Int) then
      Option.bind (
        Option.bind (subC (elems.length:Int) (1:Int)) fun v1=>
        Option.bind (quoC (9223372036854775807:Int) v1) fun v2=>
        if v2≤(sep.length:Int) then
         none
        else
         some ()
       ) fun _=>
       Option.bind (subC (elems.length:Int) (1:Int)) fun v3=>
       Option.bind (mulC (sep.length:Int) v3) fun v4=>
       Option.bind (addC (0:Int) v4) fun v5=>
       some v5
     else
      some (0:Int)
    ) fun n0_=>
    Option.bind (M.strings_Join_loop1 elems n0_) fun n0_1=>
     Option.bind (growC n0_1) fun _=>
     Option.bind (idx elems (0:Int)) fun v8=>
     Option.bind (appC ([]:Str) v8) fun b1=>
     Option.bind (slcLo elems (1:Int)) fun v9=>
     Option.bind (M.strings_Join_loop2 sep v9 b1) fun b2=>
      some b2
def M.markup_FormatWords_1(state:Int)(words:List Str)(c:List Str):Option (List Str):=
 Option.bind (idx gv0 state) fun v=>
 Option.bind (M.strings_Join words ([32]:Str)) fun join=>
 Option.bind (catC v join) fun v1=>
 Option.bind (idx gv1 state) fun v2=>
 Option.bind (catC v1 v2) fun v3=>
 Option.bind (appC c [v3]) fun out=>
 some out
def M.markup_runs_i0_loop2(l:List api_TrackedWord)(from0_:Int):Nat→Int→(List Str)→Option (Int×(List Str))
 | 0,_,_=>none
 | n+1,to0_,words=>
  if to0_<(l.length:Int) then
   Option.bind (idx l to0_) fun v1=>
   Option.bind (idx l from0_) fun v2=>
   if v1.State=v2.State then
    Option.bind (idx l to0_) fun v3=>
    Option.bind (M.markup_escape v3.Text) fun escape=>
    Option.bind (appC words [escape]) fun words1=>
    M.markup_runs_i0_loop2 l from0_ n (to0_+1) words1
   else
    some (to0_,words)
  else
   some (to0_,words)
def M.markup_runs_i0_loop1(l:List api_TrackedWord):Nat→Int→(List Str)→Option ((List Str))
 | 0,_,_=>none
 | n+1,from0_,v=>
  if from0_<(l.length:Int) then
   Option.bind (M.markup_runs_i0_loop2 l from0_ n from0_ ([]:List Str)) fun (to0_,words)=>
    Option.bind (idx l from0_) fun v4=>
    Option.bind (M.markup_FormatWords_1 v4.State words v) fun w=>
    M.markup_runs_i0_loop1 l n to0_ w
  else
   some v
def M.markup_runs_i0(n:Nat)(l:List api_TrackedWord)(c:List Str):Option (List Str):=
 Option.bind (M.markup_runs_i0_loop1 l n (0:Int) c) fun v=>
  some v
def M.markup_FormatWords(n:Nat)(l:List api_TrackedWord):Option Str:=
 Option.bind (M.markup_validRow n l) fun validr=>
 if validr=false then
  some ([]:Str)
 else
  Option.bind (M.markup_runs_i0 n l ([]:List Str)) fun out=>
  Option.bind (M.strings_Join out ([32]:Str)) fun join=>
  some join
def M.markup_line(n:Nat)(t:api_TrackedUnit)(depth:Int):Option Str:=
 Option.bind (repeatM ([32,32]:Str) depth) fun repeat0_=>
 Option.bind (M.markup_sign t) fun sign=>
 Option.bind (catC repeat0_ sign) fun v=>
 Option.bind (catC v ([32]:Str)) fun v1=>
 Option.bind (M.markup_sign t) fun sign1=>
 if (sign1==([60]:Str))=true then
  Option.bind (M.markup_formatID t.Id) fun format=>
  Option.bind (catC v1 format) fun v2=>
  some v2
 else
  Option.bind (M.unit_KindName t.Kind) fun kindna=>
  Option.bind (catC v1 kindna) fun v3=>
  Option.bind (
    if (t.Label !=([]:Str))=true then
     Option.bind (catC ([32]:Str) t.Label) fun v4=>
     Option.bind (catC v3 v4) fun v5=>
     some v5
    else
     some v3
   ) fun s0_=>
   Option.bind (
     if (t.Was !=([]:Str))=true then
      Option.bind (catC ([32,119,97,115,32]:Str) t.Was) fun v6=>
      Option.bind (catC s0_ v6) fun v7=>
      some v7
     else
      some s0_
    ) fun s0_1=>
    Option.bind (M.markup_formatID t.Id) fun format1=>
    Option.bind (catC ([32]:Str) format1) fun v8=>
    Option.bind (catC s0_1 v8) fun v9=>
    Option.bind (
      if (0:Int)< (t.Head.length:Int) then
       Option.bind (M.markup_FormatWords n t.Head) fun format2=>
       Option.bind (catC ([58,32]:Str) format2) fun v10=>
       Option.bind (catC v9 v10) fun v11=>
       some v11
      else
       some v9
     ) fun s0_2=>
     if (0:Int)< (t.Words.length:Int) then
      Option.bind (M.markup_FormatWords n t.Words) fun format3=>
      Option.bind (catC ([32,124,32]:Str) format3) fun v12=>
      Option.bind (catC s0_2 v12) fun v13=>
      some v13
     else
      some s0_2
def M.markup_Lines_1_loop1(depth:Int)(slf:api_TrackedUnit→Int→(List Str)→Option (List Str)):List api_TrackedUnit→(List Str)→Option ((List Str))
 | [],v=>
  some v
 | e :: es,v=>
  Option.bind (addC depth (1:Int)) fun v1=>
  Option.bind (slf e v1 v) fun w=>
  M.markup_Lines_1_loop1 depth slf es w
def M.markup_Lines_1:Nat→api_TrackedUnit→Int→(List Str)→Option (List Str)
 | 0,_,_,_=>none
 | n+1,t,depth,c=>
  Option.bind (M.markup_line n t depth) fun line=>
  Option.bind (appC c [line]) fun out=>
  Option.bind (M.markup_Lines_1_loop1 depth (M.markup_Lines_1 n) t.Kids out) fun v=>
   some v
def M.markup_Lines(n:Nat)(t:api_TrackedUnit):Option (List Str):=
 Option.bind (M.markup_validTree n t (0:Int)) fun validt=>
 if validt=false then
  some ([]:List Str)
 else
  Option.bind (M.markup_Lines_1 n t (0:Int) ([]:List Str)) fun out=>
  some out
def M.markup_Format(n:Nat)(t:api_TrackedUnit):Option (Str×Int):=
 Option.bind (M.markup_Lines n t) fun lines=>
 if (lines.length:Int)=(0:Int) then
  some (([]:Str),(1:Int))
 else
  Option.bind (M.strings_Join lines ([10]:Str)) fun join=>
  Option.bind (catC join ([10]:Str)) fun v=>
  if (16384:Int)< (v.length:Int) then
   some (([]:Str),(6:Int))
  else
   some (v,(0:Int))
def M.law53_awake(n:Nat):Option Bool:=
 Option.bind (M.markup_Format n (⟨(0:Int),(2:Int),(⟨(1:Int),(0:Int),(1:Int)⟩:api_Id),([53]:Str),([52]:Str),false,([]:List api_TrackedWord),[(⟨(0:Int),([97]:Str)⟩:api_TrackedWord),(⟨(2:Int),([98]:Str)⟩:api_TrackedWord),(⟨(1:Int),([99]:Str)⟩:api_TrackedWord)],([]:List api_TrackedUnit)⟩:api_TrackedUnit)) fun format=>
 Option.bind (M.markup_FormatWords n ([(⟨(0:Int),([97]:Str)⟩:api_TrackedWord),(⟨(2:Int),([98]:Str)⟩:api_TrackedWord),(⟨(1:Int),([99]:Str)⟩:api_TrackedWord)])) fun format1=>
 if (format1==([97,32,91,45,32,98,32,45,93,32,91,43,32,99,32,43,93]:Str))=true then
  if format.2=(0:Int) then
   some (format.1==([61,32,115,101,99,116,105,111,110,32,53,32,119,97,115,32,52,32,35,49,46,48,46,49,32,124,32,97,32,91,45,32,98,32,45,93,32,91,43,32,99,32,43,93,10]:Str))
  else
   some false
 else
  some false
def M.r06_size_loop1(u:api_Unit)(deep:Int)(most:Int)(slf:api_Unit→Int→Int→Option Int):Nat→Int→Int→Option Int
 | 0,_,_=>none
 | n+1,n0_,i=>
  Option.bind (
    if i<(u.Kids.length:Int) then
     some (decide (n0_≤most))
    else
     some false
   ) fun v1=>
   if v1=true then
    Option.bind (idx u.Kids i) fun v2=>
    Option.bind (addC deep (1:Int)) fun v3=>
    Option.bind (subC most n0_) fun v4=>
    Option.bind (slf v2 v3 v4) fun size=>
    Option.bind (addC n0_ size) fun v5=>
    Option.bind (addC i (1:Int)) fun v6=>
    M.r06_size_loop1 u deep most slf n v5 v6
   else
    some n0_
def M.r06_size:Nat→api_Unit→Int→Int→Option Int
 | 0,_,_,_=>none
 | n+1,u,deep,most=>
  if (20:Int)< deep then
   Option.bind (addC most (1:Int)) fun v=>
   some v
  else
   Option.bind (M.r06_size_loop1 u deep most (M.r06_size n) n (1:Int) (0:Int)) fun n0_=>
    some n0_
def M.r06_short_loop1(l:List api_Word):Nat→Int→Option (Unit ⊕ Bool)
 | 0,_=>none
 | n+1,i=>
  if i<(l.length:Int) then
   Option.bind (idx l i) fun v=>
   if (100:Int)< (v.Text.length:Int) then
    some (.inr false)
   else
    M.r06_short_loop1 l n (i+1)
  else
   some (.inl ())
def M.r06_short(n:Nat)(l:List api_Word):Option Bool:=
 Option.bind (M.r06_short_loop1 l n (0:Int)) fun
  | .inl _=>
   some (decide ((l.length:Int)≤(300:Int)))
  | .inr ret0=>some ret0
def M.r06_words_loop1(u:api_Unit)(slf:api_Unit→Option Bool):Nat→Int→Option (Unit ⊕ Bool)
 | 0,_=>none
 | n+1,i=>
  if i<(u.Kids.length:Int) then
   Option.bind (idx u.Kids i) fun v1=>
   Option.bind (slf v1) fun words=>
   if words=false then
    some (.inr false)
   else
    M.r06_words_loop1 u slf n (i+1)
  else
   some (.inl ())
def M.r06_words:Nat→api_Unit→Option Bool
 | 0,_=>none
 | n+1,u=>
  Option.bind (
    if (30:Int)< (u.Label.length:Int) then
     some true
    else
     Option.bind (M.r06_short n u.Head) fun short=>
     if short=false then
      some true
     else
      Option.bind (M.r06_short n u.Words) fun short1=>
      some (!short1)
   ) fun v=>
   if v=true then
    some false
   else
    Option.bind (M.r06_words_loop1 u (M.r06_words n) n (0:Int)) fun
     | .inl _=>
      some true
     | .inr ret0=>some ret0
def M.r06_Few(n:Nat)(u:api_Unit)(most:Int):Option Bool:=
 Option.bind (M.r06_size n u (0:Int) most) fun size=>
 if size≤most then
  Option.bind (M.r06_words n u) fun words=>
  some words
 else
  some false
def M.unit_row_loop1:List api_Word→(List Str)→Option ((List Str))
 | [],texts=>
  some texts
 | e :: es,texts=>
  Option.bind (appC texts [e.Text]) fun texts1=>
  M.unit_row_loop1 es texts1
def M.unit_row(n:Nat)(l:List api_Word):Option Bool:=
 Option.bind (M.unit_row_loop1 l ([]:List Str)) fun texts=>
  if (l.length:Int)≤(256:Int) then
   Option.bind (M.wordseq_Valid n texts) fun valid=>
   some valid
  else
   some false
def M.slices_Index_int_int_loop1(s0_:List Int)(v:Int):Nat→Int→Option (Unit ⊕ Int)
 | 0,_=>none
 | n+1,v1=>
  if v1<(s0_.length:Int) then
   Option.bind (idx s0_ v1) fun v2=>
   if v=v2 then
    some (.inr v1)
   else
    M.slices_Index_int_int_loop1 s0_ v n (v1+1)
  else
   some (.inl ())
def M.slices_Index_int_int(n:Nat)(s0_:List Int)(v:Int):Option Int:=
 Option.bind (M.slices_Index_int_int_loop1 s0_ v n (0:Int)) fun
  | .inl _=>
   some (-1:Int)
  | .inr ret0=>some ret0
def M.slices_Contains_int_int(n:Nat)(s0_:List Int)(v:Int):Option Bool:=
 Option.bind (M.slices_Index_int_int n s0_ v) fun int=>
 some (decide ((0:Int)≤int))
def M.unit_CanContain(n:Nat)(parent:Int)(kind:Int):Option Bool:=
 if (0:Int)≤parent then
  if parent<(8:Int) then
   Option.bind (idx gv4 parent) fun v=>
   Option.bind (M.slices_Contains_int_int n v kind) fun int=>
   some int
  else
   some false
 else
  some false
def M.unit_alone_loop1(n:Nat)(u:api_Unit):List api_Unit→(List (unit_called×Bool))→Option (((List (unit_called×Bool))) ⊕ Bool)
 | [],v1=>
  some (.inl v1)
 | e :: es,v1=>
  Option.bind (M.unit_CanContain n u.Kind e.Kind) fun cancon=>
  if cancon=false then
   some (.inr false)
  else
   if (mget v1 (⟨e.Kind,e.Label⟩:unit_called) false)=true then
    some (.inr false)
   else
    M.unit_alone_loop1 n u es (mset v1 (⟨e.Kind,e.Label⟩:unit_called) true)
def M.unit_alone(n:Nat)(u:api_Unit):Option Bool:=
 Option.bind ((
   if u.Kind=(0:Int) then
    if (u.Label !=([]:Str))=true then
     some (.inr false)
    else
     Option.bind (addC (u.Head.length:Int) (u.Words.length:Int)) fun v=>
     if (0:Int)< v then
      some (.inr false)
     else
      some (.inl ())
   else
    Option.bind (M.unit_KindName u.Kind) fun kindna=>
    if (kindna==([]:Str))=true then
     some (.inr false)
    else
     Option.bind (M.label_Valid n u.Label) fun valid=>
     if valid=false then
      some (.inr false)
     else
      Option.bind (M.unit_row n u.Head) fun row=>
      if row=false then
       some (.inr false)
      else
       Option.bind (M.unit_row n u.Words) fun row1=>
       if row1=false then
        some (.inr false)
       else
        some (.inl ())
  ):Option (Unit ⊕ Bool)) fun
  | .inl _=>
   Option.bind (M.unit_alone_loop1 n u u.Kids ([]:List (unit_called×Bool))) fun
    | .inl v1=>
     some (decide ((u.Kids.length:Int)≤(64:Int)))
    | .inr ret0=>some ret0
  | .inr ret0=>some ret0
def M.unit_every_i0_loop1(slf:api_Unit→Option Bool):List api_Unit→Option (Unit ⊕ Bool)
 | []=>
  some (.inl ())
 | e :: es=>
  Option.bind (slf e) fun every=>
  if every=false then
   some (.inr false)
  else
   M.unit_every_i0_loop1 slf es
def M.unit_every_i0:Nat→api_Unit→Option Bool
 | 0,_=>none
 | n+1,u=>
  Option.bind (M.unit_alone n u) fun alone=>
  if alone=false then
   some false
  else
   Option.bind (M.unit_every_i0_loop1 (M.unit_every_i0 n) u.Kids) fun
    | .inl _=>
     some true
    | .inr ret0=>some ret0
def M.unit_Depth_loop1(slf:api_Unit→Option Int):List api_Unit→Int→Option Int
 | [],deep=>
  some deep
 | e :: es,deep=>
  Option.bind (slf e) fun depth=>
  Option.bind (addC (1:Int) depth) fun v=>
  M.unit_Depth_loop1 slf es (max deep v)
def M.unit_Depth:Nat→api_Unit→Option Int
 | 0,_=>none
 | n+1,u=>
  Option.bind (M.unit_Depth_loop1 (M.unit_Depth n) u.Kids (0:Int)) fun deep=>
   some deep
def M.unit_Count_1(a:api_Unit)(c:Int):Option (Bool×Int):=
 Option.bind (addC c (1:Int)) fun v=>
 some (true,v)
def M.unit_every_i1_loop1(slf:api_Unit→Int→Option (Bool×Int)):List api_Unit→Int→Option (Int ⊕ (Bool×Int))
 | [],v=>
  some (.inl v)
 | e :: es,v=>
  Option.bind (slf e v) fun (every,w1)=>
  if every=false then
   some (.inr (false,w1))
  else
   M.unit_every_i1_loop1 slf es w1
def M.unit_every_i1:Nat→api_Unit→Int→Option (Bool×Int)
 | 0,_,_=>none
 | n+1,u,c=>
  Option.bind (M.unit_Count_1 u c) fun (v1_,w)=>
  if v1_=false then
   some (false,w)
  else
   Option.bind (M.unit_every_i1_loop1 (M.unit_every_i1 n) u.Kids w) fun
    | .inl v=>
     some (true,v)
    | .inr ret0=>some ret0
def M.unit_Count(n:Nat)(u:api_Unit):Option Int:=
 Option.bind (M.unit_every_i1 n u (0:Int)) fun (every,n0_)=>
 some n0_
def M.unit_IDs_1(x:api_Unit)(c:List api_Id):Option (Bool×(List api_Id)):=
 Option.bind (appC c [x.Id]) fun out=>
 some (true,out)
def M.unit_every_i2_loop1(slf:api_Unit→(List api_Id)→Option (Bool×(List api_Id))):List api_Unit→(List api_Id)→Option (((List api_Id)) ⊕ (Bool×(List api_Id)))
 | [],v=>
  some (.inl v)
 | e :: es,v=>
  Option.bind (slf e v) fun (every,w1)=>
  if every=false then
   some (.inr (false,w1))
  else
   M.unit_every_i2_loop1 slf es w1
def M.unit_every_i2:Nat→api_Unit→(List api_Id)→Option (Bool×(List api_Id))
 | 0,_,_=>none
 | n+1,u,c=>
  Option.bind (M.unit_IDs_1 u c) fun (v1_,w)=>
  if v1_=false then
   some (false,w)
  else
   Option.bind (M.unit_every_i2_loop1 (M.unit_every_i2 n) u.Kids w) fun
    | .inl v=>
     some (true,v)
    | .inr ret0=>some ret0
def M.unit_IDs(n:Nat)(u:api_Unit):Option (List api_Id):=
 Option.bind (M.unit_every_i2 n u ([]:List api_Id)) fun (every,out)=>
 some out
def M.unit_ids_loop1:List api_Id→(List (api_Id×Bool))→Option ((List (api_Id×Bool)))
 | [],v=>
  some v
 | e :: es,v=>
  M.unit_ids_loop1 es (mset v e true)
def M.unit_ids(n:Nat)(u:api_Unit):Option Bool:=
 Option.bind (M.unit_IDs n u) fun ids=>
 Option.bind (M.unit_ids_loop1 ids ([]:List (api_Id×Bool))) fun v=>
  if (mget v (⟨(0:Int),(0:Int),(0:Int)⟩:api_Id) false)=true then
   Option.bind (growC (v.length:Int)) fun _=>
   if (v.length:Int)=(1:Int) then
    some true
   else
    Option.bind (growC (v.length:Int)) fun _=>
    if (v.length:Int)=(ids.length:Int) then
     some ((decide (u.Kind=(0:Int)))==(decide (u.Id=(⟨(0:Int),(0:Int),(0:Int)⟩:api_Id))))
    else
     some false
  else
   Option.bind (growC (v.length:Int)) fun _=>
   if (v.length:Int)=(ids.length:Int) then
    some ((decide (u.Kind=(0:Int)))==(decide (u.Id=(⟨(0:Int),(0:Int),(0:Int)⟩:api_Id))))
   else
    some false
def M.unit_Valid(n:Nat)(u:api_Unit):Option Bool:=
 Option.bind (M.unit_every_i0 n u) fun every=>
 if every=true then
  Option.bind (M.unit_Depth n u) fun depth=>
  if depth≤(8:Int) then
   Option.bind (M.unit_Count n u) fun count=>
   if count≤(1024:Int) then
    Option.bind (M.unit_ids n u) fun ids=>
    some ids
   else
    some false
  else
   some false
 else
  some false
def M.redline_every_loop1(slf:api_Unit→(List (api_Id×api_Unit))→Option (List (api_Id×api_Unit))):List api_Unit→(List (api_Id×api_Unit))→Option ((List (api_Id×api_Unit)))
 | [],into1=>
  some into1
 | e :: es,into1=>
  Option.bind (slf e into1) fun into2=>
  M.redline_every_loop1 slf es into2
def M.redline_every:Nat→api_Unit→(List (api_Id×api_Unit))→Option (List (api_Id×api_Unit))
 | 0,_,_=>none
 | n+1,u,into=>
  Option.bind (M.redline_every_loop1 (M.redline_every n) u.Kids (mset into u.Id u)) fun into1=>
   some into1
def M.diff_places_1_loop1(u:api_Unit)(slf:api_Unit→(List (api_Id×diff_place))→Option (List (api_Id×diff_place))):List api_Unit→Int→(List (api_Id×diff_place))→Option ((List (api_Id×diff_place)))
 | [],_,v=>
  some v
 | e :: es,i,v=>
  Option.bind (slf e (mset v e.Id (⟨u.Id,i,e⟩:diff_place))) fun w=>
  M.diff_places_1_loop1 u slf es (i+1) w
def M.diff_places_1:Nat→api_Unit→(List (api_Id×diff_place))→Option (List (api_Id×diff_place))
 | 0,_,_=>none
 | n+1,u,c=>
  Option.bind (M.diff_places_1_loop1 u (M.diff_places_1 n) u.Kids (0:Int) c) fun v=>
   some v
def M.diff_places(n:Nat)(u:api_Unit):Option (List (api_Id×diff_place)):=
 Option.bind (M.diff_places_1 n u (mset ([]:List (api_Id×diff_place)) u.Id (⟨zapi_Id,(0:Int),u⟩:diff_place))) fun w=>
 some w
def M.diff_book(n:Nat)(u:api_Unit):Option Bool:=
 Option.bind (M.unit_Valid n u) fun valid=>
 if valid=true then
  if u.Kind=(0:Int) then
   Option.bind (M.diff_places n u) fun places=>
   Option.bind (growC (places.length:Int)) fun _=>
   Option.bind (M.unit_Count n u) fun count=>
   some (decide ((places.length:Int)=count))
  else
   some false
 else
  some false
def M.diff_held_loop1(a:api_Unit)(b:api_Unit)(places:List (api_Id×diff_place))(places1:List (api_Id×diff_place))(e:api_Id×diff_place):Option Bool:=
 if ((mget ((⟨a,b,places,places1⟩:diff_pair).p_) e.1 zdiff_place,mhas ((⟨a,b,places,places1⟩:diff_pair).p_) e.1).2)=true then
  if (((mget ((⟨a,b,places,places1⟩:diff_pair).p_) e.1 zdiff_place,mhas ((⟨a,b,places,places1⟩:diff_pair).p_) e.1).1).unit_).Kind≠e.2.unit_.Kind then
   some true
  else
   some false
 else
  some false
def M.diff_held(n:Nat)(a:api_Unit)(b:api_Unit):Option (diff_pair×Bool):=
 Option.bind (
   Option.bind (M.diff_book n a) fun book=>
   if book=false then
    some true
   else
    Option.bind (M.diff_book n b) fun book1=>
    some (!book1)
  ) fun v=>
  if v=true then
   some ((⟨zapi_Unit,zapi_Unit,([]:List (api_Id×diff_place)),([]:List (api_Id×diff_place))⟩:diff_pair),false)
  else
   Option.bind (M.diff_places n a) fun places=>
   Option.bind (M.diff_places n b) fun places1=>
   Option.bind (anyM (M.diff_held_loop1 a b places places1) ((⟨a,b,places,places1⟩:diff_pair).q_)) fun any=>
   if any=true then
    some ((⟨zapi_Unit,zapi_Unit,([]:List (api_Id×diff_place)),([]:List (api_Id×diff_place))⟩:diff_pair),false)
   else
    some ((⟨a,b,places,places1⟩:diff_pair),true)
def M.lcs_LongestIncreasing_loop2(l:List Int)(i:Int):Nat→(List Int)→Int→Option ((List Int))
 | 0,_,_=>none
 | n+1,row1,k2=>
  if k2<(l.length:Int) then
   Option.bind (idx l k2) fun v3=>
   Option.bind (idx l i) fun v4=>
   if v4<v3 then
    Option.bind (idx row1 i) fun v5=>
    Option.bind (idx row1 k2) fun v6=>
    Option.bind (addC v6 (1:Int)) fun v7=>
    Option.bind (idx row1 i) fun v8=>
    Option.bind (setC row1 i (max v5 v7)) fun w1=>
    M.lcs_LongestIncreasing_loop2 l i n w1 (k2+1)
   else
    M.lcs_LongestIncreasing_loop2 l i n row1 (k2+1)
  else
   some row1
def M.lcs_LongestIncreasing_loop3(l:List Int)(row:List Int)(most:Int):Nat→(List Int)→Int→Option ((List Int))
 | 0,_,_=>none
 | n+1,out,v11=>
  if v11<(l.length:Int) then
   if (out.length:Int)< most then
    Option.bind (idx row v11) fun v12=>
    Option.bind (subC most (out.length:Int)) fun v13=>
    if v12=v13 then
     if (out.length:Int)=(0:Int) then
      Option.bind (appC out [v11]) fun out1=>
      M.lcs_LongestIncreasing_loop3 l row most n out1 (v11+1)
     else
      Option.bind (idx l v11) fun v14=>
      Option.bind (subC (out.length:Int) (1:Int)) fun v15=>
      Option.bind (idx out v15) fun v16=>
      Option.bind (idx l v16) fun v17=>
      if v17<v14 then
       Option.bind (appC out [v11]) fun out2=>
       M.lcs_LongestIncreasing_loop3 l row most n out2 (v11+1)
      else
       M.lcs_LongestIncreasing_loop3 l row most n out (v11+1)
    else
     M.lcs_LongestIncreasing_loop3 l row most n out (v11+1)
   else
    M.lcs_LongestIncreasing_loop3 l row most n out (v11+1)
  else
   some out
def M.lcs_LongestIncreasing_loop1(l:List Int):Nat→(List Int)→Int→Int→Option ((List Int)×Int)
 | 0,_,_,_=>none
 | n+1,row,most,i=>
  if (0:Int)≤i then
   Option.bind (idx row i) fun v1=>
   Option.bind (setC row i (1:Int)) fun w=>
   Option.bind (addC i (1:Int)) fun v2=>
   Option.bind (M.lcs_LongestIncreasing_loop2 l i n w v2) fun row1=>
    Option.bind (idx row1 i) fun v9=>
    Option.bind (subC i (1:Int)) fun v10=>
    M.lcs_LongestIncreasing_loop1 l n row1 (max most v9) v10
  else
   some (row,most)
def M.lcs_LongestIncreasing(n:Nat)(l:List Int):Option (List Int):=
 if (256:Int)< (l.length:Int) then
  some ([]:List Int)
 else
  Option.bind (makeC (0:Int) (l.length:Int)) fun mk=>
  Option.bind (subC (l.length:Int) (1:Int)) fun v=>
  Option.bind (M.lcs_LongestIncreasing_loop1 l n mk (0:Int) v) fun (row,most)=>
   Option.bind (M.lcs_LongestIncreasing_loop3 l row most n ([]:List Int) (0:Int)) fun out=>
    some out
def M.diff_pair_stays_loop2(ids:List api_Id):List Int→(List (api_Id×Bool))→Option ((List (api_Id×Bool)))
 | [],v1=>
  some v1
 | e1 :: es1,v1=>
  Option.bind (idx ids e1) fun v2=>
  M.diff_pair_stays_loop2 ids es1 (mset v1 v2 true)
def M.diff_pair_stays_loop1(x:diff_pair)(u:api_Unit):List api_Unit→(List api_Id)→(List Int)→Option ((List api_Id)×(List Int))
 | [],ids,at0_=>
  some (ids,at0_)
 | e :: es,ids,at0_=>
  Option.bind (
    if ((mget x.p_ e.Id zdiff_place,mhas x.p_ e.Id).2)=true then
     some (decide ((((mget x.p_ e.Id zdiff_place,mhas x.p_ e.Id).1).parent_)=u.Id))
    else
     some false
   ) fun v=>
   if v=true then
    if ((mget x.p_ u.Id zdiff_place,mhas x.p_ u.Id).2)=true then
     Option.bind (appC ids [e.Id]) fun ids2=>
     Option.bind (appC at0_ [((mget x.p_ e.Id zdiff_place,mhas x.p_ e.Id).1).at_]) fun at0_2=>
     M.diff_pair_stays_loop1 x u es ids2 at0_2
    else
     M.diff_pair_stays_loop1 x u es ids at0_
   else
    M.diff_pair_stays_loop1 x u es ids at0_
def M.diff_pair_stays(n:Nat)(x:diff_pair)(u:api_Unit):Option (List (api_Id×Bool)):=
 Option.bind (M.diff_pair_stays_loop1 x u u.Kids ([]:List api_Id) ([]:List Int)) fun (ids,at0_)=>
  Option.bind (M.lcs_LongestIncreasing n at0_) fun longes=>
  Option.bind (M.diff_pair_stays_loop2 ids longes ([]:List (api_Id×Bool))) fun v1=>
   some v1
def M.diff_pair_moved_1(n:Nat)(u:api_Unit)(parent:api_Unit)(c:diff_pair)(c1:List (api_Id×Bool))(c2:List api_Id):Option ((List (api_Id×Bool))×(List api_Id)):=
 Option.bind (M.diff_pair_stays n c u) fun stays=>
 Option.bind (setAll stays true c1) fun m0_1=>
 if ((mget c.p_ u.Id zdiff_place,mhas c.p_ u.Id).2)=true then
  if u.Kind≠(0:Int) then
   if (mget m0_1 u.Id false)=false then
    Option.bind (appC c2 [u.Id]) fun out=>
    some (m0_1,out)
   else
    some (m0_1,c2)
  else
   some (m0_1,c2)
 else
  some (m0_1,c2)
def M.diff_below_i0_loop1(n:Nat)(u:api_Unit)(c:diff_pair)(slf:api_Unit→diff_pair→(List (api_Id×Bool))→(List api_Id)→Option ((List (api_Id×Bool))×(List api_Id))):List api_Unit→(List (api_Id×Bool))→(List api_Id)→Option ((List (api_Id×Bool))×(List api_Id))
 | [],v,v1=>
  some (v,v1)
 | e :: es,v,v1=>
  Option.bind (M.diff_pair_moved_1 n e u c v v1) fun (w,w1)=>
  Option.bind (slf e c w w1) fun (w2,w3)=>
  M.diff_below_i0_loop1 n u c slf es w2 w3
def M.diff_below_i0:Nat→api_Unit→diff_pair→(List (api_Id×Bool))→(List api_Id)→Option ((List (api_Id×Bool))×(List api_Id))
 | 0,_,_,_,_=>none
 | n+1,u,c,c1,c2=>
  Option.bind (M.diff_below_i0_loop1 n u c (M.diff_below_i0 n) u.Kids c1 c2) fun (v,v1)=>
   some (v,v1)
def M.diff_each_i0(n:Nat)(u:api_Unit)(c:diff_pair)(c1:List (api_Id×Bool))(c2:List api_Id):Option ((List (api_Id×Bool))×(List api_Id)):=
 Option.bind (M.diff_pair_moved_1 n u (⟨zapi_Id,(0:Int),([]:Str),([]:List api_Word),([]:List api_Word),([]:List api_Unit)⟩:api_Unit) c c1 c2) fun (w,w1)=>
 Option.bind (M.diff_below_i0 n u c w w1) fun (w2,w3)=>
 some (w2,w3)
def M.diff_pair_moved(n:Nat)(x:diff_pair):Option (List api_Id):=
 Option.bind (M.diff_each_i0 n x.b_ x ([]:List (api_Id×Bool)) ([]:List api_Id)) fun (w,out)=>
 some out
def M.diff_Moved(n:Nat)(a:api_Unit)(b:api_Unit):Option (List api_Id):=
 Option.bind (M.diff_held n a b) fun held=>
 if held.2=false then
  some ([]:List api_Id)
 else
  Option.bind (M.diff_pair_moved n held.1) fun moved=>
  some moved
def M.redline_held_loop2:List api_Id→(List (api_Id×Bool))→Option ((List (api_Id×Bool)))
 | [],v2=>
  some v2
 | e1 :: es,v2=>
  M.redline_held_loop2 es (mset v2 e1 true)
def M.redline_held_loop1(w1:List (api_Id×api_Unit))(e:api_Id×api_Unit):Option Bool:=
 if ((mget w1 e.1 zapi_Unit,mhas w1 e.1).2)=true then
  if ((mget w1 e.1 zapi_Unit,mhas w1 e.1).1).Kind≠e.2.Kind then
   some true
  else
   some false
 else
  some false
def M.redline_held(n:Nat)(a:api_Unit)(b:api_Unit):Option (redline_books×Bool):=
 Option.bind (
   if a.Kind≠(0:Int) then
    some true
   else
    if b.Kind≠(0:Int) then
     some true
    else
     Option.bind (M.unit_Valid n a) fun valid=>
     if valid=false then
      some true
     else
      Option.bind (M.unit_Valid n b) fun valid1=>
      some (!valid1)
  ) fun v=>
  if v=true then
   some (({(⟨([]:List (api_Id×api_Unit)),([]:List (api_Id×api_Unit)),([]:List (api_Id×Bool))⟩:redline_books) with a_:=([]:List (api_Id×api_Unit)),b_:=([]:List (api_Id×api_Unit)),moved_:=([]:List (api_Id×Bool))}:redline_books),false)
  else
   Option.bind (M.redline_every n a ([]:List (api_Id×api_Unit))) fun w=>
   Option.bind (M.redline_every n b ([]:List (api_Id×api_Unit))) fun w1=>
   Option.bind (
     Option.bind (growC (w.length:Int)) fun _=>
     Option.bind (M.unit_Count n a) fun count=>
     if (w.length:Int)≠count then
      some true
     else
      Option.bind (growC (w1.length:Int)) fun _=>
      Option.bind (M.unit_Count n b) fun count1=>
      some (decide ((w1.length:Int)≠count1))
    ) fun v1=>
    if v1=true then
     some (({(⟨([]:List (api_Id×api_Unit)),([]:List (api_Id×api_Unit)),([]:List (api_Id×Bool))⟩:redline_books) with a_:=w,b_:=w1,moved_:=([]:List (api_Id×Bool))}:redline_books),false)
    else
     Option.bind (anyM (M.redline_held_loop1 w1) w) fun any=>
     if any=true then
      some (({({(⟨([]:List (api_Id×api_Unit)),([]:List (api_Id×api_Unit)),([]:List (api_Id×Bool))⟩:redline_books) with a_:=w}:redline_books) with b_:=w1,moved_:=([]:List (api_Id×Bool))}:redline_books),false)
     else
      Option.bind (M.diff_Moved n a b) fun moved=>
      Option.bind (M.redline_held_loop2 moved ([]:List (api_Id×Bool))) fun v2=>
       some (({({(⟨([]:List (api_Id×api_Unit)),([]:List (api_Id×api_Unit)),([]:List (api_Id×Bool))⟩:redline_books) with a_:=w}:redline_books) with b_:=w1,moved_:=v2}:redline_books),true)
def M.redline_texts_loop1:List api_Word→(List Str)→Option ((List Str))
 | [],out=>
  some out
 | e :: es,out=>
  Option.bind (appC out [e.Text]) fun out1=>
  M.redline_texts_loop1 es out1
def M.redline_texts(w:List api_Word):Option (List Str):=
 Option.bind (M.redline_texts_loop1 w ([]:List Str)) fun out=>
  some out
def M.redline_word_1(s0_:Str)(c:Int):Option api_TrackedWord:=
 some (⟨c,s0_⟩:api_TrackedWord)
def M.redline_word(state:Int):Option (Str→Option api_TrackedWord):=
 some (fun s0=>M.redline_word_1 s0 state)
def M.slices_IndexFunc_string_string_l_loop1(s0_:List (List Str))(f:(List Str)→Option Bool):Nat→Int→Option (Unit ⊕ Int)
 | 0,_=>none
 | n+1,v=>
  if v<(s0_.length:Int) then
   Option.bind (idx s0_ v) fun v1=>
   Option.bind (f v1) fun v2=>
   if v2=true then
    some (.inr v)
   else
    M.slices_IndexFunc_string_string_l_loop1 s0_ f n (v+1)
  else
   some (.inl ())
def M.slices_IndexFunc_string_string_l(n:Nat)(s0_:List (List Str))(f:(List Str)→Option Bool):Option Int:=
 Option.bind (M.slices_IndexFunc_string_string_l_loop1 s0_ f n (0:Int)) fun
  | .inl _=>
   some (-1:Int)
  | .inr ret0=>some ret0
def M.slices_ContainsFunc_string_string_l(n:Nat)(s0_:List (List Str))(f:(List Str)→Option Bool):Option Bool:=
 Option.bind (M.slices_IndexFunc_string_string_l n s0_ f) fun string=>
 some (decide ((0:Int)≤string))
def M.lcs_long_1(l:List Str):Option Bool:=
 some (decide ((256:Int)< (l.length:Int)))
def M.lcs_long(n:Nat)(rows:List (List Str)):Option Bool:=
 Option.bind (M.slices_ContainsFunc_string_string_l n rows (fun s0=>M.lcs_long_1 s0)) fun string=>
 some string
def M.lcs_lengths_1(i:Int)(k:Int)(c:List Int)(c1:Int):Option Int:=
 Option.bind (mulC i c1) fun v=>
 Option.bind (addC v k) fun v1=>
 Option.bind (idx c v1) fun v2=>
 some v2
def M.lcs_lengths_1_p(i:Int)(k:Int)(c:List Int)(c1:Int):Option Int:=
 Option.bind (mulC i c1) fun v=>
 Option.bind (addC v k) fun v1=>
 Option.bind (idx c v1) fun v2=>
 some v2
def M.lcs_lengths_loop2(a:List Str)(b:List Str)(v:Int)(i:Int):Nat→Int→(List Int)→Option ((List Int))
 | 0,_,_=>none
 | n+1,k2,l1=>
  if (0:Int)≤k2 then
   Option.bind (addC i (1:Int)) fun v5=>
   Option.bind (M.lcs_lengths_1 v5 k2 l1 v) fun v1_=>
   Option.bind (addC k2 (1:Int)) fun v6=>
   Option.bind (M.lcs_lengths_1 i v6 l1 v) fun v1_1=>
   Option.bind (
     Option.bind (idx a i) fun v7=>
     Option.bind (idx b k2) fun v8=>
     if (v7==v8)=true then
      Option.bind (addC i (1:Int)) fun v9=>
      Option.bind (addC k2 (1:Int)) fun v10=>
      Option.bind (M.lcs_lengths_1 v9 v10 l1 v) fun v1_2=>
      Option.bind (addC v1_2 (1:Int)) fun v11=>
      some (max (max v1_ v1_1) v11,l1)
     else
      some (max v1_ v1_1,l1)
    ) fun (n0_,l2)=>
    Option.bind (mulC i v) fun v12=>
    Option.bind (addC v12 k2) fun v13=>
    Option.bind (idx l2 v13) fun v14=>
    Option.bind (setC l2 v13 n0_) fun w=>
    Option.bind (subC k2 (1:Int)) fun v15=>
    M.lcs_lengths_loop2 a b v i n v15 w
  else
   some l1
def M.lcs_lengths_loop1(a:List Str)(b:List Str)(v:Int):Nat→Int→(List Int)→Option ((List Int))
 | 0,_,_=>none
 | n+1,i,l=>
  if (0:Int)≤i then
   Option.bind (subC (b.length:Int) (1:Int)) fun v4=>
   Option.bind (M.lcs_lengths_loop2 a b v i n v4 l) fun l1=>
    Option.bind (subC i (1:Int)) fun v16=>
    M.lcs_lengths_loop1 a b v n v16 l1
  else
   some l
def M.lcs_lengths(n:Nat)(a:List Str)(b:List Str):Option (Int→Int→Option Int):=
 Option.bind (addC (b.length:Int) (1:Int)) fun v=>
 Option.bind (addC (a.length:Int) (1:Int)) fun v1=>
 Option.bind (mulC v1 v) fun v2=>
 Option.bind (makeC (0:Int) v2) fun mk=>
 Option.bind (subC (a.length:Int) (1:Int)) fun v3=>
 Option.bind (M.lcs_lengths_loop1 a b v n v3 mk) fun l=>
  some (fun s0 s1=>M.lcs_lengths_1_p s0 s1 l v)
def M.lcs_Pairs_1_loop2(i:Int)(k:Int)(c:List Str)(c1:List Str)(c2:Int→Int→Option Int)(x:Int):Nat→Int→api_Pair→Option (api_Pair ⊕ api_Pair)
 | 0,_,_=>none
 | n+1,y,v1=>
  if y<(c1.length:Int) then
   Option.bind (idx c x) fun v2=>
   Option.bind (idx c1 y) fun v3=>
   if (v2==v3)=true then
    Option.bind (addC x (1:Int)) fun v4=>
    Option.bind (addC y (1:Int)) fun v5=>
    Option.bind (c2 v4 v5) fun v6=>
    Option.bind (addC v6 (1:Int)) fun v7=>
    Option.bind (c2 i k) fun v8=>
    if v7=v8 then
     some (.inr (⟨x,y⟩:api_Pair))
    else
     M.lcs_Pairs_1_loop2 i k c c1 c2 x n (y+1) v1
   else
    M.lcs_Pairs_1_loop2 i k c c1 c2 x n (y+1) v1
  else
   some (.inl v1)
def M.lcs_Pairs_1_loop1(i:Int)(k:Int)(c:List Str)(c1:List Str)(c2:Int→Int→Option Int):Nat→Int→api_Pair→Option (api_Pair ⊕ api_Pair)
 | 0,_,_=>none
 | n+1,x,v=>
  if x<(c.length:Int) then
   Option.bind (M.lcs_Pairs_1_loop2 i k c c1 c2 x n k v) fun
    | .inl v1=>
     Option.bind (addC x (1:Int)) fun v9=>
     M.lcs_Pairs_1_loop1 i k c c1 c2 n v9 v1
    | .inr ret0=>some (.inr ret0)
  else
   some (.inl v)
def M.lcs_Pairs_1(n:Nat)(i:Int)(k:Int)(c:List Str)(c1:List Str)(c2:Int→Int→Option Int):Option api_Pair:=
 Option.bind (M.lcs_Pairs_1_loop1 i k c c1 c2 n i zapi_Pair) fun
  | .inl v=>
   some (⟨(c.length:Int),(c1.length:Int)⟩:api_Pair)
  | .inr ret0=>some ret0
def M.lcs_Pairs_loop1(length:Int→Int→Option Int)(fn:Int→Int→Option api_Pair):Nat→(List api_Pair)→Int→Int→Option ((List api_Pair))
 | 0,_,_,_=>none
 | n+1,out,i,k=>
  Option.bind (length i k) fun v=>
  if (0:Int)< v then
   Option.bind (fn i k) fun v1=>
   Option.bind (appC out [v1]) fun out1=>
   Option.bind (addC v1.A (1:Int)) fun v2=>
   Option.bind (addC v1.B (1:Int)) fun v3=>
   M.lcs_Pairs_loop1 length fn n out1 v2 v3
  else
   some out
def M.lcs_Pairs(n:Nat)(a:List Str)(b:List Str):Option (List api_Pair):=
 Option.bind (M.lcs_long n [a,b]) fun long=>
 if long=true then
  some ([]:List api_Pair)
 else
  Option.bind (M.lcs_lengths n a b) fun length=>
  Option.bind (some (fun s0 s1=>M.lcs_Pairs_1 n s0 s1 a b length)) fun fn=>
  Option.bind (M.lcs_Pairs_loop1 length fn n ([]:List api_Pair) (0:Int) (0:Int)) fun out=>
   some out
def M.redline_words_1(s0_:Str)(x:Str)(c:Str→Option api_TrackedWord):Option api_TrackedWord:=
 Option.bind (c s0_) fun v=>
 some v
def M.slices_Clone_api_Pair_api_Pair(l:List api_Pair):Option (List api_Pair):=appC [] l
def M.redline_woven_string_string_api_TrackedWord_loop3(b:List Str)(comes:Str→Option api_TrackedWord)(e:api_Pair):Nat→(List api_TrackedWord)→Int→Option ((List api_TrackedWord)×Int)
 | 0,_,_=>none
 | n+1,out4,k6=>
  if k6<e.B then
   Option.bind (idx b k6) fun v3=>
   Option.bind (comes v3) fun v4=>
   Option.bind (appC out4 [v4]) fun out5=>
   Option.bind (addC k6 (1:Int)) fun v5=>
   M.redline_woven_string_string_api_TrackedWord_loop3 b comes e n out5 v5
  else
   some (out4,k6)
def M.redline_woven_string_string_api_TrackedWord_loop2(a:List Str)(goes:Str→Option api_TrackedWord)(e:api_Pair):Nat→(List api_TrackedWord)→Int→Option ((List api_TrackedWord)×Int)
 | 0,_,_=>none
 | n+1,out2,i2=>
  if i2<e.A then
   Option.bind (idx a i2) fun v=>
   Option.bind (goes v) fun v1=>
   Option.bind (appC out2 [v1]) fun out3=>
   Option.bind (addC i2 (1:Int)) fun v2=>
   M.redline_woven_string_string_api_TrackedWord_loop2 a goes e n out3 v2
  else
   some (out2,i2)
def M.redline_woven_string_string_api_TrackedWord_loop1(n:Nat)(a:List Str)(b:List Str)(goes:Str→Option api_TrackedWord)(comes:Str→Option api_TrackedWord)(stays:Str→Str→Option api_TrackedWord):List api_Pair→(List api_TrackedWord)→Int→Int→Option ((List api_TrackedWord))
 | [],out1,i,k2=>
  some out1
 | e :: es,out1,i,k2=>
  Option.bind (M.redline_woven_string_string_api_TrackedWord_loop2 a goes e n out1 i) fun (out2,i2)=>
   Option.bind (M.redline_woven_string_string_api_TrackedWord_loop3 b comes e n out2 k2) fun (out4,k6)=>
    Option.bind (
      if e.A<(a.length:Int) then
       some (decide (e.B<(b.length:Int)))
      else
       some false
     ) fun v6=>
     if v6=true then
      Option.bind (idx a i2) fun v7=>
      Option.bind (idx b k6) fun v8=>
      Option.bind (stays v7 v8) fun v9=>
      Option.bind (appC out4 [v9]) fun out6=>
      Option.bind (addC i2 (1:Int)) fun v10=>
      Option.bind (addC k6 (1:Int)) fun v11=>
      M.redline_woven_string_string_api_TrackedWord_loop1 n a b goes comes stays es out6 v10 v11
     else
      M.redline_woven_string_string_api_TrackedWord_loop1 n a b goes comes stays es out4 i2 k6
def M.redline_woven_string_string_api_TrackedWord(n:Nat)(a:List Str)(b:List Str)(pairs:List api_Pair)(goes:Str→Option api_TrackedWord)(comes:Str→Option api_TrackedWord)(stays:Str→Str→Option api_TrackedWord):Option (List api_TrackedWord):=
 Option.bind (M.slices_Clone_api_Pair_api_Pair pairs) fun pair=>
 Option.bind (appC pair [(⟨(a.length:Int),(b.length:Int)⟩:api_Pair)]) fun out=>
 Option.bind (M.redline_woven_string_string_api_TrackedWord_loop1 n a b goes comes stays out ([]:List api_TrackedWord) (0:Int) (0:Int)) fun out1=>
  some out1
def M.redline_words(n:Nat)(a:List api_Word)(b:List api_Word):Option (List api_TrackedWord):=
 Option.bind (M.redline_texts a) fun texts=>
 Option.bind (M.redline_texts b) fun texts1=>
 Option.bind (M.redline_word (0:Int)) fun word=>
 Option.bind (M.lcs_Pairs n texts texts1) fun pairs=>
 Option.bind (M.redline_word (2:Int)) fun word1=>
 Option.bind (M.redline_word (1:Int)) fun word2=>
 Option.bind (M.redline_woven_string_string_api_TrackedWord n texts texts1 pairs word1 word2 (fun s0 s1=>M.redline_words_1 s0 s1 word)) fun tracke=>
 some tracke
def M.redline_books_fresh_1(y:api_Unit)(c:api_Unit):Option Bool:=
 some (decide (y.Id=c.Id))
def M.slices_IndexFunc_api_Unit_api_Unit_loop1(s0_:List api_Unit)(f:api_Unit→Option Bool):Nat→Int→Option (Unit ⊕ Int)
 | 0,_=>none
 | n+1,v=>
  if v<(s0_.length:Int) then
   Option.bind (idx s0_ v) fun v1=>
   Option.bind (f v1) fun v2=>
   if v2=true then
    some (.inr v)
   else
    M.slices_IndexFunc_api_Unit_api_Unit_loop1 s0_ f n (v+1)
  else
   some (.inl ())
def M.slices_IndexFunc_api_Unit_api_Unit(n:Nat)(s0_:List api_Unit)(f:api_Unit→Option Bool):Option Int:=
 Option.bind (M.slices_IndexFunc_api_Unit_api_Unit_loop1 s0_ f n (0:Int)) fun
  | .inl _=>
   some (-1:Int)
  | .inr ret0=>some ret0
def M.redline_books_gone_loop1(x:redline_books)(slf:redline_books→api_Unit→Option api_TrackedUnit):List api_Unit→api_TrackedUnit→Option api_TrackedUnit
 | [],t=>
  some t
 | e :: es,t=>
  Option.bind (slf x e) fun gone=>
  Option.bind (appC t.Kids [gone]) fun out=>
  M.redline_books_gone_loop1 x slf es ({t with Kids:=out}:api_TrackedUnit)
def M.redline_books_gone:Nat→redline_books→api_Unit→Option api_TrackedUnit
 | 0,_,_=>none
 | n+1,x,u=>
  if ((mget x.b_ u.Id zapi_Unit,mhas x.b_ u.Id).2)=true then
   some (⟨(2:Int),(0:Int),u.Id,([]:Str),([]:Str),true,([]:List api_TrackedWord),([]:List api_TrackedWord),([]:List api_TrackedUnit)⟩:api_TrackedUnit)
  else
   Option.bind (M.redline_words n u.Head ([]:List api_Word)) fun words=>
   Option.bind (M.redline_words n u.Words ([]:List api_Word)) fun words1=>
   Option.bind (M.redline_books_gone_loop1 x (M.redline_books_gone n) u.Kids (⟨(2:Int),u.Kind,u.Id,u.Label,([]:Str),false,words,words1,([]:List api_TrackedUnit)⟩:api_TrackedUnit)) fun t=>
    some t
def M.redline_books_fresh_2(slf:redline_books→api_Unit→Option api_TrackedUnit)(x:api_Unit)(y:api_Unit)(c:redline_books):Option api_TrackedUnit:=
 Option.bind (slf c y) fun fresh=>
 some fresh
def M.redline_woven_api_Unit_api_Unit_api_TrackedUnit_loop3(b:List api_Unit)(comes:api_Unit→Option api_TrackedUnit)(e:api_Pair):Nat→(List api_TrackedUnit)→Int→Option ((List api_TrackedUnit)×Int)
 | 0,_,_=>none
 | n+1,out4,k6=>
  if k6<e.B then
   Option.bind (idx b k6) fun v3=>
   Option.bind (comes v3) fun v4=>
   Option.bind (appC out4 [v4]) fun out5=>
   Option.bind (addC k6 (1:Int)) fun v5=>
   M.redline_woven_api_Unit_api_Unit_api_TrackedUnit_loop3 b comes e n out5 v5
  else
   some (out4,k6)
def M.redline_woven_api_Unit_api_Unit_api_TrackedUnit_loop2(a:List api_Unit)(goes:api_Unit→Option api_TrackedUnit)(e:api_Pair):Nat→(List api_TrackedUnit)→Int→Option ((List api_TrackedUnit)×Int)
 | 0,_,_=>none
 | n+1,out2,i2=>
  if i2<e.A then
   Option.bind (idx a i2) fun v=>
   Option.bind (goes v) fun v1=>
   Option.bind (appC out2 [v1]) fun out3=>
   Option.bind (addC i2 (1:Int)) fun v2=>
   M.redline_woven_api_Unit_api_Unit_api_TrackedUnit_loop2 a goes e n out3 v2
  else
   some (out2,i2)
def M.redline_woven_api_Unit_api_Unit_api_TrackedUnit_loop1(n:Nat)(a:List api_Unit)(b:List api_Unit)(goes:api_Unit→Option api_TrackedUnit)(comes:api_Unit→Option api_TrackedUnit)(stays:api_Unit→api_Unit→Option api_TrackedUnit):List api_Pair→(List api_TrackedUnit)→Int→Int→Option ((List api_TrackedUnit))
 | [],out1,i,k2=>
  some out1
 | e :: es,out1,i,k2=>
  Option.bind (M.redline_woven_api_Unit_api_Unit_api_TrackedUnit_loop2 a goes e n out1 i) fun (out2,i2)=>
   Option.bind (M.redline_woven_api_Unit_api_Unit_api_TrackedUnit_loop3 b comes e n out2 k2) fun (out4,k6)=>
    Option.bind (
      if e.A<(a.length:Int) then
       some (decide (e.B<(b.length:Int)))
      else
       some false
     ) fun v6=>
     if v6=true then
      Option.bind (idx a i2) fun v7=>
      Option.bind (idx b k6) fun v8=>
      Option.bind (stays v7 v8) fun v9=>
      Option.bind (appC out4 [v9]) fun out6=>
      Option.bind (addC i2 (1:Int)) fun v10=>
      Option.bind (addC k6 (1:Int)) fun v11=>
      M.redline_woven_api_Unit_api_Unit_api_TrackedUnit_loop1 n a b goes comes stays es out6 v10 v11
     else
      M.redline_woven_api_Unit_api_Unit_api_TrackedUnit_loop1 n a b goes comes stays es out4 i2 k6
def M.redline_woven_api_Unit_api_Unit_api_TrackedUnit(n:Nat)(a:List api_Unit)(b:List api_Unit)(pairs:List api_Pair)(goes:api_Unit→Option api_TrackedUnit)(comes:api_Unit→Option api_TrackedUnit)(stays:api_Unit→api_Unit→Option api_TrackedUnit):Option (List api_TrackedUnit):=
 Option.bind (M.slices_Clone_api_Pair_api_Pair pairs) fun pair=>
 Option.bind (appC pair [(⟨(a.length:Int),(b.length:Int)⟩:api_Pair)]) fun out=>
 Option.bind (M.redline_woven_api_Unit_api_Unit_api_TrackedUnit_loop1 n a b goes comes stays out ([]:List api_TrackedUnit) (0:Int) (0:Int)) fun out1=>
  some out1
def M.redline_books_fresh_loop1(n:Nat)(x:redline_books)(u:api_Unit):List api_Unit→Int→(List api_Pair)→Option ((List api_Pair))
 | [],_,pairs=>
  some pairs
 | e :: es,i,pairs=>
  Option.bind (
    if ((mget x.b_ e.Id zapi_Unit,mhas x.b_ e.Id).2)=true then
     some (!(mget x.moved_ e.Id false))
    else
     some false
   ) fun v=>
   if v=true then
    Option.bind (M.slices_IndexFunc_api_Unit_api_Unit n u.Kids (fun s0=>M.redline_books_fresh_1 s0 e)) fun unit=>
    Option.bind (appC pairs [(⟨i,unit⟩:api_Pair)]) fun pairs1=>
    M.redline_books_fresh_loop1 n x u es (i+1) pairs1
   else
    M.redline_books_fresh_loop1 n x u es (i+1) pairs
def M.redline_books_fresh:Nat→redline_books→api_Unit→Option api_TrackedUnit
 | 0,_,_=>none
 | n+1,x,u=>
  Option.bind (M.redline_words n (((mget x.a_ u.Id zapi_Unit,mhas x.a_ u.Id).1).Head) u.Head) fun words=>
  Option.bind (M.redline_words n (((mget x.a_ u.Id zapi_Unit,mhas x.a_ u.Id).1).Words) u.Words) fun words1=>
  Option.bind (
    if ((mget x.a_ u.Id zapi_Unit,mhas x.a_ u.Id).2)=false then
     some ({(⟨(0:Int),u.Kind,u.Id,u.Label,([]:Str),mget x.moved_ u.Id false,words,words1,([]:List api_TrackedUnit)⟩:api_TrackedUnit) with State:=(1:Int)}:api_TrackedUnit)
    else
     if ((⟨(0:Int),u.Kind,u.Id,u.Label,([]:Str),mget x.moved_ u.Id false,words,words1,([]:List api_TrackedUnit)⟩:api_TrackedUnit).Moved)=true then
      some ({(⟨(0:Int),u.Kind,u.Id,u.Label,([]:Str),mget x.moved_ u.Id false,words,words1,([]:List api_TrackedUnit)⟩:api_TrackedUnit) with State:=(1:Int)}:api_TrackedUnit)
     else
      some (⟨(0:Int),u.Kind,u.Id,u.Label,([]:Str),mget x.moved_ u.Id false,words,words1,([]:List api_TrackedUnit)⟩:api_TrackedUnit)
   ) fun t=>
   Option.bind (
     if ((mget x.a_ u.Id zapi_Unit,mhas x.a_ u.Id).2)=true then
      if ((((mget x.a_ u.Id zapi_Unit,mhas x.a_ u.Id).1).Label) !=u.Label)=true then
       some ({t with Was:=((mget x.a_ u.Id zapi_Unit,mhas x.a_ u.Id).1).Label}:api_TrackedUnit)
      else
       some t
     else
      some t
    ) fun t1=>
    Option.bind (M.redline_books_fresh_loop1 n x u (((mget x.a_ u.Id zapi_Unit,mhas x.a_ u.Id).1).Kids) (0:Int) ([]:List api_Pair)) fun pairs=>
     Option.bind (M.redline_woven_api_Unit_api_Unit_api_TrackedUnit n (((mget x.a_ u.Id zapi_Unit,mhas x.a_ u.Id).1).Kids) u.Kids pairs (fun s0=>M.redline_books_gone n x s0) (fun s0=>(M.redline_books_fresh n) x s0) (fun s0 s1=>M.redline_books_fresh_2 (M.redline_books_fresh n) s0 s1 x)) fun tracke=>
     some ({t1 with Kids:=tracke}:api_TrackedUnit)
def M.redline_Diff(n:Nat)(a:api_Unit)(b:api_Unit):Option (api_TrackedUnit×Int):=
 Option.bind (M.redline_held n a b) fun held=>
 if held.2=false then
  some ((⟨(0:Int),(0:Int),zapi_Id,([]:Str),([]:Str),false,([]:List api_TrackedWord),([]:List api_TrackedWord),([]:List api_TrackedUnit)⟩:api_TrackedUnit),(1:Int))
 else
  Option.bind (M.redline_books_fresh n held.1 b) fun fresh=>
  some (fresh,(0:Int))
def M.r53_number(n0_:Int):Option Bool:=
 if (0:Int)≤n0_ then
  some (decide (n0_≤(1048576:Int)))
 else
  some false
def M.r53_numbers(id:api_Id):Option Bool:=
 Option.bind (M.r53_number id.Act) fun number=>
 if number=true then
  Option.bind (M.r53_number id.Item) fun number1=>
  if number1=true then
   Option.bind (M.r53_number id.N) fun number2=>
   some number2
  else
   some false
 else
  some false
def M.r53_Place(t:api_TrackedUnit):Option Bool:=
 if t.State=(2:Int) then
  if t.Moved=true then
   Option.bind (M.r53_numbers t.Id) fun number=>
   if number=true then
    if t.Kind=(0:Int) then
     if (t.Label==([]:Str))=true then
      if (t.Was==([]:Str))=true then
       Option.bind (addC (t.Head.length:Int) (t.Words.length:Int)) fun v=>
       Option.bind (addC v (t.Kids.length:Int)) fun v1=>
       some (decide (v1=(0:Int)))
      else
       some false
     else
      some false
    else
     some false
   else
    some false
  else
   some false
 else
  some false
def M.r04_Word_loop1(s0_:Str):Nat→Int→Option (Unit ⊕ Bool)
 | 0,_=>none
 | n+1,i=>
  if i<(s0_.length:Int) then
   Option.bind (idx s0_ i) fun b=>
   if (b.toNat:Int)< (33:Int) then
    some (.inr false)
   else
    Option.bind (idx s0_ i) fun b1=>
    if (126:Int)< (b1.toNat:Int) then
     some (.inr false)
    else
     M.r04_Word_loop1 s0_ n (i+1)
  else
   some (.inl ())
def M.r04_Word(n:Nat)(s0_:Str):Option Bool:=
 Option.bind (
   if (s0_.length:Int)< (1:Int) then
    some true
   else
    some (decide ((24:Int)< (s0_.length:Int)))
  ) fun v=>
  if v=true then
   some false
  else
   Option.bind (M.r04_Word_loop1 s0_ n (0:Int)) fun
    | .inl _=>
     some true
    | .inr ret0=>some ret0
def M.r53_MayRow_loop1(l:List api_TrackedWord):Nat→Int→Option (Unit ⊕ Bool)
 | 0,_=>none
 | n+1,i=>
  if i<(l.length:Int) then
   Option.bind (idx l i) fun v=>
   Option.bind (M.r04_Word n v.Text) fun word=>
   if word=false then
    some (.inr false)
   else
    Option.bind (idx l i) fun v1=>
    if v1.State<(0:Int) then
     some (.inr false)
    else
     Option.bind (idx l i) fun v2=>
     if (2:Int)< v2.State then
      some (.inr false)
     else
      M.r53_MayRow_loop1 l n (i+1)
  else
   some (.inl ())
def M.r53_MayRow(n:Nat)(l:List api_TrackedWord):Option Bool:=
 Option.bind (M.r53_MayRow_loop1 l n (0:Int)) fun
  | .inl _=>
   some (decide ((l.length:Int)≤(512:Int)))
  | .inr ret0=>some ret0
def M.r03_digits_loop1(s0_:Str):Nat→Int→Option Int
 | 0,_=>none
 | n+1,n0_=>
  if n0_<(s0_.length:Int) then
   Option.bind (idx s0_ n0_) fun b=>
   if (48:Int)≤(b.toNat:Int) then
    Option.bind (idx s0_ n0_) fun b1=>
    if (b1.toNat:Int)≤(57:Int) then
     M.r03_digits_loop1 s0_ n (n0_+1)
    else
     some n0_
   else
    some n0_
  else
   some n0_
def M.r03_digits(n:Nat)(s0_:Str):Option Int:=
 Option.bind (M.r03_digits_loop1 s0_ n (0:Int)) fun n0_=>
  some n0_
def M.r03_May_loop1(s0_:Str):Nat→Int→Option (Unit ⊕ Bool)
 | 0,_=>none
 | n+1,i=>
  if i<(s0_.length:Int) then
   Option.bind (idx s0_ i) fun b1=>
   if (b1.toNat:Int)< (65:Int) then
    some (.inr false)
   else
    Option.bind (idx s0_ i) fun b2=>
    if (90:Int)< (b2.toNat:Int) then
     some (.inr false)
    else
     M.r03_May_loop1 s0_ n (i+1)
  else
   some (.inl ())
def M.r03_May(n:Nat)(s0_:Str):Option Bool:=
 Option.bind (M.r03_digits n s0_) fun digits=>
 Option.bind (
   if digits<(1:Int) then
    some true
   else
    if (4:Int)< digits then
     some true
    else
     Option.bind (idx s0_ (0:Int)) fun b=>
     if (b.toNat:Int)=(48:Int) then
      some true
     else
      Option.bind (subC (s0_.length:Int) digits) fun v1=>
      some (decide ((3:Int)< v1))
  ) fun v=>
  if v=true then
   some false
  else
   Option.bind (M.r03_May_loop1 s0_ n digits) fun
    | .inl _=>
     some true
    | .inr ret0=>some ret0
def M.r53_own(n:Nat)(t:api_TrackedUnit):Option Bool:=
 Option.bind (
   if t.Kind<(0:Int) then
    some true
   else
    if (7:Int)< t.Kind then
     some true
    else
     Option.bind (M.r53_numbers t.Id) fun number=>
     if number=false then
      some true
     else
      Option.bind (M.r53_MayRow n t.Head) fun mayrow=>
      if mayrow=false then
       some true
      else
       Option.bind (M.r53_MayRow n t.Words) fun mayrow1=>
       some (!mayrow1)
  ) fun v=>
  if v=true then
   some false
  else
   Option.bind (
     if ((decide (t.Kind=(0:Int))) !=(t.Label==([]:Str)))=true then
      some true
     else
      if (t.Label !=([]:Str))=true then
       Option.bind (M.r03_May n t.Label) fun may=>
       some (!may)
      else
       some false
    ) fun v1=>
    if v1=true then
     some false
    else
     Option.bind (
       if (t.Was !=([]:Str))=true then
        Option.bind (M.r03_May n t.Was) fun may1=>
        if may1=false then
         some true
        else
         some (t.Was==t.Label)
       else
        some false
      ) fun v2=>
      if v2=true then
       some false
      else
       if t.State=(1:Int) then
        some true
       else
        if t.State=(0:Int) then
         some (!t.Moved)
        else
         if t.State=(2:Int) then
          some (!t.Moved)
         else
          some false
def M.r53_may_loop1(t:api_TrackedUnit)(depth:Int)(slf:api_TrackedUnit→Int→Option Bool):Nat→Int→Option (Unit ⊕ Bool)
 | 0,_=>none
 | n+1,i=>
  if i<(t.Kids.length:Int) then
   Option.bind (idx t.Kids i) fun v1=>
   Option.bind (addC depth (1:Int)) fun v2=>
   Option.bind (slf v1 v2) fun may=>
   if may=false then
    some (.inr false)
   else
    M.r53_may_loop1 t depth slf n (i+1)
  else
   some (.inl ())
def M.r53_may:Nat→api_TrackedUnit→Int→Option Bool
 | 0,_,_=>none
 | n+1,t,depth=>
  if (8:Int)< depth then
   some false
  else
   Option.bind (
     if (0:Int)< depth then
      Option.bind (M.r53_Place t) fun place=>
      some place
     else
      some false
    ) fun v=>
    if v=true then
     some true
    else
     Option.bind (M.r53_own n t) fun own=>
     if own=false then
      some false
     else
      Option.bind (M.r53_may_loop1 t depth (M.r53_may n) n (0:Int)) fun
       | .inl _=>
        some true
       | .inr ret0=>some ret0
def M.r53_May(n:Nat)(t:api_TrackedUnit):Option Bool:=
 Option.bind (M.r53_may n t (0:Int)) fun may=>
 some may
def M.r06_Count_loop1(u:api_Unit)(slf:api_Unit→Option Int):Nat→Int→Int→Option Int
 | 0,_,_=>none
 | n+1,n0_,i=>
  if i<(u.Kids.length:Int) then
   Option.bind (idx u.Kids i) fun v=>
   Option.bind (slf v) fun count=>
   Option.bind (addC n0_ count) fun v1=>
   M.r06_Count_loop1 u slf n v1 (i+1)
  else
   some n0_
def M.r06_Count:Nat→api_Unit→Option Int
 | 0,_=>none
 | n+1,u=>
  Option.bind (M.r06_Count_loop1 u (M.r06_Count n) n (1:Int) (0:Int)) fun n0_=>
   some n0_
def M.r04_Pieces_loop1(s0_:Str):Nat→(List Str)→Int→Int→Option ((List Str))
 | 0,_,_,_=>none
 | n+1,out,from0_,i=>
  if i≤(s0_.length:Int) then
   Option.bind (
     if i=(s0_.length:Int) then
      some true
     else
      Option.bind (idx s0_ i) fun b=>
      some (decide ((b.toNat:Int)=(32:Int)))
    ) fun v=>
    if v=true then
     Option.bind (slc s0_ from0_ i) fun v1=>
     Option.bind (appC out [v1]) fun out1=>
     Option.bind (addC i (1:Int)) fun v2=>
     Option.bind (addC i (1:Int)) fun v3=>
     M.r04_Pieces_loop1 s0_ n out1 v2 v3
    else
     Option.bind (addC i (1:Int)) fun v4=>
     M.r04_Pieces_loop1 s0_ n out from0_ v4
  else
   some out
def M.r04_Pieces(n:Nat)(s0_:Str):Option (List Str):=
 if (s0_==([]:Str))=true then
  some ([]:List Str)
 else
  Option.bind (M.r04_Pieces_loop1 s0_ n ([]:List Str) (0:Int) (0:Int)) fun out=>
   some out
def M.law53_MarkupUnchanged_loop3(pieces:List Str):Nat→Int→Option (Unit ⊕ Bool)
 | 0,_=>none
 | n+1,k=>
  if k<(pieces.length:Int) then
   Option.bind (idx pieces k) fun v7=>
   if (v7==([91,43]:Str))=true then
    some (.inr false)
   else
    Option.bind (idx pieces k) fun v8=>
    if (v8==([43,93]:Str))=true then
     some (.inr false)
    else
     Option.bind (idx pieces k) fun v9=>
     if (v9==([91,45]:Str))=true then
      some (.inr false)
     else
      Option.bind (idx pieces k) fun v10=>
      if (v10==([45,93]:Str))=true then
       some (.inr false)
      else
       M.law53_MarkupUnchanged_loop3 pieces n (k+1)
  else
   some (.inl ())
def M.law53_MarkupUnchanged_loop2(lines:List Str)(i:Int):Nat→Int→Option Int
 | 0,_=>none
 | n+1,at0_=>
  Option.bind (idx lines i) fun v1=>
  if at0_<(v1.length:Int) then
   Option.bind (idx lines i) fun v2=>
   Option.bind (idx v2 at0_) fun b1=>
   if (b1.toNat:Int)=(32:Int) then
    M.law53_MarkupUnchanged_loop2 lines i n (at0_+1)
   else
    some at0_
  else
   some at0_
def M.law53_MarkupUnchanged_loop1(lines:List Str):Nat→Int→Option (Unit ⊕ Bool)
 | 0,_=>none
 | n+1,i=>
  if i<(lines.length:Int) then
   Option.bind (M.law53_MarkupUnchanged_loop2 lines i n (0:Int)) fun at0_=>
    Option.bind (
      Option.bind (idx lines i) fun v4=>
      if (v4.length:Int)≤at0_ then
       some true
      else
       Option.bind (idx lines i) fun v5=>
       Option.bind (idx v5 at0_) fun b2=>
       some (decide ((b2.toNat:Int)≠(61:Int)))
     ) fun v3=>
     if v3=true then
      some (.inr false)
     else
      Option.bind (idx lines i) fun v6=>
      Option.bind (M.r04_Pieces n v6) fun pieces=>
      Option.bind (M.law53_MarkupUnchanged_loop3 pieces n (0:Int)) fun
       | .inl _=>
        Option.bind (addC i (1:Int)) fun v11=>
        M.law53_MarkupUnchanged_loop1 lines n v11
       | .inr ret0=>some (.inr ret0)
  else
   some (.inl ())
def M.law53_MarkupUnchanged(n:Nat)(a:api_Unit):Option Bool:=
 Option.bind (M.law53_awake n) fun awake=>
 if awake=false then
  some false
 else
  Option.bind (M.r06_Few n a (16:Int)) fun few=>
  if few=false then
   some true
  else
   Option.bind (M.redline_Diff n a a) fun diff=>
   Option.bind (
     if diff.2≠(0:Int) then
      some true
     else
      Option.bind (M.r53_May n diff.1) fun may=>
      some (!may)
    ) fun v=>
    if v=true then
     some true
    else
     Option.bind (M.markup_Lines n diff.1) fun lines=>
     Option.bind (M.r06_Count n a) fun count=>
     if (lines.length:Int)≠count then
      some false
     else
      Option.bind (M.law53_MarkupUnchanged_loop1 lines n (0:Int)) fun
       | .inl _=>
        some true
       | .inr ret0=>some ret0
end Go.Proofs.YtalogjkalmkpjaaGreatDoor
