/-
  What the functions compute: plain functions, written by program out of the code; no machine in sight.
-/
import Derived.Test.YtlegkjbldofkmaaGreatMod
set_option linter.unusedVariables false
set_option linter.unusedSimpArgs false
namespace Go.Proofs.YtlegkjbldofkmaaGreat
open Go Go.Dec
structure api_Id where
 Act:Int
 Item:Int
 N:Int
theorem api_Id.eq_iff(a b:api_Id):(a.Act=b.Act∧a.Item=b.Item∧a.N=b.N) ↔ a=b:=⟨fun h=>by cases a;cases b;simp_all,fun h=>by subst h;simp⟩
instance:DecidableEq api_Id:=fun a b=>decidable_of_iff _ (api_Id.eq_iff a b)
def zapi_Id:api_Id:=⟨(0:Int),(0:Int),(0:Int)⟩
structure api_Mark where
 Act:Int
 Item:Int
 At:Int
theorem api_Mark.eq_iff(a b:api_Mark):(a.Act=b.Act∧a.Item=b.Item∧a.At=b.At) ↔ a=b:=⟨fun h=>by cases a;cases b;simp_all,fun h=>by subst h;simp⟩
instance:DecidableEq api_Mark:=fun a b=>decidable_of_iff _ (api_Mark.eq_iff a b)
def zapi_Mark:api_Mark:=⟨(0:Int),(0:Int),(0:Int)⟩
structure api_Word where
 Text:Str
 By:api_Mark
theorem api_Word.eq_iff(a b:api_Word):(a.Text=b.Text∧a.By=b.By) ↔ a=b:=⟨fun h=>by cases a;cases b;simp_all,fun h=>by subst h;simp⟩
instance:DecidableEq api_Word:=fun a b=>decidable_of_iff _ (api_Word.eq_iff a b)
def zapi_Word:api_Word:=⟨([]:Str),zapi_Mark⟩
structure api_Unit where
 Id:api_Id
 Kind:Int
 Label:Str
 Head:List api_Word
 Words:List api_Word
 Kids:List api_Unit
def zapi_Unit:api_Unit:=⟨zapi_Id,(0:Int),([]:Str),([]:List api_Word),([]:List api_Word),([]:List api_Unit)⟩
structure api_Step where
 Kind:Int
 Label:Str
theorem api_Step.eq_iff(a b:api_Step):(a.Kind=b.Kind∧a.Label=b.Label) ↔ a=b:=⟨fun h=>by cases a;cases b;simp_all,fun h=>by subst h;simp⟩
instance:DecidableEq api_Step:=fun a b=>decidable_of_iff _ (api_Step.eq_iff a b)
def zapi_Step:api_Step:=⟨(0:Int),([]:Str)⟩
structure api_Cite where
 Kind:Int
 Path:List api_Step
 To:Str
 From:Int
 At:Int
def zapi_Cite:api_Cite:=⟨(0:Int),([]:List api_Step),([]:Str),(0:Int),(0:Int)⟩
structure resolve_scene where
 u_:api_Unit
 at_:api_Id
 said_:List api_Id
def zresolve_scene:resolve_scene:=⟨zapi_Unit,zapi_Id,([]:List api_Id)⟩
structure api_Meaning where
 At:api_Id
 N:Int
 To:List api_Id
def zapi_Meaning:api_Meaning:=⟨zapi_Id,(0:Int),([]:List api_Id)⟩
structure citation_reader where
 l_:List Str
 at_:Int
 ended_:Bool
def zcitation_reader:citation_reader:=⟨([]:List Str),(0:Int),false⟩
def M.address_book(s0_:api_Step):Option Bool:=
 if s0_.Kind=(0:Int) then
  some (s0_.Label==([]:Str))
 else
  some false
def M.strings_indexFunc_loop1(s0_:Str)(f:Int→Option Bool)(truth:Bool):Nat→Nat→Option (Nat ⊕ Int)
 | 0,_=>none
 | n+1,v=>
  if v<s0_.length then
   Option.bind (f ((runeAt s0_ v).1:Int)) fun v1=>
   if (v1==truth)=true then
    some (.inr (v:Int))
   else
    M.strings_indexFunc_loop1 s0_ f truth n (v+(runeAt s0_ v).2)
  else
   some (.inl v)
def M.strings_indexFunc(n:Nat)(s0_:Str)(f:Int→Option Bool)(truth:Bool):Option Int:=
 Option.bind (M.strings_indexFunc_loop1 s0_ f truth n 0) fun
  | .inl v=>
   some (-1:Int)
  | .inr ret0=>some ret0
def M.strings_IndexFunc(n:Nat)(s0_:Str)(f:Int→Option Bool):Option Int:=
 Option.bind (M.strings_indexFunc n s0_ f true) fun indexf=>
 some indexf
def M.label_parted_1(b:Int):Option Bool:=
 if b<(48:Int) then
  some true
 else
  some (decide ((57:Int)< b))
def M.label_parted(n:Nat)(s0_:Str):Option (Str×Str):=
 Option.bind (M.strings_IndexFunc n s0_ (fun s0=>M.label_parted_1 s0)) fun indexf=>
 if indexf<(0:Int) then
  some (s0_,([]:Str))
 else
  Option.bind (slcHi s0_ indexf) fun v=>
  Option.bind (slcLo s0_ indexf) fun v1=>
  some (v,v1)
def M.strings_ContainsFunc(n:Nat)(s0_:Str)(f:Int→Option Bool):Option Bool:=
 Option.bind (M.strings_IndexFunc n s0_ f) fun indexf=>
 some (decide ((0:Int)≤indexf))
def M.label_Valid_1(b:Int):Option Bool:=
 if b<(65:Int) then
  some true
 else
  some (decide ((90:Int)< b))
def M.label_Valid(n:Nat)(s0_:Str):Option Bool:=
 Option.bind (M.label_parted n s0_) fun parted=>
 if (1:Int)≤(parted.1.length:Int) then
  if (parted.1.length:Int)≤(4:Int) then
   Option.bind (idx parted.1 (0:Int)) fun b=>
   if (b.toNat:Int)≠(48:Int) then
    if (parted.2.length:Int)≤(3:Int) then
     Option.bind (M.strings_ContainsFunc n parted.2 (fun s0=>M.label_Valid_1 s0)) fun contai=>
     some (!contai)
    else
     some false
   else
    some false
  else
   some false
 else
  some false
def M.address_Valid_loop1(n:Nat):List api_Step→Int→Option (Unit ⊕ Bool)
 | [],_=>
  some (.inl ())
 | e :: es,i=>
  Option.bind (
    if i=(0:Int) then
     Option.bind (M.address_book e) fun book=>
     some book
    else
     some false
   ) fun v=>
   if v=true then
    M.address_Valid_loop1 n es (i+1)
   else
    if e.Kind≤(0:Int) then
     some (.inr false)
    else
     if (7:Int)< e.Kind then
      some (.inr false)
     else
      Option.bind (M.label_Valid n e.Label) fun valid=>
      if valid=false then
       some (.inr false)
      else
       M.address_Valid_loop1 n es (i+1)
def M.address_Valid(n:Nat)(p:List api_Step):Option Bool:=
 Option.bind (M.address_Valid_loop1 n p (0:Int)) fun
  | .inl _=>
   some (decide ((p.length:Int)≤(9:Int)))
  | .inr ret0=>some ret0
def M.address_called(u:api_Unit)(s0_:api_Step):Option Bool:=
 if u.Kind=s0_.Kind then
  some (u.Label==s0_.Label)
 else
  some false
def M.address_found_1(x:api_Unit)(c:List api_Step)(c1:List api_Unit):Option (List api_Unit):=
 Option.bind (idx c (0:Int)) fun v=>
 Option.bind (M.address_called x v) fun called=>
 if called=true then
  Option.bind (appC c1 [x]) fun out=>
  some out
 else
  some c1
def M.address_each_i0_loop1(c:List api_Step)(slf:api_Unit→(List api_Step)→(List api_Unit)→Option (List api_Unit)):List api_Unit→(List api_Unit)→Option ((List api_Unit))
 | [],v=>
  some v
 | e :: es,v=>
  Option.bind (slf e c v) fun w1=>
  M.address_each_i0_loop1 c slf es w1
def M.address_each_i0:Nat→api_Unit→(List api_Step)→(List api_Unit)→Option (List api_Unit)
 | 0,_,_,_=>none
 | n+1,u,c,c1=>
  Option.bind (M.address_found_1 u c c1) fun w=>
  Option.bind (M.address_each_i0_loop1 c (M.address_each_i0 n) u.Kids w) fun v=>
   some v
def M.address_found_loop3(e:api_Step):List api_Unit→(List api_Unit)→Option ((List api_Unit))
 | [],next1=>
  some next1
 | e2 :: es2,next1=>
  Option.bind (M.address_called e2 e) fun called=>
  if called=true then
   Option.bind (appC next1 [e2]) fun next2=>
   M.address_found_loop3 e es2 next2
  else
   M.address_found_loop3 e es2 next1
def M.address_found_loop2(e:api_Step):List api_Unit→(List api_Unit)→Option ((List api_Unit))
 | [],next=>
  some next
 | e1 :: es1,next=>
  Option.bind (M.address_found_loop3 e e1.Kids next) fun next1=>
   M.address_found_loop2 e es1 next1
def M.address_found_loop1:List api_Step→(List api_Unit)→Option ((List api_Unit))
 | [],at0_2=>
  some at0_2
 | e :: es,at0_2=>
  Option.bind (M.address_found_loop2 e at0_2 ([]:List api_Unit)) fun next=>
   M.address_found_loop1 es next
def M.address_found(n:Nat)(u:api_Unit)(p:List api_Step):Option ((List api_Unit)):=
 Option.bind (M.address_Valid n p) fun valid=>
 if valid=false then
  some ([]:List api_Unit)
 else
  Option.bind ((
    if (p.length:Int)=(0:Int) then
     some (.inr [u])
    else
     Option.bind (idx p (0:Int)) fun v=>
     Option.bind (M.address_book v) fun book=>
     if book=true then
      some (.inl [u])
     else
      Option.bind (M.address_each_i0 n u p ([]:List api_Unit)) fun at0_1=>
      some (.inl at0_1)
   ):Option (((List api_Unit)) ⊕ ((List api_Unit)))) fun
   | .inl at0_=>
    Option.bind (slcLo p (1:Int)) fun v1=>
    Option.bind (M.address_found_loop1 v1 at0_) fun at0_2=>
     some at0_2
   | .inr ret0=>some ret0
def M.address_FindAll_loop1:List api_Unit→(List api_Id)→Option ((List api_Id))
 | [],out=>
  some out
 | e :: es,out=>
  Option.bind (appC out [e.Id]) fun out1=>
  M.address_FindAll_loop1 es out1
def M.address_FindAll(n:Nat)(u:api_Unit)(p:List api_Step):Option ((List api_Id)):=
 Option.bind (M.address_found n u p) fun found=>
 Option.bind (M.address_FindAll_loop1 found ([]:List api_Id)) fun out=>
  some out
def M.address_FindOne(n:Nat)(u:api_Unit)(p:List api_Step):Option (api_Id×Int):=
 Option.bind (M.address_FindAll n u p) fun findal=>
 if (findal.length:Int)=(0:Int) then
  some ((⟨(0:Int),(0:Int),(0:Int)⟩:api_Id),(7:Int))
 else
  if (findal.length:Int)=(1:Int) then
   Option.bind (idx findal (0:Int)) fun v=>
   some (v,(0:Int))
  else
   some ((⟨(0:Int),(0:Int),(0:Int)⟩:api_Id),(8:Int))
def M.resolve_plain(n:Nat)(s0_:resolve_scene)(c:api_Cite):Option ((List api_Id)×Int):=
 Option.bind (M.address_FindOne n s0_.u_ c.Path) fun findon=>
 if findon.2≠(0:Int) then
  some (([]:List api_Id),findon.2)
 else
  some ([findon.1],(0:Int))
def M.unit_way_loop1(u:api_Unit)(id:api_Id)(slf:api_Unit→api_Id→Option ((List api_Unit))):List api_Unit→Option (Unit ⊕ ((List api_Unit)))
 | []=>
  some (.inl ())
 | e :: es=>
  Option.bind (slf e id) fun way=>
  if way.isEmpty=false then
   Option.bind (appC [u] way) fun out=>
   Option.bind (neC out) fun _=>
   some (.inr out)
  else
   M.unit_way_loop1 u id slf es
def M.unit_way:Nat→api_Unit→api_Id→Option ((List api_Unit))
 | 0,_,_=>none
 | n+1,u,id=>
  if u.Id=id then
   Option.bind (neC [u]) fun _=>
   some [u]
  else
   Option.bind (M.unit_way_loop1 u id (M.unit_way n) u.Kids) fun
    | .inl _=>
     some ([]:List api_Unit)
    | .inr ret0=>some ret0
def M.unit_Parent_1(n:Nat)(k:api_Unit)(c:api_Id):Option Bool:=
 Option.bind (M.unit_way n k c) fun way=>
 some (!way.isEmpty)
def M.slices_IndexFunc_api_Unit_api_Unit_loop1(s0_:List api_Unit)(f:api_Unit→Option Bool):Nat→Int→Option (Unit ⊕ Int)
 | 0,_=>none
 | n+1,v=>
  if v<(s0_.length:Int) then
   Option.bind (idx s0_ v) fun v1=>
   Option.bind (f v1) fun v2=>
   if v2=true then
    some (.inr v)
   else
    M.slices_IndexFunc_api_Unit_api_Unit_loop1 s0_ f n (v+1)
  else
   some (.inl ())
def M.slices_IndexFunc_api_Unit_api_Unit(n:Nat)(s0_:List api_Unit)(f:api_Unit→Option Bool):Option Int:=
 Option.bind (M.slices_IndexFunc_api_Unit_api_Unit_loop1 s0_ f n (0:Int)) fun
  | .inl _=>
   some (-1:Int)
  | .inr ret0=>some ret0
def M.unit_Parent(n:Nat)(u:api_Unit)(id:api_Id):Option (api_Id×Int×Bool):=
 Option.bind (M.unit_way n u id) fun way=>
 if (way.length:Int)< (2:Int) then
  some ((⟨(0:Int),(0:Int),(0:Int)⟩:api_Id),(-1:Int),false)
 else
  Option.bind (subC (way.length:Int) (2:Int)) fun v=>
  Option.bind (idx way v) fun v1=>
  Option.bind (M.slices_IndexFunc_api_Unit_api_Unit n v1.Kids (fun s0=>M.unit_Parent_1 n s0 id)) fun unit=>
  some (v1.Id,unit,true)
def M.slices_Clone_api_Word_api_Word(l:List api_Word):Option (List api_Word):=appC [] l
def M.unit_copied_loop1(slf:api_Unit→Option api_Unit):List api_Unit→(List api_Unit)→Option ((List api_Unit))
 | [],kids=>
  some kids
 | e :: es,kids=>
  Option.bind (slf e) fun copied=>
  Option.bind (appC kids [copied]) fun kids1=>
  M.unit_copied_loop1 slf es kids1
def M.unit_copied:Nat→api_Unit→Option api_Unit
 | 0,_=>none
 | n+1,u=>
  Option.bind (M.slices_Clone_api_Word_api_Word u.Head) fun word=>
  Option.bind (M.slices_Clone_api_Word_api_Word u.Words) fun word1=>
  Option.bind (M.unit_copied_loop1 (M.unit_copied n) (({({u with Head:=word}:api_Unit) with Words:=word1}:api_Unit).Kids) ([]:List api_Unit)) fun kids=>
   some ({({({u with Head:=word}:api_Unit) with Words:=word1}:api_Unit) with Kids:=kids}:api_Unit)
def M.unit_Find(n:Nat)(u:api_Unit)(id:api_Id):Option (api_Unit×Bool):=
 Option.bind (M.unit_way n u id) fun way=>
 if (way.length:Int)=(0:Int) then
  some ((⟨zapi_Id,(0:Int),([]:Str),([]:List api_Word),([]:List api_Word),([]:List api_Unit)⟩:api_Unit),false)
 else
  Option.bind (subC (way.length:Int) (1:Int)) fun v=>
  Option.bind (idx way v) fun v1=>
  Option.bind (M.unit_copied n v1) fun copied=>
  some (copied,true)
def M.resolve_row(n:Nat)(u:api_Unit)(id:api_Id):Option (api_Unit×Int×Bool):=
 Option.bind (M.unit_Parent n u id) fun parent=>
 Option.bind (M.unit_Find n u parent.1) fun find=>
 some (find.1,parent.2.1,parent.2.2)
def M.resolve_through_1(x:api_Unit)(c:api_Unit)(c1:Int)(c2:api_Cite):Option Bool:=
 Option.bind (idx c.Kids c1) fun v=>
 if x.Kind=v.Kind then
  some (x.Label==c2.To)
 else
  some false
def M.resolve_Between_loop1(row:api_Unit×Int×Bool):List api_Unit→(List api_Id)→Option ((List api_Id))
 | [],out=>
  some out
 | e :: es,out=>
  Option.bind (idx row.1.Kids row.2.1) fun v4=>
  if e.Kind=v4.Kind then
   Option.bind (appC out [e.Id]) fun out1=>
   M.resolve_Between_loop1 row es out1
  else
   M.resolve_Between_loop1 row es out
def M.resolve_Between(n:Nat)(u:api_Unit)(a:api_Id)(b:api_Id):Option ((List api_Id)):=
 Option.bind (M.resolve_row n u a) fun row=>
 Option.bind (M.resolve_row n u b) fun row1=>
 if row.2.2=false then
  some ([]:List api_Id)
 else
  if row1.2.2=false then
   some ([]:List api_Id)
  else
   if row.1.Id≠row1.1.Id then
    some ([]:List api_Id)
   else
    if row1.2.1<row.2.1 then
     some ([]:List api_Id)
    else
     Option.bind (idx row.1.Kids row.2.1) fun v=>
     Option.bind (idx row.1.Kids row1.2.1) fun v1=>
     if v.Kind≠v1.Kind then
      some ([]:List api_Id)
     else
      Option.bind (addC row1.2.1 (1:Int)) fun v2=>
      Option.bind (slc row.1.Kids row.2.1 v2) fun v3=>
      Option.bind (M.resolve_Between_loop1 row v3 ([]:List api_Id)) fun out=>
       some out
def M.resolve_through(n:Nat)(s0_:resolve_scene)(c:api_Cite):Option ((List api_Id)×Int):=
 Option.bind (M.address_FindOne n s0_.u_ c.Path) fun findon=>
 if findon.2≠(0:Int) then
  some (([]:List api_Id),findon.2)
 else
  Option.bind (M.resolve_row n s0_.u_ findon.1) fun row=>
  if row.2.2=false then
   some (([]:List api_Id),(7:Int))
  else
   Option.bind (M.slices_IndexFunc_api_Unit_api_Unit n row.1.Kids (fun s0=>M.resolve_through_1 s0 row.1 row.2.1 c)) fun unit=>
   if unit<(0:Int) then
    some (([]:List api_Id),(7:Int))
   else
    if unit<row.2.1 then
     some (([]:List api_Id),(12:Int))
    else
     Option.bind (idx row.1.Kids unit) fun v=>
     Option.bind (M.resolve_Between n s0_.u_ findon.1 v.Id) fun betwee=>
     some (betwee,(0:Int))
def M.unit_Ancestors_loop1(way:(List api_Unit)):Nat→(List api_Id)→Int→Option ((List api_Id))
 | 0,_,_=>none
 | n+1,out,i=>
  if (0:Int)≤i then
   Option.bind (idx way i) fun v1=>
   Option.bind (appC out [v1.Id]) fun out1=>
   Option.bind (subC i (1:Int)) fun v2=>
   M.unit_Ancestors_loop1 way n out1 v2
  else
   some out
def M.unit_Ancestors(n:Nat)(u:api_Unit)(id:api_Id):Option ((List api_Id)):=
 Option.bind (M.unit_way n u id) fun way=>
 Option.bind (subC (way.length:Int) (2:Int)) fun v=>
 Option.bind (M.unit_Ancestors_loop1 way n ([]:List api_Id) v) fun out=>
  some out
def M.resolve_Enclosing_loop1(n:Nat)(u:api_Unit)(kind:Int):List api_Id→api_Id→Option (api_Id ⊕ (api_Id×Bool))
 | [],v=>
  some (.inl v)
 | e :: es,v=>
  Option.bind (M.unit_Find n u e) fun find1=>
  if find1.1.Kind=kind then
   some (.inr (e,true))
  else
   M.resolve_Enclosing_loop1 n u kind es v
def M.resolve_Enclosing(n:Nat)(u:api_Unit)(at0_:api_Id)(kind:Int):Option (api_Id×Bool):=
 Option.bind (M.unit_Find n u at0_) fun find=>
 if find.2=false then
  some ((⟨(0:Int),(0:Int),(0:Int)⟩:api_Id),false)
 else
  Option.bind (M.unit_Ancestors n u at0_) fun ancest=>
  Option.bind (appC [at0_] ancest) fun out=>
  Option.bind (M.resolve_Enclosing_loop1 n u kind out zapi_Id) fun
   | .inl v=>
    some ((⟨(0:Int),(0:Int),(0:Int)⟩:api_Id),false)
   | .inr ret0=>some ret0
def M.resolve_down_1(y:api_Unit)(c:api_Step):Option Bool:=
 if y.Kind=c.Kind then
  some (y.Label==c.Label)
 else
  some false
def M.resolve_down_loop1(n:Nat):List api_Step→api_Unit→Option (api_Unit ⊕ ((List api_Id)×Int))
 | [],x=>
  some (.inl x)
 | e :: es,x=>
  Option.bind (M.slices_IndexFunc_api_Unit_api_Unit n x.Kids (fun s0=>M.resolve_down_1 s0 e)) fun unit=>
  if unit<(0:Int) then
   some (.inr (([]:List api_Id),(7:Int)))
  else
   Option.bind (idx x.Kids unit) fun v=>
   M.resolve_down_loop1 n es v
def M.resolve_down(n:Nat)(u:api_Unit)(id:api_Id)(p:List api_Step):Option ((List api_Id)×Int):=
 Option.bind (M.unit_Find n u id) fun find=>
 Option.bind (M.resolve_down_loop1 n p find.1) fun
  | .inl x=>
   some ([x.Id],(0:Int))
  | .inr ret0=>some ret0
def M.resolve_this(n:Nat)(s0_:resolve_scene)(c:api_Cite):Option ((List api_Id)×Int):=
 Option.bind (idx c.Path (0:Int)) fun v=>
 Option.bind (M.resolve_Enclosing n s0_.u_ s0_.at_ v.Kind) fun enclos=>
 if enclos.2=false then
  some (([]:List api_Id),(7:Int))
 else
  Option.bind (slcLo c.Path (1:Int)) fun v1=>
  Option.bind (M.resolve_down n s0_.u_ enclos.1 v1) fun down=>
  some (down.1,down.2)
def M.resolve_said_step(n:Nat)(s:resolve_scene)(c:api_Cite)(x:api_Id):Option (Option ((List api_Id)×Int)):=
 Option.bind (M.unit_Find n s.u_ x) fun find=>
 if find.2=true then
  Option.bind (idx c.Path (0:Int)) fun v=>
  if find.1.Kind=v.Kind then
   Option.bind (slcLo c.Path (1:Int)) fun v1=>
   Option.bind (M.resolve_down n s.u_ x v1) fun down=>
   some (some (down.1,down.2))
  else
   some none
 else
  some none
def M.resolve_said(n:Nat)(s:resolve_scene)(c:api_Cite):Option ((List api_Id)×Int):=Option.bind (seqM (M.resolve_said_step n s c) s.said_.reverse) fun v=>some (match v with
 | some r=>r
 | none=>(([]:List api_Id),(7:Int)))
def M.resolve_meanings_1(a:resolve_scene)(a1:api_Cite):Option ((List api_Id)×Int):=
 some (([]:List api_Id),(11:Int))
def M.resolve_meanings(n:Nat):Option ((List (Int×(resolve_scene→api_Cite→Option ((List api_Id)×Int))))):=
 some (mset (mset (mset (mset (mset ([]:List (Int×(resolve_scene→api_Cite→Option ((List api_Id)×Int)))) (0:Int) (fun s0 s1=>M.resolve_plain n s0 s1)) (1:Int) (fun s0 s1=>M.resolve_through n s0 s1)) (2:Int) (fun s0 s1=>M.resolve_this n s0 s1)) (3:Int) (fun s0 s1=>M.resolve_said n s0 s1)) (4:Int) (fun s0 s1=>M.resolve_meanings_1 s0 s1))
def M.citation_book(s0_:api_Step):Option Bool:=
 some (decide (s0_=(⟨(0:Int),([]:Str)⟩:api_Step)))
def M.slices_IndexFunc_api_Step_api_Step_loop1(s0_:List api_Step)(f:api_Step→Option Bool):Nat→Int→Option (Unit ⊕ Int)
 | 0,_=>none
 | n+1,v=>
  if v<(s0_.length:Int) then
   Option.bind (idx s0_ v) fun v1=>
   Option.bind (f v1) fun v2=>
   if v2=true then
    some (.inr v)
   else
    M.slices_IndexFunc_api_Step_api_Step_loop1 s0_ f n (v+1)
  else
   some (.inl ())
def M.slices_IndexFunc_api_Step_api_Step(n:Nat)(s0_:List api_Step)(f:api_Step→Option Bool):Option Int:=
 Option.bind (M.slices_IndexFunc_api_Step_api_Step_loop1 s0_ f n (0:Int)) fun
  | .inl _=>
   some (-1:Int)
  | .inr ret0=>some ret0
def M.slices_ContainsFunc_api_Step_api_Step(n:Nat)(s0_:List api_Step)(f:api_Step→Option Bool):Option Bool:=
 Option.bind (M.slices_IndexFunc_api_Step_api_Step n s0_ f) fun step=>
 some (decide ((0:Int)≤step))
def M.citation_named(n:Nat)(s0_:api_Step):Option Bool:=
 if (1:Int)≤s0_.Kind then
  if s0_.Kind≤(7:Int) then
   Option.bind (M.label_Valid n s0_.Label) fun valid=>
   some valid
  else
   some false
 else
  some false
def M.citation_plain_1(n:Nat)(s0_:api_Step):Option Bool:=
 Option.bind (M.citation_named n s0_) fun named=>
 some (!named)
def M.citation_plain(n:Nat)(p:List api_Step):Option Bool:=
 Option.bind (
   if (0:Int)< (p.length:Int) then
    Option.bind (idx p (0:Int)) fun v=>
    Option.bind (M.citation_book v) fun book=>
    if book=true then
     Option.bind (slcLo p (1:Int)) fun v1=>
     some v1
    else
     some p
   else
    some p
  ) fun p1=>
  if (0:Int)< (p1.length:Int) then
   Option.bind (M.slices_ContainsFunc_api_Step_api_Step n p1 (fun s0=>M.citation_plain_1 n s0)) fun step=>
   some (!step)
  else
   some false
def M.citation_near_1(n:Nat)(s0_:api_Step):Option Bool:=
 Option.bind (M.citation_named n s0_) fun named=>
 some (!named)
def M.citation_near(n:Nat)(p:List api_Step):Option Bool:=
 Option.bind (
   if (p.length:Int)=(0:Int) then
    some true
   else
    Option.bind (idx p (0:Int)) fun v1=>
    if (v1.Label !=([]:Str))=true then
     some true
    else
     Option.bind (idx p (0:Int)) fun v2=>
     if v2.Kind<(1:Int) then
      some true
     else
      Option.bind (idx p (0:Int)) fun v3=>
      some (decide ((7:Int)< v3.Kind))
  ) fun v=>
  if v=true then
   some false
  else
   Option.bind (slcLo p (1:Int)) fun v4=>
   Option.bind (M.slices_ContainsFunc_api_Step_api_Step n v4 (fun s0=>M.citation_near_1 n s0)) fun step=>
   some (!step)
def M.citation_Valid(n:Nat)(c:api_Cite):Option Bool:=
 Option.bind (
   if (9:Int)< (c.Path.length:Int) then
    some true
   else
    some ((c.To !=([]:Str)) !=(decide (c.Kind=(1:Int))))
  ) fun v=>
  if v=true then
   some false
  else
   Option.bind (
     if c.Kind=(0:Int) then
      some (decide (c.Kind=(0:Int)))
     else
      some (decide (c.Kind=(4:Int)))
    ) fun v1=>
    if v1=true then
     Option.bind (M.citation_plain n c.Path) fun plain=>
     some plain
    else
     if c.Kind=(1:Int) then
      Option.bind (M.citation_plain n c.Path) fun plain1=>
      if plain1=true then
       Option.bind (M.label_Valid n c.To) fun valid=>
       if valid=true then
        Option.bind (subC (c.Path.length:Int) (1:Int)) fun v2=>
        Option.bind (idx c.Path v2) fun v3=>
        some (decide (v3.Kind≠(6:Int)))
       else
        some false
      else
       some false
     else
      Option.bind (
        if c.Kind=(2:Int) then
         some (decide (c.Kind=(2:Int)))
        else
         some (decide (c.Kind=(3:Int)))
       ) fun v4=>
       if v4=true then
        Option.bind (M.citation_near n c.Path) fun near=>
        some near
       else
        some false
def M.resolve_Resolve(n:Nat)(u:api_Unit)(at0_:api_Id)(c:api_Cite)(said:List api_Id):Option ((List api_Id)×Int):=
 Option.bind (M.resolve_meanings n) fun meanin=>
 Option.bind (
   if ((mget meanin c.Kind (fun _ _=>none:resolve_scene→api_Cite→Option ((List api_Id)×Int)),mhas meanin c.Kind).2)=false then
    some true
   else
    Option.bind (M.citation_Valid n c) fun valid=>
    some (!valid)
  ) fun v=>
  if v=true then
   some (([]:List api_Id),(1:Int))
  else
   Option.bind ((mget meanin c.Kind (fun _ _=>none:resolve_scene→api_Cite→Option ((List api_Id)×Int)),mhas meanin c.Kind).1 (⟨u,at0_,said⟩:resolve_scene) c) fun v1=>
   some (v1.1,v1.2)
def M.law41_awake(n:Nat):Option Bool:=
 Option.bind (M.resolve_Resolve n (⟨zapi_Id,(0:Int),([]:Str),([]:List api_Word),([]:List api_Word),[(⟨(⟨(1:Int),(0:Int),(1:Int)⟩:api_Id),(2:Int),([53]:Str),([]:List api_Word),([]:List api_Word),[(⟨(⟨(1:Int),(0:Int),(2:Int)⟩:api_Id),(3:Int),([50]:Str),([]:List api_Word),([]:List api_Word),([]:List api_Unit)⟩:api_Unit)]⟩:api_Unit)]⟩:api_Unit) (⟨(1:Int),(0:Int),(1:Int)⟩:api_Id) (⟨(2:Int),[(⟨(2:Int),([]:Str)⟩:api_Step),(⟨(3:Int),([50]:Str)⟩:api_Step)],([]:Str),(0:Int),(0:Int)⟩:api_Cite) ([]:List api_Id)) fun resolv=>
 if resolv.2=(0:Int) then
  if (resolv.1.length:Int)=(1:Int) then
   Option.bind (idx resolv.1 (0:Int)) fun v=>
   some (decide (v=(⟨(1:Int),(0:Int),(2:Int)⟩:api_Id)))
  else
   some false
 else
  some false
def M.r06_size_loop1(u:api_Unit)(deep:Int)(most:Int)(slf:api_Unit→Int→Int→Option Int):Nat→Int→Int→Option Int
 | 0,_,_=>none
 | n+1,n0_,i=>
  Option.bind (
    if i<(u.Kids.length:Int) then
     some (decide (n0_≤most))
    else
     some false
   ) fun v1=>
   if v1=true then
    Option.bind (idx u.Kids i) fun v2=>
    Option.bind (addC deep (1:Int)) fun v3=>
    Option.bind (subC most n0_) fun v4=>
    Option.bind (slf v2 v3 v4) fun size=>
    Option.bind (addC n0_ size) fun v5=>
    Option.bind (addC i (1:Int)) fun v6=>
    M.r06_size_loop1 u deep most slf n v5 v6
   else
    some n0_
def M.r06_size:Nat→api_Unit→Int→Int→Option Int
 | 0,_,_,_=>none
 | n+1,u,deep,most=>
  if (20:Int)< deep then
   Option.bind (addC most (1:Int)) fun v=>
   some v
  else
   Option.bind (M.r06_size_loop1 u deep most (M.r06_size n) n (1:Int) (0:Int)) fun n0_=>
    some n0_
def M.r06_short_loop1(l:List api_Word):Nat→Int→Option (Unit ⊕ Bool)
 | 0,_=>none
 | n+1,i=>
  if i<(l.length:Int) then
   Option.bind (idx l i) fun v=>
   if (100:Int)< (v.Text.length:Int) then
    some (.inr false)
   else
    M.r06_short_loop1 l n (i+1)
  else
   some (.inl ())
def M.r06_short(n:Nat)(l:List api_Word):Option Bool:=
 Option.bind (M.r06_short_loop1 l n (0:Int)) fun
  | .inl _=>
   some (decide ((l.length:Int)≤(300:Int)))
  | .inr ret0=>some ret0
def M.r06_words_loop1(u:api_Unit)(slf:api_Unit→Option Bool):Nat→Int→Option (Unit ⊕ Bool)
 | 0,_=>none
 | n+1,i=>
  if i<(u.Kids.length:Int) then
   Option.bind (idx u.Kids i) fun v1=>
   Option.bind (slf v1) fun words=>
   if words=false then
    some (.inr false)
   else
    M.r06_words_loop1 u slf n (i+1)
  else
   some (.inl ())
def M.r06_words:Nat→api_Unit→Option Bool
 | 0,_=>none
 | n+1,u=>
  Option.bind (
    if (30:Int)< (u.Label.length:Int) then
     some true
    else
     Option.bind (M.r06_short n u.Head) fun short=>
     if short=false then
      some true
     else
      Option.bind (M.r06_short n u.Words) fun short1=>
      some (!short1)
   ) fun v=>
   if v=true then
    some false
   else
    Option.bind (M.r06_words_loop1 u (M.r06_words n) n (0:Int)) fun
     | .inl _=>
      some true
     | .inr ret0=>some ret0
def M.r06_Few(n:Nat)(u:api_Unit)(most:Int):Option Bool:=
 Option.bind (M.r06_size n u (0:Int) most) fun size=>
 if size≤most then
  Option.bind (M.r06_words n u) fun words=>
  some words
 else
  some false
def M.r06_Texts_loop1(l:List api_Word):Nat→(List Str)→Int→Option ((List Str))
 | 0,_,_=>none
 | n+1,out,i=>
  if i<(l.length:Int) then
   Option.bind (idx l i) fun v=>
   Option.bind (appC out [v.Text]) fun out1=>
   M.r06_Texts_loop1 l n out1 (i+1)
  else
   some out
def M.r06_Texts(n:Nat)(l:List api_Word):Option ((List Str)):=
 Option.bind (M.r06_Texts_loop1 l n ([]:List Str) (0:Int)) fun out=>
  some out
def M.r04_Word_loop1(s0_:Str):Nat→Int→Option (Unit ⊕ Bool)
 | 0,_=>none
 | n+1,i=>
  if i<(s0_.length:Int) then
   Option.bind (idx s0_ i) fun b=>
   if (b.toNat:Int)< (33:Int) then
    some (.inr false)
   else
    Option.bind (idx s0_ i) fun b1=>
    if (126:Int)< (b1.toNat:Int) then
     some (.inr false)
    else
     M.r04_Word_loop1 s0_ n (i+1)
  else
   some (.inl ())
def M.r04_Word(n:Nat)(s0_:Str):Option Bool:=
 Option.bind (
   if (s0_.length:Int)< (1:Int) then
    some true
   else
    some (decide ((24:Int)< (s0_.length:Int)))
  ) fun v=>
  if v=true then
   some false
  else
   Option.bind (M.r04_Word_loop1 s0_ n (0:Int)) fun
    | .inl _=>
     some true
    | .inr ret0=>some ret0
def M.r04_May_loop1(l:List Str):Nat→Int→Option (Unit ⊕ Bool)
 | 0,_=>none
 | n+1,i=>
  if i<(l.length:Int) then
   Option.bind (idx l i) fun v=>
   Option.bind (M.r04_Word n v) fun word=>
   if word=false then
    some (.inr false)
   else
    M.r04_May_loop1 l n (i+1)
  else
   some (.inl ())
def M.r04_May(n:Nat)(l:List Str):Option Bool:=
 if (256:Int)< (l.length:Int) then
  some false
 else
  Option.bind (M.r04_May_loop1 l n (0:Int)) fun
   | .inl _=>
    some true
   | .inr ret0=>some ret0
def M.r06_row(n:Nat)(l:List api_Word):Option Bool:=
 if (l.length:Int)≤(256:Int) then
  Option.bind (M.r06_Texts n l) fun texts=>
  Option.bind (M.r04_May n texts) fun may=>
  some may
 else
  some false
def M.r03_digits_loop1(s0_:Str):Nat→Int→Option Int
 | 0,_=>none
 | n+1,n0_=>
  if n0_<(s0_.length:Int) then
   Option.bind (idx s0_ n0_) fun b=>
   if (48:Int)≤(b.toNat:Int) then
    Option.bind (idx s0_ n0_) fun b1=>
    if (b1.toNat:Int)≤(57:Int) then
     M.r03_digits_loop1 s0_ n (n0_+1)
    else
     some n0_
   else
    some n0_
  else
   some n0_
def M.r03_digits(n:Nat)(s0_:Str):Option Int:=
 Option.bind (M.r03_digits_loop1 s0_ n (0:Int)) fun n0_=>
  some n0_
def M.r03_May_loop1(s0_:Str):Nat→Int→Option (Unit ⊕ Bool)
 | 0,_=>none
 | n+1,i=>
  if i<(s0_.length:Int) then
   Option.bind (idx s0_ i) fun b1=>
   if (b1.toNat:Int)< (65:Int) then
    some (.inr false)
   else
    Option.bind (idx s0_ i) fun b2=>
    if (90:Int)< (b2.toNat:Int) then
     some (.inr false)
    else
     M.r03_May_loop1 s0_ n (i+1)
  else
   some (.inl ())
def M.r03_May(n:Nat)(s0_:Str):Option Bool:=
 Option.bind (M.r03_digits n s0_) fun digits=>
 Option.bind (
   if digits<(1:Int) then
    some true
   else
    if (4:Int)< digits then
     some true
    else
     Option.bind (idx s0_ (0:Int)) fun b=>
     if (b.toNat:Int)=(48:Int) then
      some true
     else
      Option.bind (subC (s0_.length:Int) digits) fun v1=>
      some (decide ((3:Int)< v1))
  ) fun v=>
  if v=true then
   some false
  else
   Option.bind (M.r03_May_loop1 s0_ n digits) fun
    | .inl _=>
     some true
    | .inr ret0=>some ret0
def M.r06_alone(n:Nat)(u:api_Unit):Option Bool:=
 Option.bind (
   if u.Kind<(0:Int) then
    some true
   else
    if (7:Int)< u.Kind then
     some true
    else
     if (64:Int)< (u.Kids.length:Int) then
      some true
     else
      Option.bind (M.r06_row n u.Head) fun row=>
      if row=false then
       some true
      else
       Option.bind (M.r06_row n u.Words) fun row1=>
       some (!row1)
  ) fun v=>
  if v=true then
   some false
  else
   if u.Kind=(0:Int) then
    Option.bind (
      if (u.Label==([]:Str))=true then
       if (u.Head.length:Int)=(0:Int) then
        some (decide ((u.Words.length:Int)=(0:Int)))
       else
        some false
      else
       some false
     ) fun v1=>
     some v1
   else
    Option.bind (M.r03_May n u.Label) fun may=>
    some may
def M.r06_Nests(parent:Int)(kind:Int):Option Bool:=
 if parent=(0:Int) then
  if kind=(1:Int) then
   some true
  else
   some (decide (kind=(2:Int)))
 else
  if parent=(1:Int) then
   some (decide (kind=(2:Int)))
  else
   Option.bind (
     if parent=(2:Int) then
      some (decide (parent=(2:Int)))
     else
      some (decide (parent=(3:Int)))
    ) fun v=>
    if v=true then
     if kind=(3:Int) then
      some true
     else
      if kind=(4:Int) then
       some true
      else
       some (decide (kind=(7:Int)))
    else
     if parent=(4:Int) then
      some (decide (kind=(5:Int)))
     else
      if parent=(5:Int) then
       some (decide (kind=(6:Int)))
      else
       some false
def M.r06_Right_loop2(u:api_Unit)(i:Int):Nat→Int→Option (Unit ⊕ Bool)
 | 0,_=>none
 | n+1,k=>
  if k<i then
   Option.bind (idx u.Kids k) fun v2=>
   Option.bind (idx u.Kids i) fun v3=>
   if v2.Kind=v3.Kind then
    Option.bind (idx u.Kids k) fun v4=>
    Option.bind (idx u.Kids i) fun v5=>
    if (v4.Label==v5.Label)=true then
     some (.inr false)
    else
     Option.bind (addC k (1:Int)) fun v6=>
     M.r06_Right_loop2 u i n v6
   else
    Option.bind (addC k (1:Int)) fun v7=>
    M.r06_Right_loop2 u i n v7
  else
   some (.inl ())
def M.r06_Right_loop1(u:api_Unit)(slf:api_Unit→Option Bool):Nat→Int→Option (Unit ⊕ Bool)
 | 0,_=>none
 | n+1,i=>
  if i<(u.Kids.length:Int) then
   Option.bind (idx u.Kids i) fun v=>
   Option.bind (M.r06_Nests u.Kind v.Kind) fun nests=>
   if nests=false then
    some (.inr false)
   else
    Option.bind (idx u.Kids i) fun v1=>
    Option.bind (slf v1) fun right=>
    if right=false then
     some (.inr false)
    else
     Option.bind (M.r06_Right_loop2 u i n (0:Int)) fun
      | .inl _=>
       Option.bind (addC i (1:Int)) fun v8=>
       M.r06_Right_loop1 u slf n v8
      | .inr ret0=>some (.inr ret0)
  else
   some (.inl ())
def M.r06_Right:Nat→api_Unit→Option Bool
 | 0,_=>none
 | n+1,u=>
  Option.bind (M.r06_alone n u) fun alone=>
  if alone=false then
   some false
  else
   Option.bind (M.r06_Right_loop1 u (M.r06_Right n) n (0:Int)) fun
    | .inl _=>
     some true
    | .inr ret0=>some ret0
def M.r06_Depth_loop1(u:api_Unit)(slf:api_Unit→Option Int):Nat→Int→Int→Option Int
 | 0,_,_=>none
 | n+1,d,i=>
  if i<(u.Kids.length:Int) then
   Option.bind (idx u.Kids i) fun v=>
   Option.bind (slf v) fun depth=>
   Option.bind (addC (1:Int) depth) fun v1=>
   M.r06_Depth_loop1 u slf n (max d v1) (i+1)
  else
   some d
def M.r06_Depth:Nat→api_Unit→Option Int
 | 0,_=>none
 | n+1,u=>
  Option.bind (M.r06_Depth_loop1 u (M.r06_Depth n) n (0:Int) (0:Int)) fun d=>
   some d
def M.r06_Count_loop1(u:api_Unit)(slf:api_Unit→Option Int):Nat→Int→Int→Option Int
 | 0,_,_=>none
 | n+1,n0_,i=>
  if i<(u.Kids.length:Int) then
   Option.bind (idx u.Kids i) fun v=>
   Option.bind (slf v) fun count=>
   Option.bind (addC n0_ count) fun v1=>
   M.r06_Count_loop1 u slf n v1 (i+1)
  else
   some n0_
def M.r06_Count:Nat→api_Unit→Option Int
 | 0,_=>none
 | n+1,u=>
  Option.bind (M.r06_Count_loop1 u (M.r06_Count n) n (1:Int) (0:Int)) fun n0_=>
   some n0_
def M.r06_All_loop1(u:api_Unit)(slf:api_Unit→Option ((List api_Id))):Nat→(List api_Id)→Int→Option ((List api_Id))
 | 0,_,_=>none
 | n+1,out,i=>
  if i<(u.Kids.length:Int) then
   Option.bind (idx u.Kids i) fun v=>
   Option.bind (slf v) fun all=>
   Option.bind (appC out all) fun out1=>
   M.r06_All_loop1 u slf n out1 (i+1)
  else
   some out
def M.r06_All:Nat→api_Unit→Option ((List api_Id))
 | 0,_=>none
 | n+1,u=>
  Option.bind (M.r06_All_loop1 u (M.r06_All n) n [u.Id] (0:Int)) fun out=>
   some out
def M.r06_Ids_loop3(all:(List api_Id))(i1:Int):Nat→Int→Option (Unit ⊕ Bool)
 | 0,_=>none
 | n+1,k=>
  if k<i1 then
   Option.bind (idx all k) fun v2=>
   Option.bind (idx all i1) fun v3=>
   if v2=v3 then
    some (.inr false)
   else
    Option.bind (addC k (1:Int)) fun v4=>
    M.r06_Ids_loop3 all i1 n v4
  else
   some (.inl ())
def M.r06_Ids_loop2(all:(List api_Id)):Nat→Int→Option (Unit ⊕ Bool)
 | 0,_=>none
 | n+1,i1=>
  if i1<(all.length:Int) then
   Option.bind (M.r06_Ids_loop3 all i1 n (0:Int)) fun
    | .inl _=>
     Option.bind (addC i1 (1:Int)) fun v5=>
     M.r06_Ids_loop2 all n v5
    | .inr ret0=>some (.inr ret0)
  else
   some (.inl ())
def M.r06_Ids_loop1(all:(List api_Id)):Nat→Bool→Int→Option Bool
 | 0,_,_=>none
 | n+1,none0_,i=>
  if i<(all.length:Int) then
   if none0_=true then
    Option.bind (idx all i) fun v=>
    M.r06_Ids_loop1 all n (decide (v=(⟨(0:Int),(0:Int),(0:Int)⟩:api_Id))) (i+1)
   else
    M.r06_Ids_loop1 all n false (i+1)
  else
   some none0_
def M.r06_Ids(n:Nat)(u:api_Unit):Option Bool:=
 Option.bind (M.r06_All n u) fun all=>
 Option.bind (M.r06_Ids_loop1 all n true (0:Int)) fun none0_=>
  if none0_=true then
   some true
  else
   Option.bind (idx all (0:Int)) fun v1=>
   if ((decide (v1=(⟨(0:Int),(0:Int),(0:Int)⟩:api_Id))) !=(decide (u.Kind=(0:Int))))=true then
    some false
   else
    Option.bind (M.r06_Ids_loop2 all n (0:Int)) fun
     | .inl _=>
      some true
     | .inr ret0=>some ret0
def M.r06_May(n:Nat)(u:api_Unit):Option Bool:=
 Option.bind (M.r06_Right n u) fun right=>
 if right=true then
  Option.bind (M.r06_Depth n u) fun depth=>
  if depth≤(8:Int) then
   Option.bind (M.r06_Count n u) fun count=>
   if count≤(1024:Int) then
    Option.bind (M.r06_Ids n u) fun ids=>
    some ids
   else
    some false
  else
   some false
 else
  some false
def M.r08_named_loop1(u:api_Unit)(slf:api_Unit→Option Bool):Nat→Int→Option (Unit ⊕ Bool)
 | 0,_=>none
 | n+1,i=>
  if i<(u.Kids.length:Int) then
   Option.bind (idx u.Kids i) fun v1=>
   Option.bind (slf v1) fun named=>
   if named=false then
    some (.inr false)
   else
    M.r08_named_loop1 u slf n (i+1)
  else
   some (.inl ())
def M.r08_named:Nat→api_Unit→Option Bool
 | 0,_=>none
 | n+1,u=>
  Option.bind (
    if u.Kind≠(0:Int) then
     some (decide (u.Id=(⟨(0:Int),(0:Int),(0:Int)⟩:api_Id)))
    else
     some false
   ) fun v=>
   if v=true then
    some false
   else
    Option.bind (M.r08_named_loop1 u (M.r08_named n) n (0:Int)) fun
     | .inl _=>
      some true
     | .inr ret0=>some ret0
def M.r08_Stands(n:Nat)(u:api_Unit):Option Bool:=
 Option.bind (M.r06_May n u) fun may=>
 if may=true then
  Option.bind (M.r08_named n u) fun named=>
  some named
 else
  some false
def M.law41_book(n:Nat)(u:api_Unit):Option Bool:=
 Option.bind (M.r06_Few n u (30:Int)) fun few=>
 if few=true then
  Option.bind (M.r08_Stands n u) fun stands=>
  some stands
 else
  some false
def M.citation_reader_just_1(s0_:Str)(c:Str):Option Bool:=
 some (s0_==c)
def M.citation_reader_word(r0_:citation_reader)(is:Str→Option Bool):Option ((Str×Bool)×citation_reader):=
 if r0_.ended_=true then
  some ((([]:Str),false),r0_)
 else
  if (r0_.l_.length:Int)≤r0_.at_ then
   some ((([]:Str),false),r0_)
  else
   Option.bind (idx r0_.l_ r0_.at_) fun v=>
   Option.bind ((
     Option.bind (is v) fun v1=>
     if v1=false then
      Option.bind (subC (v.length:Int) (1:Int)) fun v2=>
      Option.bind (
        if v2<(0:Int) then
         some true
        else
         Option.bind (idx v v2) fun b1=>
         Option.bind (ixM ([44,59,46,58,41]:Str) (b1.toNat:Int)) fun indexb=>
         if indexb<(0:Int) then
          some true
         else
          Option.bind (slcHi v v2) fun v4=>
          Option.bind (is v4) fun v5=>
          some (!v5)
       ) fun v3=>
       if v3=true then
        some (.inr ((([]:Str),false),r0_))
       else
        Option.bind (slcHi v v2) fun v6=>
        some (.inl (v6,({r0_ with ended_:=true}:citation_reader)))
     else
      some (.inl (v,r0_))
    ):Option ((Str×citation_reader) ⊕ ((Str×Bool)×citation_reader))) fun
    | .inl (s0_,r0_1)=>
     Option.bind (addC r0_1.at_ (1:Int)) fun v7=>
     some ((s0_,true),({r0_1 with at_:=v7}:citation_reader))
    | .inr ret0=>some ret0
def M.citation_reader_just(r0_:citation_reader)(want:Str):Option (Bool×citation_reader):=
 Option.bind (M.citation_reader_word r0_ (fun s0=>M.citation_reader_just_1 s0 want)) fun (word,r0_1)=>
 some (word.2,r0_1)
def M.citation_single:Option ((List Str)):=
 some ([([]:Str),([112,97,114,116]:Str),([115,101,99,116,105,111,110]:Str),([112,97,114,97,103,114,97,112,104]:Str),([116,97,98,108,101]:Str),([114,111,119]:Str),([99,101,108,108]:Str),([110,111,116,101]:Str)])
def M.slices_Index_string_string_loop1(s0_:List Str)(v:Str):Nat→Int→Option (Unit ⊕ Int)
 | 0,_=>none
 | n+1,v1=>
  if v1<(s0_.length:Int) then
   Option.bind (idx s0_ v1) fun v2=>
   if (v==v2)=true then
    some (.inr v1)
   else
    M.slices_Index_string_string_loop1 s0_ v n (v1+1)
  else
   some (.inl ())
def M.slices_Index_string_string(n:Nat)(s0_:List Str)(v:Str):Option Int:=
 Option.bind (M.slices_Index_string_string_loop1 s0_ v n (0:Int)) fun
  | .inl _=>
   some (-1:Int)
  | .inr ret0=>some ret0
def M.citation_kind(n:Nat)(l:List Str)(word:Str):Option Int:=
 if (word==([]:Str))=true then
  some (0:Int)
 else
  Option.bind (M.slices_Index_string_string n l word) fun string=>
  some (max string (0:Int))
def M.citation_reader_kind_1(n:Nat)(s0_:Str)(c:List Str):Option Bool:=
 Option.bind (M.citation_kind n c s0_) fun kind=>
 some (decide ((0:Int)< kind))
def M.citation_reader_kind(n:Nat)(r0_:citation_reader)(l:List Str):Option ((Int×Bool)×citation_reader):=
 Option.bind (M.citation_reader_word r0_ (fun s0=>M.citation_reader_kind_1 n s0 l)) fun (word,r0_1)=>
 Option.bind (M.citation_kind n l word.1) fun kind=>
 some ((kind,word.2),r0_1)
def M.citation_reader_step(n:Nat)(r0_:citation_reader)(l:List Str):Option ((api_Step×Bool)×citation_reader):=
 Option.bind (M.citation_reader_kind n r0_ l) fun (kind,r0_1)=>
 Option.bind (M.citation_reader_word r0_1 (fun s0=>M.label_Valid n s0)) fun (word,r0_2)=>
 Option.bind (
   if kind.2=false then
    some true
   else
    some (!word.2)
  ) fun v=>
  if v=true then
   some (((⟨(0:Int),([]:Str)⟩:api_Step),false),r0_)
  else
   some (((⟨kind.1,word.1⟩:api_Step),true),r0_2)
def M.citation_reader_more_loop1:Nat→(List api_Step)→citation_reader→Option ((List api_Step)×citation_reader)
 | 0,_,_=>none
 | n+1,p1,r0_1=>
  if (p1.length:Int)< (9:Int) then
   Option.bind M.citation_single fun single=>
   Option.bind (M.citation_reader_step n r0_1 single) fun (step,r0_2)=>
   if step.2=false then
    some (p1,r0_2)
   else
    Option.bind (appC p1 [step.1]) fun out=>
    M.citation_reader_more_loop1 n out r0_2
  else
   some (p1,r0_1)
def M.citation_reader_more(n:Nat)(r0_:citation_reader)(p:List api_Step):Option (((List api_Step))×citation_reader):=
 Option.bind (M.citation_reader_more_loop1 n p r0_) fun (p1,r0_2)=>
  some (p1,r0_2)
def M.citation_reader_path(n:Nat)(r0_:citation_reader):Option (((List api_Step))×citation_reader):=
 Option.bind (
   Option.bind (M.citation_reader_just r0_ ([98,111,111,107]:Str)) fun (just,r0_2)=>
   if just=true then
    Option.bind (appC ([]:List api_Step) ([(⟨(0:Int),([]:Str)⟩:api_Step)])) fun p1=>
    some (p1,r0_2)
   else
    some (([]:List api_Step),r0_2)
  ) fun (p,r0_1)=>
  Option.bind (M.citation_reader_more n r0_1 p) fun (more,r0_3)=>
  some (more,r0_3)
def M.citation_forms_1(n:Nat)(r0_:citation_reader):Option (api_Cite×citation_reader):=
 Option.bind (M.citation_reader_path n r0_) fun (path,r0_1)=>
 some ((⟨(0:Int),path,([]:Str),(0:Int),(0:Int)⟩:api_Cite),r0_1)
def M.citation_plural:Option ((List Str)):=
 some ([([]:Str),([112,97,114,116,115]:Str),([115,101,99,116,105,111,110,115]:Str),([112,97,114,97,103,114,97,112,104,115]:Str),([116,97,98,108,101,115]:Str),([114,111,119,115]:Str),([]:Str),([110,111,116,101,115]:Str)])
def M.citation_reader_span(n:Nat)(r0_:citation_reader):Option (api_Cite×citation_reader):=
 Option.bind (M.citation_reader_path n r0_) fun (path,r0_1)=>
 Option.bind M.citation_plural fun plural=>
 Option.bind (M.citation_reader_step n r0_1 plural) fun (step,r0_2)=>
 Option.bind (
   if step.2=false then
    some (true,r0_2)
   else
    Option.bind (M.citation_reader_just r0_2 ([116,111]:Str)) fun (just,r0_4)=>
    some (!just,r0_4)
  ) fun (v,r0_3)=>
  if v=true then
   some ((⟨(1:Int),path,([]:Str),(0:Int),(0:Int)⟩:api_Cite),r0_3)
  else
   Option.bind (appC path [step.1]) fun out=>
   Option.bind (M.citation_reader_word r0_3 (fun s0=>M.label_Valid n s0)) fun (word,r0_5)=>
   some (({({(⟨(1:Int),path,([]:Str),(0:Int),(0:Int)⟩:api_Cite) with Path:=out}:api_Cite) with To:=word.1}:api_Cite),r0_5)
def M.citation_reader_beside(n:Nat)(r0_:citation_reader):Option (((List api_Step))×citation_reader):=
 Option.bind M.citation_single fun single=>
 Option.bind (M.citation_reader_kind n r0_ single) fun (kind,r0_1)=>
 if kind.2=false then
  some (([]:List api_Step),r0_1)
 else
  Option.bind (M.citation_reader_more n r0_1 ([(⟨kind.1,([]:Str)⟩:api_Step)])) fun (more,r0_2)=>
  some (more,r0_2)
def M.citation_forms_2(n:Nat)(r0_:citation_reader):Option (api_Cite×citation_reader):=
 Option.bind (M.citation_reader_just r0_ ([116,104,105,115]:Str)) fun (just,r0_1)=>
 if just=false then
  some ((⟨(2:Int),([]:List api_Step),([]:Str),(0:Int),(0:Int)⟩:api_Cite),r0_1)
 else
  Option.bind (M.citation_reader_beside n r0_1) fun (beside,r0_2)=>
  some ((⟨(2:Int),beside,([]:Str),(0:Int),(0:Int)⟩:api_Cite),r0_2)
def M.citation_forms_3(n:Nat)(r0_:citation_reader):Option (api_Cite×citation_reader):=
 Option.bind (
   Option.bind (M.citation_reader_just r0_ ([116,104,101]:Str)) fun (just,r0_2)=>
   if just=false then
    some (true,r0_2)
   else
    Option.bind (M.citation_reader_just r0_2 ([115,97,105,100]:Str)) fun (just1,r0_3)=>
    some (!just1,r0_3)
  ) fun (v,r0_1)=>
  if v=true then
   some ((⟨(3:Int),([]:List api_Step),([]:Str),(0:Int),(0:Int)⟩:api_Cite),r0_1)
  else
   Option.bind (M.citation_reader_beside n r0_1) fun (beside,r0_4)=>
   some ((⟨(3:Int),beside,([]:Str),(0:Int),(0:Int)⟩:api_Cite),r0_4)
def M.citation_forms_4(n:Nat)(r0_:citation_reader):Option (api_Cite×citation_reader):=
 Option.bind (M.citation_reader_just r0_ ([102,111,114,109,101,114,108,121]:Str)) fun (just,r0_1)=>
 if just=false then
  some ((⟨(4:Int),([]:List api_Step),([]:Str),(0:Int),(0:Int)⟩:api_Cite),r0_1)
 else
  Option.bind (M.citation_reader_path n r0_1) fun (path,r0_2)=>
  some ((⟨(4:Int),path,([]:Str),(0:Int),(0:Int)⟩:api_Cite),r0_2)
def M.citation_forms(n:Nat):Option ((List (citation_reader→Option (api_Cite×citation_reader)))):=
 some [(fun s0=>M.citation_forms_1 n s0),(fun s0=>M.citation_reader_span n s0),(fun s0=>M.citation_forms_2 n s0),(fun s0=>M.citation_forms_3 n s0),(fun s0=>M.citation_forms_4 n s0)]
def M.citation_longest_loop1(n:Nat)(l:List Str)(from0_:Int):List (citation_reader→Option (api_Cite×citation_reader))→api_Cite→Option api_Cite
 | [],best=>
  some best
 | e :: es,best=>
  Option.bind (e (⟨l,from0_,false⟩:citation_reader)) fun (v,w)=>
  Option.bind (M.citation_Valid n ({({v with From:=from0_}:api_Cite) with At:=w.at_}:api_Cite)) fun valid=>
  if valid=true then
   if best.At<({({v with From:=from0_}:api_Cite) with At:=w.at_}:api_Cite).At then
    M.citation_longest_loop1 n l from0_ es ({({v with From:=from0_}:api_Cite) with At:=w.at_}:api_Cite)
   else
    M.citation_longest_loop1 n l from0_ es best
  else
   M.citation_longest_loop1 n l from0_ es best
def M.citation_longest(n:Nat)(l:List Str)(from0_:Int):Option (api_Cite×Bool):=
 Option.bind (M.citation_forms n) fun forms=>
 Option.bind (M.citation_longest_loop1 n l from0_ forms zapi_Cite) fun best=>
  some (best,decide ((0:Int)< best.At))
def M.citation_Scan_loop1(l:List Str):Nat→(List api_Cite)→Int→Option ((List api_Cite))
 | 0,_,_=>none
 | n+1,out,at0_=>
  if at0_<(l.length:Int) then
   Option.bind (M.citation_longest n l at0_) fun longes=>
   if longes.2=false then
    M.citation_Scan_loop1 l n out (at0_+1)
   else
    Option.bind (appC out [longes.1]) fun out1=>
    M.citation_Scan_loop1 l n out1 longes.1.At
  else
   some out
def M.citation_Scan(n:Nat)(l:List Str):Option ((List api_Cite)):=
 Option.bind (M.citation_Scan_loop1 l n ([]:List api_Cite) (0:Int)) fun out=>
  some out
def M.resolve_ResolveWords_loop2(n:Nat)(u:api_Unit)(at0_:api_Id):List api_Cite→Int→(List api_Meaning)→(List api_Id)→Option ((List api_Meaning))
 | [],_,out,ahead=>
  some out
 | e1 :: es1,i1,out,ahead=>
  Option.bind (M.resolve_Resolve n u at0_ e1 ahead) fun resolv=>
  Option.bind (appC out [(⟨at0_,i1,resolv.1⟩:api_Meaning)]) fun out1=>
  Option.bind (appC ahead resolv.1) fun ahead1=>
  M.resolve_ResolveWords_loop2 n u at0_ es1 (i1+1) out1 ahead1
def M.resolve_ResolveWords_loop1:List api_Word→(List Str)→Option ((List Str))
 | [],texts=>
  some texts
 | e :: es,texts=>
  Option.bind (appC texts [e.Text]) fun texts1=>
  M.resolve_ResolveWords_loop1 es texts1
def M.resolve_ResolveWords(n:Nat)(u:api_Unit)(at0_:api_Id)(l:List api_Word):Option ((List api_Meaning)):=
 Option.bind (M.resolve_ResolveWords_loop1 l ([]:List Str)) fun texts=>
  Option.bind (M.citation_Scan n texts) fun scan=>
  Option.bind (M.resolve_ResolveWords_loop2 n u at0_ scan (0:Int) ([]:List api_Meaning) ([]:List api_Id)) fun out=>
   some out
def M.r20_Singles:Option ((List Str)):=
 some ([([112,97,114,116]:Str),([115,101,99,116,105,111,110]:Str),([112,97,114,97,103,114,97,112,104]:Str),([116,97,98,108,101]:Str),([114,111,119]:Str),([99,101,108,108]:Str),([110,111,116,101]:Str)])
def M.r20_kind_loop1(l:List Str)(s0_:Str):Nat→Int→Option (Unit ⊕ Int)
 | 0,_=>none
 | n+1,i=>
  if i<(l.length:Int) then
   if (s0_ !=([]:Str))=true then
    Option.bind (idx l i) fun v=>
    if (v==s0_)=true then
     some (.inr (i+1))
    else
     M.r20_kind_loop1 l s0_ n (i+1)
   else
    M.r20_kind_loop1 l s0_ n (i+1)
  else
   some (.inl ())
def M.r20_kind(n:Nat)(l:List Str)(s0_:Str):Option Int:=
 Option.bind (M.r20_kind_loop1 l s0_ n (0:Int)) fun
  | .inl _=>
   some (0:Int)
  | .inr ret0=>some ret0
def M.r20_Plurals:Option ((List Str)):=
 some ([([112,97,114,116,115]:Str),([115,101,99,116,105,111,110,115]:Str),([112,97,114,97,103,114,97,112,104,115]:Str),([116,97,98,108,101,115]:Str),([114,111,119,115]:Str),([]:Str),([110,111,116,101,115]:Str)])
def M.r20_step(n:Nat)(s0_:api_Step):Option Bool:=
 if (1:Int)≤s0_.Kind then
  if s0_.Kind≤(7:Int) then
   Option.bind (M.r03_May n s0_.Label) fun may=>
   some may
  else
   some false
 else
  some false
def M.r20_steps_loop1(p:List api_Step):Nat→Int→Option (Unit ⊕ Bool)
 | 0,_=>none
 | n+1,i=>
  if i<(p.length:Int) then
   Option.bind (idx p i) fun v=>
   Option.bind (M.r20_step n v) fun step=>
   if step=false then
    some (.inr false)
   else
    M.r20_steps_loop1 p n (i+1)
  else
   some (.inl ())
def M.r20_steps(n:Nat)(p:List api_Step):Option Bool:=
 Option.bind (M.r20_steps_loop1 p n (0:Int)) fun
  | .inl _=>
   some true
  | .inr ret0=>some ret0
def M.r20_plain(n:Nat)(p:List api_Step):Option Bool:=
 Option.bind (
   if (0:Int)< (p.length:Int) then
    Option.bind (idx p (0:Int)) fun v=>
    if v.Kind=(0:Int) then
     Option.bind (idx p (0:Int)) fun v1=>
     if (v1.Label==([]:Str))=true then
      Option.bind (slcLo p (1:Int)) fun v2=>
      some v2
     else
      some p
    else
     some p
   else
    some p
  ) fun p1=>
  if (0:Int)< (p1.length:Int) then
   Option.bind (M.r20_steps n p1) fun steps=>
   some steps
  else
   some false
def M.r20_May(n:Nat)(c:api_Cite):Option Bool:=
 Option.bind (
   if (9:Int)< (c.Path.length:Int) then
    some true
   else
    some (decide ((c.Path.length:Int)=(0:Int)))
  ) fun v=>
  if v=true then
   some false
  else
   Option.bind (
     if c.Kind=(0:Int) then
      some (decide (c.Kind=(0:Int)))
     else
      some (decide (c.Kind=(4:Int)))
    ) fun v1=>
    if v1=true then
     if (c.To==([]:Str))=true then
      Option.bind (M.r20_plain n c.Path) fun plain=>
      some plain
     else
      some false
    else
     if c.Kind=(1:Int) then
      Option.bind (M.r03_May n c.To) fun may=>
      if may=true then
       Option.bind (M.r20_plain n c.Path) fun plain1=>
       if plain1=true then
        Option.bind M.r20_Plurals fun plural=>
        Option.bind (subC (c.Path.length:Int) (1:Int)) fun v2=>
        Option.bind (idx c.Path v2) fun v3=>
        Option.bind (subC v3.Kind (1:Int)) fun v4=>
        Option.bind (idx plural v4) fun v5=>
        some (v5 !=([]:Str))
       else
        some false
      else
       some false
     else
      Option.bind (
        if c.Kind=(2:Int) then
         some (decide (c.Kind=(2:Int)))
        else
         some (decide (c.Kind=(3:Int)))
       ) fun v6=>
       if v6=true then
        if (c.To==([]:Str))=true then
         Option.bind (idx c.Path (0:Int)) fun v7=>
         if (1:Int)≤v7.Kind then
          Option.bind (idx c.Path (0:Int)) fun v8=>
          if v8.Kind≤(7:Int) then
           Option.bind (idx c.Path (0:Int)) fun v9=>
           if (v9.Label==([]:Str))=true then
            Option.bind (slcLo c.Path (1:Int)) fun v10=>
            Option.bind (M.r20_steps n v10) fun steps=>
            some steps
           else
            some false
          else
           some false
         else
          some false
        else
         some false
       else
        some false
def M.r20_Read_loop1(w:List Str):Nat→Int→api_Cite→Option (Int×api_Cite)
 | 0,_,_=>none
 | n+1,i2,c2=>
  Option.bind (addC i2 (1:Int)) fun v30=>
  if v30<(w.length:Int) then
   Option.bind M.r20_Singles fun single8=>
   Option.bind (idx w i2) fun v31=>
   Option.bind (M.r20_kind n single8 v31) fun kind8=>
   if (0:Int)< kind8 then
    Option.bind M.r20_Singles fun single9=>
    Option.bind (idx w i2) fun v32=>
    Option.bind (M.r20_kind n single9 v32) fun kind9=>
    Option.bind (addC i2 (1:Int)) fun v33=>
    Option.bind (idx w v33) fun v34=>
    Option.bind (appC c2.Path [(⟨kind9,v34⟩:api_Step)]) fun out1=>
    Option.bind (addC i2 (2:Int)) fun v35=>
    M.r20_Read_loop1 w n v35 ({c2 with Path:=out1}:api_Cite)
   else
    some (i2,c2)
  else
   some (i2,c2)
def M.r20_Read(n:Nat)(w:List Str):Option (api_Cite×Bool):=
 Option.bind (
   if (1:Int)< (w.length:Int) then
    Option.bind (idx w (0:Int)) fun v=>
    if (v==([116,104,105,115]:Str))=true then
     Option.bind M.r20_Singles fun single=>
     Option.bind (idx w (1:Int)) fun v1=>
     Option.bind (M.r20_kind n single v1) fun kind=>
     if (0:Int)< kind then
      Option.bind M.r20_Singles fun single1=>
      Option.bind (idx w (1:Int)) fun v2=>
      Option.bind (M.r20_kind n single1 v2) fun kind1=>
      some ((2:Int),({({(⟨(0:Int),([]:List api_Step),([]:Str),(0:Int),(0:Int)⟩:api_Cite) with Kind:=(2:Int)}:api_Cite) with Path:=[(⟨kind1,([]:Str)⟩:api_Step)]}:api_Cite))
     else
      if (2:Int)< (w.length:Int) then
       Option.bind (idx w (0:Int)) fun v3=>
       if (v3==([116,104,101]:Str))=true then
        Option.bind (idx w (1:Int)) fun v4=>
        if (v4==([115,97,105,100]:Str))=true then
         Option.bind M.r20_Singles fun single2=>
         Option.bind (idx w (2:Int)) fun v5=>
         Option.bind (M.r20_kind n single2 v5) fun kind2=>
         if (0:Int)< kind2 then
          Option.bind M.r20_Singles fun single3=>
          Option.bind (idx w (2:Int)) fun v6=>
          Option.bind (M.r20_kind n single3 v6) fun kind3=>
          some ((3:Int),({({(⟨(0:Int),([]:List api_Step),([]:Str),(0:Int),(0:Int)⟩:api_Cite) with Kind:=(3:Int)}:api_Cite) with Path:=[(⟨kind3,([]:Str)⟩:api_Step)]}:api_Cite))
         else
          if (0:Int)< (w.length:Int) then
           Option.bind (idx w (0:Int)) fun v7=>
           if (v7==([102,111,114,109,101,114,108,121]:Str))=true then
            some ((1:Int),({(⟨(0:Int),([]:List api_Step),([]:Str),(0:Int),(0:Int)⟩:api_Cite) with Kind:=(4:Int)}:api_Cite))
           else
            some ((0:Int),(⟨(0:Int),([]:List api_Step),([]:Str),(0:Int),(0:Int)⟩:api_Cite))
          else
           some ((0:Int),(⟨(0:Int),([]:List api_Step),([]:Str),(0:Int),(0:Int)⟩:api_Cite))
        else
         if (0:Int)< (w.length:Int) then
          Option.bind (idx w (0:Int)) fun v8=>
          if (v8==([102,111,114,109,101,114,108,121]:Str))=true then
           some ((1:Int),({(⟨(0:Int),([]:List api_Step),([]:Str),(0:Int),(0:Int)⟩:api_Cite) with Kind:=(4:Int)}:api_Cite))
          else
           some ((0:Int),(⟨(0:Int),([]:List api_Step),([]:Str),(0:Int),(0:Int)⟩:api_Cite))
         else
          some ((0:Int),(⟨(0:Int),([]:List api_Step),([]:Str),(0:Int),(0:Int)⟩:api_Cite))
       else
        if (0:Int)< (w.length:Int) then
         Option.bind (idx w (0:Int)) fun v9=>
         if (v9==([102,111,114,109,101,114,108,121]:Str))=true then
          some ((1:Int),({(⟨(0:Int),([]:List api_Step),([]:Str),(0:Int),(0:Int)⟩:api_Cite) with Kind:=(4:Int)}:api_Cite))
         else
          some ((0:Int),(⟨(0:Int),([]:List api_Step),([]:Str),(0:Int),(0:Int)⟩:api_Cite))
        else
         some ((0:Int),(⟨(0:Int),([]:List api_Step),([]:Str),(0:Int),(0:Int)⟩:api_Cite))
      else
       if (0:Int)< (w.length:Int) then
        Option.bind (idx w (0:Int)) fun v10=>
        if (v10==([102,111,114,109,101,114,108,121]:Str))=true then
         some ((1:Int),({(⟨(0:Int),([]:List api_Step),([]:Str),(0:Int),(0:Int)⟩:api_Cite) with Kind:=(4:Int)}:api_Cite))
        else
         some ((0:Int),(⟨(0:Int),([]:List api_Step),([]:Str),(0:Int),(0:Int)⟩:api_Cite))
       else
        some ((0:Int),(⟨(0:Int),([]:List api_Step),([]:Str),(0:Int),(0:Int)⟩:api_Cite))
    else
     if (2:Int)< (w.length:Int) then
      Option.bind (idx w (0:Int)) fun v11=>
      if (v11==([116,104,101]:Str))=true then
       Option.bind (idx w (1:Int)) fun v12=>
       if (v12==([115,97,105,100]:Str))=true then
        Option.bind M.r20_Singles fun single4=>
        Option.bind (idx w (2:Int)) fun v13=>
        Option.bind (M.r20_kind n single4 v13) fun kind4=>
        if (0:Int)< kind4 then
         Option.bind M.r20_Singles fun single5=>
         Option.bind (idx w (2:Int)) fun v14=>
         Option.bind (M.r20_kind n single5 v14) fun kind5=>
         some ((3:Int),({({(⟨(0:Int),([]:List api_Step),([]:Str),(0:Int),(0:Int)⟩:api_Cite) with Kind:=(3:Int)}:api_Cite) with Path:=[(⟨kind5,([]:Str)⟩:api_Step)]}:api_Cite))
        else
         if (0:Int)< (w.length:Int) then
          Option.bind (idx w (0:Int)) fun v15=>
          if (v15==([102,111,114,109,101,114,108,121]:Str))=true then
           some ((1:Int),({(⟨(0:Int),([]:List api_Step),([]:Str),(0:Int),(0:Int)⟩:api_Cite) with Kind:=(4:Int)}:api_Cite))
          else
           some ((0:Int),(⟨(0:Int),([]:List api_Step),([]:Str),(0:Int),(0:Int)⟩:api_Cite))
         else
          some ((0:Int),(⟨(0:Int),([]:List api_Step),([]:Str),(0:Int),(0:Int)⟩:api_Cite))
       else
        if (0:Int)< (w.length:Int) then
         Option.bind (idx w (0:Int)) fun v16=>
         if (v16==([102,111,114,109,101,114,108,121]:Str))=true then
          some ((1:Int),({(⟨(0:Int),([]:List api_Step),([]:Str),(0:Int),(0:Int)⟩:api_Cite) with Kind:=(4:Int)}:api_Cite))
         else
          some ((0:Int),(⟨(0:Int),([]:List api_Step),([]:Str),(0:Int),(0:Int)⟩:api_Cite))
        else
         some ((0:Int),(⟨(0:Int),([]:List api_Step),([]:Str),(0:Int),(0:Int)⟩:api_Cite))
      else
       if (0:Int)< (w.length:Int) then
        Option.bind (idx w (0:Int)) fun v17=>
        if (v17==([102,111,114,109,101,114,108,121]:Str))=true then
         some ((1:Int),({(⟨(0:Int),([]:List api_Step),([]:Str),(0:Int),(0:Int)⟩:api_Cite) with Kind:=(4:Int)}:api_Cite))
        else
         some ((0:Int),(⟨(0:Int),([]:List api_Step),([]:Str),(0:Int),(0:Int)⟩:api_Cite))
       else
        some ((0:Int),(⟨(0:Int),([]:List api_Step),([]:Str),(0:Int),(0:Int)⟩:api_Cite))
     else
      if (0:Int)< (w.length:Int) then
       Option.bind (idx w (0:Int)) fun v18=>
       if (v18==([102,111,114,109,101,114,108,121]:Str))=true then
        some ((1:Int),({(⟨(0:Int),([]:List api_Step),([]:Str),(0:Int),(0:Int)⟩:api_Cite) with Kind:=(4:Int)}:api_Cite))
       else
        some ((0:Int),(⟨(0:Int),([]:List api_Step),([]:Str),(0:Int),(0:Int)⟩:api_Cite))
      else
       some ((0:Int),(⟨(0:Int),([]:List api_Step),([]:Str),(0:Int),(0:Int)⟩:api_Cite))
   else
    if (2:Int)< (w.length:Int) then
     Option.bind (idx w (0:Int)) fun v19=>
     if (v19==([116,104,101]:Str))=true then
      Option.bind (idx w (1:Int)) fun v20=>
      if (v20==([115,97,105,100]:Str))=true then
       Option.bind M.r20_Singles fun single6=>
       Option.bind (idx w (2:Int)) fun v21=>
       Option.bind (M.r20_kind n single6 v21) fun kind6=>
       if (0:Int)< kind6 then
        Option.bind M.r20_Singles fun single7=>
        Option.bind (idx w (2:Int)) fun v22=>
        Option.bind (M.r20_kind n single7 v22) fun kind7=>
        some ((3:Int),({({(⟨(0:Int),([]:List api_Step),([]:Str),(0:Int),(0:Int)⟩:api_Cite) with Kind:=(3:Int)}:api_Cite) with Path:=[(⟨kind7,([]:Str)⟩:api_Step)]}:api_Cite))
       else
        if (0:Int)< (w.length:Int) then
         Option.bind (idx w (0:Int)) fun v23=>
         if (v23==([102,111,114,109,101,114,108,121]:Str))=true then
          some ((1:Int),({(⟨(0:Int),([]:List api_Step),([]:Str),(0:Int),(0:Int)⟩:api_Cite) with Kind:=(4:Int)}:api_Cite))
         else
          some ((0:Int),(⟨(0:Int),([]:List api_Step),([]:Str),(0:Int),(0:Int)⟩:api_Cite))
        else
         some ((0:Int),(⟨(0:Int),([]:List api_Step),([]:Str),(0:Int),(0:Int)⟩:api_Cite))
      else
       if (0:Int)< (w.length:Int) then
        Option.bind (idx w (0:Int)) fun v24=>
        if (v24==([102,111,114,109,101,114,108,121]:Str))=true then
         some ((1:Int),({(⟨(0:Int),([]:List api_Step),([]:Str),(0:Int),(0:Int)⟩:api_Cite) with Kind:=(4:Int)}:api_Cite))
        else
         some ((0:Int),(⟨(0:Int),([]:List api_Step),([]:Str),(0:Int),(0:Int)⟩:api_Cite))
       else
        some ((0:Int),(⟨(0:Int),([]:List api_Step),([]:Str),(0:Int),(0:Int)⟩:api_Cite))
     else
      if (0:Int)< (w.length:Int) then
       Option.bind (idx w (0:Int)) fun v25=>
       if (v25==([102,111,114,109,101,114,108,121]:Str))=true then
        some ((1:Int),({(⟨(0:Int),([]:List api_Step),([]:Str),(0:Int),(0:Int)⟩:api_Cite) with Kind:=(4:Int)}:api_Cite))
       else
        some ((0:Int),(⟨(0:Int),([]:List api_Step),([]:Str),(0:Int),(0:Int)⟩:api_Cite))
      else
       some ((0:Int),(⟨(0:Int),([]:List api_Step),([]:Str),(0:Int),(0:Int)⟩:api_Cite))
    else
     if (0:Int)< (w.length:Int) then
      Option.bind (idx w (0:Int)) fun v26=>
      if (v26==([102,111,114,109,101,114,108,121]:Str))=true then
       some ((1:Int),({(⟨(0:Int),([]:List api_Step),([]:Str),(0:Int),(0:Int)⟩:api_Cite) with Kind:=(4:Int)}:api_Cite))
      else
       some ((0:Int),(⟨(0:Int),([]:List api_Step),([]:Str),(0:Int),(0:Int)⟩:api_Cite))
     else
      some ((0:Int),(⟨(0:Int),([]:List api_Step),([]:Str),(0:Int),(0:Int)⟩:api_Cite))
  ) fun (i,c)=>
  Option.bind (
    Option.bind (
      if c.Kind≠(2:Int) then
       if c.Kind≠(3:Int) then
        if i<(w.length:Int) then
         Option.bind (idx w i) fun v28=>
         some (v28==([98,111,111,107]:Str))
        else
         some false
       else
        some false
      else
       some false
     ) fun v27=>
     if v27=true then
      Option.bind (appC c.Path ([(⟨(0:Int),([]:Str)⟩:api_Step)])) fun out=>
      Option.bind (addC i (1:Int)) fun v29=>
      some (v29,({c with Path:=out}:api_Cite))
     else
      some (i,c)
   ) fun (i1,c1)=>
   Option.bind (M.r20_Read_loop1 w n i1 c1) fun (i2,c2)=>
    Option.bind (
      if c2.Kind=(0:Int) then
       Option.bind (addC i2 (4:Int)) fun v36=>
       if v36=(w.length:Int) then
        Option.bind M.r20_Plurals fun plural=>
        Option.bind (idx w i2) fun v37=>
        Option.bind (M.r20_kind n plural v37) fun kind10=>
        if (0:Int)< kind10 then
         Option.bind (addC i2 (2:Int)) fun v38=>
         Option.bind (idx w v38) fun v39=>
         if (v39==([116,111]:Str))=true then
          Option.bind M.r20_Plurals fun plural1=>
          Option.bind (idx w i2) fun v40=>
          Option.bind (M.r20_kind n plural1 v40) fun kind11=>
          Option.bind (addC i2 (1:Int)) fun v41=>
          Option.bind (idx w v41) fun v42=>
          Option.bind (appC c2.Path [(⟨kind11,v42⟩:api_Step)]) fun out2=>
          Option.bind (addC i2 (3:Int)) fun v43=>
          Option.bind (idx w v43) fun v44=>
          Option.bind (addC i2 (4:Int)) fun v45=>
          some (v45,({({({c2 with Kind:=(1:Int)}:api_Cite) with Path:=out2}:api_Cite) with To:=v44}:api_Cite))
         else
          some (i2,c2)
        else
         some (i2,c2)
       else
        some (i2,c2)
      else
       some (i2,c2)
     ) fun (i3,c3)=>
     if i3≠(w.length:Int) then
      some ((⟨(0:Int),([]:List api_Step),([]:Str),(0:Int),(0:Int)⟩:api_Cite),false)
     else
      Option.bind (M.r20_May n c3) fun may=>
      if may=false then
       some ((⟨(0:Int),([]:List api_Step),([]:Str),(0:Int),(0:Int)⟩:api_Cite),false)
      else
       some (c3,true)
def M.r20_bare(s0_:Str):Option Str:=
 if (s0_==([]:Str))=true then
  some s0_
 else
  Option.bind (subC (s0_.length:Int) (1:Int)) fun v=>
  Option.bind (idx s0_ v) fun b=>
  if (b.toNat:Int)=(44:Int) then
   Option.bind (subC (s0_.length:Int) (1:Int)) fun v1=>
   Option.bind (slcHi s0_ v1) fun v2=>
   some v2
  else
   if (b.toNat:Int)=(59:Int) then
    Option.bind (subC (s0_.length:Int) (1:Int)) fun v3=>
    Option.bind (slcHi s0_ v3) fun v4=>
    some v4
   else
    if (b.toNat:Int)=(46:Int) then
     Option.bind (subC (s0_.length:Int) (1:Int)) fun v5=>
     Option.bind (slcHi s0_ v5) fun v6=>
     some v6
    else
     if (b.toNat:Int)=(58:Int) then
      Option.bind (subC (s0_.length:Int) (1:Int)) fun v7=>
      Option.bind (slcHi s0_ v7) fun v8=>
      some v8
     else
      if (b.toNat:Int)=(41:Int) then
       Option.bind (subC (s0_.length:Int) (1:Int)) fun v9=>
       Option.bind (slcHi s0_ v9) fun v10=>
       some v10
      else
       some s0_
def M.r20_at_loop1(l:List Str)(from0_:Int):Nat→Int→api_Cite→Option (api_Cite ⊕ (api_Cite×Bool))
 | 0,_,_=>none
 | n+1,end0_,v=>
  if from0_<end0_ then
   Option.bind (subC end0_ from0_) fun v1=>
   if (23:Int)< v1 then
    Option.bind (subC end0_ (1:Int)) fun v2=>
    M.r20_at_loop1 l from0_ n v2 v
   else
    Option.bind (slc l from0_ end0_) fun v3=>
    Option.bind (appC ([]:List Str) v3) fun out=>
    Option.bind (M.r20_Read n out) fun read=>
    if read.2=false then
     Option.bind (
       Option.bind (subC (out.length:Int) (1:Int)) fun v4=>
       Option.bind (subC (out.length:Int) (1:Int)) fun v5=>
       Option.bind (idx out v5) fun v6=>
       Option.bind (M.r20_bare v6) fun bare=>
       Option.bind (idx out v4) fun v7=>
       Option.bind (setC out v4 bare) fun w=>
       Option.bind (M.r20_Read n w) fun read1=>
       some (read1.2,read1.1)
      ) fun (ok,c)=>
      if ok=true then
       some (.inr (({({c with From:=from0_}:api_Cite) with At:=end0_}:api_Cite),true))
      else
       Option.bind (subC end0_ (1:Int)) fun v8=>
       M.r20_at_loop1 l from0_ n v8 v
    else
     Option.bind (
       some (true,read.1)
      ) fun (ok1,c1)=>
      if ok1=true then
       some (.inr (({({c1 with From:=from0_}:api_Cite) with At:=end0_}:api_Cite),true))
      else
       Option.bind (subC end0_ (1:Int)) fun v9=>
       M.r20_at_loop1 l from0_ n v9 v
  else
   some (.inl v)
def M.r20_at(n:Nat)(l:List Str)(from0_:Int):Option (api_Cite×Bool):=
 Option.bind (M.r20_at_loop1 l from0_ n (l.length:Int) zapi_Cite) fun
  | .inl v=>
   some ((⟨(0:Int),([]:List api_Step),([]:Str),(0:Int),(0:Int)⟩:api_Cite),false)
  | .inr ret0=>some ret0
def M.r20_Scan_loop1(l:List Str):Nat→(List api_Cite)→Int→Option ((List api_Cite))
 | 0,_,_=>none
 | n+1,out,i=>
  if i<(l.length:Int) then
   Option.bind (M.r20_at n l i) fun at0_=>
   if at0_.2=true then
    Option.bind (appC out [at0_.1]) fun out1=>
    M.r20_Scan_loop1 l n out1 at0_.1.At
   else
    M.r20_Scan_loop1 l n out (i+1)
  else
   some out
def M.r20_Scan(n:Nat)(l:List Str):Option ((List api_Cite)):=
 Option.bind (M.r20_Scan_loop1 l n ([]:List api_Cite) (0:Int)) fun out=>
  some out
def M.r23_Get_loop1(u:api_Unit)(id:api_Id)(slf:api_Unit→api_Id→Option (api_Unit×Int)):Nat→Int→api_Unit→Option (api_Unit ⊕ (api_Unit×Int))
 | 0,_,_=>none
 | n+1,i,v=>
  if i<(u.Kids.length:Int) then
   Option.bind (idx u.Kids i) fun v1=>
   Option.bind (slf v1 id) fun get=>
   if (0:Int)≤get.2 then
    Option.bind (addC get.2 (1:Int)) fun v2=>
    some (.inr (get.1,v2))
   else
    M.r23_Get_loop1 u id slf n (i+1) v
  else
   some (.inl v)
def M.r23_Get:Nat→api_Unit→api_Id→Option (api_Unit×Int)
 | 0,_,_=>none
 | n+1,u,id=>
  if u.Id=id then
   some (u,(0:Int))
  else
   Option.bind (M.r23_Get_loop1 u id (M.r23_Get n) n (0:Int) zapi_Unit) fun
    | .inl v=>
     some ((⟨zapi_Id,(0:Int),([]:Str),([]:List api_Word),([]:List api_Word),([]:List api_Unit)⟩:api_Unit),(-1:Int))
    | .inr ret0=>some ret0
def M.r06_Find_loop1(u:api_Unit)(id:api_Id)(slf:api_Unit→api_Id→Option (api_Unit×Bool)):Nat→Int→api_Unit→Option (api_Unit ⊕ (api_Unit×Bool))
 | 0,_,_=>none
 | n+1,i,v=>
  if i<(u.Kids.length:Int) then
   Option.bind (idx u.Kids i) fun v1=>
   Option.bind (slf v1 id) fun find=>
   if find.2=true then
    some (.inr (find.1,true))
   else
    M.r06_Find_loop1 u id slf n (i+1) v
  else
   some (.inl v)
def M.r06_Find:Nat→api_Unit→api_Id→Option (api_Unit×Bool)
 | 0,_,_=>none
 | n+1,u,id=>
  if u.Id=id then
   some (u,true)
  else
   Option.bind (M.r06_Find_loop1 u id (M.r06_Find n) n (0:Int) zapi_Unit) fun
    | .inl v=>
     some ((⟨zapi_Id,(0:Int),([]:Str),([]:List api_Word),([]:List api_Word),([]:List api_Unit)⟩:api_Unit),false)
    | .inr ret0=>some ret0
def M.r06_Above_loop1(u:api_Unit)(id:api_Id)(slf:api_Unit→api_Id→Option ((List api_Id))):Nat→Int→Option (Unit ⊕ ((List api_Id)))
 | 0,_=>none
 | n+1,i=>
  if i<(u.Kids.length:Int) then
   Option.bind (idx u.Kids i) fun v=>
   Option.bind (M.r06_Find n v id) fun find=>
   if find.2=true then
    Option.bind (idx u.Kids i) fun v1=>
    Option.bind (slf v1 id) fun above=>
    Option.bind (appC above [u.Id]) fun out=>
    some (.inr out)
   else
    M.r06_Above_loop1 u id slf n (i+1)
  else
   some (.inl ())
def M.r06_Above:Nat→api_Unit→api_Id→Option ((List api_Id))
 | 0,_,_=>none
 | n+1,u,id=>
  if u.Id=id then
   some ([]:List api_Id)
  else
   Option.bind (M.r06_Above_loop1 u id (M.r06_Above n) n (0:Int)) fun
    | .inl _=>
     some ([]:List api_Id)
    | .inr ret0=>some ret0
def M.r41_This_loop1(u:api_Unit)(kind:Int)(above:(List api_Id)):Nat→Int→api_Id→Option (api_Id ⊕ (api_Id×Bool))
 | 0,_,_=>none
 | n+1,i,v=>
  if i<(above.length:Int) then
   Option.bind (idx above i) fun v1=>
   Option.bind (M.r23_Get n u v1) fun get1=>
   if get1.1.Kind=kind then
    Option.bind (idx above i) fun v2=>
    some (.inr (v2,true))
   else
    M.r41_This_loop1 u kind above n (i+1) v
  else
   some (.inl v)
def M.r41_This(n:Nat)(u:api_Unit)(at0_:api_Id)(kind:Int):Option (api_Id×Bool):=
 Option.bind (M.r23_Get n u at0_) fun get=>
 if get.2<(0:Int) then
  some ((⟨(0:Int),(0:Int),(0:Int)⟩:api_Id),false)
 else
  if get.1.Kind=kind then
   some (at0_,true)
  else
   Option.bind (M.r06_Above n u at0_) fun above=>
   Option.bind (M.r41_This_loop1 u kind above n (0:Int) zapi_Id) fun
    | .inl v=>
     some ((⟨(0:Int),(0:Int),(0:Int)⟩:api_Id),false)
    | .inr ret0=>some ret0
def M.r41_down_loop2(p:List api_Step)(i:Int):Nat→Bool→Int→api_Unit→Option (Bool×api_Unit)
 | 0,_,_,_=>none
 | n+1,found,k,x1=>
  Option.bind (
    if k<(x1.Kids.length:Int) then
     some (!found)
    else
     some false
   ) fun v=>
   if v=true then
    Option.bind (idx x1.Kids k) fun v1=>
    Option.bind (idx p i) fun v2=>
    if v1.Kind=v2.Kind then
     Option.bind (idx x1.Kids k) fun v3=>
     Option.bind (idx p i) fun v4=>
     if (v3.Label==v4.Label)=true then
      Option.bind (idx x1.Kids k) fun v5=>
      Option.bind (addC k (1:Int)) fun v6=>
      M.r41_down_loop2 p i n true v6 v5
     else
      Option.bind (addC k (1:Int)) fun v7=>
      M.r41_down_loop2 p i n found v7 x1
    else
     Option.bind (addC k (1:Int)) fun v8=>
     M.r41_down_loop2 p i n found v8 x1
   else
    some (found,x1)
def M.r41_down_loop1(p:List api_Step):Nat→Int→api_Unit→Option (api_Unit ⊕ ((List api_Id)×Int))
 | 0,_,_=>none
 | n+1,i,x=>
  if i<(p.length:Int) then
   Option.bind (M.r41_down_loop2 p i n false (0:Int) x) fun (found,x1)=>
    if found=false then
     some (.inr (([]:List api_Id),(7:Int)))
    else
     Option.bind (addC i (1:Int)) fun v9=>
     M.r41_down_loop1 p n v9 x1
  else
   some (.inl x)
def M.r41_down(n:Nat)(u:api_Unit)(id:api_Id)(p:List api_Step):Option ((List api_Id)×Int):=
 Option.bind (M.r23_Get n u id) fun get=>
 Option.bind (M.r41_down_loop1 p n (0:Int) get.1) fun
  | .inl x=>
   some ([x.Id],(0:Int))
  | .inr ret0=>some ret0
def M.r07_book(s0_:api_Step):Option Bool:=
 if s0_.Kind=(0:Int) then
  some (s0_.Label==([]:Str))
 else
  some false
def M.r07_May_loop1(p:List api_Step):Nat→Int→Option (Unit ⊕ Bool)
 | 0,_=>none
 | n+1,i=>
  if i<(p.length:Int) then
   Option.bind (
     if i=(0:Int) then
      Option.bind (idx p i) fun v1=>
      Option.bind (M.r07_book v1) fun book=>
      some book
     else
      some false
    ) fun v=>
    if v=true then
     M.r07_May_loop1 p n (i+1)
    else
     Option.bind (idx p i) fun v2=>
     if v2.Kind<(1:Int) then
      some (.inr false)
     else
      Option.bind (idx p i) fun v3=>
      if (7:Int)< v3.Kind then
       some (.inr false)
      else
       Option.bind (idx p i) fun v4=>
       Option.bind (M.r03_May n v4.Label) fun may=>
       if may=false then
        some (.inr false)
       else
        M.r07_May_loop1 p n (i+1)
  else
   some (.inl ())
def M.r07_May(n:Nat)(p:List api_Step):Option Bool:=
 if (9:Int)< (p.length:Int) then
  some false
 else
  Option.bind (M.r07_May_loop1 p n (0:Int)) fun
   | .inl _=>
    some true
   | .inr ret0=>some ret0
def M.r07_Every_loop1(u:api_Unit)(slf:api_Unit→Option ((List api_Unit))):Nat→(List api_Unit)→Int→Option ((List api_Unit))
 | 0,_,_=>none
 | n+1,out,i=>
  if i<(u.Kids.length:Int) then
   Option.bind (idx u.Kids i) fun v=>
   Option.bind (slf v) fun every=>
   Option.bind (appC out every) fun out1=>
   M.r07_Every_loop1 u slf n out1 (i+1)
  else
   some out
def M.r07_Every:Nat→api_Unit→Option ((List api_Unit))
 | 0,_=>none
 | n+1,u=>
  Option.bind (M.r07_Every_loop1 u (M.r07_Every n) n [u] (0:Int)) fun out=>
   some out
def M.r07_at(u:api_Unit)(s0_:api_Step):Option Bool:=
 if u.Kind=s0_.Kind then
  some (u.Label==s0_.Label)
 else
  some false
def M.r07_Units_loop1(p:List api_Step)(every:(List api_Unit)):Nat→(List api_Unit)→Int→Option ((List api_Unit))
 | 0,_,_=>none
 | n+1,now1,i=>
  if i<(every.length:Int) then
   Option.bind (idx every i) fun v1=>
   Option.bind (idx p (0:Int)) fun v2=>
   Option.bind (M.r07_at v1 v2) fun at0_=>
   if at0_=true then
    Option.bind (idx every i) fun v3=>
    Option.bind (appC now1 [v3]) fun out1=>
    M.r07_Units_loop1 p every n out1 (i+1)
   else
    M.r07_Units_loop1 p every n now1 (i+1)
  else
   some now1
def M.r07_Units_loop4(p:List api_Step)(now2:List api_Unit)(k5:Int)(i1:Int):Nat→(List api_Unit)→Int→Option ((List api_Unit))
 | 0,_,_=>none
 | n+1,next1,j=>
  Option.bind (idx now2 i1) fun v4=>
  if j<(v4.Kids.length:Int) then
   Option.bind (idx now2 i1) fun v5=>
   Option.bind (idx v5.Kids j) fun v6=>
   Option.bind (idx p k5) fun v7=>
   Option.bind (M.r07_at v6 v7) fun at0_1=>
   if at0_1=true then
    Option.bind (idx now2 i1) fun v8=>
    Option.bind (idx v8.Kids j) fun v9=>
    Option.bind (appC next1 [v9]) fun out2=>
    M.r07_Units_loop4 p now2 k5 i1 n out2 (j+1)
   else
    M.r07_Units_loop4 p now2 k5 i1 n next1 (j+1)
  else
   some next1
def M.r07_Units_loop3(p:List api_Step)(now2:List api_Unit)(k5:Int):Nat→(List api_Unit)→Int→Option ((List api_Unit))
 | 0,_,_=>none
 | n+1,next,i1=>
  if i1<(now2.length:Int) then
   Option.bind (M.r07_Units_loop4 p now2 k5 i1 n next (0:Int)) fun next1=>
    Option.bind (addC i1 (1:Int)) fun v10=>
    M.r07_Units_loop3 p now2 k5 n next1 v10
  else
   some next
def M.r07_Units_loop2(p:List api_Step):Nat→(List api_Unit)→Int→Option ((List api_Unit))
 | 0,_,_=>none
 | n+1,now2,k5=>
  if k5<(p.length:Int) then
   Option.bind (M.r07_Units_loop3 p now2 k5 n ([]:List api_Unit) (0:Int)) fun next=>
    Option.bind (addC k5 (1:Int)) fun v11=>
    M.r07_Units_loop2 p n next v11
  else
   some now2
def M.r07_Units(n:Nat)(u:api_Unit)(p:List api_Step):Option ((List api_Unit)):=
 Option.bind (M.r07_May n p) fun may=>
 if may=false then
  some ([]:List api_Unit)
 else
  if (p.length:Int)=(0:Int) then
   some [u]
  else
   Option.bind (
     Option.bind (idx p (0:Int)) fun v=>
     Option.bind (M.r07_book v) fun book=>
     if book=true then
      Option.bind (appC ([]:List api_Unit) [u]) fun out=>
      some out
     else
      Option.bind (M.r07_Every n u) fun every=>
      Option.bind (M.r07_Units_loop1 p every n ([]:List api_Unit) (0:Int)) fun now1=>
       some now1
    ) fun now=>
    Option.bind (M.r07_Units_loop2 p n now (1:Int)) fun now2=>
     some now2
def M.r07_Find_loop1(units:(List api_Unit)):Nat→(List api_Id)→Int→Option ((List api_Id))
 | 0,_,_=>none
 | n+1,out,i=>
  if i<(units.length:Int) then
   Option.bind (idx units i) fun v=>
   Option.bind (appC out [v.Id]) fun out1=>
   M.r07_Find_loop1 units n out1 (i+1)
  else
   some out
def M.r07_Find(n:Nat)(u:api_Unit)(p:List api_Step):Option ((List api_Id)):=
 Option.bind (M.r07_Units n u p) fun units=>
 Option.bind (M.r07_Find_loop1 units n ([]:List api_Id) (0:Int)) fun out=>
  some out
def M.r07_One(n:Nat)(u:api_Unit)(p:List api_Step):Option (api_Id×Int):=
 Option.bind (M.r07_Find n u p) fun find=>
 if (find.length:Int)=(0:Int) then
  some ((⟨(0:Int),(0:Int),(0:Int)⟩:api_Id),(7:Int))
 else
  if (1:Int)< (find.length:Int) then
   some ((⟨(0:Int),(0:Int),(0:Int)⟩:api_Id),(8:Int))
  else
   Option.bind (idx find (0:Int)) fun v=>
   some (v,(0:Int))
def M.r23_Parent_loop2(u:api_Unit)(id:api_Id)(slf:api_Unit→api_Id→Option (api_Unit×Int×Int)):Nat→Int→api_Unit→Option (api_Unit ⊕ (api_Unit×Int×Int))
 | 0,_,_=>none
 | n+1,i1,v2=>
  if i1<(u.Kids.length:Int) then
   Option.bind (idx u.Kids i1) fun v3=>
   Option.bind (slf v3 id) fun parent=>
   if (0:Int)≤parent.2.2 then
    Option.bind (addC parent.2.1 (1:Int)) fun v4=>
    some (.inr (parent.1,v4,parent.2.2))
   else
    M.r23_Parent_loop2 u id slf n (i1+1) v2
  else
   some (.inl v2)
def M.r23_Parent_loop1(u:api_Unit)(id:api_Id):Nat→Int→api_Unit→Option (api_Unit ⊕ (api_Unit×Int×Int))
 | 0,_,_=>none
 | n+1,i,v=>
  if i<(u.Kids.length:Int) then
   Option.bind (idx u.Kids i) fun v1=>
   if v1.Id=id then
    some (.inr (u,(0:Int),i))
   else
    M.r23_Parent_loop1 u id n (i+1) v
  else
   some (.inl v)
def M.r23_Parent:Nat→api_Unit→api_Id→Option (api_Unit×Int×Int)
 | 0,_,_=>none
 | n+1,u,id=>
  Option.bind (M.r23_Parent_loop1 u id n (0:Int) zapi_Unit) fun
   | .inl v=>
    Option.bind (M.r23_Parent_loop2 u id (M.r23_Parent n) n (0:Int) v) fun
     | .inl v2=>
      some ((⟨zapi_Id,(0:Int),([]:Str),([]:List api_Word),([]:List api_Word),([]:List api_Unit)⟩:api_Unit),(0:Int),(-1:Int))
     | .inr ret0=>some ret0
   | .inr ret0=>some ret0
def M.r41_Between_loop1(parent:api_Unit×Int×Int)(parent1:api_Unit×Int×Int):Nat→(List api_Id)→Int→Option ((List api_Id))
 | 0,_,_=>none
 | n+1,out,i=>
  if i≤parent1.2.2 then
   Option.bind (idx parent.1.Kids i) fun v2=>
   Option.bind (idx parent.1.Kids parent.2.2) fun v3=>
   if v2.Kind=v3.Kind then
    Option.bind (idx parent.1.Kids i) fun v4=>
    Option.bind (appC out [v4.Id]) fun out1=>
    Option.bind (addC i (1:Int)) fun v5=>
    M.r41_Between_loop1 parent parent1 n out1 v5
   else
    Option.bind (addC i (1:Int)) fun v6=>
    M.r41_Between_loop1 parent parent1 n out v6
  else
   some out
def M.r41_Between(n:Nat)(u:api_Unit)(a:api_Id)(b:api_Id):Option ((List api_Id)):=
 Option.bind (M.r23_Parent n u a) fun parent=>
 Option.bind (M.r23_Parent n u b) fun parent1=>
 if parent.2.2<(0:Int) then
  some ([]:List api_Id)
 else
  if parent1.2.2<parent.2.2 then
   some ([]:List api_Id)
  else
   if parent.1.Id≠parent1.1.Id then
    some ([]:List api_Id)
   else
    Option.bind (idx parent.1.Kids parent.2.2) fun v=>
    Option.bind (idx parent.1.Kids parent1.2.2) fun v1=>
    if v.Kind≠v1.Kind then
     some ([]:List api_Id)
    else
     Option.bind (M.r41_Between_loop1 parent parent1 n ([]:List api_Id) parent.2.2) fun out=>
      some out
def M.r41_On_loop1(u:api_Unit)(c:api_Cite)(said:List api_Id):Nat→Int→Option (Unit ⊕ ((List api_Id)×Int))
 | 0,_=>none
 | n+1,i=>
  if (0:Int)≤i then
   Option.bind (idx said i) fun v3=>
   Option.bind (M.r23_Get n u v3) fun get=>
   if (0:Int)≤get.2 then
    Option.bind (idx c.Path (0:Int)) fun v4=>
    if get.1.Kind=v4.Kind then
     Option.bind (idx said i) fun v5=>
     Option.bind (slcLo c.Path (1:Int)) fun v6=>
     Option.bind (M.r41_down n u v5 v6) fun down1=>
     some (.inr (down1.1,down1.2))
    else
     Option.bind (subC i (1:Int)) fun v7=>
     M.r41_On_loop1 u c said n v7
   else
    Option.bind (subC i (1:Int)) fun v8=>
    M.r41_On_loop1 u c said n v8
  else
   some (.inl ())
def M.r41_On_loop2(u:api_Unit)(c:api_Cite)(one:api_Id×Int)(get1:api_Unit×Int)(parent:api_Unit×Int×Int):Nat→Int→Option (Unit ⊕ ((List api_Id)×Int))
 | 0,_=>none
 | n+1,i1=>
  Option.bind (
    if (0:Int)≤parent.2.2 then
     some (decide (i1<(parent.1.Kids.length:Int)))
    else
     some false
   ) fun v9=>
   if v9=true then
    Option.bind (idx parent.1.Kids i1) fun v10=>
    if v10.Kind=get1.1.Kind then
     Option.bind (idx parent.1.Kids i1) fun v11=>
     if (v11.Label==c.To)=true then
      if i1<parent.2.2 then
       some (.inr (([]:List api_Id),(12:Int)))
      else
       Option.bind (idx parent.1.Kids i1) fun v12=>
       Option.bind (M.r41_Between n u one.1 v12.Id) fun betwee=>
       some (.inr (betwee,(0:Int)))
     else
      Option.bind (addC i1 (1:Int)) fun v13=>
      M.r41_On_loop2 u c one get1 parent n v13
    else
     Option.bind (addC i1 (1:Int)) fun v14=>
     M.r41_On_loop2 u c one get1 parent n v14
   else
    some (.inl ())
def M.r41_On(n:Nat)(u:api_Unit)(at0_:api_Id)(c:api_Cite)(said:List api_Id):Option ((List api_Id)×Int):=
 Option.bind (M.r20_May n c) fun may=>
 if may=false then
  some (([]:List api_Id),(1:Int))
 else
  if c.Kind=(4:Int) then
   some (([]:List api_Id),(11:Int))
  else
   if c.Kind=(2:Int) then
    Option.bind (idx c.Path (0:Int)) fun v=>
    Option.bind (M.r41_This n u at0_ v.Kind) fun this0_=>
    if this0_.2=false then
     some (([]:List api_Id),(7:Int))
    else
     Option.bind (slcLo c.Path (1:Int)) fun v1=>
     Option.bind (M.r41_down n u this0_.1 v1) fun down=>
     some (down.1,down.2)
   else
    if c.Kind=(3:Int) then
     Option.bind (subC (said.length:Int) (1:Int)) fun v2=>
     Option.bind (M.r41_On_loop1 u c said n v2) fun
      | .inl _=>
       some (([]:List api_Id),(7:Int))
      | .inr ret0=>some ret0
    else
     Option.bind (M.r07_One n u c.Path) fun one=>
     if one.2≠(0:Int) then
      some (([]:List api_Id),one.2)
     else
      if c.Kind=(0:Int) then
       some ([one.1],(0:Int))
      else
       Option.bind (M.r23_Get n u one.1) fun get1=>
       Option.bind (M.r23_Parent n u one.1) fun parent=>
       Option.bind (M.r41_On_loop2 u c one get1 parent n (0:Int)) fun
        | .inl _=>
         some (([]:List api_Id),(7:Int))
        | .inr ret0=>some ret0
def M.r41_All_loop1(u:api_Unit)(at0_:api_Id)(scan:(List api_Cite)):Nat→(List api_Meaning)→(List api_Id)→Int→Option ((List api_Meaning))
 | 0,_,_,_=>none
 | n+1,out,said,i=>
  if i<(scan.length:Int) then
   Option.bind (idx scan i) fun v=>
   Option.bind (M.r41_On n u at0_ v said) fun on=>
   Option.bind (appC out [(⟨at0_,i,on.1⟩:api_Meaning)]) fun out1=>
   Option.bind (appC ([]:List api_Id) said) fun out2=>
   Option.bind (appC out2 on.1) fun out3=>
   M.r41_All_loop1 u at0_ scan n out1 out3 (i+1)
  else
   some out
def M.r41_All(n:Nat)(u:api_Unit)(at0_:api_Id)(l:List api_Word):Option ((List api_Meaning)):=
 Option.bind (M.r06_Texts n l) fun texts=>
 Option.bind (M.r20_Scan n texts) fun scan=>
 Option.bind (M.r41_All_loop1 u at0_ scan n ([]:List api_Meaning) ([]:List api_Id) (0:Int)) fun out=>
  some out
def M.r06_Alike_loop1(a:List api_Id)(b:List api_Id):Nat→Int→Option (Unit ⊕ Bool)
 | 0,_=>none
 | n+1,i=>
  if i<(a.length:Int) then
   Option.bind (idx a i) fun v=>
   Option.bind (idx b i) fun v1=>
   if v≠v1 then
    some (.inr false)
   else
    M.r06_Alike_loop1 a b n (i+1)
  else
   some (.inl ())
def M.r06_Alike(n:Nat)(a:List api_Id)(b:List api_Id):Option Bool:=
 if (a.length:Int)≠(b.length:Int) then
  some false
 else
  Option.bind (M.r06_Alike_loop1 a b n (0:Int)) fun
   | .inl _=>
    some true
   | .inr ret0=>some ret0
def M.r41_Same_loop1(a:List api_Meaning)(b:List api_Meaning):Nat→Int→Option (Unit ⊕ Bool)
 | 0,_=>none
 | n+1,i=>
  if i<(a.length:Int) then
   Option.bind (idx a i) fun v=>
   Option.bind (idx b i) fun v1=>
   if v.At≠v1.At then
    some (.inr false)
   else
    Option.bind (idx a i) fun v2=>
    Option.bind (idx b i) fun v3=>
    if v2.N≠v3.N then
     some (.inr false)
    else
     Option.bind (idx a i) fun v4=>
     Option.bind (idx b i) fun v5=>
     Option.bind (M.r06_Alike n v4.To v5.To) fun alike=>
     if alike=false then
      some (.inr false)
     else
      M.r41_Same_loop1 a b n (i+1)
  else
   some (.inl ())
def M.r41_Same(n:Nat)(a:List api_Meaning)(b:List api_Meaning):Option Bool:=
 if (a.length:Int)≠(b.length:Int) then
  some false
 else
  Option.bind (M.r41_Same_loop1 a b n (0:Int)) fun
   | .inl _=>
    some true
   | .inr ret0=>some ret0
def M.law41_ResolveWordList_loop1(w:List api_Word):Nat→Int→Option (Unit ⊕ Bool)
 | 0,_=>none
 | n+1,i=>
  if i<(w.length:Int) then
   Option.bind (idx w i) fun v1=>
   if (100:Int)< (v1.Text.length:Int) then
    some (.inr true)
   else
    M.law41_ResolveWordList_loop1 w n (i+1)
  else
   some (.inl ())
def M.law41_ResolveWordList(n:Nat)(u:api_Unit)(at0_:api_Id)(w:List api_Word):Option Bool:=
 Option.bind (M.law41_awake n) fun awake=>
 if awake=false then
  some false
 else
  Option.bind (
    Option.bind (M.law41_book n u) fun book=>
    if book=false then
     some true
    else
     some (decide ((60:Int)< (w.length:Int)))
   ) fun v=>
   if v=true then
    some true
   else
    Option.bind (M.law41_ResolveWordList_loop1 w n (0:Int)) fun
     | .inl _=>
      Option.bind (M.resolve_ResolveWords n u at0_ w) fun resolv=>
      Option.bind (M.r41_All n u at0_ w) fun all=>
      Option.bind (M.r41_Same n resolv all) fun same=>
      some same
     | .inr ret0=>some ret0
def M.resolve_ResolveBook_1_loop1(c1:api_Unit)(slf:api_Unit→(List api_Meaning)→api_Unit→Option (List api_Meaning)):List api_Unit→(List api_Meaning)→Option ((List api_Meaning))
 | [],v=>
  some v
 | e :: es,v=>
  Option.bind (slf e v c1) fun w=>
  M.resolve_ResolveBook_1_loop1 c1 slf es w
def M.resolve_ResolveBook_1:Nat→api_Unit→(List api_Meaning)→api_Unit→Option (List api_Meaning)
 | 0,_,_,_=>none
 | n+1,x,c,c1=>
  Option.bind (M.resolve_ResolveWords n c1 x.Id x.Words) fun resolv=>
  Option.bind (appC c resolv) fun out=>
  Option.bind (M.resolve_ResolveBook_1_loop1 c1 (M.resolve_ResolveBook_1 n) x.Kids out) fun v=>
   some v
def M.resolve_ResolveBook(n:Nat)(u:api_Unit):Option ((List api_Meaning)):=
 Option.bind (M.resolve_ResolveBook_1 n u ([]:List api_Meaning) u) fun out=>
 some out
def M.r41_Book_loop1(u:api_Unit)(every:(List api_Unit)):Nat→(List api_Meaning)→Int→Option ((List api_Meaning))
 | 0,_,_=>none
 | n+1,out,i=>
  if i<(every.length:Int) then
   Option.bind (idx every i) fun v=>
   Option.bind (idx every i) fun v1=>
   Option.bind (M.r41_All n u v.Id v1.Words) fun all=>
   Option.bind (appC out all) fun out1=>
   M.r41_Book_loop1 u every n out1 (i+1)
  else
   some out
def M.r41_Book(n:Nat)(u:api_Unit):Option ((List api_Meaning)):=
 Option.bind (M.r07_Every n u) fun every=>
 Option.bind (M.r41_Book_loop1 u every n ([]:List api_Meaning) (0:Int)) fun out=>
  some out
def M.law41_ResolveBook_loop2(u:api_Unit)(resolv:(List api_Meaning))(i:Int):Nat→Int→Option (Unit ⊕ Bool)
 | 0,_=>none
 | n+1,k=>
  Option.bind (idx resolv i) fun v=>
  if k<(v.To.length:Int) then
   Option.bind (idx resolv i) fun v1=>
   Option.bind (idx v1.To k) fun v2=>
   Option.bind (M.r06_Find n u v2) fun find=>
   if find.2=false then
    some (.inr false)
   else
    M.law41_ResolveBook_loop2 u resolv i n (k+1)
  else
   some (.inl ())
def M.law41_ResolveBook_loop1(u:api_Unit)(resolv:(List api_Meaning)):Nat→Int→Option (Unit ⊕ Bool)
 | 0,_=>none
 | n+1,i=>
  if i<(resolv.length:Int) then
   Option.bind (M.law41_ResolveBook_loop2 u resolv i n (0:Int)) fun
    | .inl _=>
     Option.bind (addC i (1:Int)) fun v3=>
     M.law41_ResolveBook_loop1 u resolv n v3
    | .inr ret0=>some (.inr ret0)
  else
   some (.inl ())
def M.law41_ResolveBook(n:Nat)(u:api_Unit):Option Bool:=
 Option.bind (M.law41_awake n) fun awake=>
 if awake=false then
  some false
 else
  Option.bind (M.law41_book n u) fun book=>
  if book=false then
   some true
  else
   Option.bind (M.resolve_ResolveBook n u) fun resolv=>
   Option.bind (M.law41_ResolveBook_loop1 u resolv n (0:Int)) fun
    | .inl _=>
     Option.bind (M.r41_Book n u) fun book1=>
     Option.bind (M.r41_Same n resolv book1) fun same=>
     some same
    | .inr ret0=>some ret0
end Go.Proofs.YtlegkjbldofkmaaGreat
