/-
  What the functions compute: plain functions, written by program out of the code; no machine in sight.
-/
import Derived.Test.YtfclekegoleiaaaMod
set_option linter.unusedVariables false
set_option linter.unusedSimpArgs false
namespace Go.Proofs.Ytfclekegoleiaaa
open Go Go.Dec


structure api_Id where
  Act : Int
  Item : Int
  N : Int
theorem api_Id.eq_iff (a b : api_Id) : (a.Act = b.Act ∧ a.Item = b.Item ∧ a.N = b.N) ↔ a = b := ⟨fun h => by cases a; cases b; simp_all, fun h => by subst h; simp⟩
instance : DecidableEq api_Id := fun a b => decidable_of_iff _ (api_Id.eq_iff a b)
def zapi_Id : api_Id := ⟨(0 : Int), (0 : Int), (0 : Int)⟩

structure api_Mark where
  Act : Int
  Item : Int
  At : Int
theorem api_Mark.eq_iff (a b : api_Mark) : (a.Act = b.Act ∧ a.Item = b.Item ∧ a.At = b.At) ↔ a = b := ⟨fun h => by cases a; cases b; simp_all, fun h => by subst h; simp⟩
instance : DecidableEq api_Mark := fun a b => decidable_of_iff _ (api_Mark.eq_iff a b)
def zapi_Mark : api_Mark := ⟨(0 : Int), (0 : Int), (0 : Int)⟩

structure api_Word where
  Text : Str
  By : api_Mark
theorem api_Word.eq_iff (a b : api_Word) : (a.Text = b.Text ∧ a.By = b.By) ↔ a = b := ⟨fun h => by cases a; cases b; simp_all, fun h => by subst h; simp⟩
instance : DecidableEq api_Word := fun a b => decidable_of_iff _ (api_Word.eq_iff a b)
def zapi_Word : api_Word := ⟨([] : Str), zapi_Mark⟩

structure api_Unit where
  Id : api_Id
  Kind : Int
  Label : Str
  Head : List api_Word
  Words : List api_Word
  Kids : List api_Unit
def zapi_Unit : api_Unit := ⟨zapi_Id, (0 : Int), ([] : Str), ([] : List api_Word), ([] : List api_Word), ([] : List api_Unit)⟩

structure api_Step where
  Kind : Int
  Label : Str
theorem api_Step.eq_iff (a b : api_Step) : (a.Kind = b.Kind ∧ a.Label = b.Label) ↔ a = b := ⟨fun h => by cases a; cases b; simp_all, fun h => by subst h; simp⟩
instance : DecidableEq api_Step := fun a b => decidable_of_iff _ (api_Step.eq_iff a b)
def zapi_Step : api_Step := ⟨(0 : Int), ([] : Str)⟩

structure target_spot where
  parent_ : api_Id
  at_ : Int
theorem target_spot.eq_iff (a b : target_spot) : (a.parent_ = b.parent_ ∧ a.at_ = b.at_) ↔ a = b := ⟨fun h => by cases a; cases b; simp_all, fun h => by subst h; simp⟩
instance : DecidableEq target_spot := fun a b => decidable_of_iff _ (target_spot.eq_iff a b)
def ztarget_spot : target_spot := ⟨zapi_Id, (0 : Int)⟩

structure api_Start where
  Kind : Int
  Day : Int
  Event : Str
theorem api_Start.eq_iff (a b : api_Start) : (a.Kind = b.Kind ∧ a.Day = b.Day ∧ a.Event = b.Event) ↔ a = b := ⟨fun h => by cases a; cases b; simp_all, fun h => by subst h; simp⟩
instance : DecidableEq api_Start := fun a b => decidable_of_iff _ (api_Start.eq_iff a b)
def zapi_Start : api_Start := ⟨(0 : Int), (0 : Int), ([] : Str)⟩

structure api_Item where
  Kind : Int
  At : List api_Step
  To : List api_Step
  Where : Int
  Nth : Int
  Unit : api_Unit
  Old : List Str
  New : List Str
  Label : Str
  For : Str
  Start : api_Start
  Act : Int
  Item : Int
  Day : Int
  Event : Str
  By : List api_Item
def zapi_Item : api_Item := ⟨(0 : Int), ([] : List api_Step), ([] : List api_Step), (0 : Int), (0 : Int), zapi_Unit, ([] : List Str), ([] : List Str), ([] : Str), ([] : Str), zapi_Start, (0 : Int), (0 : Int), (0 : Int), ([] : Str), ([] : List api_Item)⟩


def M.target_isWhere (where0_ : Int) : Option Bool :=
  if (0 : Int) ≤ where0_ then
    some (decide (where0_ ≤ (3 : Int)))
  else
    some false

def M.address_book (s0_ : api_Step) : Option Bool :=
  if s0_.Kind = (0 : Int) then
    some (s0_.Label == ([] : Str))
  else
    some false

def M.strings_indexFunc_loop1 (s0_ : Str) (f : Int → Option Bool) (truth : Bool) : Nat → Nat → Option (Nat ⊕ Int)
  | 0, _ => none
  | n + 1, v =>
    if v < s0_.length then
      Option.bind (f ((runeAt s0_ v).1 : Int)) fun v1 =>
      if (v1 == truth) = true then
        some (.inr (v : Int))
      else
        M.strings_indexFunc_loop1 s0_ f truth n (v + (runeAt s0_ v).2)
    else
      some (.inl v)
def M.strings_indexFunc (n : Nat) (s0_ : Str) (f : Int → Option Bool) (truth : Bool) : Option Int :=
  Option.bind (M.strings_indexFunc_loop1 s0_ f truth n 0) fun
    | .inl v =>
      some (-1 : Int)
    | .inr ret0 => some ret0

def M.strings_IndexFunc (n : Nat) (s0_ : Str) (f : Int → Option Bool) : Option Int :=
  Option.bind (M.strings_indexFunc n s0_ f true) fun indexf =>
  some indexf

def M.label_parted_1 (b : Int) : Option Bool :=
  if b < (48 : Int) then
    some true
  else
    some (decide ((57 : Int) < b))

def M.label_parted (n : Nat) (s0_ : Str) : Option (Str × Str) :=
  Option.bind (M.strings_IndexFunc n s0_ (fun s0 => M.label_parted_1 s0)) fun indexf =>
  if indexf < (0 : Int) then
    some (s0_, ([] : Str))
  else
    Option.bind (slcHi s0_ indexf) fun v =>
    Option.bind (slcLo s0_ indexf) fun v1 =>
    some (v, v1)

def M.strings_ContainsFunc (n : Nat) (s0_ : Str) (f : Int → Option Bool) : Option Bool :=
  Option.bind (M.strings_IndexFunc n s0_ f) fun indexf =>
  some (decide ((0 : Int) ≤ indexf))

def M.label_Valid_1 (b : Int) : Option Bool :=
  if b < (65 : Int) then
    some true
  else
    some (decide ((90 : Int) < b))

def M.label_Valid (n : Nat) (s0_ : Str) : Option Bool :=
  Option.bind (M.label_parted n s0_) fun parted =>
  if (1 : Int) ≤ (parted.1.length : Int) then
    if (parted.1.length : Int) ≤ (4 : Int) then
      Option.bind (idx parted.1 (0 : Int)) fun b =>
      if (b.toNat : Int) ≠ (48 : Int) then
        if (parted.2.length : Int) ≤ (3 : Int) then
          Option.bind (M.strings_ContainsFunc n parted.2 (fun s0 => M.label_Valid_1 s0)) fun contai =>
          some (!contai)
        else
          some false
      else
        some false
    else
      some false
  else
    some false

def M.address_Valid_loop1 (n : Nat)  : List api_Step → Int → Option (Unit ⊕ Bool)
  | [], _ =>
    some (.inl ())
  | e :: es, i =>
    Option.bind (
        if i = (0 : Int) then
          Option.bind (M.address_book e) fun book =>
          some book
        else
          some false
      ) fun v =>
      if v = true then
        M.address_Valid_loop1 n es (i + 1)
      else
        if e.Kind ≤ (0 : Int) then
          some (.inr false)
        else
          if (7 : Int) < e.Kind then
            some (.inr false)
          else
            Option.bind (M.label_Valid n e.Label) fun valid =>
            if valid = false then
              some (.inr false)
            else
              M.address_Valid_loop1 n es (i + 1)
def M.address_Valid (n : Nat) (p : List api_Step) : Option Bool :=
  Option.bind (M.address_Valid_loop1 n p (0 : Int)) fun
    | .inl _ =>
      some (decide ((p.length : Int) ≤ (9 : Int)))
    | .inr ret0 => some ret0

def M.address_called (u : api_Unit) (s0_ : api_Step) : Option Bool :=
  if u.Kind = s0_.Kind then
    some (u.Label == s0_.Label)
  else
    some false

def M.address_found_1 (x : api_Unit) (c : List api_Step) (c1 : List api_Unit) : Option (List api_Unit) :=
  Option.bind (idx c (0 : Int)) fun v =>
  Option.bind (M.address_called x v) fun called =>
  if called = true then
    Option.bind (appC c1 [x]) fun out =>
    some out
  else
    some c1

def M.address_each_i0_loop1 (c : List api_Step) (slf : api_Unit → (List api_Step) → (List api_Unit) → Option (List api_Unit)) : List api_Unit → (List api_Unit) → Option ((List api_Unit))
  | [], v =>
    some v
  | e :: es, v =>
    Option.bind (slf e c v) fun w1 =>
    M.address_each_i0_loop1 c slf es w1
def M.address_each_i0 : Nat → api_Unit → (List api_Step) → (List api_Unit) → Option (List api_Unit)
  | 0, _, _, _ => none
  | n + 1, u, c, c1 =>
    Option.bind (M.address_found_1 u c c1) fun w =>
    Option.bind (M.address_each_i0_loop1 c (M.address_each_i0 n) u.Kids w) fun v =>
      some v

def M.address_found_loop3 (e : api_Step) : List api_Unit → (List api_Unit) → Option ((List api_Unit))
  | [], next1 =>
    some next1
  | e2 :: es2, next1 =>
    Option.bind (M.address_called e2 e) fun called =>
    if called = true then
      Option.bind (appC next1 [e2]) fun next2 =>
      M.address_found_loop3 e es2 next2
    else
      M.address_found_loop3 e es2 next1
def M.address_found_loop2 (e : api_Step) : List api_Unit → (List api_Unit) → Option ((List api_Unit))
  | [], next =>
    some next
  | e1 :: es1, next =>
    Option.bind (M.address_found_loop3 e e1.Kids next) fun next1 =>
      M.address_found_loop2 e es1 next1
def M.address_found_loop1  : List api_Step → (List api_Unit) → Option ((List api_Unit))
  | [], at0_2 =>
    some at0_2
  | e :: es, at0_2 =>
    Option.bind (M.address_found_loop2 e at0_2 ([] : List api_Unit)) fun next =>
      M.address_found_loop1 es next
def M.address_found (n : Nat) (u : api_Unit) (p : List api_Step) : Option ((List api_Unit)) :=
  Option.bind (M.address_Valid n p) fun valid =>
  if valid = false then
    some ([] : List api_Unit)
  else
    Option.bind ((
        if (p.length : Int) = (0 : Int) then
          some (.inr [u])
        else
          Option.bind (idx p (0 : Int)) fun v =>
          Option.bind (M.address_book v) fun book =>
          if book = true then
            some (.inl [u])
          else
            Option.bind (M.address_each_i0 n u p ([] : List api_Unit)) fun at0_1 =>
            some (.inl at0_1)
      ) : Option (((List api_Unit)) ⊕ ((List api_Unit)))) fun
      | .inl at0_ =>
        Option.bind (slcLo p (1 : Int)) fun v1 =>
        Option.bind (M.address_found_loop1 v1 at0_) fun at0_2 =>
          some at0_2
      | .inr ret0 => some ret0

def M.address_FindAll_loop1  : List api_Unit → (List api_Id) → Option ((List api_Id))
  | [], out =>
    some out
  | e :: es, out =>
    Option.bind (appC out [e.Id]) fun out1 =>
    M.address_FindAll_loop1 es out1
def M.address_FindAll (n : Nat) (u : api_Unit) (p : List api_Step) : Option ((List api_Id)) :=
  Option.bind (M.address_found n u p) fun found =>
  Option.bind (M.address_FindAll_loop1 found ([] : List api_Id)) fun out =>
    some out

def M.address_FindOne (n : Nat) (u : api_Unit) (p : List api_Step) : Option (api_Id × Int) :=
  Option.bind (M.address_FindAll n u p) fun findal =>
  if (findal.length : Int) = (0 : Int) then
    some ((⟨(0 : Int), (0 : Int), (0 : Int)⟩ : api_Id), (7 : Int))
  else
    if (findal.length : Int) = (1 : Int) then
      Option.bind (idx findal (0 : Int)) fun v =>
      some (v, (0 : Int))
    else
      some ((⟨(0 : Int), (0 : Int), (0 : Int)⟩ : api_Id), (8 : Int))

def M.unit_way_loop1 (u : api_Unit) (id : api_Id) (slf : api_Unit → api_Id → Option ((List api_Unit))) : List api_Unit → Option (Unit ⊕ ((List api_Unit)))
  | [] =>
    some (.inl ())
  | e :: es =>
    Option.bind (slf e id) fun way =>
    if way.isEmpty = false then
      Option.bind (appC [u] way) fun out =>
      Option.bind (neC out) fun _ =>
      some (.inr out)
    else
      M.unit_way_loop1 u id slf es
def M.unit_way : Nat → api_Unit → api_Id → Option ((List api_Unit))
  | 0, _, _ => none
  | n + 1, u, id =>
    if u.Id = id then
      Option.bind (neC [u]) fun _ =>
      some [u]
    else
      Option.bind (M.unit_way_loop1 u id (M.unit_way n) u.Kids) fun
        | .inl _ =>
          some ([] : List api_Unit)
        | .inr ret0 => some ret0

def M.slices_Clone_api_Word_api_Word (l : List api_Word) : Option (List api_Word) := appC [] l

def M.unit_copied_loop1 (slf : api_Unit → Option api_Unit) : List api_Unit → (List api_Unit) → Option ((List api_Unit))
  | [], kids =>
    some kids
  | e :: es, kids =>
    Option.bind (slf e) fun copied =>
    Option.bind (appC kids [copied]) fun kids1 =>
    M.unit_copied_loop1 slf es kids1
def M.unit_copied : Nat → api_Unit → Option api_Unit
  | 0, _ => none
  | n + 1, u =>
    Option.bind (M.slices_Clone_api_Word_api_Word u.Head) fun word =>
    Option.bind (M.slices_Clone_api_Word_api_Word u.Words) fun word1 =>
    Option.bind (M.unit_copied_loop1 (M.unit_copied n) (({ ({ u with Head := word } : api_Unit) with Words := word1 } : api_Unit).Kids) ([] : List api_Unit)) fun kids =>
      some ({ ({ ({ u with Head := word } : api_Unit) with Words := word1 } : api_Unit) with Kids := kids } : api_Unit)

def M.unit_Find (n : Nat) (u : api_Unit) (id : api_Id) : Option (api_Unit × Bool) :=
  Option.bind (M.unit_way n u id) fun way =>
  if (way.length : Int) = (0 : Int) then
    some ((⟨zapi_Id, (0 : Int), ([] : Str), ([] : List api_Word), ([] : List api_Word), ([] : List api_Unit)⟩ : api_Unit), false)
  else
    Option.bind (subC (way.length : Int) (1 : Int)) fun v =>
    Option.bind (idx way v) fun v1 =>
    Option.bind (M.unit_copied n v1) fun copied =>
    some (copied, true)

def M.target_into (n : Nat) (u : api_Unit) (id : api_Id) (number : Int → Option Int) : Option (target_spot × Int) :=
  Option.bind (M.unit_Find n u id) fun find =>
  Option.bind (number (find.1.Kids.length : Int)) fun v =>
  some ((⟨id, v⟩ : target_spot), (0 : Int))

def M.target_leads_1_1 (a : Int) : Option Int :=
  some (0 : Int)

def M.target_leads_1 (n : Nat) (u : api_Unit) (id : api_Id) : Option (target_spot × Int) :=
  Option.bind (M.target_into n u id (fun s0 => M.target_leads_1_1 s0)) fun into =>
  some (into.1, into.2)

def M.target_leads_2_1 (kids : Int) : Option Int :=
  some kids

def M.target_leads_2 (n : Nat) (u : api_Unit) (id : api_Id) : Option (target_spot × Int) :=
  Option.bind (M.target_into n u id (fun s0 => M.target_leads_2_1 s0)) fun into =>
  some (into.1, into.2)

def M.unit_Parent_1 (n : Nat) (k : api_Unit) (c : api_Id) : Option Bool :=
  Option.bind (M.unit_way n k c) fun way =>
  some (!way.isEmpty)

def M.slices_IndexFunc_api_Unit_api_Unit_loop1 (s0_ : List api_Unit) (f : api_Unit → Option Bool) : Nat → Int → Option (Unit ⊕ Int)
  | 0, _ => none
  | n + 1, v =>
    if v < (s0_.length : Int) then
      Option.bind (idx s0_ v) fun v1 =>
      Option.bind (f v1) fun v2 =>
      if v2 = true then
        some (.inr v)
      else
        M.slices_IndexFunc_api_Unit_api_Unit_loop1 s0_ f n (v + 1)
    else
      some (.inl ())
def M.slices_IndexFunc_api_Unit_api_Unit (n : Nat) (s0_ : List api_Unit) (f : api_Unit → Option Bool) : Option Int :=
  Option.bind (M.slices_IndexFunc_api_Unit_api_Unit_loop1 s0_ f n (0 : Int)) fun
    | .inl _ =>
      some (-1 : Int)
    | .inr ret0 => some ret0

def M.unit_Parent (n : Nat) (u : api_Unit) (id : api_Id) : Option (api_Id × Int × Bool) :=
  Option.bind (M.unit_way n u id) fun way =>
  if (way.length : Int) < (2 : Int) then
    some ((⟨(0 : Int), (0 : Int), (0 : Int)⟩ : api_Id), (-1 : Int), false)
  else
    Option.bind (subC (way.length : Int) (2 : Int)) fun v =>
    Option.bind (idx way v) fun v1 =>
    Option.bind (M.slices_IndexFunc_api_Unit_api_Unit n v1.Kids (fun s0 => M.unit_Parent_1 n s0 id)) fun unit =>
    some (v1.Id, unit, true)

def M.target_beside (n : Nat) (u : api_Unit) (id : api_Id) (behind : Int) : Option (target_spot × Int) :=
  Option.bind (M.unit_Parent n u id) fun parent =>
  if parent.2.2 = false then
    some ((⟨zapi_Id, (0 : Int)⟩ : target_spot), (9 : Int))
  else
    Option.bind (addC parent.2.1 behind) fun v =>
    some ((⟨parent.1, v⟩ : target_spot), (0 : Int))

def M.target_leads_3 (n : Nat) (u : api_Unit) (id : api_Id) : Option (target_spot × Int) :=
  Option.bind (M.target_beside n u id (1 : Int)) fun beside =>
  some (beside.1, beside.2)

def M.target_leads_4 (n : Nat) (u : api_Unit) (id : api_Id) : Option (target_spot × Int) :=
  Option.bind (M.target_beside n u id (0 : Int)) fun beside =>
  some (beside.1, beside.2)

def M.target_leads (n : Nat)  : Option ((List (api_Unit → api_Id → Option (target_spot × Int)))) :=
  some [(fun s0 s1 => M.target_leads_1 n s0 s1), (fun s0 s1 => M.target_leads_2 n s0 s1), (fun s0 s1 => M.target_leads_3 n s0 s1), (fun s0 s1 => M.target_leads_4 n s0 s1)]

def M.target_InsertionPoint (n : Nat) (u : api_Unit) (p : List api_Step) (where0_ : Int) : Option (api_Id × Int × Int) :=
  Option.bind (M.target_isWhere where0_) fun iswher =>
  if iswher = false then
    some ((⟨(0 : Int), (0 : Int), (0 : Int)⟩ : api_Id), (0 : Int), (1 : Int))
  else
    Option.bind (M.address_FindOne n u p) fun findon =>
    if findon.2 ≠ (0 : Int) then
      some ((⟨(0 : Int), (0 : Int), (0 : Int)⟩ : api_Id), (0 : Int), findon.2)
    else
      Option.bind (M.target_leads n) fun leads =>
      Option.bind (idx leads where0_) fun v =>
      Option.bind (v u findon.1) fun v1 =>
      if v1.2 ≠ (0 : Int) then
        some ((⟨(0 : Int), (0 : Int), (0 : Int)⟩ : api_Id), (0 : Int), v1.2)
      else
        some (v1.1.parent_, v1.1.at_, (0 : Int))

def M.law21_awake (n : Nat)  : Option Bool :=
  Option.bind (M.target_InsertionPoint n (⟨zapi_Id, (0 : Int), ([] : Str), ([] : List api_Word), ([] : List api_Word), [(⟨(⟨(1 : Int), (0 : Int), (1 : Int)⟩ : api_Id), (2 : Int), ([49] : Str), ([] : List api_Word), ([] : List api_Word), ([] : List api_Unit)⟩ : api_Unit), (⟨(⟨(1 : Int), (0 : Int), (2 : Int)⟩ : api_Id), (2 : Int), ([50] : Str), ([] : List api_Word), ([] : List api_Word), ([] : List api_Unit)⟩ : api_Unit)]⟩ : api_Unit) ([(⟨(2 : Int), ([49] : Str)⟩ : api_Step)]) (2 : Int)) fun insert =>
  Option.bind (M.target_InsertionPoint n (⟨zapi_Id, (0 : Int), ([] : Str), ([] : List api_Word), ([] : List api_Word), [(⟨(⟨(1 : Int), (0 : Int), (1 : Int)⟩ : api_Id), (2 : Int), ([49] : Str), ([] : List api_Word), ([] : List api_Word), ([] : List api_Unit)⟩ : api_Unit), (⟨(⟨(1 : Int), (0 : Int), (2 : Int)⟩ : api_Id), (2 : Int), ([50] : Str), ([] : List api_Word), ([] : List api_Word), ([] : List api_Unit)⟩ : api_Unit)]⟩ : api_Unit) ([] : List api_Step) (1 : Int)) fun insert1 =>
  if insert.2.2 = (0 : Int) then
    if insert.1 = (⟨(0 : Int), (0 : Int), (0 : Int)⟩ : api_Id) then
      if insert.2.1 = (1 : Int) then
        if insert1.2.2 = (0 : Int) then
          if insert1.1 = (⟨(0 : Int), (0 : Int), (0 : Int)⟩ : api_Id) then
            some (decide (insert1.2.1 = (2 : Int)))
          else
            some false
        else
          some false
      else
        some false
    else
      some false
  else
    some false

def M.r06_size_loop1 (u : api_Unit) (deep : Int) (most : Int) (slf : api_Unit → Int → Int → Option Int) : Nat → Int → Int → Option Int
  | 0, _, _ => none
  | n + 1, n0_, i =>
    Option.bind (
        if i < (u.Kids.length : Int) then
          some (decide (n0_ ≤ most))
        else
          some false
      ) fun v1 =>
      if v1 = true then
        Option.bind (idx u.Kids i) fun v2 =>
        Option.bind (addC deep (1 : Int)) fun v3 =>
        Option.bind (subC most n0_) fun v4 =>
        Option.bind (slf v2 v3 v4) fun size =>
        Option.bind (addC n0_ size) fun v5 =>
        Option.bind (addC i (1 : Int)) fun v6 =>
        M.r06_size_loop1 u deep most slf n v5 v6
      else
        some n0_
def M.r06_size : Nat → api_Unit → Int → Int → Option Int
  | 0, _, _, _ => none
  | n + 1, u, deep, most =>
    if (20 : Int) < deep then
      Option.bind (addC most (1 : Int)) fun v =>
      some v
    else
      Option.bind (M.r06_size_loop1 u deep most (M.r06_size n) n (1 : Int) (0 : Int)) fun n0_ =>
        some n0_

def M.r06_short_loop1 (l : List api_Word) : Nat → Int → Option (Unit ⊕ Bool)
  | 0, _ => none
  | n + 1, i =>
    if i < (l.length : Int) then
      Option.bind (idx l i) fun v =>
      if (100 : Int) < (v.Text.length : Int) then
        some (.inr false)
      else
        M.r06_short_loop1 l n (i + 1)
    else
      some (.inl ())
def M.r06_short (n : Nat) (l : List api_Word) : Option Bool :=
  Option.bind (M.r06_short_loop1 l n (0 : Int)) fun
    | .inl _ =>
      some (decide ((l.length : Int) ≤ (300 : Int)))
    | .inr ret0 => some ret0

def M.r06_words_loop1 (u : api_Unit) (slf : api_Unit → Option Bool) : Nat → Int → Option (Unit ⊕ Bool)
  | 0, _ => none
  | n + 1, i =>
    if i < (u.Kids.length : Int) then
      Option.bind (idx u.Kids i) fun v1 =>
      Option.bind (slf v1) fun words =>
      if words = false then
        some (.inr false)
      else
        M.r06_words_loop1 u slf n (i + 1)
    else
      some (.inl ())
def M.r06_words : Nat → api_Unit → Option Bool
  | 0, _ => none
  | n + 1, u =>
    Option.bind (
        if (30 : Int) < (u.Label.length : Int) then
          some true
        else
          Option.bind (M.r06_short n u.Head) fun short =>
          if short = false then
            some true
          else
            Option.bind (M.r06_short n u.Words) fun short1 =>
            some (!short1)
      ) fun v =>
      if v = true then
        some false
      else
        Option.bind (M.r06_words_loop1 u (M.r06_words n) n (0 : Int)) fun
          | .inl _ =>
            some true
          | .inr ret0 => some ret0

def M.r06_Few (n : Nat) (u : api_Unit) (most : Int) : Option Bool :=
  Option.bind (M.r06_size n u (0 : Int) most) fun size =>
  if size ≤ most then
    Option.bind (M.r06_words n u) fun words =>
    some words
  else
    some false

def M.r06_Texts_loop1 (l : List api_Word) : Nat → (List Str) → Int → Option ((List Str))
  | 0, _, _ => none
  | n + 1, out, i =>
    if i < (l.length : Int) then
      Option.bind (idx l i) fun v =>
      Option.bind (appC out [v.Text]) fun out1 =>
      M.r06_Texts_loop1 l n out1 (i + 1)
    else
      some out
def M.r06_Texts (n : Nat) (l : List api_Word) : Option ((List Str)) :=
  Option.bind (M.r06_Texts_loop1 l n ([] : List Str) (0 : Int)) fun out =>
    some out

def M.r04_Word_loop1 (s0_ : Str) : Nat → Int → Option (Unit ⊕ Bool)
  | 0, _ => none
  | n + 1, i =>
    if i < (s0_.length : Int) then
      Option.bind (idx s0_ i) fun b =>
      if (b.toNat : Int) < (33 : Int) then
        some (.inr false)
      else
        Option.bind (idx s0_ i) fun b1 =>
        if (126 : Int) < (b1.toNat : Int) then
          some (.inr false)
        else
          M.r04_Word_loop1 s0_ n (i + 1)
    else
      some (.inl ())
def M.r04_Word (n : Nat) (s0_ : Str) : Option Bool :=
  Option.bind (
      if (s0_.length : Int) < (1 : Int) then
        some true
      else
        some (decide ((24 : Int) < (s0_.length : Int)))
    ) fun v =>
    if v = true then
      some false
    else
      Option.bind (M.r04_Word_loop1 s0_ n (0 : Int)) fun
        | .inl _ =>
          some true
        | .inr ret0 => some ret0

def M.r04_May_loop1 (l : List Str) : Nat → Int → Option (Unit ⊕ Bool)
  | 0, _ => none
  | n + 1, i =>
    if i < (l.length : Int) then
      Option.bind (idx l i) fun v =>
      Option.bind (M.r04_Word n v) fun word =>
      if word = false then
        some (.inr false)
      else
        M.r04_May_loop1 l n (i + 1)
    else
      some (.inl ())
def M.r04_May (n : Nat) (l : List Str) : Option Bool :=
  if (256 : Int) < (l.length : Int) then
    some false
  else
    Option.bind (M.r04_May_loop1 l n (0 : Int)) fun
      | .inl _ =>
        some true
      | .inr ret0 => some ret0

def M.r06_row (n : Nat) (l : List api_Word) : Option Bool :=
  if (l.length : Int) ≤ (256 : Int) then
    Option.bind (M.r06_Texts n l) fun texts =>
    Option.bind (M.r04_May n texts) fun may =>
    some may
  else
    some false

def M.r03_digits_loop1 (s0_ : Str) : Nat → Int → Option Int
  | 0, _ => none
  | n + 1, n0_ =>
    if n0_ < (s0_.length : Int) then
      Option.bind (idx s0_ n0_) fun b =>
      if (48 : Int) ≤ (b.toNat : Int) then
        Option.bind (idx s0_ n0_) fun b1 =>
        if (b1.toNat : Int) ≤ (57 : Int) then
          M.r03_digits_loop1 s0_ n (n0_ + 1)
        else
          some n0_
      else
        some n0_
    else
      some n0_
def M.r03_digits (n : Nat) (s0_ : Str) : Option Int :=
  Option.bind (M.r03_digits_loop1 s0_ n (0 : Int)) fun n0_ =>
    some n0_

def M.r03_May_loop1 (s0_ : Str) : Nat → Int → Option (Unit ⊕ Bool)
  | 0, _ => none
  | n + 1, i =>
    if i < (s0_.length : Int) then
      Option.bind (idx s0_ i) fun b1 =>
      if (b1.toNat : Int) < (65 : Int) then
        some (.inr false)
      else
        Option.bind (idx s0_ i) fun b2 =>
        if (90 : Int) < (b2.toNat : Int) then
          some (.inr false)
        else
          M.r03_May_loop1 s0_ n (i + 1)
    else
      some (.inl ())
def M.r03_May (n : Nat) (s0_ : Str) : Option Bool :=
  Option.bind (M.r03_digits n s0_) fun digits =>
  Option.bind (
      if digits < (1 : Int) then
        some true
      else
        if (4 : Int) < digits then
          some true
        else
          Option.bind (idx s0_ (0 : Int)) fun b =>
          if (b.toNat : Int) = (48 : Int) then
            some true
          else
            Option.bind (subC (s0_.length : Int) digits) fun v1 =>
            some (decide ((3 : Int) < v1))
    ) fun v =>
    if v = true then
      some false
    else
      Option.bind (M.r03_May_loop1 s0_ n digits) fun
        | .inl _ =>
          some true
        | .inr ret0 => some ret0

def M.r06_alone (n : Nat) (u : api_Unit) : Option Bool :=
  Option.bind (
      if u.Kind < (0 : Int) then
        some true
      else
        if (7 : Int) < u.Kind then
          some true
        else
          if (64 : Int) < (u.Kids.length : Int) then
            some true
          else
            Option.bind (M.r06_row n u.Head) fun row =>
            if row = false then
              some true
            else
              Option.bind (M.r06_row n u.Words) fun row1 =>
              some (!row1)
    ) fun v =>
    if v = true then
      some false
    else
      if u.Kind = (0 : Int) then
        Option.bind (
            if (u.Label == ([] : Str)) = true then
              if (u.Head.length : Int) = (0 : Int) then
                some (decide ((u.Words.length : Int) = (0 : Int)))
              else
                some false
            else
              some false
          ) fun v1 =>
          some v1
      else
        Option.bind (M.r03_May n u.Label) fun may =>
        some may

def M.r06_Nests (parent : Int) (kind : Int) : Option Bool :=
  if parent = (0 : Int) then
    if kind = (1 : Int) then
      some true
    else
      some (decide (kind = (2 : Int)))
  else
    if parent = (1 : Int) then
      some (decide (kind = (2 : Int)))
    else
      Option.bind (
          if parent = (2 : Int) then
            some (decide (parent = (2 : Int)))
          else
            some (decide (parent = (3 : Int)))
        ) fun v =>
        if v = true then
          if kind = (3 : Int) then
            some true
          else
            if kind = (4 : Int) then
              some true
            else
              some (decide (kind = (7 : Int)))
        else
          if parent = (4 : Int) then
            some (decide (kind = (5 : Int)))
          else
            if parent = (5 : Int) then
              some (decide (kind = (6 : Int)))
            else
              some false

def M.r06_Right_loop2 (u : api_Unit) (i : Int) : Nat → Int → Option (Unit ⊕ Bool)
  | 0, _ => none
  | n + 1, k =>
    if k < i then
      Option.bind (idx u.Kids k) fun v2 =>
      Option.bind (idx u.Kids i) fun v3 =>
      if v2.Kind = v3.Kind then
        Option.bind (idx u.Kids k) fun v4 =>
        Option.bind (idx u.Kids i) fun v5 =>
        if (v4.Label == v5.Label) = true then
          some (.inr false)
        else
          Option.bind (addC k (1 : Int)) fun v6 =>
          M.r06_Right_loop2 u i n v6
      else
        Option.bind (addC k (1 : Int)) fun v7 =>
        M.r06_Right_loop2 u i n v7
    else
      some (.inl ())
def M.r06_Right_loop1 (u : api_Unit) (slf : api_Unit → Option Bool) : Nat → Int → Option (Unit ⊕ Bool)
  | 0, _ => none
  | n + 1, i =>
    if i < (u.Kids.length : Int) then
      Option.bind (idx u.Kids i) fun v =>
      Option.bind (M.r06_Nests u.Kind v.Kind) fun nests =>
      if nests = false then
        some (.inr false)
      else
        Option.bind (idx u.Kids i) fun v1 =>
        Option.bind (slf v1) fun right =>
        if right = false then
          some (.inr false)
        else
          Option.bind (M.r06_Right_loop2 u i n (0 : Int)) fun
            | .inl _ =>
              Option.bind (addC i (1 : Int)) fun v8 =>
              M.r06_Right_loop1 u slf n v8
            | .inr ret0 => some (.inr ret0)
    else
      some (.inl ())
def M.r06_Right : Nat → api_Unit → Option Bool
  | 0, _ => none
  | n + 1, u =>
    Option.bind (M.r06_alone n u) fun alone =>
    if alone = false then
      some false
    else
      Option.bind (M.r06_Right_loop1 u (M.r06_Right n) n (0 : Int)) fun
        | .inl _ =>
          some true
        | .inr ret0 => some ret0

def M.r06_Depth_loop1 (u : api_Unit) (slf : api_Unit → Option Int) : Nat → Int → Int → Option Int
  | 0, _, _ => none
  | n + 1, d, i =>
    if i < (u.Kids.length : Int) then
      Option.bind (idx u.Kids i) fun v =>
      Option.bind (slf v) fun depth =>
      Option.bind (addC (1 : Int) depth) fun v1 =>
      M.r06_Depth_loop1 u slf n (max d v1) (i + 1)
    else
      some d
def M.r06_Depth : Nat → api_Unit → Option Int
  | 0, _ => none
  | n + 1, u =>
    Option.bind (M.r06_Depth_loop1 u (M.r06_Depth n) n (0 : Int) (0 : Int)) fun d =>
      some d

def M.r06_Count_loop1 (u : api_Unit) (slf : api_Unit → Option Int) : Nat → Int → Int → Option Int
  | 0, _, _ => none
  | n + 1, n0_, i =>
    if i < (u.Kids.length : Int) then
      Option.bind (idx u.Kids i) fun v =>
      Option.bind (slf v) fun count =>
      Option.bind (addC n0_ count) fun v1 =>
      M.r06_Count_loop1 u slf n v1 (i + 1)
    else
      some n0_
def M.r06_Count : Nat → api_Unit → Option Int
  | 0, _ => none
  | n + 1, u =>
    Option.bind (M.r06_Count_loop1 u (M.r06_Count n) n (1 : Int) (0 : Int)) fun n0_ =>
      some n0_

def M.r06_All_loop1 (u : api_Unit) (slf : api_Unit → Option ((List api_Id))) : Nat → (List api_Id) → Int → Option ((List api_Id))
  | 0, _, _ => none
  | n + 1, out, i =>
    if i < (u.Kids.length : Int) then
      Option.bind (idx u.Kids i) fun v =>
      Option.bind (slf v) fun all =>
      Option.bind (appC out all) fun out1 =>
      M.r06_All_loop1 u slf n out1 (i + 1)
    else
      some out
def M.r06_All : Nat → api_Unit → Option ((List api_Id))
  | 0, _ => none
  | n + 1, u =>
    Option.bind (M.r06_All_loop1 u (M.r06_All n) n [u.Id] (0 : Int)) fun out =>
      some out

def M.r06_Ids_loop3 (all : (List api_Id)) (i1 : Int) : Nat → Int → Option (Unit ⊕ Bool)
  | 0, _ => none
  | n + 1, k =>
    if k < i1 then
      Option.bind (idx all k) fun v2 =>
      Option.bind (idx all i1) fun v3 =>
      if v2 = v3 then
        some (.inr false)
      else
        Option.bind (addC k (1 : Int)) fun v4 =>
        M.r06_Ids_loop3 all i1 n v4
    else
      some (.inl ())
def M.r06_Ids_loop2 (all : (List api_Id)) : Nat → Int → Option (Unit ⊕ Bool)
  | 0, _ => none
  | n + 1, i1 =>
    if i1 < (all.length : Int) then
      Option.bind (M.r06_Ids_loop3 all i1 n (0 : Int)) fun
        | .inl _ =>
          Option.bind (addC i1 (1 : Int)) fun v5 =>
          M.r06_Ids_loop2 all n v5
        | .inr ret0 => some (.inr ret0)
    else
      some (.inl ())
def M.r06_Ids_loop1 (all : (List api_Id)) : Nat → Bool → Int → Option Bool
  | 0, _, _ => none
  | n + 1, none0_, i =>
    if i < (all.length : Int) then
      if none0_ = true then
        Option.bind (idx all i) fun v =>
        M.r06_Ids_loop1 all n (decide (v = (⟨(0 : Int), (0 : Int), (0 : Int)⟩ : api_Id))) (i + 1)
      else
        M.r06_Ids_loop1 all n false (i + 1)
    else
      some none0_
def M.r06_Ids (n : Nat) (u : api_Unit) : Option Bool :=
  Option.bind (M.r06_All n u) fun all =>
  Option.bind (M.r06_Ids_loop1 all n true (0 : Int)) fun none0_ =>
    if none0_ = true then
      some true
    else
      Option.bind (idx all (0 : Int)) fun v1 =>
      if ((decide (v1 = (⟨(0 : Int), (0 : Int), (0 : Int)⟩ : api_Id))) != (decide (u.Kind = (0 : Int)))) = true then
        some false
      else
        Option.bind (M.r06_Ids_loop2 all n (0 : Int)) fun
          | .inl _ =>
            some true
          | .inr ret0 => some ret0

def M.r06_May (n : Nat) (u : api_Unit) : Option Bool :=
  Option.bind (M.r06_Right n u) fun right =>
  if right = true then
    Option.bind (M.r06_Depth n u) fun depth =>
    if depth ≤ (8 : Int) then
      Option.bind (M.r06_Count n u) fun count =>
      if count ≤ (1024 : Int) then
        Option.bind (M.r06_Ids n u) fun ids =>
        some ids
      else
        some false
    else
      some false
  else
    some false

def M.r08_named_loop1 (u : api_Unit) (slf : api_Unit → Option Bool) : Nat → Int → Option (Unit ⊕ Bool)
  | 0, _ => none
  | n + 1, i =>
    if i < (u.Kids.length : Int) then
      Option.bind (idx u.Kids i) fun v1 =>
      Option.bind (slf v1) fun named =>
      if named = false then
        some (.inr false)
      else
        M.r08_named_loop1 u slf n (i + 1)
    else
      some (.inl ())
def M.r08_named : Nat → api_Unit → Option Bool
  | 0, _ => none
  | n + 1, u =>
    Option.bind (
        if u.Kind ≠ (0 : Int) then
          some (decide (u.Id = (⟨(0 : Int), (0 : Int), (0 : Int)⟩ : api_Id)))
        else
          some false
      ) fun v =>
      if v = true then
        some false
      else
        Option.bind (M.r08_named_loop1 u (M.r08_named n) n (0 : Int)) fun
          | .inl _ =>
            some true
          | .inr ret0 => some ret0

def M.r08_Stands (n : Nat) (u : api_Unit) : Option Bool :=
  Option.bind (M.r06_May n u) fun may =>
  if may = true then
    Option.bind (M.r08_named n u) fun named =>
    some named
  else
    some false

def M.law21_book (n : Nat) (u : api_Unit) : Option Bool :=
  Option.bind (M.r06_Few n u (30 : Int)) fun few =>
  if few = true then
    Option.bind (M.r08_Stands n u) fun stands =>
    some stands
  else
    some false

def M.r17_Few_loop5 (x : api_Item) (slf : api_Item → Option Bool) : Nat → Int → Option (Unit ⊕ Bool)
  | 0, _ => none
  | n + 1, i4 =>
    if i4 < (x.By.length : Int) then
      Option.bind (idx x.By i4) fun v5 =>
      if (0 : Int) < (v5.By.length : Int) then
        Option.bind (idx x.By i4) fun v6 =>
        Option.bind (idx v6.By (0 : Int)) fun v7 =>
        if (0 : Int) < (v7.By.length : Int) then
          some (.inr false)
        else
          Option.bind (idx x.By i4) fun v8 =>
          Option.bind (slf v8) fun few1 =>
          if few1 = false then
            some (.inr false)
          else
            M.r17_Few_loop5 x slf n (i4 + 1)
      else
        Option.bind (idx x.By i4) fun v9 =>
        Option.bind (slf v9) fun few2 =>
        if few2 = false then
          some (.inr false)
        else
          M.r17_Few_loop5 x slf n (i4 + 1)
    else
      some (.inl ())
def M.r17_Few_loop4 (x : api_Item) : Nat → Int → Option (Unit ⊕ Bool)
  | 0, _ => none
  | n + 1, i3 =>
    if i3 < (x.To.length : Int) then
      Option.bind (idx x.To i3) fun v4 =>
      if (100 : Int) < (v4.Label.length : Int) then
        some (.inr false)
      else
        M.r17_Few_loop4 x n (i3 + 1)
    else
      some (.inl ())
def M.r17_Few_loop3 (x : api_Item) : Nat → Int → Option (Unit ⊕ Bool)
  | 0, _ => none
  | n + 1, i2 =>
    if i2 < (x.At.length : Int) then
      Option.bind (idx x.At i2) fun v3 =>
      if (100 : Int) < (v3.Label.length : Int) then
        some (.inr false)
      else
        M.r17_Few_loop3 x n (i2 + 1)
    else
      some (.inl ())
def M.r17_Few_loop2 (x : api_Item) : Nat → Int → Option (Unit ⊕ Bool)
  | 0, _ => none
  | n + 1, i1 =>
    if i1 < (x.New.length : Int) then
      Option.bind (idx x.New i1) fun v2 =>
      if (100 : Int) < (v2.length : Int) then
        some (.inr false)
      else
        M.r17_Few_loop2 x n (i1 + 1)
    else
      some (.inl ())
def M.r17_Few_loop1 (x : api_Item) : Nat → Int → Option (Unit ⊕ Bool)
  | 0, _ => none
  | n + 1, i =>
    if i < (x.Old.length : Int) then
      Option.bind (idx x.Old i) fun v1 =>
      if (100 : Int) < (v1.length : Int) then
        some (.inr false)
      else
        M.r17_Few_loop1 x n (i + 1)
    else
      some (.inl ())
def M.r17_Few : Nat → api_Item → Option Bool
  | 0, _ => none
  | n + 1, x =>
    Option.bind (
        if (12 : Int) < (x.At.length : Int) then
          some true
        else
          if (12 : Int) < (x.To.length : Int) then
            some true
          else
            if (300 : Int) < (x.Old.length : Int) then
              some true
            else
              if (300 : Int) < (x.New.length : Int) then
                some true
              else
                if (100 : Int) < (x.Label.length : Int) then
                  some true
                else
                  if (100 : Int) < (x.For.length : Int) then
                    some true
                  else
                    if (100 : Int) < (x.Start.Event.length : Int) then
                      some true
                    else
                      if (100 : Int) < (x.Event.length : Int) then
                        some true
                      else
                        if (2 : Int) < (x.By.length : Int) then
                          some true
                        else
                          Option.bind (M.r06_Few n x.Unit (30 : Int)) fun few =>
                          some (!few)
      ) fun v =>
      if v = true then
        some false
      else
        Option.bind (M.r17_Few_loop1 x n (0 : Int)) fun
          | .inl _ =>
            Option.bind (M.r17_Few_loop2 x n (0 : Int)) fun
              | .inl _ =>
                Option.bind (M.r17_Few_loop3 x n (0 : Int)) fun
                  | .inl _ =>
                    Option.bind (M.r17_Few_loop4 x n (0 : Int)) fun
                      | .inl _ =>
                        Option.bind (M.r17_Few_loop5 x (M.r17_Few n) n (0 : Int)) fun
                          | .inl _ =>
                            some true
                          | .inr ret0 => some ret0
                      | .inr ret0 => some ret0
                  | .inr ret0 => some ret0
              | .inr ret0 => some ret0
          | .inr ret0 => some ret0

def M.r07_book (s0_ : api_Step) : Option Bool :=
  if s0_.Kind = (0 : Int) then
    some (s0_.Label == ([] : Str))
  else
    some false

def M.r07_May_loop1 (p : List api_Step) : Nat → Int → Option (Unit ⊕ Bool)
  | 0, _ => none
  | n + 1, i =>
    if i < (p.length : Int) then
      Option.bind (
          if i = (0 : Int) then
            Option.bind (idx p i) fun v1 =>
            Option.bind (M.r07_book v1) fun book =>
            some book
          else
            some false
        ) fun v =>
        if v = true then
          M.r07_May_loop1 p n (i + 1)
        else
          Option.bind (idx p i) fun v2 =>
          if v2.Kind < (1 : Int) then
            some (.inr false)
          else
            Option.bind (idx p i) fun v3 =>
            if (7 : Int) < v3.Kind then
              some (.inr false)
            else
              Option.bind (idx p i) fun v4 =>
              Option.bind (M.r03_May n v4.Label) fun may =>
              if may = false then
                some (.inr false)
              else
                M.r07_May_loop1 p n (i + 1)
    else
      some (.inl ())
def M.r07_May (n : Nat) (p : List api_Step) : Option Bool :=
  if (9 : Int) < (p.length : Int) then
    some false
  else
    Option.bind (M.r07_May_loop1 p n (0 : Int)) fun
      | .inl _ =>
        some true
      | .inr ret0 => some ret0

def M.r07_Every_loop1 (u : api_Unit) (slf : api_Unit → Option ((List api_Unit))) : Nat → (List api_Unit) → Int → Option ((List api_Unit))
  | 0, _, _ => none
  | n + 1, out, i =>
    if i < (u.Kids.length : Int) then
      Option.bind (idx u.Kids i) fun v =>
      Option.bind (slf v) fun every =>
      Option.bind (appC out every) fun out1 =>
      M.r07_Every_loop1 u slf n out1 (i + 1)
    else
      some out
def M.r07_Every : Nat → api_Unit → Option ((List api_Unit))
  | 0, _ => none
  | n + 1, u =>
    Option.bind (M.r07_Every_loop1 u (M.r07_Every n) n [u] (0 : Int)) fun out =>
      some out

def M.r07_at (u : api_Unit) (s0_ : api_Step) : Option Bool :=
  if u.Kind = s0_.Kind then
    some (u.Label == s0_.Label)
  else
    some false

def M.r07_Units_loop1 (p : List api_Step) (every : (List api_Unit)) : Nat → (List api_Unit) → Int → Option ((List api_Unit))
  | 0, _, _ => none
  | n + 1, now1, i =>
    if i < (every.length : Int) then
      Option.bind (idx every i) fun v1 =>
      Option.bind (idx p (0 : Int)) fun v2 =>
      Option.bind (M.r07_at v1 v2) fun at0_ =>
      if at0_ = true then
        Option.bind (idx every i) fun v3 =>
        Option.bind (appC now1 [v3]) fun out1 =>
        M.r07_Units_loop1 p every n out1 (i + 1)
      else
        M.r07_Units_loop1 p every n now1 (i + 1)
    else
      some now1
def M.r07_Units_loop4 (p : List api_Step) (now2 : List api_Unit) (k5 : Int) (i1 : Int) : Nat → (List api_Unit) → Int → Option ((List api_Unit))
  | 0, _, _ => none
  | n + 1, next1, j =>
    Option.bind (idx now2 i1) fun v4 =>
    if j < (v4.Kids.length : Int) then
      Option.bind (idx now2 i1) fun v5 =>
      Option.bind (idx v5.Kids j) fun v6 =>
      Option.bind (idx p k5) fun v7 =>
      Option.bind (M.r07_at v6 v7) fun at0_1 =>
      if at0_1 = true then
        Option.bind (idx now2 i1) fun v8 =>
        Option.bind (idx v8.Kids j) fun v9 =>
        Option.bind (appC next1 [v9]) fun out2 =>
        M.r07_Units_loop4 p now2 k5 i1 n out2 (j + 1)
      else
        M.r07_Units_loop4 p now2 k5 i1 n next1 (j + 1)
    else
      some next1
def M.r07_Units_loop3 (p : List api_Step) (now2 : List api_Unit) (k5 : Int) : Nat → (List api_Unit) → Int → Option ((List api_Unit))
  | 0, _, _ => none
  | n + 1, next, i1 =>
    if i1 < (now2.length : Int) then
      Option.bind (M.r07_Units_loop4 p now2 k5 i1 n next (0 : Int)) fun next1 =>
        Option.bind (addC i1 (1 : Int)) fun v10 =>
        M.r07_Units_loop3 p now2 k5 n next1 v10
    else
      some next
def M.r07_Units_loop2 (p : List api_Step) : Nat → (List api_Unit) → Int → Option ((List api_Unit))
  | 0, _, _ => none
  | n + 1, now2, k5 =>
    if k5 < (p.length : Int) then
      Option.bind (M.r07_Units_loop3 p now2 k5 n ([] : List api_Unit) (0 : Int)) fun next =>
        Option.bind (addC k5 (1 : Int)) fun v11 =>
        M.r07_Units_loop2 p n next v11
    else
      some now2
def M.r07_Units (n : Nat) (u : api_Unit) (p : List api_Step) : Option ((List api_Unit)) :=
  Option.bind (M.r07_May n p) fun may =>
  if may = false then
    some ([] : List api_Unit)
  else
    if (p.length : Int) = (0 : Int) then
      some [u]
    else
      Option.bind (
          Option.bind (idx p (0 : Int)) fun v =>
          Option.bind (M.r07_book v) fun book =>
          if book = true then
            Option.bind (appC ([] : List api_Unit) [u]) fun out =>
            some out
          else
            Option.bind (M.r07_Every n u) fun every =>
            Option.bind (M.r07_Units_loop1 p every n ([] : List api_Unit) (0 : Int)) fun now1 =>
              some now1
        ) fun now =>
        Option.bind (M.r07_Units_loop2 p n now (1 : Int)) fun now2 =>
          some now2

def M.r07_Find_loop1 (units : (List api_Unit)) : Nat → (List api_Id) → Int → Option ((List api_Id))
  | 0, _, _ => none
  | n + 1, out, i =>
    if i < (units.length : Int) then
      Option.bind (idx units i) fun v =>
      Option.bind (appC out [v.Id]) fun out1 =>
      M.r07_Find_loop1 units n out1 (i + 1)
    else
      some out
def M.r07_Find (n : Nat) (u : api_Unit) (p : List api_Step) : Option ((List api_Id)) :=
  Option.bind (M.r07_Units n u p) fun units =>
  Option.bind (M.r07_Find_loop1 units n ([] : List api_Id) (0 : Int)) fun out =>
    some out

def M.r07_One (n : Nat) (u : api_Unit) (p : List api_Step) : Option (api_Id × Int) :=
  Option.bind (M.r07_Find n u p) fun find =>
  if (find.length : Int) = (0 : Int) then
    some ((⟨(0 : Int), (0 : Int), (0 : Int)⟩ : api_Id), (7 : Int))
  else
    if (1 : Int) < (find.length : Int) then
      some ((⟨(0 : Int), (0 : Int), (0 : Int)⟩ : api_Id), (8 : Int))
    else
      Option.bind (idx find (0 : Int)) fun v =>
      some (v, (0 : Int))

def M.r06_Find_loop1 (u : api_Unit) (id : api_Id) (slf : api_Unit → api_Id → Option (api_Unit × Bool)) : Nat → Int → api_Unit → Option (api_Unit ⊕ (api_Unit × Bool))
  | 0, _, _ => none
  | n + 1, i, v =>
    if i < (u.Kids.length : Int) then
      Option.bind (idx u.Kids i) fun v1 =>
      Option.bind (slf v1 id) fun find =>
      if find.2 = true then
        some (.inr (find.1, true))
      else
        M.r06_Find_loop1 u id slf n (i + 1) v
    else
      some (.inl v)
def M.r06_Find : Nat → api_Unit → api_Id → Option (api_Unit × Bool)
  | 0, _, _ => none
  | n + 1, u, id =>
    if u.Id = id then
      some (u, true)
    else
      Option.bind (M.r06_Find_loop1 u id (M.r06_Find n) n (0 : Int) zapi_Unit) fun
        | .inl v =>
          some ((⟨zapi_Id, (0 : Int), ([] : Str), ([] : List api_Word), ([] : List api_Word), ([] : List api_Unit)⟩ : api_Unit), false)
        | .inr ret0 => some ret0

def M.r06_Parent_loop1 (u : api_Unit) (id : api_Id) (slf : api_Unit → api_Id → Option (api_Id × Int × Bool)) : Nat → Int → api_Id → Option (api_Id ⊕ (api_Id × Int × Bool))
  | 0, _, _ => none
  | n + 1, i, v =>
    if i < (u.Kids.length : Int) then
      Option.bind (idx u.Kids i) fun v1 =>
      if v1.Id = id then
        some (.inr (u.Id, i, true))
      else
        Option.bind (idx u.Kids i) fun v2 =>
        Option.bind (M.r06_Find n v2 id) fun find =>
        if find.2 = true then
          Option.bind (idx u.Kids i) fun v3 =>
          Option.bind (slf v3 id) fun parent =>
          some (.inr (parent.1, parent.2.1, parent.2.2))
        else
          M.r06_Parent_loop1 u id slf n (i + 1) v
    else
      some (.inl v)
def M.r06_Parent : Nat → api_Unit → api_Id → Option (api_Id × Int × Bool)
  | 0, _, _ => none
  | n + 1, u, id =>
    if u.Id = id then
      some ((⟨(0 : Int), (0 : Int), (0 : Int)⟩ : api_Id), (-1 : Int), false)
    else
      Option.bind (M.r06_Parent_loop1 u id (M.r06_Parent n) n (0 : Int) zapi_Id) fun
        | .inl v =>
          some ((⟨(0 : Int), (0 : Int), (0 : Int)⟩ : api_Id), (-1 : Int), false)
        | .inr ret0 => some ret0

def M.r21_Where (n : Nat) (u : api_Unit) (p : List api_Step) (where0_ : Int) : Option (api_Id × Int × Int) :=
  Option.bind (
      if where0_ < (0 : Int) then
        some true
      else
        some (decide ((3 : Int) < where0_))
    ) fun v =>
    if v = true then
      some ((⟨(0 : Int), (0 : Int), (0 : Int)⟩ : api_Id), (0 : Int), (1 : Int))
    else
      Option.bind (M.r07_One n u p) fun one =>
      if one.2 ≠ (0 : Int) then
        some ((⟨(0 : Int), (0 : Int), (0 : Int)⟩ : api_Id), (0 : Int), one.2)
      else
        Option.bind (M.r06_Find n u one.1) fun find =>
        if where0_ = (0 : Int) then
          some (one.1, (0 : Int), (0 : Int))
        else
          if where0_ = (1 : Int) then
            some (one.1, (find.1.Kids.length : Int), (0 : Int))
          else
            if one.1 = u.Id then
              some ((⟨(0 : Int), (0 : Int), (0 : Int)⟩ : api_Id), (0 : Int), (9 : Int))
            else
              Option.bind (M.r06_Parent n u one.1) fun parent =>
              if where0_ = (2 : Int) then
                Option.bind (addC parent.2.1 (1 : Int)) fun v1 =>
                some (parent.1, v1, (0 : Int))
              else
                some (parent.1, parent.2.1, (0 : Int))

def M.law21_TargetInsertionPoint (n : Nat) (u : api_Unit) (p : List api_Step) (where0_ : Int) : Option Bool :=
  Option.bind (M.law21_awake n) fun awake =>
  if awake = false then
    some false
  else
    Option.bind (
        Option.bind (M.law21_book n u) fun book =>
        if book = false then
          some true
        else
          Option.bind (M.r17_Few n (⟨(0 : Int), p, ([] : List api_Step), (0 : Int), (0 : Int), zapi_Unit, ([] : List Str), ([] : List Str), ([] : Str), ([] : Str), zapi_Start, (0 : Int), (0 : Int), (0 : Int), ([] : Str), ([] : List api_Item)⟩ : api_Item)) fun few =>
          some (!few)
      ) fun v =>
      if v = true then
        some true
      else
        Option.bind (M.target_InsertionPoint n u p where0_) fun insert =>
        Option.bind (M.r21_Where n u p where0_) fun where0_1 =>
        if insert.1 = where0_1.1 then
          if insert.2.1 = where0_1.2.1 then
            some (decide (insert.2.2 = where0_1.2.2))
          else
            some false
        else
          some false

def M.r07_below_loop1 (u : api_Unit) (id : api_Id) (slf : api_Unit → api_Id → Option ((List api_Step) × Bool)) : Nat → Int → Option (Unit ⊕ ((List api_Step) × Bool))
  | 0, _ => none
  | n + 1, i =>
    if i < (u.Kids.length : Int) then
      Option.bind (idx u.Kids i) fun v =>
      Option.bind (slf v id) fun below =>
      if below.2 = true then
        Option.bind (idx u.Kids i) fun v1 =>
        Option.bind (idx u.Kids i) fun v2 =>
        Option.bind (appC [(⟨v1.Kind, v2.Label⟩ : api_Step)] below.1) fun out =>
        some (.inr (out, true))
      else
        M.r07_below_loop1 u id slf n (i + 1)
    else
      some (.inl ())
def M.r07_below : Nat → api_Unit → api_Id → Option ((List api_Step) × Bool)
  | 0, _, _ => none
  | n + 1, u, id =>
    if u.Id = id then
      some (([] : List api_Step), true)
    else
      Option.bind (M.r07_below_loop1 u id (M.r07_below n) n (0 : Int)) fun
        | .inl _ =>
          some (([] : List api_Step), false)
        | .inr ret0 => some ret0

def M.r07_Whole (n : Nat) (u : api_Unit) (id : api_Id) : Option ((List api_Step) × Bool) :=
  Option.bind (M.r07_below n u id) fun below =>
  if below.2 = false then
    some (([] : List api_Step), false)
  else
    Option.bind (appC ([(⟨(0 : Int), ([] : Str)⟩ : api_Step)]) below.1) fun out =>
    some (out, true)

def M.law21_TargetFullAddress_loop1 (u : api_Unit) (all : (List api_Id)) : Nat → Int → Option (Unit ⊕ Bool)
  | 0, _ => none
  | n + 1, i =>
    if i < (all.length : Int) then
      Option.bind (idx all i) fun v =>
      Option.bind (M.r07_Whole n u v) fun whole =>
      Option.bind (idx all i) fun v1 =>
      Option.bind (M.r06_Find n u v1) fun find =>
      Option.bind (M.target_InsertionPoint n u whole.1 (0 : Int)) fun insert =>
      Option.bind (M.target_InsertionPoint n u whole.1 (1 : Int)) fun insert1 =>
      Option.bind (idx all i) fun v2 =>
      if insert.1 ≠ v2 then
        some (.inr false)
      else
        if insert.2.1 ≠ (0 : Int) then
          some (.inr false)
        else
          if insert.2.2 ≠ (0 : Int) then
            some (.inr false)
          else
            Option.bind (idx all i) fun v3 =>
            if insert1.1 ≠ v3 then
              some (.inr false)
            else
              if insert1.2.1 ≠ (find.1.Kids.length : Int) then
                some (.inr false)
              else
                if insert1.2.2 ≠ (0 : Int) then
                  some (.inr false)
                else
                  Option.bind (idx all i) fun v4 =>
                  Option.bind (M.r06_Parent n u v4) fun parent =>
                  Option.bind (M.target_InsertionPoint n u whole.1 (3 : Int)) fun insert2 =>
                  Option.bind (M.target_InsertionPoint n u whole.1 (2 : Int)) fun insert3 =>
                  if parent.2.2 = false then
                    Option.bind (
                        if insert2.2.2 ≠ (9 : Int) then
                          some true
                        else
                          some (decide (insert3.2.2 ≠ (9 : Int)))
                      ) fun v5 =>
                      if v5 = true then
                        some (.inr false)
                      else
                        M.law21_TargetFullAddress_loop1 u all n (i + 1)
                  else
                    if insert2.1 ≠ parent.1 then
                      some (.inr false)
                    else
                      if insert2.2.1 ≠ parent.2.1 then
                        some (.inr false)
                      else
                        if insert2.2.2 ≠ (0 : Int) then
                          some (.inr false)
                        else
                          if insert3.1 ≠ parent.1 then
                            some (.inr false)
                          else
                            Option.bind (addC parent.2.1 (1 : Int)) fun v6 =>
                            if insert3.2.1 ≠ v6 then
                              some (.inr false)
                            else
                              if insert3.2.2 ≠ (0 : Int) then
                                some (.inr false)
                              else
                                M.law21_TargetFullAddress_loop1 u all n (i + 1)
    else
      some (.inl ())
def M.law21_TargetFullAddress (n : Nat) (u : api_Unit) : Option Bool :=
  Option.bind (M.law21_awake n) fun awake =>
  if awake = false then
    some false
  else
    Option.bind (M.law21_book n u) fun book =>
    if book = false then
      some true
    else
      Option.bind (M.r06_All n u) fun all =>
      Option.bind (M.law21_TargetFullAddress_loop1 u all n (0 : Int)) fun
        | .inl _ =>
          some true
        | .inr ret0 => some ret0

def M.target_Find (n : Nat) (u : api_Unit) (it : api_Item) : Option (api_Id × Int) :=
  Option.bind (M.address_FindOne n u it.At) fun findon =>
  some (findon.1, findon.2)

def M.target_FindAll (n : Nat) (u : api_Unit) (p : List api_Step) : Option ((List api_Id)) :=
  Option.bind (M.address_FindAll n u p) fun findal =>
  some findal

def M.r07_Ids_loop1 (a : List api_Id) (b : List api_Id) : Nat → Int → Option (Unit ⊕ Bool)
  | 0, _ => none
  | n + 1, i =>
    if i < (a.length : Int) then
      Option.bind (idx a i) fun v =>
      Option.bind (idx b i) fun v1 =>
      if v ≠ v1 then
        some (.inr false)
      else
        M.r07_Ids_loop1 a b n (i + 1)
    else
      some (.inl ())
def M.r07_Ids (n : Nat) (a : List api_Id) (b : List api_Id) : Option Bool :=
  if (a.length : Int) ≠ (b.length : Int) then
    some false
  else
    Option.bind (M.r07_Ids_loop1 a b n (0 : Int)) fun
      | .inl _ =>
        some true
      | .inr ret0 => some ret0

def M.law21_TargetFind (n : Nat) (u : api_Unit) (it : api_Item) : Option Bool :=
  Option.bind (M.law21_awake n) fun awake =>
  if awake = false then
    some false
  else
    Option.bind (
        Option.bind (M.law21_book n u) fun book =>
        if book = false then
          some true
        else
          Option.bind (M.r17_Few n it) fun few =>
          some (!few)
      ) fun v =>
      if v = true then
        some true
      else
        Option.bind (M.target_Find n u it) fun find =>
        Option.bind (M.r07_One n u it.At) fun one =>
        if find.1 = one.1 then
          if find.2 = one.2 then
            Option.bind (M.target_FindAll n u it.At) fun findal =>
            Option.bind (M.r07_Find n u it.At) fun find1 =>
            Option.bind (M.r07_Ids n findal find1) fun ids =>
            some ids
          else
            some false
        else
          some false

def M.law07_book  : Option api_Unit :=
  some (⟨zapi_Id, (0 : Int), ([] : Str), ([] : List api_Word), ([] : List api_Word), [(⟨(⟨(1 : Int), (0 : Int), (1 : Int)⟩ : api_Id), (2 : Int), ([53] : Str), ([] : List api_Word), ([] : List api_Word), [(⟨(⟨(1 : Int), (0 : Int), (2 : Int)⟩ : api_Id), (3 : Int), ([50] : Str), ([] : List api_Word), ([] : List api_Word), ([] : List api_Unit)⟩ : api_Unit)]⟩ : api_Unit), (⟨(⟨(1 : Int), (0 : Int), (3 : Int)⟩ : api_Id), (1 : Int), ([49] : Str), ([] : List api_Word), ([] : List api_Word), [(⟨(⟨(1 : Int), (0 : Int), (4 : Int)⟩ : api_Id), (2 : Int), ([54] : Str), ([] : List api_Word), ([] : List api_Word), ([] : List api_Unit)⟩ : api_Unit)]⟩ : api_Unit)]⟩ : api_Unit)

def M.address_way_loop1 (id : api_Id) (slf : api_Unit → api_Id → Option ((List api_Step) × Bool)) : List api_Unit → Option (Unit ⊕ ((List api_Step) × Bool))
  | [] =>
    some (.inl ())
  | e :: es =>
    Option.bind (slf e id) fun way =>
    if way.2 = true then
      Option.bind (appC [(⟨e.Kind, e.Label⟩ : api_Step)] way.1) fun out =>
      some (.inr (out, true))
    else
      M.address_way_loop1 id slf es
def M.address_way : Nat → api_Unit → api_Id → Option ((List api_Step) × Bool)
  | 0, _, _ => none
  | n + 1, u, id =>
    if u.Id = id then
      some (([] : List api_Step), true)
    else
      Option.bind (M.address_way_loop1 id (M.address_way n) u.Kids) fun
        | .inl _ =>
          some (([] : List api_Step), false)
        | .inr ret0 => some ret0

def M.address_Full (n : Nat) (u : api_Unit) (id : api_Id) : Option ((List api_Step) × Bool) :=
  Option.bind (M.address_way n u id) fun way =>
  if way.2 = false then
    some (([] : List api_Step), false)
  else
    Option.bind (appC ([(⟨(0 : Int), ([] : Str)⟩ : api_Step)]) way.1) fun out =>
    some (out, true)

def M.slices_Clone_api_Step_api_Step (l : List api_Step) : Option (List api_Step) := appC [] l

def M.address_Shortest_loop1 (u : api_Unit) (id : api_Id) (full : (List api_Step) × Bool) : Nat → Int → Option (Unit ⊕ ((List api_Step) × Bool))
  | 0, _ => none
  | n + 1, n0_ =>
    if n0_ < (full.1.length : Int) then
      Option.bind (subC (full.1.length : Int) n0_) fun v =>
      Option.bind (slcLo full.1 v) fun v1 =>
      Option.bind (M.address_FindAll n u v1) fun findal =>
      if (findal.length : Int) = (1 : Int) then
        Option.bind (idx findal (0 : Int)) fun v2 =>
        if v2 = id then
          Option.bind (M.slices_Clone_api_Step_api_Step v1) fun step =>
          some (.inr (step, true))
        else
          M.address_Shortest_loop1 u id full n (n0_ + 1)
      else
        M.address_Shortest_loop1 u id full n (n0_ + 1)
    else
      some (.inl ())
def M.address_Shortest (n : Nat) (u : api_Unit) (id : api_Id) : Option ((List api_Step) × Bool) :=
  Option.bind (M.address_Full n u id) fun full =>
  Option.bind (M.address_Shortest_loop1 u id full n (1 : Int)) fun
    | .inl _ =>
      some (full.1, full.2)
    | .inr ret0 => some ret0

def M.address_name (kind : Int) : Option (Str × Bool) :=
  if kind < (0 : Int) then
    some (([] : Str), false)
  else
    if (8 : Int) ≤ kind then
      some (([] : Str), false)
    else
      Option.bind (idx ([([98, 111, 111, 107] : Str), ([112, 97, 114, 116] : Str), ([115, 101, 99, 116, 105, 111, 110] : Str), ([112, 97, 114, 97, 103, 114, 97, 112, 104] : Str), ([116, 97, 98, 108, 101] : Str), ([114, 111, 119] : Str), ([99, 101, 108, 108] : Str), ([110, 111, 116, 101] : Str)]) kind) fun v =>
      some (v, true)

def M.strings_Join_loop2 (sep : Str) : List Str → Str → Option Str
  | [], b2 =>
    some b2
  | e1 :: es1, b2 =>
    Option.bind (appC b2 sep) fun b3 =>
    Option.bind (appC b3 e1) fun b4 =>
    M.strings_Join_loop2 sep es1 b4
def M.strings_Join_loop1  : List Str → Int → Option Int
  | [], n0_1 =>
    some n0_1
  | e :: es, n0_1 =>
    Option.bind (subC (9223372036854775807 : Int) n0_1) fun v6 =>
    if v6 < (e.length : Int) then
      none
    else
      Option.bind (addC n0_1 (e.length : Int)) fun v7 =>
      M.strings_Join_loop1 es v7
def M.strings_Join (elems : List Str) (sep : Str) : Option Str :=
  if (elems.length : Int) = (0 : Int) then
    some ([] : Str)
  else
    if (elems.length : Int) = (1 : Int) then
      Option.bind (idx elems (0 : Int)) fun v =>
      some v
    else
      Option.bind (
          if (0 : Int) < (sep.length : Int) then
            Option.bind (
                Option.bind (subC (elems.length : Int) (1 : Int)) fun v1 =>
                Option.bind (quoC (9223372036854775807 : Int) v1) fun v2 =>
                if v2 ≤ (sep.length : Int) then
                  none
                else
                  some ()
              ) fun _ =>
              Option.bind (subC (elems.length : Int) (1 : Int)) fun v3 =>
              Option.bind (mulC (sep.length : Int) v3) fun v4 =>
              Option.bind (addC (0 : Int) v4) fun v5 =>
              some v5
          else
            some (0 : Int)
        ) fun n0_ =>
        Option.bind (M.strings_Join_loop1 elems n0_) fun n0_1 =>
          Option.bind (growC n0_1) fun _ =>
          Option.bind (idx elems (0 : Int)) fun v8 =>
          Option.bind (appC ([] : Str) v8) fun b1 =>
          Option.bind (slcLo elems (1 : Int)) fun v9 =>
          Option.bind (M.strings_Join_loop2 sep v9 b1) fun b2 =>
            some b2

def M.address_Format_loop1  : List api_Step → (List Str) → Option ((List Str))
  | [], words =>
    some words
  | e :: es, words =>
    Option.bind (M.address_name e.Kind) fun name =>
    Option.bind (appC words [name.1]) fun words1 =>
    Option.bind (M.address_book e) fun book =>
    if book = false then
      Option.bind (appC words1 [e.Label]) fun words2 =>
      M.address_Format_loop1 es words2
    else
      M.address_Format_loop1 es words1
def M.address_Format (n : Nat) (p : List api_Step) : Option Str :=
  Option.bind (M.address_Valid n p) fun valid =>
  if valid = false then
    some ([] : Str)
  else
    Option.bind (M.address_Format_loop1 p ([] : List Str)) fun words =>
      Option.bind (M.strings_Join words ([32] : Str)) fun join =>
      some join

def M.law07_awake (n : Nat)  : Option Bool :=
  Option.bind M.law07_book fun book =>
  Option.bind (M.address_FindOne n book ([(⟨(2 : Int), ([53] : Str)⟩ : api_Step), (⟨(3 : Int), ([50] : Str)⟩ : api_Step)])) fun findon =>
  Option.bind M.law07_book fun book1 =>
  Option.bind (M.address_Shortest n book1 findon.1) fun shorte =>
  Option.bind M.law07_book fun book2 =>
  Option.bind (M.address_Full n book2 findon.1) fun full =>
  if findon.2 = (0 : Int) then
    if findon.1 = (⟨(1 : Int), (0 : Int), (2 : Int)⟩ : api_Id) then
      if shorte.2 = true then
        if full.2 = true then
          Option.bind (M.address_Format n shorte.1) fun format =>
          if (format == ([112, 97, 114, 97, 103, 114, 97, 112, 104, 32, 50] : Str)) = true then
            Option.bind (M.address_Format n full.1) fun format1 =>
            some (format1 == ([98, 111, 111, 107, 32, 115, 101, 99, 116, 105, 111, 110, 32, 53, 32, 112, 97, 114, 97, 103, 114, 97, 112, 104, 32, 50] : Str))
          else
            some false
        else
          some false
      else
        some false
    else
      some false
  else
    some false

def M.r07_few_loop1 (u : api_Unit) (deep : Int) (slf : api_Unit → Int → Int → Option Int) : Nat → Int → Int → Option Int
  | 0, _, _ => none
  | n + 1, left1, i =>
    Option.bind (
        if i < (u.Kids.length : Int) then
          some (decide ((0 : Int) ≤ left1))
        else
          some false
      ) fun v7 =>
      if v7 = true then
        Option.bind (idx u.Kids i) fun v8 =>
        Option.bind (addC deep (1 : Int)) fun v9 =>
        Option.bind (slf v8 left1 v9) fun few =>
        Option.bind (addC i (1 : Int)) fun v10 =>
        M.r07_few_loop1 u deep slf n few v10
      else
        some left1
def M.r07_few : Nat → api_Unit → Int → Int → Option Int
  | 0, _, _, _ => none
  | n + 1, u, left, deep =>
    Option.bind (subC left (1 : Int)) fun v =>
    Option.bind (quoC (u.Words.length : Int) (50 : Int)) fun v1 =>
    Option.bind (subC v v1) fun v2 =>
    Option.bind (quoC (u.Head.length : Int) (50 : Int)) fun v3 =>
    Option.bind (subC v2 v3) fun v4 =>
    Option.bind (quoC (u.Label.length : Int) (50 : Int)) fun v5 =>
    Option.bind (subC v4 v5) fun v6 =>
    if (12 : Int) < deep then
      some (-1 : Int)
    else
      Option.bind (M.r07_few_loop1 u deep (M.r07_few n) n v6 (0 : Int)) fun left1 =>
        some left1

def M.r07_Few (n : Nat) (u : api_Unit) (most : Int) : Option Bool :=
  Option.bind (M.r07_few n u most (0 : Int)) fun few =>
  some (decide ((0 : Int) ≤ few))

def M.law07_short_loop1 (p : List api_Step) : Nat → Int → Option (Unit ⊕ Bool)
  | 0, _ => none
  | n + 1, i =>
    if i < (p.length : Int) then
      Option.bind (idx p i) fun v =>
      if (100 : Int) < (v.Label.length : Int) then
        some (.inr false)
      else
        M.law07_short_loop1 p n (i + 1)
    else
      some (.inl ())
def M.law07_short (n : Nat) (p : List api_Step) : Option Bool :=
  Option.bind (M.law07_short_loop1 p n (0 : Int)) fun
    | .inl _ =>
      some (decide ((p.length : Int) ≤ (20 : Int)))
    | .inr ret0 => some ret0

def M.law07_AddressFind (n : Nat) (u : api_Unit) (p : List api_Step) : Option Bool :=
  Option.bind (
      Option.bind (M.law07_awake n) fun awake =>
      if awake = false then
        some true
      else
        Option.bind (M.r07_Few n u (60 : Int)) fun few =>
        if few = false then
          some true
        else
          Option.bind (M.law07_short n p) fun short =>
          some (!short)
    ) fun v =>
    if v = true then
      Option.bind (M.law07_awake n) fun awake1 =>
      some awake1
    else
      Option.bind (M.address_FindAll n u p) fun findal =>
      Option.bind (M.address_FindOne n u p) fun findon =>
      Option.bind (M.r07_One n u p) fun one =>
      Option.bind (M.r07_Find n u p) fun find =>
      Option.bind (M.r07_Ids n findal find) fun ids =>
      if ids = true then
        if findon.1 = one.1 then
          some (decide (findon.2 = one.2))
        else
          some false
      else
        some false

def M.unit_Ancestors_loop1 (way : (List api_Unit)) : Nat → (List api_Id) → Int → Option ((List api_Id))
  | 0, _, _ => none
  | n + 1, out, i =>
    if (0 : Int) ≤ i then
      Option.bind (idx way i) fun v1 =>
      Option.bind (appC out [v1.Id]) fun out1 =>
      Option.bind (subC i (1 : Int)) fun v2 =>
      M.unit_Ancestors_loop1 way n out1 v2
    else
      some out
def M.unit_Ancestors (n : Nat) (u : api_Unit) (id : api_Id) : Option ((List api_Id)) :=
  Option.bind (M.unit_way n u id) fun way =>
  Option.bind (subC (way.length : Int) (2 : Int)) fun v =>
  Option.bind (M.unit_Ancestors_loop1 way n ([] : List api_Id) v) fun out =>
    some out

def M.slices_Index_api_Id_api_Id_loop1 (s0_ : List api_Id) (v : api_Id) : Nat → Int → Option (Unit ⊕ Int)
  | 0, _ => none
  | n + 1, v1 =>
    if v1 < (s0_.length : Int) then
      Option.bind (idx s0_ v1) fun v2 =>
      if v = v2 then
        some (.inr v1)
      else
        M.slices_Index_api_Id_api_Id_loop1 s0_ v n (v1 + 1)
    else
      some (.inl ())
def M.slices_Index_api_Id_api_Id (n : Nat) (s0_ : List api_Id) (v : api_Id) : Option Int :=
  Option.bind (M.slices_Index_api_Id_api_Id_loop1 s0_ v n (0 : Int)) fun
    | .inl _ =>
      some (-1 : Int)
    | .inr ret0 => some ret0

def M.slices_Contains_api_Id_api_Id (n : Nat) (s0_ : List api_Id) (v : api_Id) : Option Bool :=
  Option.bind (M.slices_Index_api_Id_api_Id n s0_ v) fun id =>
  some (decide ((0 : Int) ≤ id))

def M.target_goes (n : Nat) (u : api_Unit) (id : api_Id) (to : api_Id) (where0_ : Int) : Option (target_spot × Int) :=
  Option.bind (
      if where0_ = (2 : Int) then
        some true
      else
        some (decide (where0_ = (3 : Int)))
    ) fun besides =>
    Option.bind (M.unit_Parent n u id) fun parent =>
    if to ≠ id then
      Option.bind (M.unit_Ancestors n u to) fun ancest =>
      Option.bind (M.slices_Contains_api_Id_api_Id n ancest id) fun id1 =>
      Option.bind (
          if parent.2.2 = false then
            some true
          else
            if id1 = true then
              some true
            else
              if to = id then
                some (!besides)
              else
                some false
        ) fun v =>
        if v = true then
          some ((⟨zapi_Id, (0 : Int)⟩ : target_spot), (9 : Int))
        else
          if to = id then
            some ((⟨parent.1, parent.2.1⟩ : target_spot), (0 : Int))
          else
            Option.bind (M.target_leads n) fun leads =>
            Option.bind (idx leads where0_) fun v1 =>
            Option.bind (v1 u to) fun v2 =>
            Option.bind (
                if v2.2 = (0 : Int) then
                  if v2.1.parent_ = parent.1 then
                    some (decide (parent.2.1 < v2.1.at_))
                  else
                    some false
                else
                  some false
              ) fun v3 =>
              if v3 = true then
                Option.bind (subC v2.1.at_ (1 : Int)) fun v4 =>
                some (({ v2.1 with at_ := v4 } : target_spot), v2.2)
              else
                some (v2.1, v2.2)
    else
      Option.bind (
          if parent.2.2 = false then
            some true
          else
            if to = id then
              some (!besides)
            else
              some false
        ) fun v5 =>
        if v5 = true then
          some ((⟨zapi_Id, (0 : Int)⟩ : target_spot), (9 : Int))
        else
          if to = id then
            some ((⟨parent.1, parent.2.1⟩ : target_spot), (0 : Int))
          else
            Option.bind (M.target_leads n) fun leads1 =>
            Option.bind (idx leads1 where0_) fun v6 =>
            Option.bind (v6 u to) fun v7 =>
            Option.bind (
                if v7.2 = (0 : Int) then
                  if v7.1.parent_ = parent.1 then
                    some (decide (parent.2.1 < v7.1.at_))
                  else
                    some false
                else
                  some false
              ) fun v8 =>
              if v8 = true then
                Option.bind (subC v7.1.at_ (1 : Int)) fun v9 =>
                some (({ v7.1 with at_ := v9 } : target_spot), v7.2)
              else
                some (v7.1, v7.2)

def M.target_Destination (n : Nat) (u : api_Unit) (it : api_Item) : Option (api_Id × Int × Int) :=
  if it.Kind = (0 : Int) then
    Option.bind (M.target_InsertionPoint n u it.At it.Where) fun insert =>
    some (insert.1, insert.2.1, insert.2.2)
  else
    Option.bind (
        if it.Kind ≠ (6 : Int) then
          some true
        else
          Option.bind (M.target_isWhere it.Where) fun iswher =>
          some (!iswher)
      ) fun v =>
      if v = true then
        some ((⟨(0 : Int), (0 : Int), (0 : Int)⟩ : api_Id), (0 : Int), (1 : Int))
      else
        Option.bind (M.address_FindOne n u it.At) fun findon =>
        if findon.2 ≠ (0 : Int) then
          some ((⟨(0 : Int), (0 : Int), (0 : Int)⟩ : api_Id), (0 : Int), findon.2)
        else
          Option.bind (M.address_FindOne n u it.To) fun findon1 =>
          if findon1.2 ≠ (0 : Int) then
            some ((⟨(0 : Int), (0 : Int), (0 : Int)⟩ : api_Id), (0 : Int), findon1.2)
          else
            Option.bind (M.target_goes n u findon.1 findon1.1 it.Where) fun goes =>
            if goes.2 ≠ (0 : Int) then
              some ((⟨(0 : Int), (0 : Int), (0 : Int)⟩ : api_Id), (0 : Int), goes.2)
            else
              some (goes.1.parent_, goes.1.at_, (0 : Int))

def M.r21_Goes (n : Nat) (u : api_Unit) (it : api_Item) : Option (api_Id × Int × Int) :=
  Option.bind (
      if it.Kind ≠ (0 : Int) then
        if it.Kind ≠ (6 : Int) then
          some true
        else
          if it.Where < (0 : Int) then
            some true
          else
            some (decide ((3 : Int) < it.Where))
      else
        if it.Where < (0 : Int) then
          some true
        else
          some (decide ((3 : Int) < it.Where))
    ) fun v =>
    if v = true then
      some ((⟨(0 : Int), (0 : Int), (0 : Int)⟩ : api_Id), (0 : Int), (1 : Int))
    else
      if it.Kind = (0 : Int) then
        Option.bind (M.r21_Where n u it.At it.Where) fun where0_ =>
        some (where0_.1, where0_.2.1, where0_.2.2)
      else
        Option.bind (M.r07_One n u it.At) fun one =>
        if one.2 ≠ (0 : Int) then
          some ((⟨(0 : Int), (0 : Int), (0 : Int)⟩ : api_Id), (0 : Int), one.2)
        else
          Option.bind (M.r07_One n u it.To) fun one1 =>
          if one1.2 ≠ (0 : Int) then
            some ((⟨(0 : Int), (0 : Int), (0 : Int)⟩ : api_Id), (0 : Int), one1.2)
          else
            Option.bind (M.r06_Find n u one.1) fun find =>
            Option.bind (M.r06_Find n find.1 one1.1) fun find1 =>
            Option.bind (
                if one.1 = u.Id then
                  some true
                else
                  if (2 : Int) ≤ it.Where then
                    if one1.1 = u.Id then
                      some true
                    else
                      if find1.2 = true then
                        if one1.1 ≠ one.1 then
                          some true
                        else
                          if one1.1 = one.1 then
                            some (!(decide ((2 : Int) ≤ it.Where)))
                          else
                            some false
                      else
                        if one1.1 = one.1 then
                          some (!(decide ((2 : Int) ≤ it.Where)))
                        else
                          some false
                  else
                    if find1.2 = true then
                      if one1.1 ≠ one.1 then
                        some true
                      else
                        if one1.1 = one.1 then
                          some (!(decide ((2 : Int) ≤ it.Where)))
                        else
                          some false
                    else
                      if one1.1 = one.1 then
                        some (!(decide ((2 : Int) ≤ it.Where)))
                      else
                        some false
              ) fun v1 =>
              if v1 = true then
                some ((⟨(0 : Int), (0 : Int), (0 : Int)⟩ : api_Id), (0 : Int), (9 : Int))
              else
                Option.bind (M.r06_Parent n u one.1) fun parent =>
                if one1.1 = one.1 then
                  some (parent.1, parent.2.1, (0 : Int))
                else
                  Option.bind (M.r21_Where n u it.To it.Where) fun where0_1 =>
                  if where0_1.1 = parent.1 then
                    if parent.2.1 < where0_1.2.1 then
                      Option.bind (subC where0_1.2.1 (1 : Int)) fun v2 =>
                      some (where0_1.1, v2, (0 : Int))
                    else
                      some (where0_1.1, where0_1.2.1, (0 : Int))
                  else
                    some (where0_1.1, where0_1.2.1, (0 : Int))

def M.law21_TargetDestination (n : Nat) (u : api_Unit) (it : api_Item) : Option Bool :=
  Option.bind (M.law21_awake n) fun awake =>
  if awake = false then
    some false
  else
    Option.bind (
        Option.bind (M.law21_book n u) fun book =>
        if book = false then
          some true
        else
          Option.bind (M.r17_Few n it) fun few =>
          some (!few)
      ) fun v =>
      if v = true then
        some true
      else
        Option.bind (M.target_Destination n u it) fun destin =>
        Option.bind (M.r21_Goes n u it) fun goes =>
        if destin.1 = goes.1 then
          if destin.2.1 = goes.2.1 then
            some (decide (destin.2.2 = goes.2.2))
          else
            some false
        else
          some false

def M.address_each_loop1 (to : api_Unit → Option Unit) (slf : api_Unit → (api_Unit → Option Unit) → Option Unit) : List api_Unit → Option Unit
  | [] =>
    some ()
  | e :: es =>
    Option.bind (slf e to) fun each =>
    M.address_each_loop1 to slf es
def M.address_each : Nat → api_Unit → (api_Unit → Option Unit) → Option Unit
  | 0, _, _ => none
  | n + 1, u, to =>
    Option.bind (to u) fun v =>
    Option.bind (M.address_each_loop1 to (M.address_each n) u.Kids) fun _ =>
      some ()

end Go.Proofs.Ytfclekegoleiaaa
