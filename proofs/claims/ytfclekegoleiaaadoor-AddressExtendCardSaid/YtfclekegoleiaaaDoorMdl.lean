/-
  What the functions compute: plain functions, written by program out of the code; no machine in sight.
-/
import Derived.Test.YtfclekegoleiaaaDoorMod
set_option linter.unusedVariables false
set_option linter.unusedSimpArgs false
namespace Go.Proofs.YtfclekegoleiaaaDoor
open Go Go.Dec


def gv0 : List Str := [([98, 111, 111, 107] : Str), ([112, 97, 114, 116] : Str), ([115, 101, 99, 116, 105, 111, 110] : Str), ([112, 97, 114, 97, 103, 114, 97, 112, 104] : Str), ([116, 97, 98, 108, 101] : Str), ([114, 111, 119] : Str), ([99, 101, 108, 108] : Str), ([110, 111, 116, 101] : Str)]
def gv1 : List (List Int) := [[(1 : Int), (2 : Int)], [(2 : Int)], [(3 : Int), (4 : Int), (7 : Int)], [(3 : Int), (4 : Int), (7 : Int)], [(5 : Int)], [(6 : Int)], ([] : List Int), ([] : List Int)]
structure api_Id where
  Act : Int
  Item : Int
  N : Int
theorem api_Id.eq_iff (a b : api_Id) : (a.Act = b.Act ∧ a.Item = b.Item ∧ a.N = b.N) ↔ a = b := ⟨fun h => by cases a; cases b; simp_all, fun h => by subst h; simp⟩
instance : DecidableEq api_Id := fun a b => decidable_of_iff _ (api_Id.eq_iff a b)
def zapi_Id : api_Id := ⟨(0 : Int), (0 : Int), (0 : Int)⟩

structure api_Mark where
  Act : Int
  Item : Int
  At : Int
theorem api_Mark.eq_iff (a b : api_Mark) : (a.Act = b.Act ∧ a.Item = b.Item ∧ a.At = b.At) ↔ a = b := ⟨fun h => by cases a; cases b; simp_all, fun h => by subst h; simp⟩
instance : DecidableEq api_Mark := fun a b => decidable_of_iff _ (api_Mark.eq_iff a b)
def zapi_Mark : api_Mark := ⟨(0 : Int), (0 : Int), (0 : Int)⟩

structure api_Word where
  Text : Str
  By : api_Mark
theorem api_Word.eq_iff (a b : api_Word) : (a.Text = b.Text ∧ a.By = b.By) ↔ a = b := ⟨fun h => by cases a; cases b; simp_all, fun h => by subst h; simp⟩
instance : DecidableEq api_Word := fun a b => decidable_of_iff _ (api_Word.eq_iff a b)
def zapi_Word : api_Word := ⟨([] : Str), zapi_Mark⟩

structure api_Unit where
  Id : api_Id
  Kind : Int
  Label : Str
  Head : List api_Word
  Words : List api_Word
  Kids : List api_Unit
def zapi_Unit : api_Unit := ⟨zapi_Id, (0 : Int), ([] : Str), ([] : List api_Word), ([] : List api_Word), ([] : List api_Unit)⟩

structure api_Step where
  Kind : Int
  Label : Str
theorem api_Step.eq_iff (a b : api_Step) : (a.Kind = b.Kind ∧ a.Label = b.Label) ↔ a = b := ⟨fun h => by cases a; cases b; simp_all, fun h => by subst h; simp⟩
instance : DecidableEq api_Step := fun a b => decidable_of_iff _ (api_Step.eq_iff a b)
def zapi_Step : api_Step := ⟨(0 : Int), ([] : Str)⟩

structure unit_called where
  kind_ : Int
  label_ : Str
theorem unit_called.eq_iff (a b : unit_called) : (a.kind_ = b.kind_ ∧ a.label_ = b.label_) ↔ a = b := ⟨fun h => by cases a; cases b; simp_all, fun h => by subst h; simp⟩
instance : DecidableEq unit_called := fun a b => decidable_of_iff _ (unit_called.eq_iff a b)
def zunit_called : unit_called := ⟨(0 : Int), ([] : Str)⟩


def M.law07_book  : Option api_Unit :=
  some (⟨zapi_Id, (0 : Int), ([] : Str), ([] : List api_Word), ([] : List api_Word), [(⟨(⟨(1 : Int), (0 : Int), (1 : Int)⟩ : api_Id), (2 : Int), ([53] : Str), ([] : List api_Word), ([] : List api_Word), [(⟨(⟨(1 : Int), (0 : Int), (2 : Int)⟩ : api_Id), (3 : Int), ([50] : Str), ([] : List api_Word), ([] : List api_Word), ([] : List api_Unit)⟩ : api_Unit)]⟩ : api_Unit), (⟨(⟨(1 : Int), (0 : Int), (3 : Int)⟩ : api_Id), (1 : Int), ([49] : Str), ([] : List api_Word), ([] : List api_Word), [(⟨(⟨(1 : Int), (0 : Int), (4 : Int)⟩ : api_Id), (2 : Int), ([54] : Str), ([] : List api_Word), ([] : List api_Word), ([] : List api_Unit)⟩ : api_Unit)]⟩ : api_Unit)]⟩ : api_Unit)

def M.address_book (s0_ : api_Step) : Option Bool :=
  if s0_.Kind = (0 : Int) then
    some (s0_.Label == ([] : Str))
  else
    some false

def M.strings_indexFunc_loop1 (s0_ : Str) (f : Int → Option Bool) (truth : Bool) : Nat → Nat → Option (Nat ⊕ Int)
  | 0, _ => none
  | n + 1, v =>
    if v < s0_.length then
      Option.bind (f ((runeAt s0_ v).1 : Int)) fun v1 =>
      if (v1 == truth) = true then
        some (.inr (v : Int))
      else
        M.strings_indexFunc_loop1 s0_ f truth n (v + (runeAt s0_ v).2)
    else
      some (.inl v)
def M.strings_indexFunc (n : Nat) (s0_ : Str) (f : Int → Option Bool) (truth : Bool) : Option Int :=
  Option.bind (M.strings_indexFunc_loop1 s0_ f truth n 0) fun
    | .inl v =>
      some (-1 : Int)
    | .inr ret0 => some ret0

def M.strings_IndexFunc (n : Nat) (s0_ : Str) (f : Int → Option Bool) : Option Int :=
  Option.bind (M.strings_indexFunc n s0_ f true) fun indexf =>
  some indexf

def M.label_parted_1 (b : Int) : Option Bool :=
  if b < (48 : Int) then
    some true
  else
    some (decide ((57 : Int) < b))

def M.label_parted (n : Nat) (s0_ : Str) : Option (Str × Str) :=
  Option.bind (M.strings_IndexFunc n s0_ (fun s0 => M.label_parted_1 s0)) fun indexf =>
  if indexf < (0 : Int) then
    some (s0_, ([] : Str))
  else
    Option.bind (slcHi s0_ indexf) fun v =>
    Option.bind (slcLo s0_ indexf) fun v1 =>
    some (v, v1)

def M.strings_ContainsFunc (n : Nat) (s0_ : Str) (f : Int → Option Bool) : Option Bool :=
  Option.bind (M.strings_IndexFunc n s0_ f) fun indexf =>
  some (decide ((0 : Int) ≤ indexf))

def M.label_Valid_1 (b : Int) : Option Bool :=
  if b < (65 : Int) then
    some true
  else
    some (decide ((90 : Int) < b))

def M.label_Valid (n : Nat) (s0_ : Str) : Option Bool :=
  Option.bind (M.label_parted n s0_) fun parted =>
  if (1 : Int) ≤ (parted.1.length : Int) then
    if (parted.1.length : Int) ≤ (4 : Int) then
      Option.bind (idx parted.1 (0 : Int)) fun b =>
      if (b.toNat : Int) ≠ (48 : Int) then
        if (parted.2.length : Int) ≤ (3 : Int) then
          Option.bind (M.strings_ContainsFunc n parted.2 (fun s0 => M.label_Valid_1 s0)) fun contai =>
          some (!contai)
        else
          some false
      else
        some false
    else
      some false
  else
    some false

def M.address_Valid_loop1 (n : Nat)  : List api_Step → Int → Option (Unit ⊕ Bool)
  | [], _ =>
    some (.inl ())
  | e :: es, i =>
    Option.bind (
        if i = (0 : Int) then
          Option.bind (M.address_book e) fun book =>
          some book
        else
          some false
      ) fun v =>
      if v = true then
        M.address_Valid_loop1 n es (i + 1)
      else
        if e.Kind ≤ (0 : Int) then
          some (.inr false)
        else
          if (7 : Int) < e.Kind then
            some (.inr false)
          else
            Option.bind (M.label_Valid n e.Label) fun valid =>
            if valid = false then
              some (.inr false)
            else
              M.address_Valid_loop1 n es (i + 1)
def M.address_Valid (n : Nat) (p : List api_Step) : Option Bool :=
  Option.bind (M.address_Valid_loop1 n p (0 : Int)) fun
    | .inl _ =>
      some (decide ((p.length : Int) ≤ (9 : Int)))
    | .inr ret0 => some ret0

def M.address_called (u : api_Unit) (s0_ : api_Step) : Option Bool :=
  if u.Kind = s0_.Kind then
    some (u.Label == s0_.Label)
  else
    some false

def M.address_found_1 (x : api_Unit) (c : List api_Step) (c1 : List api_Unit) : Option (List api_Unit) :=
  Option.bind (idx c (0 : Int)) fun v =>
  Option.bind (M.address_called x v) fun called =>
  if called = true then
    Option.bind (appC c1 [x]) fun out =>
    some out
  else
    some c1

def M.address_each_i0_loop1 (c : List api_Step) (slf : api_Unit → (List api_Step) → (List api_Unit) → Option (List api_Unit)) : List api_Unit → (List api_Unit) → Option ((List api_Unit))
  | [], v =>
    some v
  | e :: es, v =>
    Option.bind (slf e c v) fun w1 =>
    M.address_each_i0_loop1 c slf es w1
def M.address_each_i0 : Nat → api_Unit → (List api_Step) → (List api_Unit) → Option (List api_Unit)
  | 0, _, _, _ => none
  | n + 1, u, c, c1 =>
    Option.bind (M.address_found_1 u c c1) fun w =>
    Option.bind (M.address_each_i0_loop1 c (M.address_each_i0 n) u.Kids w) fun v =>
      some v

def M.address_found_loop3 (e : api_Step) : List api_Unit → (List api_Unit) → Option ((List api_Unit))
  | [], next1 =>
    some next1
  | e2 :: es2, next1 =>
    Option.bind (M.address_called e2 e) fun called =>
    if called = true then
      Option.bind (appC next1 [e2]) fun next2 =>
      M.address_found_loop3 e es2 next2
    else
      M.address_found_loop3 e es2 next1
def M.address_found_loop2 (e : api_Step) : List api_Unit → (List api_Unit) → Option ((List api_Unit))
  | [], next =>
    some next
  | e1 :: es1, next =>
    Option.bind (M.address_found_loop3 e e1.Kids next) fun next1 =>
      M.address_found_loop2 e es1 next1
def M.address_found_loop1  : List api_Step → (List api_Unit) → Option ((List api_Unit))
  | [], at0_2 =>
    some at0_2
  | e :: es, at0_2 =>
    Option.bind (M.address_found_loop2 e at0_2 ([] : List api_Unit)) fun next =>
      M.address_found_loop1 es next
def M.address_found (n : Nat) (u : api_Unit) (p : List api_Step) : Option ((List api_Unit)) :=
  Option.bind (M.address_Valid n p) fun valid =>
  if valid = false then
    some ([] : List api_Unit)
  else
    Option.bind ((
        if (p.length : Int) = (0 : Int) then
          some (.inr [u])
        else
          Option.bind (idx p (0 : Int)) fun v =>
          Option.bind (M.address_book v) fun book =>
          if book = true then
            some (.inl [u])
          else
            Option.bind (M.address_each_i0 n u p ([] : List api_Unit)) fun at0_1 =>
            some (.inl at0_1)
      ) : Option (((List api_Unit)) ⊕ ((List api_Unit)))) fun
      | .inl at0_ =>
        Option.bind (slcLo p (1 : Int)) fun v1 =>
        Option.bind (M.address_found_loop1 v1 at0_) fun at0_2 =>
          some at0_2
      | .inr ret0 => some ret0

def M.address_FindAll_loop1  : List api_Unit → (List api_Id) → Option ((List api_Id))
  | [], out =>
    some out
  | e :: es, out =>
    Option.bind (appC out [e.Id]) fun out1 =>
    M.address_FindAll_loop1 es out1
def M.address_FindAll (n : Nat) (u : api_Unit) (p : List api_Step) : Option ((List api_Id)) :=
  Option.bind (M.address_found n u p) fun found =>
  Option.bind (M.address_FindAll_loop1 found ([] : List api_Id)) fun out =>
    some out

def M.address_FindOne (n : Nat) (u : api_Unit) (p : List api_Step) : Option (api_Id × Int) :=
  Option.bind (M.address_FindAll n u p) fun findal =>
  if (findal.length : Int) = (0 : Int) then
    some ((⟨(0 : Int), (0 : Int), (0 : Int)⟩ : api_Id), (7 : Int))
  else
    if (findal.length : Int) = (1 : Int) then
      Option.bind (idx findal (0 : Int)) fun v =>
      some (v, (0 : Int))
    else
      some ((⟨(0 : Int), (0 : Int), (0 : Int)⟩ : api_Id), (8 : Int))

def M.address_way_loop1 (id : api_Id) (slf : api_Unit → api_Id → Option ((List api_Step) × Bool)) : List api_Unit → Option (Unit ⊕ ((List api_Step) × Bool))
  | [] =>
    some (.inl ())
  | e :: es =>
    Option.bind (slf e id) fun way =>
    if way.2 = true then
      Option.bind (appC [(⟨e.Kind, e.Label⟩ : api_Step)] way.1) fun out =>
      some (.inr (out, true))
    else
      M.address_way_loop1 id slf es
def M.address_way : Nat → api_Unit → api_Id → Option ((List api_Step) × Bool)
  | 0, _, _ => none
  | n + 1, u, id =>
    if u.Id = id then
      some (([] : List api_Step), true)
    else
      Option.bind (M.address_way_loop1 id (M.address_way n) u.Kids) fun
        | .inl _ =>
          some (([] : List api_Step), false)
        | .inr ret0 => some ret0

def M.address_Full (n : Nat) (u : api_Unit) (id : api_Id) : Option ((List api_Step) × Bool) :=
  Option.bind (M.address_way n u id) fun way =>
  if way.2 = false then
    some (([] : List api_Step), false)
  else
    Option.bind (appC ([(⟨(0 : Int), ([] : Str)⟩ : api_Step)]) way.1) fun out =>
    some (out, true)

def M.slices_Clone_api_Step_api_Step (l : List api_Step) : Option (List api_Step) := appC [] l

def M.address_Shortest_loop1 (u : api_Unit) (id : api_Id) (full : (List api_Step) × Bool) : Nat → Int → Option (Unit ⊕ ((List api_Step) × Bool))
  | 0, _ => none
  | n + 1, n0_ =>
    if n0_ < (full.1.length : Int) then
      Option.bind (subC (full.1.length : Int) n0_) fun v =>
      Option.bind (slcLo full.1 v) fun v1 =>
      Option.bind (M.address_FindAll n u v1) fun findal =>
      if (findal.length : Int) = (1 : Int) then
        Option.bind (idx findal (0 : Int)) fun v2 =>
        if v2 = id then
          Option.bind (M.slices_Clone_api_Step_api_Step v1) fun step =>
          some (.inr (step, true))
        else
          M.address_Shortest_loop1 u id full n (n0_ + 1)
      else
        M.address_Shortest_loop1 u id full n (n0_ + 1)
    else
      some (.inl ())
def M.address_Shortest (n : Nat) (u : api_Unit) (id : api_Id) : Option ((List api_Step) × Bool) :=
  Option.bind (M.address_Full n u id) fun full =>
  Option.bind (M.address_Shortest_loop1 u id full n (1 : Int)) fun
    | .inl _ =>
      some (full.1, full.2)
    | .inr ret0 => some ret0

def M.address_name (kind : Int) : Option (Str × Bool) :=
  if kind < (0 : Int) then
    some (([] : Str), false)
  else
    if (8 : Int) ≤ kind then
      some (([] : Str), false)
    else
      Option.bind (idx ([([98, 111, 111, 107] : Str), ([112, 97, 114, 116] : Str), ([115, 101, 99, 116, 105, 111, 110] : Str), ([112, 97, 114, 97, 103, 114, 97, 112, 104] : Str), ([116, 97, 98, 108, 101] : Str), ([114, 111, 119] : Str), ([99, 101, 108, 108] : Str), ([110, 111, 116, 101] : Str)]) kind) fun v =>
      some (v, true)

def M.strings_Join_loop2 (sep : Str) : List Str → Str → Option Str
  | [], b2 =>
    some b2
  | e1 :: es1, b2 =>
    Option.bind (appC b2 sep) fun b3 =>
    Option.bind (appC b3 e1) fun b4 =>
    M.strings_Join_loop2 sep es1 b4
def M.strings_Join_loop1  : List Str → Int → Option Int
  | [], n0_1 =>
    some n0_1
  | e :: es, n0_1 =>
    Option.bind (subC (9223372036854775807 : Int) n0_1) fun v6 =>
    if v6 < (e.length : Int) then
      none
    else
      Option.bind (addC n0_1 (e.length : Int)) fun v7 =>
      M.strings_Join_loop1 es v7
def M.strings_Join (elems : List Str) (sep : Str) : Option Str :=
  if (elems.length : Int) = (0 : Int) then
    some ([] : Str)
  else
    if (elems.length : Int) = (1 : Int) then
      Option.bind (idx elems (0 : Int)) fun v =>
      some v
    else
      Option.bind (
          if (0 : Int) < (sep.length : Int) then
            Option.bind (
                Option.bind (subC (elems.length : Int) (1 : Int)) fun v1 =>
                Option.bind (quoC (9223372036854775807 : Int) v1) fun v2 =>
                if v2 ≤ (sep.length : Int) then
                  none
                else
                  some ()
              ) fun _ =>
              Option.bind (subC (elems.length : Int) (1 : Int)) fun v3 =>
              Option.bind (mulC (sep.length : Int) v3) fun v4 =>
              Option.bind (addC (0 : Int) v4) fun v5 =>
              some v5
          else
            some (0 : Int)
        ) fun n0_ =>
        Option.bind (M.strings_Join_loop1 elems n0_) fun n0_1 =>
          Option.bind (growC n0_1) fun _ =>
          Option.bind (idx elems (0 : Int)) fun v8 =>
          Option.bind (appC ([] : Str) v8) fun b1 =>
          Option.bind (slcLo elems (1 : Int)) fun v9 =>
          Option.bind (M.strings_Join_loop2 sep v9 b1) fun b2 =>
            some b2

def M.address_Format_loop1  : List api_Step → (List Str) → Option ((List Str))
  | [], words =>
    some words
  | e :: es, words =>
    Option.bind (M.address_name e.Kind) fun name =>
    Option.bind (appC words [name.1]) fun words1 =>
    Option.bind (M.address_book e) fun book =>
    if book = false then
      Option.bind (appC words1 [e.Label]) fun words2 =>
      M.address_Format_loop1 es words2
    else
      M.address_Format_loop1 es words1
def M.address_Format (n : Nat) (p : List api_Step) : Option Str :=
  Option.bind (M.address_Valid n p) fun valid =>
  if valid = false then
    some ([] : Str)
  else
    Option.bind (M.address_Format_loop1 p ([] : List Str)) fun words =>
      Option.bind (M.strings_Join words ([32] : Str)) fun join =>
      some join

def M.law07_awake (n : Nat)  : Option Bool :=
  Option.bind M.law07_book fun book =>
  Option.bind (M.address_FindOne n book ([(⟨(2 : Int), ([53] : Str)⟩ : api_Step), (⟨(3 : Int), ([50] : Str)⟩ : api_Step)])) fun findon =>
  Option.bind M.law07_book fun book1 =>
  Option.bind (M.address_Shortest n book1 findon.1) fun shorte =>
  Option.bind M.law07_book fun book2 =>
  Option.bind (M.address_Full n book2 findon.1) fun full =>
  if findon.2 = (0 : Int) then
    if findon.1 = (⟨(1 : Int), (0 : Int), (2 : Int)⟩ : api_Id) then
      if shorte.2 = true then
        if full.2 = true then
          Option.bind (M.address_Format n shorte.1) fun format =>
          if (format == ([112, 97, 114, 97, 103, 114, 97, 112, 104, 32, 50] : Str)) = true then
            Option.bind (M.address_Format n full.1) fun format1 =>
            some (format1 == ([98, 111, 111, 107, 32, 115, 101, 99, 116, 105, 111, 110, 32, 53, 32, 112, 97, 114, 97, 103, 114, 97, 112, 104, 32, 50] : Str))
          else
            some false
        else
          some false
      else
        some false
    else
      some false
  else
    some false

def M.r07_few_loop1 (u : api_Unit) (deep : Int) (slf : api_Unit → Int → Int → Option Int) : Nat → Int → Int → Option Int
  | 0, _, _ => none
  | n + 1, left1, i =>
    Option.bind (
        if i < (u.Kids.length : Int) then
          some (decide ((0 : Int) ≤ left1))
        else
          some false
      ) fun v7 =>
      if v7 = true then
        Option.bind (idx u.Kids i) fun v8 =>
        Option.bind (addC deep (1 : Int)) fun v9 =>
        Option.bind (slf v8 left1 v9) fun few =>
        Option.bind (addC i (1 : Int)) fun v10 =>
        M.r07_few_loop1 u deep slf n few v10
      else
        some left1
def M.r07_few : Nat → api_Unit → Int → Int → Option Int
  | 0, _, _, _ => none
  | n + 1, u, left, deep =>
    Option.bind (subC left (1 : Int)) fun v =>
    Option.bind (quoC (u.Words.length : Int) (50 : Int)) fun v1 =>
    Option.bind (subC v v1) fun v2 =>
    Option.bind (quoC (u.Head.length : Int) (50 : Int)) fun v3 =>
    Option.bind (subC v2 v3) fun v4 =>
    Option.bind (quoC (u.Label.length : Int) (50 : Int)) fun v5 =>
    Option.bind (subC v4 v5) fun v6 =>
    if (12 : Int) < deep then
      some (-1 : Int)
    else
      Option.bind (M.r07_few_loop1 u deep (M.r07_few n) n v6 (0 : Int)) fun left1 =>
        some left1

def M.r07_Few (n : Nat) (u : api_Unit) (most : Int) : Option Bool :=
  Option.bind (M.r07_few n u most (0 : Int)) fun few =>
  some (decide ((0 : Int) ≤ few))

def M.unit_KindName (kind : Int) : Option Str :=
  if kind < (0 : Int) then
    some ([] : Str)
  else
    if (8 : Int) ≤ kind then
      some ([] : Str)
    else
      Option.bind (idx gv0 kind) fun v =>
      some v

def M.slices_IndexFunc_string_string_loop1 (s0_ : List Str) (f : Str → Option Bool) : Nat → Int → Option (Unit ⊕ Int)
  | 0, _ => none
  | n + 1, v =>
    if v < (s0_.length : Int) then
      Option.bind (idx s0_ v) fun v1 =>
      Option.bind (f v1) fun v2 =>
      if v2 = true then
        some (.inr v)
      else
        M.slices_IndexFunc_string_string_loop1 s0_ f n (v + 1)
    else
      some (.inl ())
def M.slices_IndexFunc_string_string (n : Nat) (s0_ : List Str) (f : Str → Option Bool) : Option Int :=
  Option.bind (M.slices_IndexFunc_string_string_loop1 s0_ f n (0 : Int)) fun
    | .inl _ =>
      some (-1 : Int)
    | .inr ret0 => some ret0

def M.slices_ContainsFunc_string_string (n : Nat) (s0_ : List Str) (f : Str → Option Bool) : Option Bool :=
  Option.bind (M.slices_IndexFunc_string_string n s0_ f) fun string =>
  some (decide ((0 : Int) ≤ string))

def M.slices_IndexFunc_byte_byte_loop1 (s0_ : List Int) (f : Int → Option Bool) : Nat → Int → Option (Unit ⊕ Int)
  | 0, _ => none
  | n + 1, v =>
    if v < (s0_.length : Int) then
      Option.bind (idx s0_ v) fun v1 =>
      Option.bind (f v1) fun v2 =>
      if v2 = true then
        some (.inr v)
      else
        M.slices_IndexFunc_byte_byte_loop1 s0_ f n (v + 1)
    else
      some (.inl ())
def M.slices_IndexFunc_byte_byte (n : Nat) (s0_ : List Int) (f : Int → Option Bool) : Option Int :=
  Option.bind (M.slices_IndexFunc_byte_byte_loop1 s0_ f n (0 : Int)) fun
    | .inl _ =>
      some (-1 : Int)
    | .inr ret0 => some ret0

def M.slices_ContainsFunc_byte_byte (n : Nat) (s0_ : List Int) (f : Int → Option Bool) : Option Bool :=
  Option.bind (M.slices_IndexFunc_byte_byte n s0_ f) fun byte =>
  some (decide ((0 : Int) ≤ byte))

def M.wordseq_word_1 (c : Int) : Option Bool :=
  if c < (33 : Int) then
    some true
  else
    some (decide ((126 : Int) < c))

def M.wordseq_word (n : Nat) (s0_ : Str) : Option Bool :=
  if (s0_ != ([] : Str)) = true then
    if (s0_.length : Int) ≤ (24 : Int) then
      Option.bind (M.slices_ContainsFunc_byte_byte n (bytesOf s0_) (fun s0 => M.wordseq_word_1 s0)) fun byte =>
      some (!byte)
    else
      some false
  else
    some false

def M.wordseq_Valid_1 (n : Nat) (s0_ : Str) : Option Bool :=
  Option.bind (M.wordseq_word n s0_) fun word =>
  some (!word)

def M.wordseq_Valid (n : Nat) (l : List Str) : Option Bool :=
  if (l.length : Int) ≤ (256 : Int) then
    Option.bind (M.slices_ContainsFunc_string_string n l (fun s0 => M.wordseq_Valid_1 n s0)) fun string =>
    some (!string)
  else
    some false

def M.unit_row_loop1  : List api_Word → (List Str) → Option ((List Str))
  | [], texts =>
    some texts
  | e :: es, texts =>
    Option.bind (appC texts [e.Text]) fun texts1 =>
    M.unit_row_loop1 es texts1
def M.unit_row (n : Nat) (l : List api_Word) : Option Bool :=
  Option.bind (M.unit_row_loop1 l ([] : List Str)) fun texts =>
    if (l.length : Int) ≤ (256 : Int) then
      Option.bind (M.wordseq_Valid n texts) fun valid =>
      some valid
    else
      some false

def M.slices_Index_int_int_loop1 (s0_ : List Int) (v : Int) : Nat → Int → Option (Unit ⊕ Int)
  | 0, _ => none
  | n + 1, v1 =>
    if v1 < (s0_.length : Int) then
      Option.bind (idx s0_ v1) fun v2 =>
      if v = v2 then
        some (.inr v1)
      else
        M.slices_Index_int_int_loop1 s0_ v n (v1 + 1)
    else
      some (.inl ())
def M.slices_Index_int_int (n : Nat) (s0_ : List Int) (v : Int) : Option Int :=
  Option.bind (M.slices_Index_int_int_loop1 s0_ v n (0 : Int)) fun
    | .inl _ =>
      some (-1 : Int)
    | .inr ret0 => some ret0

def M.slices_Contains_int_int (n : Nat) (s0_ : List Int) (v : Int) : Option Bool :=
  Option.bind (M.slices_Index_int_int n s0_ v) fun int =>
  some (decide ((0 : Int) ≤ int))

def M.unit_CanContain (n : Nat) (parent : Int) (kind : Int) : Option Bool :=
  if (0 : Int) ≤ parent then
    if parent < (8 : Int) then
      Option.bind (idx gv1 parent) fun v =>
      Option.bind (M.slices_Contains_int_int n v kind) fun int =>
      some int
    else
      some false
  else
    some false

def M.unit_alone_loop1 (n : Nat) (u : api_Unit) : List api_Unit → (List (unit_called × Bool)) → Option (((List (unit_called × Bool))) ⊕ Bool)
  | [], v1 =>
    some (.inl v1)
  | e :: es, v1 =>
    Option.bind (M.unit_CanContain n u.Kind e.Kind) fun cancon =>
    if cancon = false then
      some (.inr false)
    else
      if (mget v1 (⟨e.Kind, e.Label⟩ : unit_called) false) = true then
        some (.inr false)
      else
        M.unit_alone_loop1 n u es (mset v1 (⟨e.Kind, e.Label⟩ : unit_called) true)
def M.unit_alone (n : Nat) (u : api_Unit) : Option Bool :=
  Option.bind ((
      if u.Kind = (0 : Int) then
        if (u.Label != ([] : Str)) = true then
          some (.inr false)
        else
          Option.bind (addC (u.Head.length : Int) (u.Words.length : Int)) fun v =>
          if (0 : Int) < v then
            some (.inr false)
          else
            some (.inl ())
      else
        Option.bind (M.unit_KindName u.Kind) fun kindna =>
        if (kindna == ([] : Str)) = true then
          some (.inr false)
        else
          Option.bind (M.label_Valid n u.Label) fun valid =>
          if valid = false then
            some (.inr false)
          else
            Option.bind (M.unit_row n u.Head) fun row =>
            if row = false then
              some (.inr false)
            else
              Option.bind (M.unit_row n u.Words) fun row1 =>
              if row1 = false then
                some (.inr false)
              else
                some (.inl ())
    ) : Option (Unit ⊕ Bool)) fun
    | .inl _ =>
      Option.bind (M.unit_alone_loop1 n u u.Kids ([] : List (unit_called × Bool))) fun
        | .inl v1 =>
          some (decide ((u.Kids.length : Int) ≤ (64 : Int)))
        | .inr ret0 => some ret0
    | .inr ret0 => some ret0

def M.unit_every_i0_loop1 (slf : api_Unit → Option Bool) : List api_Unit → Option (Unit ⊕ Bool)
  | [] =>
    some (.inl ())
  | e :: es =>
    Option.bind (slf e) fun every =>
    if every = false then
      some (.inr false)
    else
      M.unit_every_i0_loop1 slf es
def M.unit_every_i0 : Nat → api_Unit → Option Bool
  | 0, _ => none
  | n + 1, u =>
    Option.bind (M.unit_alone n u) fun alone =>
    if alone = false then
      some false
    else
      Option.bind (M.unit_every_i0_loop1 (M.unit_every_i0 n) u.Kids) fun
        | .inl _ =>
          some true
        | .inr ret0 => some ret0

def M.unit_Depth_loop1 (slf : api_Unit → Option Int) : List api_Unit → Int → Option Int
  | [], deep =>
    some deep
  | e :: es, deep =>
    Option.bind (slf e) fun depth =>
    Option.bind (addC (1 : Int) depth) fun v =>
    M.unit_Depth_loop1 slf es (max deep v)
def M.unit_Depth : Nat → api_Unit → Option Int
  | 0, _ => none
  | n + 1, u =>
    Option.bind (M.unit_Depth_loop1 (M.unit_Depth n) u.Kids (0 : Int)) fun deep =>
      some deep

def M.unit_Count_1 (a : api_Unit) (c : Int) : Option (Bool × Int) :=
  Option.bind (addC c (1 : Int)) fun v =>
  some (true, v)

def M.unit_every_i1_loop1 (slf : api_Unit → Int → Option (Bool × Int)) : List api_Unit → Int → Option (Int ⊕ (Bool × Int))
  | [], v =>
    some (.inl v)
  | e :: es, v =>
    Option.bind (slf e v) fun (every, w1) =>
    if every = false then
      some (.inr (false, w1))
    else
      M.unit_every_i1_loop1 slf es w1
def M.unit_every_i1 : Nat → api_Unit → Int → Option (Bool × Int)
  | 0, _, _ => none
  | n + 1, u, c =>
    Option.bind (M.unit_Count_1 u c) fun (v1_, w) =>
    if v1_ = false then
      some (false, w)
    else
      Option.bind (M.unit_every_i1_loop1 (M.unit_every_i1 n) u.Kids w) fun
        | .inl v =>
          some (true, v)
        | .inr ret0 => some ret0

def M.unit_Count (n : Nat) (u : api_Unit) : Option Int :=
  Option.bind (M.unit_every_i1 n u (0 : Int)) fun (every, n0_) =>
  some n0_

def M.unit_IDs_1 (x : api_Unit) (c : List api_Id) : Option (Bool × (List api_Id)) :=
  Option.bind (appC c [x.Id]) fun out =>
  some (true, out)

def M.unit_every_i2_loop1 (slf : api_Unit → (List api_Id) → Option (Bool × (List api_Id))) : List api_Unit → (List api_Id) → Option (((List api_Id)) ⊕ (Bool × (List api_Id)))
  | [], v =>
    some (.inl v)
  | e :: es, v =>
    Option.bind (slf e v) fun (every, w1) =>
    if every = false then
      some (.inr (false, w1))
    else
      M.unit_every_i2_loop1 slf es w1
def M.unit_every_i2 : Nat → api_Unit → (List api_Id) → Option (Bool × (List api_Id))
  | 0, _, _ => none
  | n + 1, u, c =>
    Option.bind (M.unit_IDs_1 u c) fun (v1_, w) =>
    if v1_ = false then
      some (false, w)
    else
      Option.bind (M.unit_every_i2_loop1 (M.unit_every_i2 n) u.Kids w) fun
        | .inl v =>
          some (true, v)
        | .inr ret0 => some ret0

def M.unit_IDs (n : Nat) (u : api_Unit) : Option ((List api_Id)) :=
  Option.bind (M.unit_every_i2 n u ([] : List api_Id)) fun (every, out) =>
  some out

def M.unit_ids_loop1  : List api_Id → (List (api_Id × Bool)) → Option ((List (api_Id × Bool)))
  | [], v =>
    some v
  | e :: es, v =>
    M.unit_ids_loop1 es (mset v e true)
def M.unit_ids (n : Nat) (u : api_Unit) : Option Bool :=
  Option.bind (M.unit_IDs n u) fun ids =>
  Option.bind (M.unit_ids_loop1 ids ([] : List (api_Id × Bool))) fun v =>
    if (mget v (⟨(0 : Int), (0 : Int), (0 : Int)⟩ : api_Id) false) = true then
      Option.bind (growC (v.length : Int)) fun _ =>
      if (v.length : Int) = (1 : Int) then
        some true
      else
        Option.bind (growC (v.length : Int)) fun _ =>
        if (v.length : Int) = (ids.length : Int) then
          some ((decide (u.Kind = (0 : Int))) == (decide (u.Id = (⟨(0 : Int), (0 : Int), (0 : Int)⟩ : api_Id))))
        else
          some false
    else
      Option.bind (growC (v.length : Int)) fun _ =>
      if (v.length : Int) = (ids.length : Int) then
        some ((decide (u.Kind = (0 : Int))) == (decide (u.Id = (⟨(0 : Int), (0 : Int), (0 : Int)⟩ : api_Id))))
      else
        some false

def M.unit_Valid (n : Nat) (u : api_Unit) : Option Bool :=
  Option.bind (M.unit_every_i0 n u) fun every =>
  if every = true then
    Option.bind (M.unit_Depth n u) fun depth =>
    if depth ≤ (8 : Int) then
      Option.bind (M.unit_Count n u) fun count =>
      if count ≤ (1024 : Int) then
        Option.bind (M.unit_ids n u) fun ids =>
        some ids
      else
        some false
    else
      some false
  else
    some false

def M.law07_apart_loop1  : List api_Id → (List (api_Id × Bool)) → Option (((List (api_Id × Bool))) ⊕ Bool)
  | [], v =>
    some (.inl v)
  | e :: es, v =>
    if (mget v e false) = true then
      some (.inr false)
    else
      M.law07_apart_loop1 es (mset v e true)
def M.law07_apart (n : Nat) (u : api_Unit) : Option Bool :=
  Option.bind (M.unit_IDs n u) fun ids =>
  Option.bind (M.law07_apart_loop1 ids ([] : List (api_Id × Bool))) fun
    | .inl v =>
      some true
    | .inr ret0 => some ret0

def M.r07_Same_loop1 (a : List api_Step) (b : List api_Step) : Nat → Int → Option (Unit ⊕ Bool)
  | 0, _ => none
  | n + 1, i =>
    if i < (a.length : Int) then
      Option.bind (idx a i) fun v =>
      Option.bind (idx b i) fun v1 =>
      if v ≠ v1 then
        some (.inr false)
      else
        M.r07_Same_loop1 a b n (i + 1)
    else
      some (.inl ())
def M.r07_Same (n : Nat) (a : List api_Step) (b : List api_Step) : Option Bool :=
  if (a.length : Int) ≠ (b.length : Int) then
    some false
  else
    Option.bind (M.r07_Same_loop1 a b n (0 : Int)) fun
      | .inl _ =>
        some true
      | .inr ret0 => some ret0

def M.law07_AddressUnique_loop2 (u : api_Unit) (e : api_Id) (shorte : (List api_Step) × Bool) : Nat → Int → Option (Unit ⊕ Bool)
  | 0, _ => none
  | n + 1, n0_ =>
    if n0_ < (shorte.1.length : Int) then
      Option.bind (slcLo shorte.1 n0_) fun v4 =>
      Option.bind (M.address_FindOne n u v4) fun findon2 =>
      if findon2.2 = (0 : Int) then
        if findon2.1 = e then
          some (.inr false)
        else
          M.law07_AddressUnique_loop2 u e shorte n (n0_ + 1)
      else
        M.law07_AddressUnique_loop2 u e shorte n (n0_ + 1)
    else
      some (.inl ())
def M.law07_AddressUnique_loop1 (n : Nat) (u : api_Unit) : List api_Id → Option (Unit ⊕ Bool)
  | [] =>
    some (.inl ())
  | e :: es =>
    Option.bind (M.address_Full n u e) fun full =>
    Option.bind (M.address_Shortest n u e) fun shorte =>
    Option.bind (M.address_FindOne n u full.1) fun findon =>
    Option.bind (M.address_FindOne n u shorte.1) fun findon1 =>
    Option.bind (
        if full.2 = false then
          some true
        else
          if shorte.2 = false then
            some true
          else
            if findon.2 ≠ (0 : Int) then
              some true
            else
              if findon1.2 ≠ (0 : Int) then
                some true
              else
                if findon.1 ≠ e then
                  some true
                else
                  if findon1.1 ≠ e then
                    some true
                  else
                    if (full.1.length : Int) < (shorte.1.length : Int) then
                      some true
                    else
                      some (decide ((shorte.1.length : Int) < (1 : Int)))
      ) fun v1 =>
      if v1 = true then
        some (.inr false)
      else
        Option.bind (subC (full.1.length : Int) (shorte.1.length : Int)) fun v2 =>
        Option.bind (slcLo full.1 v2) fun v3 =>
        Option.bind (M.r07_Same n shorte.1 v3) fun same =>
        if same = false then
          some (.inr false)
        else
          Option.bind (M.law07_AddressUnique_loop2 u e shorte n (1 : Int)) fun
            | .inl _ =>
              M.law07_AddressUnique_loop1 n u es
            | .inr ret0 => some (.inr ret0)
def M.law07_AddressUnique (n : Nat) (u : api_Unit) : Option Bool :=
  Option.bind (
      Option.bind (M.law07_awake n) fun awake =>
      if awake = false then
        some true
      else
        Option.bind (M.r07_Few n u (60 : Int)) fun few =>
        if few = false then
          some true
        else
          Option.bind (M.unit_Valid n u) fun valid =>
          if valid = false then
            some true
          else
            Option.bind (M.law07_apart n u) fun apart =>
            some (!apart)
    ) fun v =>
    if v = true then
      Option.bind (M.law07_awake n) fun awake1 =>
      some awake1
    else
      Option.bind (M.unit_IDs n u) fun ids =>
      Option.bind (M.law07_AddressUnique_loop1 n u ids) fun
        | .inl _ =>
          some true
        | .inr ret0 => some ret0

def M.law07_short_loop1 (p : List api_Step) : Nat → Int → Option (Unit ⊕ Bool)
  | 0, _ => none
  | n + 1, i =>
    if i < (p.length : Int) then
      Option.bind (idx p i) fun v =>
      if (100 : Int) < (v.Label.length : Int) then
        some (.inr false)
      else
        M.law07_short_loop1 p n (i + 1)
    else
      some (.inl ())
def M.law07_short (n : Nat) (p : List api_Step) : Option Bool :=
  Option.bind (M.law07_short_loop1 p n (0 : Int)) fun
    | .inl _ =>
      some (decide ((p.length : Int) ≤ (20 : Int)))
    | .inr ret0 => some ret0

def M.unit_way_loop1 (u : api_Unit) (id : api_Id) (slf : api_Unit → api_Id → Option ((List api_Unit))) : List api_Unit → Option (Unit ⊕ ((List api_Unit)))
  | [] =>
    some (.inl ())
  | e :: es =>
    Option.bind (slf e id) fun way =>
    if way.isEmpty = false then
      Option.bind (appC [u] way) fun out =>
      Option.bind (neC out) fun _ =>
      some (.inr out)
    else
      M.unit_way_loop1 u id slf es
def M.unit_way : Nat → api_Unit → api_Id → Option ((List api_Unit))
  | 0, _, _ => none
  | n + 1, u, id =>
    if u.Id = id then
      Option.bind (neC [u]) fun _ =>
      some [u]
    else
      Option.bind (M.unit_way_loop1 u id (M.unit_way n) u.Kids) fun
        | .inl _ =>
          some ([] : List api_Unit)
        | .inr ret0 => some ret0

def M.slices_Clone_api_Word_api_Word (l : List api_Word) : Option (List api_Word) := appC [] l

def M.unit_copied_loop1 (slf : api_Unit → Option api_Unit) : List api_Unit → (List api_Unit) → Option ((List api_Unit))
  | [], kids =>
    some kids
  | e :: es, kids =>
    Option.bind (slf e) fun copied =>
    Option.bind (appC kids [copied]) fun kids1 =>
    M.unit_copied_loop1 slf es kids1
def M.unit_copied : Nat → api_Unit → Option api_Unit
  | 0, _ => none
  | n + 1, u =>
    Option.bind (M.slices_Clone_api_Word_api_Word u.Head) fun word =>
    Option.bind (M.slices_Clone_api_Word_api_Word u.Words) fun word1 =>
    Option.bind (M.unit_copied_loop1 (M.unit_copied n) (({ ({ u with Head := word } : api_Unit) with Words := word1 } : api_Unit).Kids) ([] : List api_Unit)) fun kids =>
      some ({ ({ ({ u with Head := word } : api_Unit) with Words := word1 } : api_Unit) with Kids := kids } : api_Unit)

def M.unit_Find (n : Nat) (u : api_Unit) (id : api_Id) : Option (api_Unit × Bool) :=
  Option.bind (M.unit_way n u id) fun way =>
  if (way.length : Int) = (0 : Int) then
    some ((⟨zapi_Id, (0 : Int), ([] : Str), ([] : List api_Word), ([] : List api_Word), ([] : List api_Unit)⟩ : api_Unit), false)
  else
    Option.bind (subC (way.length : Int) (1 : Int)) fun v =>
    Option.bind (idx way v) fun v1 =>
    Option.bind (M.unit_copied n v1) fun copied =>
    some (copied, true)

def M.r07_Ids_loop1 (a : List api_Id) (b : List api_Id) : Nat → Int → Option (Unit ⊕ Bool)
  | 0, _ => none
  | n + 1, i =>
    if i < (a.length : Int) then
      Option.bind (idx a i) fun v =>
      Option.bind (idx b i) fun v1 =>
      if v ≠ v1 then
        some (.inr false)
      else
        M.r07_Ids_loop1 a b n (i + 1)
    else
      some (.inl ())
def M.r07_Ids (n : Nat) (a : List api_Id) (b : List api_Id) : Option Bool :=
  if (a.length : Int) ≠ (b.length : Int) then
    some false
  else
    Option.bind (M.r07_Ids_loop1 a b n (0 : Int)) fun
      | .inl _ =>
        some true
      | .inr ret0 => some ret0

def M.law07_AddressExtend_loop2 (s0_ : api_Step) : List api_Unit → (List api_Id) → Option ((List api_Id))
  | [], want1 =>
    some want1
  | e1 :: es1, want1 =>
    if e1.Kind = s0_.Kind then
      if (e1.Label == s0_.Label) = true then
        Option.bind (appC want1 [e1.Id]) fun out3 =>
        M.law07_AddressExtend_loop2 s0_ es1 out3
      else
        M.law07_AddressExtend_loop2 s0_ es1 want1
    else
      M.law07_AddressExtend_loop2 s0_ es1 want1
def M.law07_AddressExtend_loop1 (n : Nat) (u : api_Unit) (s0_ : api_Step) : List api_Id → (List api_Id) → Option (((List api_Id)) ⊕ Bool)
  | [], want =>
    some (.inl want)
  | e :: es, want =>
    Option.bind (M.unit_Find n u e) fun find =>
    if find.2 = false then
      some (.inr false)
    else
      Option.bind (M.law07_AddressExtend_loop2 s0_ find.1.Kids want) fun want1 =>
        M.law07_AddressExtend_loop1 n u s0_ es want1
def M.law07_AddressExtend (n : Nat) (u : api_Unit) (p : List api_Step) (s0_ : api_Step) : Option Bool :=
  Option.bind (
      Option.bind (M.law07_awake n) fun awake =>
      if awake = false then
        some true
      else
        Option.bind (M.r07_Few n u (60 : Int)) fun few =>
        if few = false then
          some true
        else
          if (p.length : Int) < (1 : Int) then
            some true
          else
            if (8 : Int) < (p.length : Int) then
              some true
            else
              Option.bind (appC [s0_] p) fun out =>
              Option.bind (M.law07_short n out) fun short =>
              if short = false then
                some true
              else
                Option.bind (M.unit_Valid n u) fun valid =>
                if valid = false then
                  some true
                else
                  Option.bind (M.law07_apart n u) fun apart =>
                  some (!apart)
    ) fun v =>
    if v = true then
      Option.bind (M.law07_awake n) fun awake1 =>
      some awake1
    else
      Option.bind (appC ([] : List api_Step) p) fun out1 =>
      Option.bind (appC out1 [s0_]) fun out2 =>
      Option.bind (M.address_Valid n out2) fun valid1 =>
      if valid1 = false then
        Option.bind (M.address_FindAll n u out2) fun findal =>
        some (decide ((findal.length : Int) = (0 : Int)))
      else
        Option.bind (M.address_FindAll n u p) fun findal1 =>
        Option.bind (M.law07_AddressExtend_loop1 n u s0_ findal1 ([] : List api_Id)) fun
          | .inl want =>
            Option.bind (M.address_FindAll n u out2) fun findal2 =>
            Option.bind (M.r07_Ids n findal2 want) fun ids =>
            some ids
          | .inr ret0 => some ret0

end Go.Proofs.YtfclekegoleiaaaDoor
