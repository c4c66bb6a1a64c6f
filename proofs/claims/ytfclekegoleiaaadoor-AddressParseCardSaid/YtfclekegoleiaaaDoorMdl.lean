/-
  What the functions compute: plain functions, written by program out of the code; no machine in sight.
-/
import Derived.Test.YtfclekegoleiaaaDoorMod
set_option linter.unusedVariables false
set_option linter.unusedSimpArgs false
namespace Go.Proofs.YtfclekegoleiaaaDoor
open Go Go.Dec


def gv0 : List Str := [([98, 111, 111, 107] : Str), ([112, 97, 114, 116] : Str), ([115, 101, 99, 116, 105, 111, 110] : Str), ([112, 97, 114, 97, 103, 114, 97, 112, 104] : Str), ([116, 97, 98, 108, 101] : Str), ([114, 111, 119] : Str), ([99, 101, 108, 108] : Str), ([110, 111, 116, 101] : Str)]
def gv1 : List (List Int) := [[(1 : Int), (2 : Int)], [(2 : Int)], [(3 : Int), (4 : Int), (7 : Int)], [(3 : Int), (4 : Int), (7 : Int)], [(5 : Int)], [(6 : Int)], ([] : List Int), ([] : List Int)]
structure api_Step where
  Kind : Int
  Label : Str
theorem api_Step.eq_iff (a b : api_Step) : (a.Kind = b.Kind ∧ a.Label = b.Label) ↔ a = b := ⟨fun h => by cases a; cases b; simp_all, fun h => by subst h; simp⟩
instance : DecidableEq api_Step := fun a b => decidable_of_iff _ (api_Step.eq_iff a b)
def zapi_Step : api_Step := ⟨(0 : Int), ([] : Str)⟩

structure api_Id where
  Act : Int
  Item : Int
  N : Int
theorem api_Id.eq_iff (a b : api_Id) : (a.Act = b.Act ∧ a.Item = b.Item ∧ a.N = b.N) ↔ a = b := ⟨fun h => by cases a; cases b; simp_all, fun h => by subst h; simp⟩
instance : DecidableEq api_Id := fun a b => decidable_of_iff _ (api_Id.eq_iff a b)
def zapi_Id : api_Id := ⟨(0 : Int), (0 : Int), (0 : Int)⟩

structure api_Mark where
  Act : Int
  Item : Int
  At : Int
theorem api_Mark.eq_iff (a b : api_Mark) : (a.Act = b.Act ∧ a.Item = b.Item ∧ a.At = b.At) ↔ a = b := ⟨fun h => by cases a; cases b; simp_all, fun h => by subst h; simp⟩
instance : DecidableEq api_Mark := fun a b => decidable_of_iff _ (api_Mark.eq_iff a b)
def zapi_Mark : api_Mark := ⟨(0 : Int), (0 : Int), (0 : Int)⟩

structure api_Word where
  Text : Str
  By : api_Mark
theorem api_Word.eq_iff (a b : api_Word) : (a.Text = b.Text ∧ a.By = b.By) ↔ a = b := ⟨fun h => by cases a; cases b; simp_all, fun h => by subst h; simp⟩
instance : DecidableEq api_Word := fun a b => decidable_of_iff _ (api_Word.eq_iff a b)
def zapi_Word : api_Word := ⟨([] : Str), zapi_Mark⟩

structure api_Unit where
  Id : api_Id
  Kind : Int
  Label : Str
  Head : List api_Word
  Words : List api_Word
  Kids : List api_Unit
def zapi_Unit : api_Unit := ⟨zapi_Id, (0 : Int), ([] : Str), ([] : List api_Word), ([] : List api_Word), ([] : List api_Unit)⟩


def M.law07_book  : Option api_Unit :=
  some (⟨zapi_Id, (0 : Int), ([] : Str), ([] : List api_Word), ([] : List api_Word), [(⟨(⟨(1 : Int), (0 : Int), (1 : Int)⟩ : api_Id), (2 : Int), ([53] : Str), ([] : List api_Word), ([] : List api_Word), [(⟨(⟨(1 : Int), (0 : Int), (2 : Int)⟩ : api_Id), (3 : Int), ([50] : Str), ([] : List api_Word), ([] : List api_Word), ([] : List api_Unit)⟩ : api_Unit)]⟩ : api_Unit), (⟨(⟨(1 : Int), (0 : Int), (3 : Int)⟩ : api_Id), (1 : Int), ([49] : Str), ([] : List api_Word), ([] : List api_Word), [(⟨(⟨(1 : Int), (0 : Int), (4 : Int)⟩ : api_Id), (2 : Int), ([54] : Str), ([] : List api_Word), ([] : List api_Word), ([] : List api_Unit)⟩ : api_Unit)]⟩ : api_Unit)]⟩ : api_Unit)

def M.address_book (s0_ : api_Step) : Option Bool :=
  if s0_.Kind = (0 : Int) then
    some (s0_.Label == ([] : Str))
  else
    some false

def M.strings_indexFunc_loop1 (s0_ : Str) (f : Int → Option Bool) (truth : Bool) : Nat → Nat → Option (Nat ⊕ Int)
  | 0, _ => none
  | n + 1, v =>
    if v < s0_.length then
      Option.bind (f ((runeAt s0_ v).1 : Int)) fun v1 =>
      if (v1 == truth) = true then
        some (.inr (v : Int))
      else
        M.strings_indexFunc_loop1 s0_ f truth n (v + (runeAt s0_ v).2)
    else
      some (.inl v)
def M.strings_indexFunc (n : Nat) (s0_ : Str) (f : Int → Option Bool) (truth : Bool) : Option Int :=
  Option.bind (M.strings_indexFunc_loop1 s0_ f truth n 0) fun
    | .inl v =>
      some (-1 : Int)
    | .inr ret0 => some ret0

def M.strings_IndexFunc (n : Nat) (s0_ : Str) (f : Int → Option Bool) : Option Int :=
  Option.bind (M.strings_indexFunc n s0_ f true) fun indexf =>
  some indexf

def M.label_parted_1 (b : Int) : Option Bool :=
  if b < (48 : Int) then
    some true
  else
    some (decide ((57 : Int) < b))

def M.label_parted (n : Nat) (s0_ : Str) : Option (Str × Str) :=
  Option.bind (M.strings_IndexFunc n s0_ (fun s0 => M.label_parted_1 s0)) fun indexf =>
  if indexf < (0 : Int) then
    some (s0_, ([] : Str))
  else
    Option.bind (slcHi s0_ indexf) fun v =>
    Option.bind (slcLo s0_ indexf) fun v1 =>
    some (v, v1)

def M.strings_ContainsFunc (n : Nat) (s0_ : Str) (f : Int → Option Bool) : Option Bool :=
  Option.bind (M.strings_IndexFunc n s0_ f) fun indexf =>
  some (decide ((0 : Int) ≤ indexf))

def M.label_Valid_1 (b : Int) : Option Bool :=
  if b < (65 : Int) then
    some true
  else
    some (decide ((90 : Int) < b))

def M.label_Valid (n : Nat) (s0_ : Str) : Option Bool :=
  Option.bind (M.label_parted n s0_) fun parted =>
  if (1 : Int) ≤ (parted.1.length : Int) then
    if (parted.1.length : Int) ≤ (4 : Int) then
      Option.bind (idx parted.1 (0 : Int)) fun b =>
      if (b.toNat : Int) ≠ (48 : Int) then
        if (parted.2.length : Int) ≤ (3 : Int) then
          Option.bind (M.strings_ContainsFunc n parted.2 (fun s0 => M.label_Valid_1 s0)) fun contai =>
          some (!contai)
        else
          some false
      else
        some false
    else
      some false
  else
    some false

def M.address_Valid_loop1 (n : Nat)  : List api_Step → Int → Option (Unit ⊕ Bool)
  | [], _ =>
    some (.inl ())
  | e :: es, i =>
    Option.bind (
        if i = (0 : Int) then
          Option.bind (M.address_book e) fun book =>
          some book
        else
          some false
      ) fun v =>
      if v = true then
        M.address_Valid_loop1 n es (i + 1)
      else
        if e.Kind ≤ (0 : Int) then
          some (.inr false)
        else
          if (7 : Int) < e.Kind then
            some (.inr false)
          else
            Option.bind (M.label_Valid n e.Label) fun valid =>
            if valid = false then
              some (.inr false)
            else
              M.address_Valid_loop1 n es (i + 1)
def M.address_Valid (n : Nat) (p : List api_Step) : Option Bool :=
  Option.bind (M.address_Valid_loop1 n p (0 : Int)) fun
    | .inl _ =>
      some (decide ((p.length : Int) ≤ (9 : Int)))
    | .inr ret0 => some ret0

def M.address_called (u : api_Unit) (s0_ : api_Step) : Option Bool :=
  if u.Kind = s0_.Kind then
    some (u.Label == s0_.Label)
  else
    some false

def M.address_found_1 (x : api_Unit) (c : List api_Step) (c1 : List api_Unit) : Option (List api_Unit) :=
  Option.bind (idx c (0 : Int)) fun v =>
  Option.bind (M.address_called x v) fun called =>
  if called = true then
    Option.bind (appC c1 [x]) fun out =>
    some out
  else
    some c1

def M.address_each_i0_loop1 (c : List api_Step) (slf : api_Unit → (List api_Step) → (List api_Unit) → Option (List api_Unit)) : List api_Unit → (List api_Unit) → Option ((List api_Unit))
  | [], v =>
    some v
  | e :: es, v =>
    Option.bind (slf e c v) fun w1 =>
    M.address_each_i0_loop1 c slf es w1
def M.address_each_i0 : Nat → api_Unit → (List api_Step) → (List api_Unit) → Option (List api_Unit)
  | 0, _, _, _ => none
  | n + 1, u, c, c1 =>
    Option.bind (M.address_found_1 u c c1) fun w =>
    Option.bind (M.address_each_i0_loop1 c (M.address_each_i0 n) u.Kids w) fun v =>
      some v

def M.address_found_loop3 (e : api_Step) : List api_Unit → (List api_Unit) → Option ((List api_Unit))
  | [], next1 =>
    some next1
  | e2 :: es2, next1 =>
    Option.bind (M.address_called e2 e) fun called =>
    if called = true then
      Option.bind (appC next1 [e2]) fun next2 =>
      M.address_found_loop3 e es2 next2
    else
      M.address_found_loop3 e es2 next1
def M.address_found_loop2 (e : api_Step) : List api_Unit → (List api_Unit) → Option ((List api_Unit))
  | [], next =>
    some next
  | e1 :: es1, next =>
    Option.bind (M.address_found_loop3 e e1.Kids next) fun next1 =>
      M.address_found_loop2 e es1 next1
def M.address_found_loop1  : List api_Step → (List api_Unit) → Option ((List api_Unit))
  | [], at0_2 =>
    some at0_2
  | e :: es, at0_2 =>
    Option.bind (M.address_found_loop2 e at0_2 ([] : List api_Unit)) fun next =>
      M.address_found_loop1 es next
def M.address_found (n : Nat) (u : api_Unit) (p : List api_Step) : Option ((List api_Unit)) :=
  Option.bind (M.address_Valid n p) fun valid =>
  if valid = false then
    some ([] : List api_Unit)
  else
    Option.bind ((
        if (p.length : Int) = (0 : Int) then
          some (.inr [u])
        else
          Option.bind (idx p (0 : Int)) fun v =>
          Option.bind (M.address_book v) fun book =>
          if book = true then
            some (.inl [u])
          else
            Option.bind (M.address_each_i0 n u p ([] : List api_Unit)) fun at0_1 =>
            some (.inl at0_1)
      ) : Option (((List api_Unit)) ⊕ ((List api_Unit)))) fun
      | .inl at0_ =>
        Option.bind (slcLo p (1 : Int)) fun v1 =>
        Option.bind (M.address_found_loop1 v1 at0_) fun at0_2 =>
          some at0_2
      | .inr ret0 => some ret0

def M.address_FindAll_loop1  : List api_Unit → (List api_Id) → Option ((List api_Id))
  | [], out =>
    some out
  | e :: es, out =>
    Option.bind (appC out [e.Id]) fun out1 =>
    M.address_FindAll_loop1 es out1
def M.address_FindAll (n : Nat) (u : api_Unit) (p : List api_Step) : Option ((List api_Id)) :=
  Option.bind (M.address_found n u p) fun found =>
  Option.bind (M.address_FindAll_loop1 found ([] : List api_Id)) fun out =>
    some out

def M.address_FindOne (n : Nat) (u : api_Unit) (p : List api_Step) : Option (api_Id × Int) :=
  Option.bind (M.address_FindAll n u p) fun findal =>
  if (findal.length : Int) = (0 : Int) then
    some ((⟨(0 : Int), (0 : Int), (0 : Int)⟩ : api_Id), (7 : Int))
  else
    if (findal.length : Int) = (1 : Int) then
      Option.bind (idx findal (0 : Int)) fun v =>
      some (v, (0 : Int))
    else
      some ((⟨(0 : Int), (0 : Int), (0 : Int)⟩ : api_Id), (8 : Int))

def M.address_way_loop1 (id : api_Id) (slf : api_Unit → api_Id → Option ((List api_Step) × Bool)) : List api_Unit → Option (Unit ⊕ ((List api_Step) × Bool))
  | [] =>
    some (.inl ())
  | e :: es =>
    Option.bind (slf e id) fun way =>
    if way.2 = true then
      Option.bind (appC [(⟨e.Kind, e.Label⟩ : api_Step)] way.1) fun out =>
      some (.inr (out, true))
    else
      M.address_way_loop1 id slf es
def M.address_way : Nat → api_Unit → api_Id → Option ((List api_Step) × Bool)
  | 0, _, _ => none
  | n + 1, u, id =>
    if u.Id = id then
      some (([] : List api_Step), true)
    else
      Option.bind (M.address_way_loop1 id (M.address_way n) u.Kids) fun
        | .inl _ =>
          some (([] : List api_Step), false)
        | .inr ret0 => some ret0

def M.address_Full (n : Nat) (u : api_Unit) (id : api_Id) : Option ((List api_Step) × Bool) :=
  Option.bind (M.address_way n u id) fun way =>
  if way.2 = false then
    some (([] : List api_Step), false)
  else
    Option.bind (appC ([(⟨(0 : Int), ([] : Str)⟩ : api_Step)]) way.1) fun out =>
    some (out, true)

def M.slices_Clone_api_Step_api_Step (l : List api_Step) : Option (List api_Step) := appC [] l

def M.address_Shortest_loop1 (u : api_Unit) (id : api_Id) (full : (List api_Step) × Bool) : Nat → Int → Option (Unit ⊕ ((List api_Step) × Bool))
  | 0, _ => none
  | n + 1, n0_ =>
    if n0_ < (full.1.length : Int) then
      Option.bind (subC (full.1.length : Int) n0_) fun v =>
      Option.bind (slcLo full.1 v) fun v1 =>
      Option.bind (M.address_FindAll n u v1) fun findal =>
      if (findal.length : Int) = (1 : Int) then
        Option.bind (idx findal (0 : Int)) fun v2 =>
        if v2 = id then
          Option.bind (M.slices_Clone_api_Step_api_Step v1) fun step =>
          some (.inr (step, true))
        else
          M.address_Shortest_loop1 u id full n (n0_ + 1)
      else
        M.address_Shortest_loop1 u id full n (n0_ + 1)
    else
      some (.inl ())
def M.address_Shortest (n : Nat) (u : api_Unit) (id : api_Id) : Option ((List api_Step) × Bool) :=
  Option.bind (M.address_Full n u id) fun full =>
  Option.bind (M.address_Shortest_loop1 u id full n (1 : Int)) fun
    | .inl _ =>
      some (full.1, full.2)
    | .inr ret0 => some ret0

def M.address_name (kind : Int) : Option (Str × Bool) :=
  if kind < (0 : Int) then
    some (([] : Str), false)
  else
    if (8 : Int) ≤ kind then
      some (([] : Str), false)
    else
      Option.bind (idx ([([98, 111, 111, 107] : Str), ([112, 97, 114, 116] : Str), ([115, 101, 99, 116, 105, 111, 110] : Str), ([112, 97, 114, 97, 103, 114, 97, 112, 104] : Str), ([116, 97, 98, 108, 101] : Str), ([114, 111, 119] : Str), ([99, 101, 108, 108] : Str), ([110, 111, 116, 101] : Str)]) kind) fun v =>
      some (v, true)

def M.strings_Join_loop2 (sep : Str) : List Str → Str → Option Str
  | [], b2 =>
    some b2
  | e1 :: es1, b2 =>
    Option.bind (appC b2 sep) fun b3 =>
    Option.bind (appC b3 e1) fun b4 =>
    M.strings_Join_loop2 sep es1 b4
def M.strings_Join_loop1  : List Str → Int → Option Int
  | [], n0_1 =>
    some n0_1
  | e :: es, n0_1 =>
    Option.bind (subC (9223372036854775807 : Int) n0_1) fun v6 =>
    if v6 < (e.length : Int) then
      none
    else
      Option.bind (addC n0_1 (e.length : Int)) fun v7 =>
      M.strings_Join_loop1 es v7
def M.strings_Join (elems : List Str) (sep : Str) : Option Str :=
  if (elems.length : Int) = (0 : Int) then
    some ([] : Str)
  else
    if (elems.length : Int) = (1 : Int) then
      Option.bind (idx elems (0 : Int)) fun v =>
      some v
    else
      Option.bind (
          if (0 : Int) < (sep.length : Int) then
            Option.bind (
                Option.bind (subC (elems.length : Int) (1 : Int)) fun v1 =>
                Option.bind (quoC (9223372036854775807 : Int) v1) fun v2 =>
                if v2 ≤ (sep.length : Int) then
                  none
                else
                  some ()
              ) fun _ =>
              Option.bind (subC (elems.length : Int) (1 : Int)) fun v3 =>
              Option.bind (mulC (sep.length : Int) v3) fun v4 =>
              Option.bind (addC (0 : Int) v4) fun v5 =>
              some v5
          else
            some (0 : Int)
        ) fun n0_ =>
        Option.bind (M.strings_Join_loop1 elems n0_) fun n0_1 =>
          Option.bind (growC n0_1) fun _ =>
          Option.bind (idx elems (0 : Int)) fun v8 =>
          Option.bind (appC ([] : Str) v8) fun b1 =>
          Option.bind (slcLo elems (1 : Int)) fun v9 =>
          Option.bind (M.strings_Join_loop2 sep v9 b1) fun b2 =>
            some b2

def M.address_Format_loop1  : List api_Step → (List Str) → Option ((List Str))
  | [], words =>
    some words
  | e :: es, words =>
    Option.bind (M.address_name e.Kind) fun name =>
    Option.bind (appC words [name.1]) fun words1 =>
    Option.bind (M.address_book e) fun book =>
    if book = false then
      Option.bind (appC words1 [e.Label]) fun words2 =>
      M.address_Format_loop1 es words2
    else
      M.address_Format_loop1 es words1
def M.address_Format (n : Nat) (p : List api_Step) : Option Str :=
  Option.bind (M.address_Valid n p) fun valid =>
  if valid = false then
    some ([] : Str)
  else
    Option.bind (M.address_Format_loop1 p ([] : List Str)) fun words =>
      Option.bind (M.strings_Join words ([32] : Str)) fun join =>
      some join

def M.law07_awake (n : Nat)  : Option Bool :=
  Option.bind M.law07_book fun book =>
  Option.bind (M.address_FindOne n book ([(⟨(2 : Int), ([53] : Str)⟩ : api_Step), (⟨(3 : Int), ([50] : Str)⟩ : api_Step)])) fun findon =>
  Option.bind M.law07_book fun book1 =>
  Option.bind (M.address_Shortest n book1 findon.1) fun shorte =>
  Option.bind M.law07_book fun book2 =>
  Option.bind (M.address_Full n book2 findon.1) fun full =>
  if findon.2 = (0 : Int) then
    if findon.1 = (⟨(1 : Int), (0 : Int), (2 : Int)⟩ : api_Id) then
      if shorte.2 = true then
        if full.2 = true then
          Option.bind (M.address_Format n shorte.1) fun format =>
          if (format == ([112, 97, 114, 97, 103, 114, 97, 112, 104, 32, 50] : Str)) = true then
            Option.bind (M.address_Format n full.1) fun format1 =>
            some (format1 == ([98, 111, 111, 107, 32, 115, 101, 99, 116, 105, 111, 110, 32, 53, 32, 112, 97, 114, 97, 103, 114, 97, 112, 104, 32, 50] : Str))
          else
            some false
        else
          some false
      else
        some false
    else
      some false
  else
    some false

def M.law07_short_loop1 (p : List api_Step) : Nat → Int → Option (Unit ⊕ Bool)
  | 0, _ => none
  | n + 1, i =>
    if i < (p.length : Int) then
      Option.bind (idx p i) fun v =>
      if (100 : Int) < (v.Label.length : Int) then
        some (.inr false)
      else
        M.law07_short_loop1 p n (i + 1)
    else
      some (.inl ())
def M.law07_short (n : Nat) (p : List api_Step) : Option Bool :=
  Option.bind (M.law07_short_loop1 p n (0 : Int)) fun
    | .inl _ =>
      some (decide ((p.length : Int) ≤ (20 : Int)))
    | .inr ret0 => some ret0

def M.r07_book (s0_ : api_Step) : Option Bool :=
  if s0_.Kind = (0 : Int) then
    some (s0_.Label == ([] : Str))
  else
    some false

def M.r03_digits_loop1 (s0_ : Str) : Nat → Int → Option Int
  | 0, _ => none
  | n + 1, n0_ =>
    if n0_ < (s0_.length : Int) then
      Option.bind (idx s0_ n0_) fun b =>
      if (48 : Int) ≤ (b.toNat : Int) then
        Option.bind (idx s0_ n0_) fun b1 =>
        if (b1.toNat : Int) ≤ (57 : Int) then
          M.r03_digits_loop1 s0_ n (n0_ + 1)
        else
          some n0_
      else
        some n0_
    else
      some n0_
def M.r03_digits (n : Nat) (s0_ : Str) : Option Int :=
  Option.bind (M.r03_digits_loop1 s0_ n (0 : Int)) fun n0_ =>
    some n0_

def M.r03_May_loop1 (s0_ : Str) : Nat → Int → Option (Unit ⊕ Bool)
  | 0, _ => none
  | n + 1, i =>
    if i < (s0_.length : Int) then
      Option.bind (idx s0_ i) fun b1 =>
      if (b1.toNat : Int) < (65 : Int) then
        some (.inr false)
      else
        Option.bind (idx s0_ i) fun b2 =>
        if (90 : Int) < (b2.toNat : Int) then
          some (.inr false)
        else
          M.r03_May_loop1 s0_ n (i + 1)
    else
      some (.inl ())
def M.r03_May (n : Nat) (s0_ : Str) : Option Bool :=
  Option.bind (M.r03_digits n s0_) fun digits =>
  Option.bind (
      if digits < (1 : Int) then
        some true
      else
        if (4 : Int) < digits then
          some true
        else
          Option.bind (idx s0_ (0 : Int)) fun b =>
          if (b.toNat : Int) = (48 : Int) then
            some true
          else
            Option.bind (subC (s0_.length : Int) digits) fun v1 =>
            some (decide ((3 : Int) < v1))
    ) fun v =>
    if v = true then
      some false
    else
      Option.bind (M.r03_May_loop1 s0_ n digits) fun
        | .inl _ =>
          some true
        | .inr ret0 => some ret0

def M.r07_May_loop1 (p : List api_Step) : Nat → Int → Option (Unit ⊕ Bool)
  | 0, _ => none
  | n + 1, i =>
    if i < (p.length : Int) then
      Option.bind (
          if i = (0 : Int) then
            Option.bind (idx p i) fun v1 =>
            Option.bind (M.r07_book v1) fun book =>
            some book
          else
            some false
        ) fun v =>
        if v = true then
          M.r07_May_loop1 p n (i + 1)
        else
          Option.bind (idx p i) fun v2 =>
          if v2.Kind < (1 : Int) then
            some (.inr false)
          else
            Option.bind (idx p i) fun v3 =>
            if (7 : Int) < v3.Kind then
              some (.inr false)
            else
              Option.bind (idx p i) fun v4 =>
              Option.bind (M.r03_May n v4.Label) fun may =>
              if may = false then
                some (.inr false)
              else
                M.r07_May_loop1 p n (i + 1)
    else
      some (.inl ())
def M.r07_May (n : Nat) (p : List api_Step) : Option Bool :=
  if (9 : Int) < (p.length : Int) then
    some false
  else
    Option.bind (M.r07_May_loop1 p n (0 : Int)) fun
      | .inl _ =>
        some true
      | .inr ret0 => some ret0

def M.r07_Names  : Option ((List Str)) :=
  some ([([98, 111, 111, 107] : Str), ([112, 97, 114, 116] : Str), ([115, 101, 99, 116, 105, 111, 110] : Str), ([112, 97, 114, 97, 103, 114, 97, 112, 104] : Str), ([116, 97, 98, 108, 101] : Str), ([114, 111, 119] : Str), ([99, 101, 108, 108] : Str), ([110, 111, 116, 101] : Str)])

def M.r07_Text_loop1 (p : List api_Step) : Nat → Str → Int → Option Str
  | 0, _, _ => none
  | n + 1, s0_, i =>
    if i < (p.length : Int) then
      Option.bind (
          if (0 : Int) < i then
            Option.bind (catC s0_ ([32] : Str)) fun v =>
            some v
          else
            some s0_
        ) fun s0_1 =>
        Option.bind M.r07_Names fun names =>
        Option.bind (idx p i) fun v1 =>
        Option.bind (idx names v1.Kind) fun v2 =>
        Option.bind (catC s0_1 v2) fun v3 =>
        Option.bind (idx p i) fun v4 =>
        Option.bind (M.r07_book v4) fun book =>
        if book = false then
          Option.bind (catC v3 ([32] : Str)) fun v5 =>
          Option.bind (idx p i) fun v6 =>
          Option.bind (catC v5 v6.Label) fun v7 =>
          M.r07_Text_loop1 p n v7 (i + 1)
        else
          M.r07_Text_loop1 p n v3 (i + 1)
    else
      some s0_
def M.r07_Text (n : Nat) (p : List api_Step) : Option Str :=
  Option.bind (M.r07_May n p) fun may =>
  if may = false then
    some ([] : Str)
  else
    Option.bind (M.r07_Text_loop1 p n ([] : Str) (0 : Int)) fun s0_ =>
      some s0_

def M.address_kind_loop1 (s0_ : Str) : Nat → Int → Option (Unit ⊕ (Int × Bool))
  | 0, _ => none
  | n + 1, v =>
    if v < (8 : Int) then
      Option.bind (M.address_name v) fun name =>
      if (name.1 == s0_) = true then
        some (.inr (v, true))
      else
        Option.bind (addC v (1 : Int)) fun v1 =>
        M.address_kind_loop1 s0_ n v1
    else
      some (.inl ())
def M.address_kind (n : Nat) (s0_ : Str) : Option (Int × Bool) :=
  Option.bind (M.address_kind_loop1 s0_ n (0 : Int)) fun
    | .inl _ =>
      some ((0 : Int), false)
    | .inr ret0 => some ret0

def M.address_Parse_loop1  : Nat → (List api_Step) → (List Str) → Option (((List api_Step)) ⊕ ((List api_Step) × Int))
  | 0, _, _ => none
  | n + 1, p, words =>
    if (0 : Int) < (words.length : Int) then
      Option.bind (idx words (0 : Int)) fun v =>
      Option.bind (M.address_kind n v) fun kind =>
      if kind.2 = false then
        some (.inr (([] : List api_Step), (2 : Int)))
      else
        Option.bind (slcLo words (1 : Int)) fun v1 =>
        if kind.1 ≠ (0 : Int) then
          if (v1.length : Int) = (0 : Int) then
            some (.inr (([] : List api_Step), (2 : Int)))
          else
            Option.bind (idx v1 (0 : Int)) fun v2 =>
            Option.bind (slcLo v1 (1 : Int)) fun v3 =>
            Option.bind (appC p ([({ (⟨kind.1, ([] : Str)⟩ : api_Step) with Label := v2 } : api_Step)])) fun p1 =>
            M.address_Parse_loop1 n p1 v3
        else
          Option.bind (appC p ([(⟨kind.1, ([] : Str)⟩ : api_Step)])) fun p2 =>
          M.address_Parse_loop1 n p2 v1
    else
      some (.inl p)
def M.address_Parse (n : Nat) (s0_ : Str) : Option ((List api_Step) × Int) :=
  if (s0_ == ([] : Str)) = true then
    some (([] : List api_Step), (0 : Int))
  else
    Option.bind (splitM s0_ ([32] : Str)) fun split =>
    Option.bind (M.address_Parse_loop1 n ([] : List api_Step) split) fun
      | .inl p =>
        Option.bind (M.address_Format n p) fun format =>
        if (format != s0_) = true then
          some (([] : List api_Step), (2 : Int))
        else
          some (p, (0 : Int))
      | .inr ret0 => some ret0

def M.r07_Same_loop1 (a : List api_Step) (b : List api_Step) : Nat → Int → Option (Unit ⊕ Bool)
  | 0, _ => none
  | n + 1, i =>
    if i < (a.length : Int) then
      Option.bind (idx a i) fun v =>
      Option.bind (idx b i) fun v1 =>
      if v ≠ v1 then
        some (.inr false)
      else
        M.r07_Same_loop1 a b n (i + 1)
    else
      some (.inl ())
def M.r07_Same (n : Nat) (a : List api_Step) (b : List api_Step) : Option Bool :=
  if (a.length : Int) ≠ (b.length : Int) then
    some false
  else
    Option.bind (M.r07_Same_loop1 a b n (0 : Int)) fun
      | .inl _ =>
        some true
      | .inr ret0 => some ret0

def M.law07_AddressFormat (n : Nat) (p : List api_Step) : Option Bool :=
  Option.bind (
      Option.bind (M.law07_awake n) fun awake =>
      if awake = false then
        some true
      else
        Option.bind (M.law07_short n p) fun short =>
        some (!short)
    ) fun v =>
    if v = true then
      Option.bind (M.law07_awake n) fun awake1 =>
      some awake1
    else
      Option.bind (M.address_Format n p) fun format =>
      Option.bind (
          Option.bind (M.address_Valid n p) fun valid =>
          Option.bind (M.r07_May n p) fun may =>
          if (valid != may) = true then
            some true
          else
            Option.bind (M.r07_Text n p) fun text =>
            some (format != text)
        ) fun v1 =>
        if v1 = true then
          some false
        else
          Option.bind (M.address_Valid n p) fun valid1 =>
          if valid1 = false then
            some (format == ([] : Str))
          else
            Option.bind (M.address_Parse n format) fun parse =>
            if parse.2 = (0 : Int) then
              Option.bind (M.r07_Same n p parse.1) fun same =>
              some same
            else
              some false

def M.r07_Cut_loop1 (s0_ : Str) : Nat → (List Str) → Int → Int → Option ((List Str))
  | 0, _, _, _ => none
  | n + 1, out, from0_, i =>
    if i ≤ (s0_.length : Int) then
      Option.bind (
          if i = (s0_.length : Int) then
            some true
          else
            Option.bind (idx s0_ i) fun b =>
            some (decide ((b.toNat : Int) = (32 : Int)))
        ) fun v =>
        if v = true then
          Option.bind (slc s0_ from0_ i) fun v1 =>
          Option.bind (appC out [v1]) fun out1 =>
          Option.bind (addC i (1 : Int)) fun v2 =>
          Option.bind (addC i (1 : Int)) fun v3 =>
          M.r07_Cut_loop1 s0_ n out1 v2 v3
        else
          Option.bind (addC i (1 : Int)) fun v4 =>
          M.r07_Cut_loop1 s0_ n out from0_ v4
    else
      some out
def M.r07_Cut (n : Nat) (s0_ : Str) : Option ((List Str)) :=
  Option.bind (M.r07_Cut_loop1 s0_ n ([] : List Str) (0 : Int) (0 : Int)) fun out =>
    some out

def M.r07_Kind_loop1 (s0_ : Str) : Nat → Int → Option (Unit ⊕ Int)
  | 0, _ => none
  | n + 1, i =>
    if i < (8 : Int) then
      Option.bind M.r07_Names fun names =>
      Option.bind (idx names i) fun v =>
      if (v == s0_) = true then
        some (.inr i)
      else
        Option.bind (addC i (1 : Int)) fun v1 =>
        M.r07_Kind_loop1 s0_ n v1
    else
      some (.inl ())
def M.r07_Kind (n : Nat) (s0_ : Str) : Option Int :=
  Option.bind (M.r07_Kind_loop1 s0_ n (0 : Int)) fun
    | .inl _ =>
      some (-1 : Int)
    | .inr ret0 => some ret0

def M.r07_Parse_loop1 (cut : (List Str)) : Nat → (List api_Step) → Int → Option (((List api_Step)) ⊕ ((List api_Step) × Bool))
  | 0, _, _ => none
  | n + 1, p, i =>
    if i < (cut.length : Int) then
      Option.bind (idx cut i) fun v =>
      Option.bind (M.r07_Kind n v) fun kind =>
      Option.bind (
          if kind = (0 : Int) then
            some (decide (i = (0 : Int)))
          else
            some false
        ) fun v1 =>
        if v1 = true then
          Option.bind (appC p ([(⟨(0 : Int), ([] : Str)⟩ : api_Step)])) fun out =>
          M.r07_Parse_loop1 cut n out (i + 1)
        else
          Option.bind (
              if kind < (1 : Int) then
                some true
              else
                some (decide ((cut.length : Int) ≤ i + 1))
            ) fun v2 =>
            if v2 = true then
              some (.inr (([] : List api_Step), false))
            else
              Option.bind (idx cut (i + 1)) fun v3 =>
              Option.bind (appC p [(⟨kind, v3⟩ : api_Step)]) fun out1 =>
              Option.bind (addC i (2 : Int)) fun v4 =>
              M.r07_Parse_loop1 cut n out1 v4
    else
      some (.inl p)
def M.r07_Parse (n : Nat) (s0_ : Str) : Option ((List api_Step) × Bool) :=
  if (s0_ == ([] : Str)) = true then
    some (([] : List api_Step), true)
  else
    Option.bind (M.r07_Cut n s0_) fun cut =>
    Option.bind (M.r07_Parse_loop1 cut n ([] : List api_Step) (0 : Int)) fun
      | .inl p =>
        Option.bind (M.r07_May n p) fun may =>
        if may = false then
          some (([] : List api_Step), false)
        else
          some (p, true)
      | .inr ret0 => some ret0

def M.law07_AddressParse (n : Nat) (s0_ : Str) : Option Bool :=
  Option.bind (
      Option.bind (M.law07_awake n) fun awake =>
      if awake = false then
        some true
      else
        some (decide ((1000 : Int) < (s0_.length : Int)))
    ) fun v =>
    if v = true then
      Option.bind (M.law07_awake n) fun awake1 =>
      some awake1
    else
      Option.bind (M.address_Parse n s0_) fun parse =>
      Option.bind (M.r07_Parse n s0_) fun parse1 =>
      if parse1.2 = false then
        Option.bind (
            if parse.2 = (2 : Int) then
              some (decide ((parse.1.length : Int) = (0 : Int)))
            else
              some false
          ) fun v1 =>
          some v1
      else
        if parse.2 = (0 : Int) then
          Option.bind (M.r07_Same n parse.1 parse1.1) fun same =>
          if same = true then
            Option.bind (M.address_Format n parse.1) fun format =>
            some (format == s0_)
          else
            some false
        else
          some false

end Go.Proofs.YtfclekegoleiaaaDoor
