/-
  What the functions compute: plain functions, written by program out of the code; no machine in sight.
-/
import Derived.Test.YtgicfjjhchohaaaDoorMod
set_option linter.unusedVariables false
set_option linter.unusedSimpArgs false
namespace Go.Proofs.YtgicfjjhchohaaaDoor
open Go Go.Dec



def M.slices_Equal_string_string_loop1 (s1_ : List Str) (s2_ : List Str) : Nat → Int → Option (Unit ⊕ Bool)
  | 0, _ => none
  | n + 1, v =>
    if v < (s1_.length : Int) then
      Option.bind (idx s1_ v) fun v1 =>
      Option.bind (idx s2_ v) fun v2 =>
      if (v1 != v2) = true then
        some (.inr false)
      else
        M.slices_Equal_string_string_loop1 s1_ s2_ n (v + 1)
    else
      some (.inl ())
def M.slices_Equal_string_string (n : Nat) (s1_ : List Str) (s2_ : List Str) : Option Bool :=
  if (s1_.length : Int) ≠ (s2_.length : Int) then
    some false
  else
    Option.bind (M.slices_Equal_string_string_loop1 s1_ s2_ n (0 : Int)) fun
      | .inl _ =>
        some true
      | .inr ret0 => some ret0

def M.wordseq_FindAll_loop1 (l : List Str) (part : List Str) : Nat → (List Int) → Int → Option ((List Int))
  | 0, _, _ => none
  | n + 1, out, i =>
    Option.bind (addC i (part.length : Int)) fun v =>
    if v ≤ (l.length : Int) then
      Option.bind (addC i (part.length : Int)) fun v1 =>
      Option.bind (slc l i v1) fun v2 =>
      Option.bind (M.slices_Equal_string_string n v2 part) fun string =>
      if string = false then
        Option.bind (addC i (1 : Int)) fun v3 =>
        M.wordseq_FindAll_loop1 l part n out v3
      else
        Option.bind (appC out [i]) fun out1 =>
        Option.bind (addC i (part.length : Int)) fun v4 =>
        M.wordseq_FindAll_loop1 l part n out1 v4
    else
      some out
def M.wordseq_FindAll (n : Nat) (l : List Str) (part : List Str) : Option ((List Int)) :=
  if (part.length : Int) = (0 : Int) then
    some ([] : List Int)
  else
    Option.bind (M.wordseq_FindAll_loop1 l part n ([] : List Int) (0 : Int)) fun out =>
      some out

def M.wordseq_chosen (n : Nat) (l : List Str) (part : List Str) (nth : Int) : Option ((List Int)) :=
  Option.bind (M.wordseq_FindAll n l part) fun findal =>
  if nth = (0 : Int) then
    some findal
  else
    if nth < (0 : Int) then
      some ([] : List Int)
    else
      if (findal.length : Int) < nth then
        some ([] : List Int)
      else
        Option.bind (subC nth (1 : Int)) fun v =>
        Option.bind (slc findal v nth) fun v1 =>
        some v1

def M.wordseq_Replace_1 (a : List Str) (c : List Str) : Option ((List Str)) :=
  some c

def M.wordseq_each_loop1 (l : List Str) (part : List Str) (does : (List Str) → Option ((List Str))) : List Int → (List Str) → Int → Option ((List Str) × Int)
  | [], out, from0_ =>
    some (out, from0_)
  | e :: es, out, from0_ =>
    Option.bind (slc l from0_ e) fun v =>
    Option.bind (appC out v) fun out1 =>
    Option.bind (addC e (part.length : Int)) fun v1 =>
    Option.bind (slc l e v1) fun v2 =>
    Option.bind (does v2) fun v3 =>
    Option.bind (appC out1 v3) fun out2 =>
    M.wordseq_each_loop1 l part does es out2 v1
def M.wordseq_each (l : List Str) (part : List Str) (places : List Int) (does : (List Str) → Option ((List Str))) : Option ((List Str) × Int) :=
  Option.bind (M.wordseq_each_loop1 l part does places ([] : List Str) (0 : Int)) fun (out, from0_) =>
    Option.bind (slcLo l from0_) fun v4 =>
    Option.bind (appC out v4) fun out3 =>
    some (out3, (places.length : Int))

def M.wordseq_Replace (n : Nat) (l : List Str) (old : List Str) (fresh : List Str) (nth : Int) : Option ((List Str) × Int) :=
  Option.bind (M.wordseq_chosen n l old nth) fun chosen =>
  Option.bind (M.wordseq_each l old chosen (fun s0 => M.wordseq_Replace_1 s0 fresh)) fun each =>
  some (each.1, each.2)

def M.slices_Clone_string_string (l : List Str) : Option (List Str) := appC [] l

def M.slices_Concat_string_string_loop2  : List (List Str) → (List Str) → Option ((List Str))
  | [], newslice =>
    some newslice
  | e1 :: es1, newslice =>
    Option.bind (appC newslice e1) fun out =>
    M.slices_Concat_string_string_loop2 es1 out
def M.slices_Concat_string_string_loop1  : List (List Str) → Int → Option Int
  | [], size =>
    some size
  | e :: es, size =>
    Option.bind (addC size (e.length : Int)) fun v =>
    if v < (0 : Int) then
      none
    else
      M.slices_Concat_string_string_loop1 es v
def M.slices_Concat_string_string (slices : List (List Str)) : Option ((List Str)) :=
  Option.bind (M.slices_Concat_string_string_loop1 slices (0 : Int)) fun size =>
    Option.bind (growC size) fun _ =>
    Option.bind (M.slices_Concat_string_string_loop2 slices ([] : List Str)) fun newslice =>
      some newslice

def M.wordseq_InsertAfter_1 (found : List Str) (c : List Str) : Option ((List Str)) :=
  Option.bind (M.slices_Concat_string_string [found, c]) fun string =>
  some string

def M.wordseq_InsertAfter (n : Nat) (l : List Str) (part : List Str) (fresh : List Str) (nth : Int) : Option ((List Str) × Int) :=
  if (part.length : Int) = (0 : Int) then
    if nth ≠ (0 : Int) then
      Option.bind (M.slices_Clone_string_string l) fun string =>
      some (string, (0 : Int))
    else
      Option.bind (M.slices_Concat_string_string [fresh, l]) fun string1 =>
      some (string1, (1 : Int))
  else
    Option.bind (M.wordseq_chosen n l part nth) fun chosen =>
    Option.bind (M.wordseq_each l part chosen (fun s0 => M.wordseq_InsertAfter_1 s0 fresh)) fun each =>
    some (each.1, each.2)

def M.r04_Same_loop1 (a : List Str) (b : List Str) : Nat → Int → Option (Unit ⊕ Bool)
  | 0, _ => none
  | n + 1, i =>
    if i < (a.length : Int) then
      Option.bind (idx a i) fun v =>
      Option.bind (idx b i) fun v1 =>
      if (v != v1) = true then
        some (.inr false)
      else
        M.r04_Same_loop1 a b n (i + 1)
    else
      some (.inl ())
def M.r04_Same (n : Nat) (a : List Str) (b : List Str) : Option Bool :=
  if (a.length : Int) ≠ (b.length : Int) then
    some false
  else
    Option.bind (M.r04_Same_loop1 a b n (0 : Int)) fun
      | .inl _ =>
        some true
      | .inr ret0 => some ret0

def M.law04_awake (n : Nat)  : Option Bool :=
  Option.bind (M.wordseq_FindAll n ([([97] : Str), ([97] : Str), ([97] : Str), ([98] : Str), ([97] : Str), ([97] : Str)]) ([([97] : Str), ([97] : Str)])) fun findal =>
  Option.bind (M.wordseq_Replace n ([([97] : Str), ([98] : Str), ([98] : Str)]) ([([98] : Str)]) ([([99] : Str), ([100] : Str)]) (2 : Int)) fun replac =>
  Option.bind (M.wordseq_InsertAfter n ([([97] : Str)]) ([] : List Str) ([([120] : Str)]) (0 : Int)) fun insert =>
  if (findal.length : Int) = (2 : Int) then
    Option.bind (idx findal (0 : Int)) fun v =>
    if v = (0 : Int) then
      Option.bind (idx findal (1 : Int)) fun v1 =>
      if v1 = (4 : Int) then
        Option.bind (M.r04_Same n replac.1 ([([97] : Str), ([98] : Str), ([99] : Str), ([100] : Str)])) fun same =>
        if same = true then
          if replac.2 = (1 : Int) then
            Option.bind (M.r04_Same n insert.1 ([([120] : Str), ([97] : Str)])) fun same1 =>
            if same1 = true then
              some (decide (insert.2 = (1 : Int)))
            else
              some false
          else
            some false
        else
          some false
      else
        some false
    else
      some false
  else
    some false

def M.slices_IndexFunc_string_string_loop1 (s0_ : List Str) (f : Str → Option Bool) : Nat → Int → Option (Unit ⊕ Int)
  | 0, _ => none
  | n + 1, v =>
    if v < (s0_.length : Int) then
      Option.bind (idx s0_ v) fun v1 =>
      Option.bind (f v1) fun v2 =>
      if v2 = true then
        some (.inr v)
      else
        M.slices_IndexFunc_string_string_loop1 s0_ f n (v + 1)
    else
      some (.inl ())
def M.slices_IndexFunc_string_string (n : Nat) (s0_ : List Str) (f : Str → Option Bool) : Option Int :=
  Option.bind (M.slices_IndexFunc_string_string_loop1 s0_ f n (0 : Int)) fun
    | .inl _ =>
      some (-1 : Int)
    | .inr ret0 => some ret0

def M.slices_ContainsFunc_string_string (n : Nat) (s0_ : List Str) (f : Str → Option Bool) : Option Bool :=
  Option.bind (M.slices_IndexFunc_string_string n s0_ f) fun string =>
  some (decide ((0 : Int) ≤ string))

def M.slices_IndexFunc_byte_byte_loop1 (s0_ : List Int) (f : Int → Option Bool) : Nat → Int → Option (Unit ⊕ Int)
  | 0, _ => none
  | n + 1, v =>
    if v < (s0_.length : Int) then
      Option.bind (idx s0_ v) fun v1 =>
      Option.bind (f v1) fun v2 =>
      if v2 = true then
        some (.inr v)
      else
        M.slices_IndexFunc_byte_byte_loop1 s0_ f n (v + 1)
    else
      some (.inl ())
def M.slices_IndexFunc_byte_byte (n : Nat) (s0_ : List Int) (f : Int → Option Bool) : Option Int :=
  Option.bind (M.slices_IndexFunc_byte_byte_loop1 s0_ f n (0 : Int)) fun
    | .inl _ =>
      some (-1 : Int)
    | .inr ret0 => some ret0

def M.slices_ContainsFunc_byte_byte (n : Nat) (s0_ : List Int) (f : Int → Option Bool) : Option Bool :=
  Option.bind (M.slices_IndexFunc_byte_byte n s0_ f) fun byte =>
  some (decide ((0 : Int) ≤ byte))

def M.wordseq_word_1 (c : Int) : Option Bool :=
  if c < (33 : Int) then
    some true
  else
    some (decide ((126 : Int) < c))

def M.wordseq_word (n : Nat) (s0_ : Str) : Option Bool :=
  if (s0_ != ([] : Str)) = true then
    if (s0_.length : Int) ≤ (24 : Int) then
      Option.bind (M.slices_ContainsFunc_byte_byte n (bytesOf s0_) (fun s0 => M.wordseq_word_1 s0)) fun byte =>
      some (!byte)
    else
      some false
  else
    some false

def M.wordseq_Split_1 (n : Nat) (s0_ : Str) : Option Bool :=
  Option.bind (M.wordseq_word n s0_) fun word =>
  some (!word)

def M.wordseq_Split (n : Nat) (s0_ : Str) : Option ((List Str) × Int) :=
  if (s0_ == ([] : Str)) = true then
    some (([] : List Str), (0 : Int))
  else
    Option.bind (splitM s0_ ([32] : Str)) fun split =>
    Option.bind (M.slices_ContainsFunc_string_string n split (fun s0 => M.wordseq_Split_1 n s0)) fun string =>
    if string = true then
      some (([] : List Str), (2 : Int))
    else
      if (256 : Int) < (split.length : Int) then
        some (([] : List Str), (6 : Int))
      else
        some (split, (0 : Int))

def M.r04_Pieces_loop1 (s0_ : Str) : Nat → (List Str) → Int → Int → Option ((List Str))
  | 0, _, _, _ => none
  | n + 1, out, from0_, i =>
    if i ≤ (s0_.length : Int) then
      Option.bind (
          if i = (s0_.length : Int) then
            some true
          else
            Option.bind (idx s0_ i) fun b =>
            some (decide ((b.toNat : Int) = (32 : Int)))
        ) fun v =>
        if v = true then
          Option.bind (slc s0_ from0_ i) fun v1 =>
          Option.bind (appC out [v1]) fun out1 =>
          Option.bind (addC i (1 : Int)) fun v2 =>
          Option.bind (addC i (1 : Int)) fun v3 =>
          M.r04_Pieces_loop1 s0_ n out1 v2 v3
        else
          Option.bind (addC i (1 : Int)) fun v4 =>
          M.r04_Pieces_loop1 s0_ n out from0_ v4
    else
      some out
def M.r04_Pieces (n : Nat) (s0_ : Str) : Option ((List Str)) :=
  if (s0_ == ([] : Str)) = true then
    some ([] : List Str)
  else
    Option.bind (M.r04_Pieces_loop1 s0_ n ([] : List Str) (0 : Int) (0 : Int)) fun out =>
      some out

def M.r04_Word_loop1 (s0_ : Str) : Nat → Int → Option (Unit ⊕ Bool)
  | 0, _ => none
  | n + 1, i =>
    if i < (s0_.length : Int) then
      Option.bind (idx s0_ i) fun b =>
      if (b.toNat : Int) < (33 : Int) then
        some (.inr false)
      else
        Option.bind (idx s0_ i) fun b1 =>
        if (126 : Int) < (b1.toNat : Int) then
          some (.inr false)
        else
          M.r04_Word_loop1 s0_ n (i + 1)
    else
      some (.inl ())
def M.r04_Word (n : Nat) (s0_ : Str) : Option Bool :=
  Option.bind (
      if (s0_.length : Int) < (1 : Int) then
        some true
      else
        some (decide ((24 : Int) < (s0_.length : Int)))
    ) fun v =>
    if v = true then
      some false
    else
      Option.bind (M.r04_Word_loop1 s0_ n (0 : Int)) fun
        | .inl _ =>
          some true
        | .inr ret0 => some ret0

def M.r04_Split_loop1 (pieces : (List Str)) : Nat → Int → Option (Unit ⊕ ((List Str) × Int))
  | 0, _ => none
  | n + 1, i =>
    if i < (pieces.length : Int) then
      Option.bind (idx pieces i) fun v =>
      Option.bind (M.r04_Word n v) fun word =>
      if word = false then
        some (.inr (([] : List Str), (2 : Int)))
      else
        M.r04_Split_loop1 pieces n (i + 1)
    else
      some (.inl ())
def M.r04_Split (n : Nat) (s0_ : Str) : Option ((List Str) × Int) :=
  Option.bind (M.r04_Pieces n s0_) fun pieces =>
  Option.bind (M.r04_Split_loop1 pieces n (0 : Int)) fun
    | .inl _ =>
      if (256 : Int) < (pieces.length : Int) then
        some (([] : List Str), (6 : Int))
      else
        some (pieces, (0 : Int))
    | .inr ret0 => some ret0

def M.wordseq_Valid_1 (n : Nat) (s0_ : Str) : Option Bool :=
  Option.bind (M.wordseq_word n s0_) fun word =>
  some (!word)

def M.wordseq_Valid (n : Nat) (l : List Str) : Option Bool :=
  if (l.length : Int) ≤ (256 : Int) then
    Option.bind (M.slices_ContainsFunc_string_string n l (fun s0 => M.wordseq_Valid_1 n s0)) fun string =>
    some (!string)
  else
    some false

def M.strings_Join_loop2 (sep : Str) : List Str → Str → Option Str
  | [], b2 =>
    some b2
  | e1 :: es1, b2 =>
    Option.bind (appC b2 sep) fun b3 =>
    Option.bind (appC b3 e1) fun b4 =>
    M.strings_Join_loop2 sep es1 b4
def M.strings_Join_loop1  : List Str → Int → Option Int
  | [], n0_1 =>
    some n0_1
  | e :: es, n0_1 =>
    Option.bind (subC (9223372036854775807 : Int) n0_1) fun v6 =>
    if v6 < (e.length : Int) then
      none
    else
      Option.bind (addC n0_1 (e.length : Int)) fun v7 =>
      M.strings_Join_loop1 es v7
def M.strings_Join (elems : List Str) (sep : Str) : Option Str :=
  if (elems.length : Int) = (0 : Int) then
    some ([] : Str)
  else
    if (elems.length : Int) = (1 : Int) then
      Option.bind (idx elems (0 : Int)) fun v =>
      some v
    else
      Option.bind (
          if (0 : Int) < (sep.length : Int) then
            Option.bind (
                Option.bind (subC (elems.length : Int) (1 : Int)) fun v1 =>
                Option.bind (quoC (9223372036854775807 : Int) v1) fun v2 =>
                if v2 ≤ (sep.length : Int) then
                  none
                else
                  some ()
              ) fun _ =>
              Option.bind (subC (elems.length : Int) (1 : Int)) fun v3 =>
              Option.bind (mulC (sep.length : Int) v3) fun v4 =>
              Option.bind (addC (0 : Int) v4) fun v5 =>
              some v5
          else
            some (0 : Int)
        ) fun n0_ =>
        Option.bind (M.strings_Join_loop1 elems n0_) fun n0_1 =>
          Option.bind (growC n0_1) fun _ =>
          Option.bind (idx elems (0 : Int)) fun v8 =>
          Option.bind (appC ([] : Str) v8) fun b1 =>
          Option.bind (slcLo elems (1 : Int)) fun v9 =>
          Option.bind (M.strings_Join_loop2 sep v9 b1) fun b2 =>
            some b2

def M.wordseq_Join (n : Nat) (l : List Str) : Option Str :=
  Option.bind (M.wordseq_Valid n l) fun valid =>
  if valid = false then
    some ([] : Str)
  else
    Option.bind (M.strings_Join l ([32] : Str)) fun join =>
    some join

def M.law04_WordseqSplits (n : Nat) (s0_ : Str) : Option Bool :=
  if (9000 : Int) < (s0_.length : Int) then
    Option.bind (M.law04_awake n) fun awake =>
    some awake
  else
    Option.bind (M.wordseq_Split n s0_) fun split =>
    Option.bind (M.r04_Split n s0_) fun split1 =>
    Option.bind (
        Option.bind (M.r04_Same n split.1 split1.1) fun same =>
        if same = false then
          some true
        else
          some (decide (split.2 ≠ split1.2))
      ) fun v =>
      if v = true then
        some false
      else
        if split1.2 ≠ (0 : Int) then
          Option.bind (M.law04_awake n) fun awake1 =>
          some awake1
        else
          Option.bind (M.wordseq_Join n split.1) fun join =>
          if (join == s0_) = true then
            Option.bind (M.wordseq_Valid n split.1) fun valid =>
            if valid = true then
              Option.bind (M.law04_awake n) fun awake2 =>
              some awake2
            else
              some false
          else
            some false

def M.law04_long_loop2  : List Str → Int → Option Int
  | [], n0_ =>
    some n0_
  | e1 :: es1, n0_ =>
    M.law04_long_loop2 es1 (wrap64 (n0_ + (e1.length : Int)))
def M.law04_long_loop1  : List (List Str) → Option (Unit ⊕ Bool)
  | [] =>
    some (.inl ())
  | e :: es =>
    Option.bind (M.law04_long_loop2 e (0 : Int)) fun n0_ =>
      if (300 : Int) < (e.length : Int) then
        some (.inr true)
      else
        if (3000 : Int) < n0_ then
          some (.inr true)
        else
          M.law04_long_loop1 es
def M.law04_long (rows : List (List Str)) : Option Bool :=
  Option.bind (M.law04_long_loop1 rows) fun
    | .inl _ =>
      some false
    | .inr ret0 => some ret0

def M.r04_May_loop1 (l : List Str) : Nat → Int → Option (Unit ⊕ Bool)
  | 0, _ => none
  | n + 1, i =>
    if i < (l.length : Int) then
      Option.bind (idx l i) fun v =>
      Option.bind (M.r04_Word n v) fun word =>
      if word = false then
        some (.inr false)
      else
        M.r04_May_loop1 l n (i + 1)
    else
      some (.inl ())
def M.r04_May (n : Nat) (l : List Str) : Option Bool :=
  if (256 : Int) < (l.length : Int) then
    some false
  else
    Option.bind (M.r04_May_loop1 l n (0 : Int)) fun
      | .inl _ =>
        some true
      | .inr ret0 => some ret0

def M.wordseq_Equal (n : Nat) (a : List Str) (b : List Str) : Option Bool :=
  Option.bind (M.slices_Equal_string_string n a b) fun string =>
  some string

def M.law04_WordseqRoundTrip (n : Nat) (l : List Str) : Option Bool :=
  Option.bind (
      Option.bind (M.law04_long [l]) fun long =>
      if long = true then
        some true
      else
        Option.bind (M.r04_May n l) fun may =>
        some (!may)
    ) fun v =>
    if v = true then
      Option.bind (M.law04_awake n) fun awake =>
      some awake
    else
      Option.bind (M.wordseq_Join n l) fun join =>
      Option.bind (M.wordseq_Split n join) fun split =>
      if split.2 = (0 : Int) then
        Option.bind (M.r04_Same n split.1 l) fun same =>
        if same = true then
          Option.bind (M.wordseq_Equal n split.1 l) fun equal =>
          if equal = true then
            Option.bind (M.law04_awake n) fun awake1 =>
            some awake1
          else
            some false
        else
          some false
      else
        some false

end Go.Proofs.YtgicfjjhchohaaaDoor
