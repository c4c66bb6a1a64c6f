/-
  What the functions compute: plain functions, written by program out of the code; no machine in sight.
-/
import Derived.Test.YtgicfjjhchohaaaMod
set_option linter.unusedVariables false
set_option linter.unusedSimpArgs false
namespace Go.Proofs.Ytgicfjjhchohaaa
open Go Go.Dec



def M.law04_long_loop2 (v1 : List Str) : Nat → Int → Int → Option Int
  | 0, _, _ => none
  | n + 1, n0_, v2 =>
    if v2 < (v1.length : Int) then
      Option.bind (idx v1 v2) fun v3 =>
      M.law04_long_loop2 v1 n (wrap64 (n0_ + (v3.length : Int))) (v2 + 1)
    else
      some n0_
def M.law04_long_loop1 (rows : List (List Str)) : Nat → Int → Option (Unit ⊕ Bool)
  | 0, _ => none
  | n + 1, v =>
    if v < (rows.length : Int) then
      Option.bind (idx rows v) fun v1 =>
      Option.bind (M.law04_long_loop2 v1 n (0 : Int) (0 : Int)) fun n0_ =>
        if (300 : Int) < (v1.length : Int) then
          if true = true then
            some (.inr true)
          else
            M.law04_long_loop1 rows n (wrap64 (v + (1 : Int)))
        else
          if (3000 : Int) < n0_ then
            some (.inr true)
          else
            M.law04_long_loop1 rows n (wrap64 (v + (1 : Int)))
    else
      some (.inl ())
def M.law04_long (n : Nat) (rows : List (List Str)) : Option Bool :=
  Option.bind (M.law04_long_loop1 rows n (0 : Int)) fun
    | .inl _ =>
      some false
    | .inr v => some v

def M.slices_Equal_string_string_loop1 (s1_ : List Str) (s2_ : List Str) : Nat → Int → Option (Unit ⊕ Bool)
  | 0, _ => none
  | n + 1, v =>
    if v < (s1_.length : Int) then
      Option.bind (idx s1_ v) fun v1 =>
      Option.bind (idx s2_ v) fun v2 =>
      if (v1 != v2) = true then
        some (.inr false)
      else
        M.slices_Equal_string_string_loop1 s1_ s2_ n (v + 1)
    else
      some (.inl ())
def M.slices_Equal_string_string (n : Nat) (s1_ : List Str) (s2_ : List Str) : Option Bool :=
  if (s1_.length : Int) ≠ (s2_.length : Int) then
    some false
  else
    Option.bind (M.slices_Equal_string_string_loop1 s1_ s2_ n (0 : Int)) fun
      | .inl _ =>
        some true
      | .inr v => some v

def M.wordseq_FindAll_loop1 (l : List Str) (part : List Str) : Nat → (List Int) → Int → Option ((List Int))
  | 0, _, _ => none
  | n + 1, out, i =>
    Option.bind (addC i (part.length : Int)) fun v =>
    if v ≤ (l.length : Int) then
      Option.bind (addC i (part.length : Int)) fun v1 =>
      Option.bind (slc l i v1) fun v2 =>
      Option.bind (M.slices_Equal_string_string n v2 part) fun string =>
      if string = false then
        Option.bind (addC i (1 : Int)) fun v3 =>
        M.wordseq_FindAll_loop1 l part n out v3
      else
        Option.bind (appC out [i]) fun out1 =>
        Option.bind (addC i (part.length : Int)) fun v4 =>
        M.wordseq_FindAll_loop1 l part n out1 v4
    else
      some out
def M.wordseq_FindAll (n : Nat) (l : List Str) (part : List Str) : Option ((List Int)) :=
  if (part.length : Int) = (0 : Int) then
    some ([] : List Int)
  else
    Option.bind (M.wordseq_FindAll_loop1 l part n ([] : List Int) (0 : Int)) fun out =>
      some out

def M.wordseq_chosen (n : Nat) (l : List Str) (part : List Str) (nth : Int) : Option ((List Int)) :=
  Option.bind (M.wordseq_FindAll n l part) fun findal =>
  if nth = (0 : Int) then
    some findal
  else
    if nth < (0 : Int) then
      if true = true then
        some ([] : List Int)
      else
        Option.bind (subC nth (1 : Int)) fun v =>
        Option.bind (slc findal v nth) fun v1 =>
        some v1
    else
      if (findal.length : Int) < nth then
        some ([] : List Int)
      else
        Option.bind (subC nth (1 : Int)) fun v2 =>
        Option.bind (slc findal v2 nth) fun v3 =>
        some v3

def M.wordseq_Replace_1 (a : List Str) (c : List Str) : Option ((List Str)) :=
  some c

def M.wordseq_each_loop1 (l : List Str) (part : List Str) (places : List Int) (does : (List Str) → Option ((List Str))) : Nat → (List Str) → Int → Int → Option ((List Str) × Int)
  | 0, _, _, _ => none
  | n + 1, out, from0_, v =>
    if v < (places.length : Int) then
      Option.bind (idx places v) fun v1 =>
      Option.bind (slc l from0_ v1) fun v2 =>
      Option.bind (appC out v2) fun out1 =>
      Option.bind (addC v1 (part.length : Int)) fun v3 =>
      Option.bind (slc l v1 v3) fun v4 =>
      Option.bind (does v4) fun v5 =>
      Option.bind (appC out1 v5) fun out2 =>
      M.wordseq_each_loop1 l part places does n out2 v3 (v + 1)
    else
      some (out, from0_)
def M.wordseq_each (n : Nat) (l : List Str) (part : List Str) (places : List Int) (does : (List Str) → Option ((List Str))) : Option ((List Str) × Int) :=
  Option.bind (M.wordseq_each_loop1 l part places does n ([] : List Str) (0 : Int) (0 : Int)) fun (out, from0_) =>
    Option.bind (slcLo l from0_) fun v6 =>
    Option.bind (appC out v6) fun out3 =>
    some (out3, (places.length : Int))

def M.wordseq_Replace (n : Nat) (l : List Str) (old : List Str) (fresh : List Str) (nth : Int) : Option ((List Str) × Int) :=
  Option.bind (M.wordseq_chosen n l old nth) fun chosen =>
  Option.bind (M.wordseq_each n l old chosen (fun s0 => M.wordseq_Replace_1 s0 fresh)) fun each =>
  some (each.1, each.2)

def M.slices_Clone_string_string (l : List Str) : Option (List Str) := appC [] l

def M.slices_Concat_string_string_loop2 (slices : List (List Str)) : Nat → (List Str) → Int → Option ((List Str))
  | 0, _, _ => none
  | n + 1, newslice, v3 =>
    if v3 < (slices.length : Int) then
      Option.bind (idx slices v3) fun v4 =>
      Option.bind (appC newslice v4) fun out =>
      M.slices_Concat_string_string_loop2 slices n out (v3 + 1)
    else
      some newslice
def M.slices_Concat_string_string_loop1 (slices : List (List Str)) : Nat → Int → Int → Option Int
  | 0, _, _ => none
  | n + 1, size, v =>
    if v < (slices.length : Int) then
      Option.bind (idx slices v) fun v1 =>
      Option.bind (addC size (v1.length : Int)) fun v2 =>
      if v2 < (0 : Int) then
        none
      else
        M.slices_Concat_string_string_loop1 slices n v2 (v + 1)
    else
      some size
def M.slices_Concat_string_string (n : Nat) (slices : List (List Str)) : Option ((List Str)) :=
  Option.bind (M.slices_Concat_string_string_loop1 slices n (0 : Int) (0 : Int)) fun size =>
    Option.bind (growC size) fun _ =>
    Option.bind (M.slices_Concat_string_string_loop2 slices n ([] : List Str) (0 : Int)) fun newslice =>
      some newslice

def M.wordseq_InsertAfter_1 (n : Nat) (found : List Str) (c : List Str) : Option ((List Str)) :=
  Option.bind (M.slices_Concat_string_string n [found, c]) fun string =>
  some string

def M.wordseq_InsertAfter (n : Nat) (l : List Str) (part : List Str) (fresh : List Str) (nth : Int) : Option ((List Str) × Int) :=
  if (part.length : Int) = (0 : Int) then
    if nth ≠ (0 : Int) then
      Option.bind (M.slices_Clone_string_string l) fun string =>
      some (string, (0 : Int))
    else
      Option.bind (M.slices_Concat_string_string n [fresh, l]) fun string1 =>
      some (string1, (1 : Int))
  else
    Option.bind (M.wordseq_chosen n l part nth) fun chosen =>
    Option.bind (M.wordseq_each n l part chosen (fun s0 => M.wordseq_InsertAfter_1 n s0 fresh)) fun each =>
    some (each.1, each.2)

def M.r04_Same_loop1 (a : List Str) (b : List Str) : Nat → Int → Option (Unit ⊕ Bool)
  | 0, _ => none
  | n + 1, i =>
    if i < (a.length : Int) then
      Option.bind (idx a i) fun v =>
      Option.bind (idx b i) fun v1 =>
      if (v != v1) = true then
        some (.inr false)
      else
        M.r04_Same_loop1 a b n (i + 1)
    else
      some (.inl ())
def M.r04_Same (n : Nat) (a : List Str) (b : List Str) : Option Bool :=
  if (a.length : Int) ≠ (b.length : Int) then
    some false
  else
    Option.bind (M.r04_Same_loop1 a b n (0 : Int)) fun
      | .inl _ =>
        some true
      | .inr v => some v

def M.law04_awake (n : Nat)  : Option Bool :=
  Option.bind (M.wordseq_FindAll n ([([97] : Str), ([97] : Str), ([97] : Str), ([98] : Str), ([97] : Str), ([97] : Str)]) ([([97] : Str), ([97] : Str)])) fun findal =>
  Option.bind (M.wordseq_Replace n ([([97] : Str), ([98] : Str), ([98] : Str)]) ([([98] : Str)]) ([([99] : Str), ([100] : Str)]) (2 : Int)) fun replac =>
  Option.bind (M.wordseq_InsertAfter n ([([97] : Str)]) ([] : List Str) ([([120] : Str)]) (0 : Int)) fun insert =>
  if (findal.length : Int) = (2 : Int) then
    Option.bind (idx findal (0 : Int)) fun v =>
    if v = (0 : Int) then
      Option.bind (idx findal (1 : Int)) fun v1 =>
      if v1 = (4 : Int) then
        Option.bind (M.r04_Same n replac.1 ([([97] : Str), ([98] : Str), ([99] : Str), ([100] : Str)])) fun same =>
        if same = true then
          if replac.2 = (1 : Int) then
            Option.bind (M.r04_Same n insert.1 ([([120] : Str), ([97] : Str)])) fun same1 =>
            if same1 = true then
              some (decide (insert.2 = (1 : Int)))
            else
              some false
          else
            some false
        else
          some false
      else
        some false
    else
      some false
  else
    some false

def M.r04_Stands (n : Nat) (l : List Str) (part : List Str) (at0_ : Int) : Option Bool :=
  Option.bind (subC (l.length : Int) (part.length : Int)) fun v =>
  if v < at0_ then
    some false
  else
    Option.bind (addC at0_ (part.length : Int)) fun v1 =>
    Option.bind (slc l at0_ v1) fun v2 =>
    Option.bind (M.r04_Same n v2 part) fun same =>
    some same

def M.law04_WordseqOccurrencesDisjoint_loop2 (l : List Str) (part : List Str) (v2 : Int) : Nat → Int → Option (Unit ⊕ Bool)
  | 0, _ => none
  | n + 1, i =>
    if i < v2 then
      Option.bind (M.r04_Stands n l part i) fun stands1 =>
      if stands1 = true then
        some (.inr false)
      else
        Option.bind (addC i (1 : Int)) fun v4 =>
        M.law04_WordseqOccurrencesDisjoint_loop2 l part v2 n v4
    else
      some (.inl ())
def M.law04_WordseqOccurrencesDisjoint_loop3 (l : List Str) (part : List Str) : Nat → Int → Option (Unit ⊕ Bool)
  | 0, _ => none
  | n + 1, i1 =>
    if i1 < (l.length : Int) then
      Option.bind (M.r04_Stands n l part i1) fun stands2 =>
      if stands2 = true then
        some (.inr false)
      else
        M.law04_WordseqOccurrencesDisjoint_loop3 l part n (i1 + 1)
    else
      some (.inl ())
def M.law04_WordseqOccurrencesDisjoint_loop1 (l : List Str) (part : List Str) (v : Bool) (findal : (List Int)) : Nat → Int → Int → Option (Int ⊕ Bool)
  | 0, _, _ => none
  | n + 1, end0_, v1 =>
    if v1 < (findal.length : Int) then
      Option.bind (idx findal v1) fun v2 =>
      Option.bind (
          if v2 < end0_ then
            some true
          else
            Option.bind (M.r04_Stands n l part v2) fun stands =>
            some (!stands)
        ) fun v3 =>
        if v3 = true then
          some (.inr false)
        else
          Option.bind (M.law04_WordseqOccurrencesDisjoint_loop2 l part v2 n end0_) fun
            | .inl _ =>
              Option.bind (addC v2 (part.length : Int)) fun v5 =>
              Option.bind (addC v1 (1 : Int)) fun v6 =>
              M.law04_WordseqOccurrencesDisjoint_loop1 l part v findal n v5 v6
            | .inr v => some (.inr v)
    else
      some (.inl end0_)
def M.law04_WordseqOccurrencesDisjoint (n : Nat) (l : List Str) (part : List Str) : Option Bool :=
  Option.bind (
      Option.bind (M.law04_long n [l, part]) fun long =>
      if long = true then
        some true
      else
        some (decide ((part.length : Int) = (0 : Int)))
    ) fun v =>
    if v = true then
      Option.bind (M.law04_awake n) fun awake =>
      some awake
    else
      Option.bind (M.wordseq_FindAll n l part) fun findal =>
      Option.bind (M.law04_WordseqOccurrencesDisjoint_loop1 l part v findal n (0 : Int) (0 : Int)) fun
        | .inl end0_ =>
          Option.bind (M.law04_WordseqOccurrencesDisjoint_loop3 l part n end0_) fun
            | .inl _ =>
              Option.bind (M.law04_awake n) fun awake1 =>
              some awake1
            | .inr v => some v
        | .inr v => some v

def M.r04_Find_loop1 (l : List Str) (part : List Str) : Nat → (List Int) → Int → Option ((List Int))
  | 0, _, _ => none
  | n + 1, out, i =>
    if i < (l.length : Int) then
      Option.bind (M.r04_Stands n l part i) fun stands =>
      if stands = true then
        Option.bind (appC out [i]) fun out1 =>
        Option.bind (addC i (part.length : Int)) fun v =>
        M.r04_Find_loop1 l part n out1 v
      else
        M.r04_Find_loop1 l part n out (i + 1)
    else
      some out
def M.r04_Find (n : Nat) (l : List Str) (part : List Str) : Option ((List Int)) :=
  if (part.length : Int) = (0 : Int) then
    some ([] : List Int)
  else
    Option.bind (M.r04_Find_loop1 l part n ([] : List Int) (0 : Int)) fun out =>
      some out

def M.wordseq_Count (n : Nat) (l : List Str) (part : List Str) : Option Int :=
  Option.bind (M.wordseq_FindAll n l part) fun findal =>
  some (findal.length : Int)

def M.wordseq_Equal (n : Nat) (a : List Str) (b : List Str) : Option Bool :=
  Option.bind (M.slices_Equal_string_string n a b) fun string =>
  some string

def M.law04_WordseqFinds_loop1 (findal : (List Int)) (find : (List Int)) : Nat → Int → Option (Unit ⊕ Bool)
  | 0, _ => none
  | n + 1, v1 =>
    if v1 < (findal.length : Int) then
      Option.bind (idx findal v1) fun v2 =>
      Option.bind (idx find v1) fun v3 =>
      if v2 ≠ v3 then
        some (.inr false)
      else
        M.law04_WordseqFinds_loop1 findal find n (v1 + 1)
    else
      some (.inl ())
def M.law04_WordseqFinds (n : Nat) (l : List Str) (part : List Str) : Option Bool :=
  Option.bind (M.law04_long n [l, part]) fun long =>
  if long = true then
    Option.bind (M.law04_awake n) fun awake =>
    some awake
  else
    Option.bind (M.wordseq_FindAll n l part) fun findal =>
    Option.bind (M.r04_Find n l part) fun find =>
    Option.bind (
        if (findal.length : Int) ≠ (find.length : Int) then
          some true
        else
          Option.bind (M.wordseq_Count n l part) fun count =>
          some (decide (count ≠ (find.length : Int)))
      ) fun v =>
      if v = true then
        some false
      else
        Option.bind (M.law04_WordseqFinds_loop1 findal find n (0 : Int)) fun
          | .inl _ =>
            Option.bind (M.wordseq_Equal n l part) fun equal =>
            Option.bind (M.r04_Same n l part) fun same =>
            if (equal == same) = true then
              Option.bind (M.law04_awake n) fun awake1 =>
              some awake1
            else
              some false
          | .inr v => some v

def M.r04_chosen (l : List Int) (nth : Int) : Option ((List Int)) :=
  if nth = (0 : Int) then
    some l
  else
    if nth < (1 : Int) then
      if true = true then
        some ([] : List Int)
      else
        Option.bind (subC nth (1 : Int)) fun v =>
        Option.bind (idx l v) fun v1 =>
        some [v1]
    else
      if (l.length : Int) < nth then
        some ([] : List Int)
      else
        Option.bind (subC nth (1 : Int)) fun v2 =>
        Option.bind (idx l v2) fun v3 =>
        some [v3]

def M.r04_in_loop1 (l : List Int) (n0_ : Int) : Nat → Int → Option (Unit ⊕ Bool)
  | 0, _ => none
  | n + 1, i =>
    if i < (l.length : Int) then
      Option.bind (idx l i) fun v =>
      if v = n0_ then
        some (.inr true)
      else
        M.r04_in_loop1 l n0_ n (i + 1)
    else
      some (.inl ())
def M.r04_in (n : Nat) (l : List Int) (n0_ : Int) : Option Bool :=
  Option.bind (M.r04_in_loop1 l n0_ n (0 : Int)) fun
    | .inl _ =>
      some false
    | .inr v => some v

def M.r04_Replace_loop1 (l : List Str) (old : List Str) (fresh : List Str) (chosen : (List Int)) : Nat → (List Str) → Int → Option ((List Str))
  | 0, _, _ => none
  | n + 1, out, i =>
    if i < (l.length : Int) then
      Option.bind (M.r04_in n chosen i) fun in0_ =>
      if in0_ = true then
        Option.bind (appC out fresh) fun out1 =>
        Option.bind (subC (old.length : Int) (1 : Int)) fun v =>
        Option.bind (addC i v) fun v1 =>
        Option.bind (addC v1 (1 : Int)) fun v2 =>
        M.r04_Replace_loop1 l old fresh chosen n out1 v2
      else
        Option.bind (idx l i) fun v3 =>
        Option.bind (appC out [v3]) fun out2 =>
        M.r04_Replace_loop1 l old fresh chosen n out2 (i + 1)
    else
      some out
def M.r04_Replace (n : Nat) (l : List Str) (old : List Str) (fresh : List Str) (nth : Int) : Option ((List Str) × Int) :=
  Option.bind (M.r04_Find n l old) fun find =>
  Option.bind (M.r04_chosen find nth) fun chosen =>
  Option.bind (M.r04_Replace_loop1 l old fresh chosen n ([] : List Str) (0 : Int)) fun out =>
    some (out, (chosen.length : Int))

def M.law04_WordseqReplaces (n : Nat) (l : List Str) (old : List Str) (fresh : List Str) (nth : Int) : Option Bool :=
  Option.bind (
      Option.bind (M.law04_long n [l, old, fresh]) fun long =>
      if long = true then
        some true
      else
        some (decide ((40 : Int) < (fresh.length : Int)))
    ) fun v =>
    if v = true then
      Option.bind (M.law04_awake n) fun awake =>
      some awake
    else
      Option.bind (appC ([] : List Str) l) fun out =>
      Option.bind (M.wordseq_Replace n l old fresh nth) fun replac =>
      Option.bind (M.r04_Replace n l old fresh nth) fun replac1 =>
      Option.bind (M.r04_Same n replac.1 replac1.1) fun same =>
      if same = true then
        if replac.2 = replac1.2 then
          Option.bind (M.r04_Same n l out) fun same1 =>
          if same1 = true then
            Option.bind (M.law04_awake n) fun awake1 =>
            some awake1
          else
            some false
        else
          some false
      else
        some false

def M.r04_Behind (n : Nat) (l : List Str) (part : List Str) (fresh : List Str) (nth : Int) : Option ((List Str) × Int) :=
  if (part.length : Int) = (0 : Int) then
    if nth ≠ (0 : Int) then
      Option.bind (appC ([] : List Str) l) fun out =>
      some (out, (0 : Int))
    else
      Option.bind (appC ([] : List Str) fresh) fun out1 =>
      Option.bind (appC out1 l) fun out2 =>
      some (out2, (1 : Int))
  else
    Option.bind (appC ([] : List Str) part) fun out3 =>
    Option.bind (appC out3 fresh) fun out4 =>
    Option.bind (M.r04_Replace n l part out4 nth) fun replac =>
    some (replac.1, replac.2)

def M.law04_WordseqInserts (n : Nat) (l : List Str) (part : List Str) (fresh : List Str) (nth : Int) : Option Bool :=
  Option.bind (
      Option.bind (M.law04_long n [l, part, fresh]) fun long =>
      if long = true then
        some true
      else
        some (decide ((40 : Int) < (fresh.length : Int)))
    ) fun v =>
    if v = true then
      Option.bind (M.law04_awake n) fun awake =>
      some awake
    else
      Option.bind (M.wordseq_InsertAfter n l part fresh nth) fun insert =>
      Option.bind (M.r04_Behind n l part fresh nth) fun behind =>
      Option.bind (M.r04_Same n insert.1 behind.1) fun same =>
      if same = true then
        if insert.2 = behind.2 then
          Option.bind (M.law04_awake n) fun awake1 =>
          some awake1
        else
          some false
      else
        some false

def M.law04_WordseqReplaceOneByOne_loop1 (old : List Str) (fresh : List Str) : Nat → (List Str) → Int → Option (((List Str)) ⊕ Bool)
  | 0, _, _ => none
  | n + 1, one, k2 =>
    if (1 : Int) ≤ k2 then
      Option.bind (M.wordseq_Replace n one old fresh k2) fun replac1 =>
      if replac1.2 ≠ (1 : Int) then
        some (.inr false)
      else
        Option.bind (subC k2 (1 : Int)) fun v1 =>
        M.law04_WordseqReplaceOneByOne_loop1 old fresh n replac1.1 v1
    else
      some (.inl one)
def M.law04_WordseqReplaceOneByOne (n : Nat) (l : List Str) (old : List Str) (fresh : List Str) : Option Bool :=
  Option.bind (
      Option.bind (M.law04_long n [l, old, fresh]) fun long =>
      if long = true then
        some true
      else
        if (60 : Int) < (l.length : Int) then
          some true
        else
          some (decide ((20 : Int) < (fresh.length : Int)))
    ) fun v =>
    if v = true then
      Option.bind (M.law04_awake n) fun awake =>
      some awake
    else
      Option.bind (M.wordseq_Replace n l old fresh (0 : Int)) fun replac =>
      Option.bind (appC ([] : List Str) l) fun out =>
      Option.bind (M.law04_WordseqReplaceOneByOne_loop1 old fresh n out replac.2) fun
        | .inl one =>
          Option.bind (M.wordseq_Replace n l old old (0 : Int)) fun replac2 =>
          Option.bind (M.wordseq_Count n l old) fun count =>
          if replac.2 = count then
            if replac2.2 = replac.2 then
              Option.bind (M.r04_Same n one replac.1) fun same =>
              if same = true then
                Option.bind (M.r04_Same n replac2.1 l) fun same1 =>
                if same1 = true then
                  Option.bind (M.law04_awake n) fun awake1 =>
                  some awake1
                else
                  some false
              else
                some false
            else
              some false
          else
            some false
        | .inr v => some v

def M.r04_Word_loop1 (s0_ : Str) : Nat → Int → Option (Unit ⊕ Bool)
  | 0, _ => none
  | n + 1, i =>
    if i < (s0_.length : Int) then
      Option.bind (idx s0_ i) fun b =>
      if (b.toNat : Int) < (33 : Int) then
        if true = true then
          some (.inr false)
        else
          M.r04_Word_loop1 s0_ n (i + 1)
      else
        Option.bind (idx s0_ i) fun b1 =>
        if (126 : Int) < (b1.toNat : Int) then
          some (.inr false)
        else
          M.r04_Word_loop1 s0_ n (i + 1)
    else
      some (.inl ())
def M.r04_Word (n : Nat) (s0_ : Str) : Option Bool :=
  Option.bind (
      if (s0_.length : Int) < (1 : Int) then
        some true
      else
        some (decide ((24 : Int) < (s0_.length : Int)))
    ) fun v =>
    if v = true then
      some false
    else
      Option.bind (M.r04_Word_loop1 s0_ n (0 : Int)) fun
        | .inl _ =>
          some true
        | .inr v => some v

def M.r04_May_loop1 (l : List Str) : Nat → Int → Option (Unit ⊕ Bool)
  | 0, _ => none
  | n + 1, i =>
    if i < (l.length : Int) then
      Option.bind (idx l i) fun v =>
      Option.bind (M.r04_Word n v) fun word =>
      if word = false then
        some (.inr false)
      else
        M.r04_May_loop1 l n (i + 1)
    else
      some (.inl ())
def M.r04_May (n : Nat) (l : List Str) : Option Bool :=
  if (256 : Int) < (l.length : Int) then
    some false
  else
    Option.bind (M.r04_May_loop1 l n (0 : Int)) fun
      | .inl _ =>
        some true
      | .inr v => some v

def M.r04_Text_loop1 (l : List Str) : Nat → Str → Int → Option Str
  | 0, _, _ => none
  | n + 1, s0_, i =>
    if i < (l.length : Int) then
      Option.bind (
          if (0 : Int) < i then
            Option.bind (catC s0_ ([32] : Str)) fun v =>
            some v
          else
            some s0_
        ) fun s0_1 =>
        Option.bind (idx l i) fun v1 =>
        Option.bind (catC s0_1 v1) fun v2 =>
        M.r04_Text_loop1 l n v2 (i + 1)
    else
      some s0_
def M.r04_Text (n : Nat) (l : List Str) : Option Str :=
  Option.bind (M.r04_Text_loop1 l n ([] : Str) (0 : Int)) fun s0_ =>
    some s0_

def M.slices_IndexFunc_string_string_loop1 (s0_ : List Str) (f : Str → Option Bool) : Nat → Int → Option (Unit ⊕ Int)
  | 0, _ => none
  | n + 1, v =>
    if v < (s0_.length : Int) then
      Option.bind (idx s0_ v) fun v1 =>
      Option.bind (f v1) fun v2 =>
      if v2 = true then
        some (.inr v)
      else
        M.slices_IndexFunc_string_string_loop1 s0_ f n (v + 1)
    else
      some (.inl ())
def M.slices_IndexFunc_string_string (n : Nat) (s0_ : List Str) (f : Str → Option Bool) : Option Int :=
  Option.bind (M.slices_IndexFunc_string_string_loop1 s0_ f n (0 : Int)) fun
    | .inl _ =>
      some (-1 : Int)
    | .inr v => some v

def M.slices_ContainsFunc_string_string (n : Nat) (s0_ : List Str) (f : Str → Option Bool) : Option Bool :=
  Option.bind (M.slices_IndexFunc_string_string n s0_ f) fun string =>
  some (decide ((0 : Int) ≤ string))

end Go.Proofs.Ytgicfjjhchohaaa
