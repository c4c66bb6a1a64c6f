/-
  What the functions compute: plain functions, written by program out of the code; no machine in sight.
-/
import Derived.Test.YtalogjkalmkpjaaGreatDoorMod
set_option linter.unusedVariables false
set_option linter.unusedSimpArgs false
namespace Go.Proofs.YtalogjkalmkpjaaGreatDoor
open Go Go.Dec
def gv0 : List Str := [([] : Str), ([91, 43, 32] : Str), ([91, 45, 32] : Str)]
def gv1 : List Str := [([] : Str), ([32, 43, 93] : Str), ([32, 45, 93] : Str)]
def gv2 : List Str := [([98, 111, 111, 107] : Str), ([112, 97, 114, 116] : Str), ([115, 101, 99, 116, 105, 111, 110] : Str), ([112, 97, 114, 97, 103, 114, 97, 112, 104] : Str), ([116, 97, 98, 108, 101] : Str), ([114, 111, 119] : Str), ([99, 101, 108, 108] : Str), ([110, 111, 116, 101] : Str)]
structure api_Id where
  Act : Int
  Item : Int
  N : Int
theorem api_Id.eq_iff (a b : api_Id) : (a.Act = b.Act ∧ a.Item = b.Item ∧ a.N = b.N) ↔ a = b := ⟨fun h => by cases a; cases b; simp_all, fun h => by subst h; simp⟩
instance : DecidableEq api_Id := fun a b => decidable_of_iff _ (api_Id.eq_iff a b)
def zapi_Id : api_Id := ⟨(0 : Int), (0 : Int), (0 : Int)⟩
structure api_TrackedWord where
  State : Int
  Text : Str
theorem api_TrackedWord.eq_iff (a b : api_TrackedWord) : (a.State = b.State ∧ a.Text = b.Text) ↔ a = b := ⟨fun h => by cases a; cases b; simp_all, fun h => by subst h; simp⟩
instance : DecidableEq api_TrackedWord := fun a b => decidable_of_iff _ (api_TrackedWord.eq_iff a b)
def zapi_TrackedWord : api_TrackedWord := ⟨(0 : Int), ([] : Str)⟩
structure api_TrackedUnit where
  State : Int
  Kind : Int
  Id : api_Id
  Label : Str
  Was : Str
  Moved : Bool
  Head : List api_TrackedWord
  Words : List api_TrackedWord
  Kids : List api_TrackedUnit
def zapi_TrackedUnit : api_TrackedUnit := ⟨(0 : Int), (0 : Int), zapi_Id, ([] : Str), ([] : Str), false, ([] : List api_TrackedWord), ([] : List api_TrackedWord), ([] : List api_TrackedUnit)⟩
def M.markup_validID_loop1  : List Int → Option (Unit ⊕ Bool)
  | [] =>
    some (.inl ())
  | e :: es =>
    if e < (0 : Int) then
      some (.inr false)
    else
      if (1048576 : Int) < e then
        some (.inr false)
      else
        M.markup_validID_loop1 es
def M.markup_validID (id : api_Id) : Option Bool :=
  Option.bind (M.markup_validID_loop1 [id.Act, id.Item, id.N]) fun
    | .inl _ =>
      some true
    | .inr ret0 => some ret0
def M.markup_isPlaceholder (t : api_TrackedUnit) : Option Bool :=
  Option.bind (
      if t.Kind = (0 : Int) then
        if (t.Label == ([] : Str)) = true then
          if (t.Was == ([] : Str)) = true then
            Option.bind (addC (t.Head.length : Int) (t.Words.length : Int)) fun v =>
            Option.bind (addC v (t.Kids.length : Int)) fun v1 =>
            some (decide (v1 = (0 : Int)))
          else
            some false
        else
          some false
      else
        some false
    ) fun empty =>
    if empty = true then
      if t.State = (2 : Int) then
        if t.Moved = true then
          Option.bind (M.markup_validID t.Id) fun validi =>
          some validi
        else
          some false
      else
        some false
    else
      some false
def M.slices_IndexFunc_api_TrackedWord_api_TrackedWord_loop1 (s0_ : List api_TrackedWord) (f : api_TrackedWord → Option Bool) : Nat → Int → Option (Unit ⊕ Int)
  | 0, _ => none
  | n + 1, v =>
    if v < (s0_.length : Int) then
      Option.bind (idx s0_ v) fun v1 =>
      Option.bind (f v1) fun v2 =>
      if v2 = true then
        some (.inr v)
      else
        M.slices_IndexFunc_api_TrackedWord_api_TrackedWord_loop1 s0_ f n (v + 1)
    else
      some (.inl ())
def M.slices_IndexFunc_api_TrackedWord_api_TrackedWord (n : Nat) (s0_ : List api_TrackedWord) (f : api_TrackedWord → Option Bool) : Option Int :=
  Option.bind (M.slices_IndexFunc_api_TrackedWord_api_TrackedWord_loop1 s0_ f n (0 : Int)) fun
    | .inl _ =>
      some (-1 : Int)
    | .inr ret0 => some ret0
def M.slices_ContainsFunc_api_TrackedWord_api_TrackedWord (n : Nat) (s0_ : List api_TrackedWord) (f : api_TrackedWord → Option Bool) : Option Bool :=
  Option.bind (M.slices_IndexFunc_api_TrackedWord_api_TrackedWord n s0_ f) fun tracke =>
  some (decide ((0 : Int) ≤ tracke))
def M.slices_IndexFunc_string_string_loop1 (s0_ : List Str) (f : Str → Option Bool) : Nat → Int → Option (Unit ⊕ Int)
  | 0, _ => none
  | n + 1, v =>
    if v < (s0_.length : Int) then
      Option.bind (idx s0_ v) fun v1 =>
      Option.bind (f v1) fun v2 =>
      if v2 = true then
        some (.inr v)
      else
        M.slices_IndexFunc_string_string_loop1 s0_ f n (v + 1)
    else
      some (.inl ())
def M.slices_IndexFunc_string_string (n : Nat) (s0_ : List Str) (f : Str → Option Bool) : Option Int :=
  Option.bind (M.slices_IndexFunc_string_string_loop1 s0_ f n (0 : Int)) fun
    | .inl _ =>
      some (-1 : Int)
    | .inr ret0 => some ret0
def M.slices_ContainsFunc_string_string (n : Nat) (s0_ : List Str) (f : Str → Option Bool) : Option Bool :=
  Option.bind (M.slices_IndexFunc_string_string n s0_ f) fun string =>
  some (decide ((0 : Int) ≤ string))
def M.slices_IndexFunc_byte_byte_loop1 (s0_ : List Int) (f : Int → Option Bool) : Nat → Int → Option (Unit ⊕ Int)
  | 0, _ => none
  | n + 1, v =>
    if v < (s0_.length : Int) then
      Option.bind (idx s0_ v) fun v1 =>
      Option.bind (f v1) fun v2 =>
      if v2 = true then
        some (.inr v)
      else
        M.slices_IndexFunc_byte_byte_loop1 s0_ f n (v + 1)
    else
      some (.inl ())
def M.slices_IndexFunc_byte_byte (n : Nat) (s0_ : List Int) (f : Int → Option Bool) : Option Int :=
  Option.bind (M.slices_IndexFunc_byte_byte_loop1 s0_ f n (0 : Int)) fun
    | .inl _ =>
      some (-1 : Int)
    | .inr ret0 => some ret0
def M.slices_ContainsFunc_byte_byte (n : Nat) (s0_ : List Int) (f : Int → Option Bool) : Option Bool :=
  Option.bind (M.slices_IndexFunc_byte_byte n s0_ f) fun byte =>
  some (decide ((0 : Int) ≤ byte))
def M.wordseq_word_1 (c : Int) : Option Bool :=
  if c < (33 : Int) then
    some true
  else
    some (decide ((126 : Int) < c))
def M.wordseq_word (n : Nat) (s0_ : Str) : Option Bool :=
  if (s0_ != ([] : Str)) = true then
    if (s0_.length : Int) ≤ (24 : Int) then
      Option.bind (M.slices_ContainsFunc_byte_byte n (bytesOf s0_) (fun s0 => M.wordseq_word_1 s0)) fun byte =>
      some (!byte)
    else
      some false
  else
    some false
def M.wordseq_Valid_1 (n : Nat) (s0_ : Str) : Option Bool :=
  Option.bind (M.wordseq_word n s0_) fun word =>
  some (!word)
def M.wordseq_Valid (n : Nat) (l : List Str) : Option Bool :=
  if (l.length : Int) ≤ (256 : Int) then
    Option.bind (M.slices_ContainsFunc_string_string n l (fun s0 => M.wordseq_Valid_1 n s0)) fun string =>
    some (!string)
  else
    some false
def M.markup_isWord (n : Nat) (s0_ : Str) : Option Bool :=
  Option.bind (M.wordseq_Valid n [s0_]) fun valid =>
  some valid
def M.markup_validRow_1 (n : Nat) (w : api_TrackedWord) : Option Bool :=
  Option.bind (M.markup_isWord n w.Text) fun isword =>
  if isword = false then
    some true
  else
    if w.State < (0 : Int) then
      some true
    else
      some (decide ((2 : Int) < w.State))
def M.markup_validRow (n : Nat) (l : List api_TrackedWord) : Option Bool :=
  if (l.length : Int) ≤ (512 : Int) then
    Option.bind (M.slices_ContainsFunc_api_TrackedWord_api_TrackedWord n l (fun s0 => M.markup_validRow_1 n s0)) fun tracke =>
    some (!tracke)
  else
    some false
def M.strings_indexFunc_loop1 (s0_ : Str) (f : Int → Option Bool) (truth : Bool) : Nat → Nat → Option (Nat ⊕ Int)
  | 0, _ => none
  | n + 1, v =>
    if v < s0_.length then
      Option.bind (f ((runeAt s0_ v).1 : Int)) fun v1 =>
      if (v1 == truth) = true then
        some (.inr (v : Int))
      else
        M.strings_indexFunc_loop1 s0_ f truth n (v + (runeAt s0_ v).2)
    else
      some (.inl v)
def M.strings_indexFunc (n : Nat) (s0_ : Str) (f : Int → Option Bool) (truth : Bool) : Option Int :=
  Option.bind (M.strings_indexFunc_loop1 s0_ f truth n 0) fun
    | .inl v =>
      some (-1 : Int)
    | .inr ret0 => some ret0
def M.strings_IndexFunc (n : Nat) (s0_ : Str) (f : Int → Option Bool) : Option Int :=
  Option.bind (M.strings_indexFunc n s0_ f true) fun indexf =>
  some indexf
def M.label_parted_1 (b : Int) : Option Bool :=
  if b < (48 : Int) then
    some true
  else
    some (decide ((57 : Int) < b))
def M.label_parted (n : Nat) (s0_ : Str) : Option (Str × Str) :=
  Option.bind (M.strings_IndexFunc n s0_ (fun s0 => M.label_parted_1 s0)) fun indexf =>
  if indexf < (0 : Int) then
    some (s0_, ([] : Str))
  else
    Option.bind (slcHi s0_ indexf) fun v =>
    Option.bind (slcLo s0_ indexf) fun v1 =>
    some (v, v1)
def M.strings_ContainsFunc (n : Nat) (s0_ : Str) (f : Int → Option Bool) : Option Bool :=
  Option.bind (M.strings_IndexFunc n s0_ f) fun indexf =>
  some (decide ((0 : Int) ≤ indexf))
def M.label_Valid_1 (b : Int) : Option Bool :=
  if b < (65 : Int) then
    some true
  else
    some (decide ((90 : Int) < b))
def M.label_Valid (n : Nat) (s0_ : Str) : Option Bool :=
  Option.bind (M.label_parted n s0_) fun parted =>
  if (1 : Int) ≤ (parted.1.length : Int) then
    if (parted.1.length : Int) ≤ (4 : Int) then
      Option.bind (idx parted.1 (0 : Int)) fun b =>
      if (b.toNat : Int) ≠ (48 : Int) then
        if (parted.2.length : Int) ≤ (3 : Int) then
          Option.bind (M.strings_ContainsFunc n parted.2 (fun s0 => M.label_Valid_1 s0)) fun contai =>
          some (!contai)
        else
          some false
      else
        some false
    else
      some false
  else
    some false
def M.markup_validUnit (n : Nat) (t : api_TrackedUnit) : Option Bool :=
  Option.bind (
      if t.Kind < (0 : Int) then
        some true
      else
        if (7 : Int) < t.Kind then
          some true
        else
          Option.bind (M.markup_validID t.Id) fun validi =>
          some (!validi)
    ) fun v =>
    if v = true then
      some false
    else
      Option.bind (
          Option.bind (M.markup_validRow n t.Head) fun validr =>
          if validr = false then
            some true
          else
            Option.bind (M.markup_validRow n t.Words) fun validr1 =>
            some (!validr1)
        ) fun v1 =>
        if v1 = true then
          some false
        else
          Option.bind (
              if ((decide (t.Kind = (0 : Int))) != (t.Label == ([] : Str))) = true then
                some ((decide (t.Kind = (0 : Int))) != (t.Label == ([] : Str)))
              else
                if (t.Label != ([] : Str)) = true then
                  Option.bind (M.label_Valid n t.Label) fun valid =>
                  some (!valid)
                else
                  some false
            ) fun v2 =>
            if v2 = true then
              some false
            else
              Option.bind (
                  if (t.Was != ([] : Str)) = true then
                    Option.bind (M.label_Valid n t.Was) fun valid1 =>
                    if valid1 = false then
                      some true
                    else
                      some (t.Was == t.Label)
                  else
                    some false
                ) fun v3 =>
                if v3 = true then
                  some false
                else
                  if t.State = (1 : Int) then
                    some true
                  else
                    if t.State = (0 : Int) then
                      some (!t.Moved)
                    else
                      if t.State = (2 : Int) then
                        some (!t.Moved)
                      else
                        some false
def M.markup_validTree_1 (slf : api_TrackedUnit → Int → Option Bool) (k : api_TrackedUnit) (c : Int) : Option Bool :=
  Option.bind (addC c (1 : Int)) fun v =>
  Option.bind (slf k v) fun validt =>
  some (!validt)
def M.slices_IndexFunc_api_TrackedUnit_api_TrackedUnit_loop1 (s0_ : List api_TrackedUnit) (f : api_TrackedUnit → Option Bool) : Nat → Int → Option (Unit ⊕ Int)
  | 0, _ => none
  | n + 1, v =>
    if v < (s0_.length : Int) then
      Option.bind (idx s0_ v) fun v1 =>
      Option.bind (f v1) fun v2 =>
      if v2 = true then
        some (.inr v)
      else
        M.slices_IndexFunc_api_TrackedUnit_api_TrackedUnit_loop1 s0_ f n (v + 1)
    else
      some (.inl ())
def M.slices_IndexFunc_api_TrackedUnit_api_TrackedUnit (n : Nat) (s0_ : List api_TrackedUnit) (f : api_TrackedUnit → Option Bool) : Option Int :=
  Option.bind (M.slices_IndexFunc_api_TrackedUnit_api_TrackedUnit_loop1 s0_ f n (0 : Int)) fun
    | .inl _ =>
      some (-1 : Int)
    | .inr ret0 => some ret0
def M.slices_ContainsFunc_api_TrackedUnit_api_TrackedUnit (n : Nat) (s0_ : List api_TrackedUnit) (f : api_TrackedUnit → Option Bool) : Option Bool :=
  Option.bind (M.slices_IndexFunc_api_TrackedUnit_api_TrackedUnit n s0_ f) fun tracke =>
  some (decide ((0 : Int) ≤ tracke))
def M.markup_validTree : Nat → api_TrackedUnit → Int → Option Bool
  | 0, _, _ => none
  | n + 1, t, depth =>
    if (8 : Int) < depth then
      some false
    else
      Option.bind (
          if (0 : Int) < depth then
            Option.bind (M.markup_isPlaceholder t) fun isplac =>
            some isplac
          else
            some false
        ) fun v =>
        if v = true then
          some true
        else
          Option.bind (M.markup_validUnit n t) fun validu =>
          if validu = true then
            Option.bind (M.slices_ContainsFunc_api_TrackedUnit_api_TrackedUnit n t.Kids (fun s0 => M.markup_validTree_1 (M.markup_validTree n) s0 depth)) fun tracke =>
            some (!tracke)
          else
            some false
def M.markup_sign (t : api_TrackedUnit) : Option Str :=
  Option.bind (
      if t.Moved = true then
        some (decide (t.State = (1 : Int)))
      else
        some false
    ) fun v =>
    if v = true then
      some ([62] : Str)
    else
      if t.Moved = true then
        some ([60] : Str)
      else
        if t.State = (1 : Int) then
          some ([43] : Str)
        else
          if t.State = (2 : Int) then
            some ([45] : Str)
          else
            some ([61] : Str)
def M.markup_formatID (id : api_Id) : Option Str :=
  Option.bind (itoaM id.Act) fun itoa =>
  Option.bind (catC ([35] : Str) itoa) fun v =>
  Option.bind (catC v ([46] : Str)) fun v1 =>
  Option.bind (itoaM id.Item) fun itoa1 =>
  Option.bind (catC v1 itoa1) fun v2 =>
  Option.bind (catC v2 ([46] : Str)) fun v3 =>
  Option.bind (itoaM id.N) fun itoa2 =>
  Option.bind (catC v3 itoa2) fun v4 =>
  some v4
def M.unit_KindName (kind : Int) : Option Str :=
  if kind < (0 : Int) then
    some ([] : Str)
  else
    if (8 : Int) ≤ kind then
      some ([] : Str)
    else
      Option.bind (idx gv2 kind) fun v =>
      some v
def M.markup_escape (s0_ : Str) : Option Str :=
  Option.bind (slcHi s0_ (1 : Int)) fun v =>
  Option.bind (containsM ([91, 93, 43, 45, 124, 35, 92] : Str) v) fun contai =>
  if contai = true then
    Option.bind (catC ([92] : Str) s0_) fun v1 =>
    some v1
  else
    some s0_
def M.strings_Join_loop2 (sep : Str) : List Str → Str → Option Str
  | [], b2 =>
    some b2
  | e1 :: es1, b2 =>
    Option.bind (appC b2 sep) fun b3 =>
    Option.bind (appC b3 e1) fun b4 =>
    M.strings_Join_loop2 sep es1 b4
def M.strings_Join_loop1  : List Str → Int → Option Int
  | [], n0_1 =>
    some n0_1
  | e :: es, n0_1 =>
    Option.bind (subC (9223372036854775807 : Int) n0_1) fun v6 =>
    if v6 < (e.length : Int) then
      none
    else
      Option.bind (addC n0_1 (e.length : Int)) fun v7 =>
      M.strings_Join_loop1 es v7
def M.strings_Join (elems : List Str) (sep : Str) : Option Str :=
  if (elems.length : Int) = (0 : Int) then
    some ([] : Str)
  else
    if (elems.length : Int) = (1 : Int) then
      Option.bind (idx elems (0 : Int)) fun v =>
      some v
    else
      Option.bind (
          if (0 : Int) < (sep.length : Int) then
            Option.bind (
                Option.bind (subC (elems.length : Int) (1 : Int)) fun v1 =>
                Option.bind (quoC (9223372036854775807 : Int) v1) fun v2 =>
                if v2 ≤ (sep.length : Int) then
                  none
                else
                  some ()
              ) fun _ =>
              Option.bind (subC (elems.length : Int) (1 : Int)) fun v3 =>
              Option.bind (mulC (sep.length : Int) v3) fun v4 =>
              Option.bind (addC (0 : Int) v4) fun v5 =>
              some v5
          else
            some (0 : Int)
        ) fun n0_ =>
        Option.bind (M.strings_Join_loop1 elems n0_) fun n0_1 =>
          Option.bind (growC n0_1) fun _ =>
          Option.bind (idx elems (0 : Int)) fun v8 =>
          Option.bind (appC ([] : Str) v8) fun b1 =>
          Option.bind (slcLo elems (1 : Int)) fun v9 =>
          Option.bind (M.strings_Join_loop2 sep v9 b1) fun b2 =>
            some b2
def M.markup_FormatWords_1 (state : Int) (words : List Str) (c : List Str) : Option (List Str) :=
  Option.bind (idx gv0 state) fun v =>
  Option.bind (M.strings_Join words ([32] : Str)) fun join =>
  Option.bind (catC v join) fun v1 =>
  Option.bind (idx gv1 state) fun v2 =>
  Option.bind (catC v1 v2) fun v3 =>
  Option.bind (appC c [v3]) fun out =>
  some out
def M.markup_runs_i0_loop2 (l : List api_TrackedWord) (from0_ : Int) : Nat → Int → (List Str) → Option (Int × (List Str))
  | 0, _, _ => none
  | n + 1, to0_, words =>
    if to0_ < (l.length : Int) then
      Option.bind (idx l to0_) fun v1 =>
      Option.bind (idx l from0_) fun v2 =>
      if v1.State = v2.State then
        Option.bind (idx l to0_) fun v3 =>
        Option.bind (M.markup_escape v3.Text) fun escape =>
        Option.bind (appC words [escape]) fun words1 =>
        M.markup_runs_i0_loop2 l from0_ n (to0_ + 1) words1
      else
        some (to0_, words)
    else
      some (to0_, words)
def M.markup_runs_i0_loop1 (l : List api_TrackedWord) : Nat → Int → (List Str) → Option ((List Str))
  | 0, _, _ => none
  | n + 1, from0_, v =>
    if from0_ < (l.length : Int) then
      Option.bind (M.markup_runs_i0_loop2 l from0_ n from0_ ([] : List Str)) fun (to0_, words) =>
        Option.bind (idx l from0_) fun v4 =>
        Option.bind (M.markup_FormatWords_1 v4.State words v) fun w =>
        M.markup_runs_i0_loop1 l n to0_ w
    else
      some v
def M.markup_runs_i0 (n : Nat) (l : List api_TrackedWord) (c : List Str) : Option (List Str) :=
  Option.bind (M.markup_runs_i0_loop1 l n (0 : Int) c) fun v =>
    some v
def M.markup_FormatWords (n : Nat) (l : List api_TrackedWord) : Option Str :=
  Option.bind (M.markup_validRow n l) fun validr =>
  if validr = false then
    some ([] : Str)
  else
    Option.bind (M.markup_runs_i0 n l ([] : List Str)) fun out =>
    Option.bind (M.strings_Join out ([32] : Str)) fun join =>
    some join
def M.markup_line (n : Nat) (t : api_TrackedUnit) (depth : Int) : Option Str :=
  Option.bind (repeatM ([32, 32] : Str) depth) fun repeat0_ =>
  Option.bind (M.markup_sign t) fun sign =>
  Option.bind (catC repeat0_ sign) fun v =>
  Option.bind (catC v ([32] : Str)) fun v1 =>
  Option.bind (M.markup_sign t) fun sign1 =>
  if (sign1 == ([60] : Str)) = true then
    Option.bind (M.markup_formatID t.Id) fun format =>
    Option.bind (catC v1 format) fun v2 =>
    some v2
  else
    Option.bind (M.unit_KindName t.Kind) fun kindna =>
    Option.bind (catC v1 kindna) fun v3 =>
    Option.bind (
        if (t.Label != ([] : Str)) = true then
          Option.bind (catC ([32] : Str) t.Label) fun v4 =>
          Option.bind (catC v3 v4) fun v5 =>
          some v5
        else
          some v3
      ) fun s0_ =>
      Option.bind (
          if (t.Was != ([] : Str)) = true then
            Option.bind (catC ([32, 119, 97, 115, 32] : Str) t.Was) fun v6 =>
            Option.bind (catC s0_ v6) fun v7 =>
            some v7
          else
            some s0_
        ) fun s0_1 =>
        Option.bind (M.markup_formatID t.Id) fun format1 =>
        Option.bind (catC ([32] : Str) format1) fun v8 =>
        Option.bind (catC s0_1 v8) fun v9 =>
        Option.bind (
            if (0 : Int) < (t.Head.length : Int) then
              Option.bind (M.markup_FormatWords n t.Head) fun format2 =>
              Option.bind (catC ([58, 32] : Str) format2) fun v10 =>
              Option.bind (catC v9 v10) fun v11 =>
              some v11
            else
              some v9
          ) fun s0_2 =>
          if (0 : Int) < (t.Words.length : Int) then
            Option.bind (M.markup_FormatWords n t.Words) fun format3 =>
            Option.bind (catC ([32, 124, 32] : Str) format3) fun v12 =>
            Option.bind (catC s0_2 v12) fun v13 =>
            some v13
          else
            some s0_2
def M.markup_Lines_1_loop1 (depth : Int) (slf : api_TrackedUnit → Int → (List Str) → Option (List Str)) : List api_TrackedUnit → (List Str) → Option ((List Str))
  | [], v =>
    some v
  | e :: es, v =>
    Option.bind (addC depth (1 : Int)) fun v1 =>
    Option.bind (slf e v1 v) fun w =>
    M.markup_Lines_1_loop1 depth slf es w
def M.markup_Lines_1 : Nat → api_TrackedUnit → Int → (List Str) → Option (List Str)
  | 0, _, _, _ => none
  | n + 1, t, depth, c =>
    Option.bind (M.markup_line n t depth) fun line =>
    Option.bind (appC c [line]) fun out =>
    Option.bind (M.markup_Lines_1_loop1 depth (M.markup_Lines_1 n) t.Kids out) fun v =>
      some v
def M.markup_Lines (n : Nat) (t : api_TrackedUnit) : Option (List Str) :=
  Option.bind (M.markup_validTree n t (0 : Int)) fun validt =>
  if validt = false then
    some ([] : List Str)
  else
    Option.bind (M.markup_Lines_1 n t (0 : Int) ([] : List Str)) fun out =>
    some out
def M.markup_Format (n : Nat) (t : api_TrackedUnit) : Option (Str × Int) :=
  Option.bind (M.markup_Lines n t) fun lines =>
  if (lines.length : Int) = (0 : Int) then
    some (([] : Str), (1 : Int))
  else
    Option.bind (M.strings_Join lines ([10] : Str)) fun join =>
    Option.bind (catC join ([10] : Str)) fun v =>
    if (16384 : Int) < (v.length : Int) then
      some (([] : Str), (6 : Int))
    else
      some (v, (0 : Int))
def M.law53_awake (n : Nat)  : Option Bool :=
  Option.bind (M.markup_Format n (⟨(0 : Int), (2 : Int), (⟨(1 : Int), (0 : Int), (1 : Int)⟩ : api_Id), ([53] : Str), ([52] : Str), false, ([] : List api_TrackedWord), [(⟨(0 : Int), ([97] : Str)⟩ : api_TrackedWord), (⟨(2 : Int), ([98] : Str)⟩ : api_TrackedWord), (⟨(1 : Int), ([99] : Str)⟩ : api_TrackedWord)], ([] : List api_TrackedUnit)⟩ : api_TrackedUnit)) fun format =>
  Option.bind (M.markup_FormatWords n ([(⟨(0 : Int), ([97] : Str)⟩ : api_TrackedWord), (⟨(2 : Int), ([98] : Str)⟩ : api_TrackedWord), (⟨(1 : Int), ([99] : Str)⟩ : api_TrackedWord)])) fun format1 =>
  if (format1 == ([97, 32, 91, 45, 32, 98, 32, 45, 93, 32, 91, 43, 32, 99, 32, 43, 93] : Str)) = true then
    if format.2 = (0 : Int) then
      some (format.1 == ([61, 32, 115, 101, 99, 116, 105, 111, 110, 32, 53, 32, 119, 97, 115, 32, 52, 32, 35, 49, 46, 48, 46, 49, 32, 124, 32, 97, 32, 91, 45, 32, 98, 32, 45, 93, 32, 91, 43, 32, 99, 32, 43, 93, 10] : Str))
    else
      some false
  else
    some false
def M.r53_few_loop3 (t : api_TrackedUnit) (deep : Int) (slf : api_TrackedUnit → Int → Int → Option Int) : Nat → Int → Int → Option Int
  | 0, _, _ => none
  | n + 1, most1, i2 =>
    Option.bind (
        if i2 < (t.Kids.length : Int) then
          some (decide ((0 : Int) ≤ most1))
        else
          some false
      ) fun v4 =>
      if v4 = true then
        Option.bind (idx t.Kids i2) fun v5 =>
        Option.bind (subC deep (1 : Int)) fun v6 =>
        Option.bind (slf v5 most1 v6) fun few =>
        Option.bind (addC i2 (1 : Int)) fun v7 =>
        M.r53_few_loop3 t deep slf n few v7
      else
        some most1
def M.r53_few_loop2 (t : api_TrackedUnit) : Nat → Int → Option (Unit ⊕ Int)
  | 0, _ => none
  | n + 1, i1 =>
    if i1 < (t.Words.length : Int) then
      Option.bind (idx t.Words i1) fun v3 =>
      if (100 : Int) < (v3.Text.length : Int) then
        some (.inr (-1 : Int))
      else
        M.r53_few_loop2 t n (i1 + 1)
    else
      some (.inl ())
def M.r53_few_loop1 (t : api_TrackedUnit) : Nat → Int → Option (Unit ⊕ Int)
  | 0, _ => none
  | n + 1, i =>
    if i < (t.Head.length : Int) then
      Option.bind (idx t.Head i) fun v2 =>
      if (100 : Int) < (v2.Text.length : Int) then
        some (.inr (-1 : Int))
      else
        M.r53_few_loop1 t n (i + 1)
    else
      some (.inl ())
def M.r53_few : Nat → api_TrackedUnit → Int → Int → Option Int
  | 0, _, _, _ => none
  | n + 1, t, most, deep =>
    Option.bind (subC most (1 : Int)) fun v =>
    Option.bind (
        if deep < (0 : Int) then
          some true
        else
          if (600 : Int) < (t.Head.length : Int) then
            some true
          else
            if (600 : Int) < (t.Words.length : Int) then
              some true
            else
              if (100 : Int) < (t.Label.length : Int) then
                some true
              else
                some (decide ((100 : Int) < (t.Was.length : Int)))
      ) fun v1 =>
      if v1 = true then
        some (-1 : Int)
      else
        Option.bind (M.r53_few_loop1 t n (0 : Int)) fun
          | .inl _ =>
            Option.bind (M.r53_few_loop2 t n (0 : Int)) fun
              | .inl _ =>
                Option.bind (M.r53_few_loop3 t deep (M.r53_few n) n v (0 : Int)) fun most1 =>
                  some most1
              | .inr ret0 => some ret0
          | .inr ret0 => some ret0
def M.r53_Few (n : Nat) (t : api_TrackedUnit) (most : Int) : Option Bool :=
  Option.bind (M.r53_few n t most (12 : Int)) fun few =>
  some (decide ((0 : Int) ≤ few))
def M.r53_number (n0_ : Int) : Option Bool :=
  if (0 : Int) ≤ n0_ then
    some (decide (n0_ ≤ (1048576 : Int)))
  else
    some false
def M.r53_numbers (id : api_Id) : Option Bool :=
  Option.bind (M.r53_number id.Act) fun number =>
  if number = true then
    Option.bind (M.r53_number id.Item) fun number1 =>
    if number1 = true then
      Option.bind (M.r53_number id.N) fun number2 =>
      some number2
    else
      some false
  else
    some false
def M.r53_Place (t : api_TrackedUnit) : Option Bool :=
  if t.State = (2 : Int) then
    if t.Moved = true then
      Option.bind (M.r53_numbers t.Id) fun number =>
      if number = true then
        if t.Kind = (0 : Int) then
          if (t.Label == ([] : Str)) = true then
            if (t.Was == ([] : Str)) = true then
              Option.bind (addC (t.Head.length : Int) (t.Words.length : Int)) fun v =>
              Option.bind (addC v (t.Kids.length : Int)) fun v1 =>
              some (decide (v1 = (0 : Int)))
            else
              some false
          else
            some false
        else
          some false
      else
        some false
    else
      some false
  else
    some false
def M.r04_Word_loop1 (s0_ : Str) : Nat → Int → Option (Unit ⊕ Bool)
  | 0, _ => none
  | n + 1, i =>
    if i < (s0_.length : Int) then
      Option.bind (idx s0_ i) fun b =>
      if (b.toNat : Int) < (33 : Int) then
        some (.inr false)
      else
        Option.bind (idx s0_ i) fun b1 =>
        if (126 : Int) < (b1.toNat : Int) then
          some (.inr false)
        else
          M.r04_Word_loop1 s0_ n (i + 1)
    else
      some (.inl ())
def M.r04_Word (n : Nat) (s0_ : Str) : Option Bool :=
  Option.bind (
      if (s0_.length : Int) < (1 : Int) then
        some true
      else
        some (decide ((24 : Int) < (s0_.length : Int)))
    ) fun v =>
    if v = true then
      some false
    else
      Option.bind (M.r04_Word_loop1 s0_ n (0 : Int)) fun
        | .inl _ =>
          some true
        | .inr ret0 => some ret0
def M.r53_MayRow_loop1 (l : List api_TrackedWord) : Nat → Int → Option (Unit ⊕ Bool)
  | 0, _ => none
  | n + 1, i =>
    if i < (l.length : Int) then
      Option.bind (idx l i) fun v =>
      Option.bind (M.r04_Word n v.Text) fun word =>
      if word = false then
        some (.inr false)
      else
        Option.bind (idx l i) fun v1 =>
        if v1.State < (0 : Int) then
          some (.inr false)
        else
          Option.bind (idx l i) fun v2 =>
          if (2 : Int) < v2.State then
            some (.inr false)
          else
            M.r53_MayRow_loop1 l n (i + 1)
    else
      some (.inl ())
def M.r53_MayRow (n : Nat) (l : List api_TrackedWord) : Option Bool :=
  Option.bind (M.r53_MayRow_loop1 l n (0 : Int)) fun
    | .inl _ =>
      some (decide ((l.length : Int) ≤ (512 : Int)))
    | .inr ret0 => some ret0
def M.r03_digits_loop1 (s0_ : Str) : Nat → Int → Option Int
  | 0, _ => none
  | n + 1, n0_ =>
    if n0_ < (s0_.length : Int) then
      Option.bind (idx s0_ n0_) fun b =>
      if (48 : Int) ≤ (b.toNat : Int) then
        Option.bind (idx s0_ n0_) fun b1 =>
        if (b1.toNat : Int) ≤ (57 : Int) then
          M.r03_digits_loop1 s0_ n (n0_ + 1)
        else
          some n0_
      else
        some n0_
    else
      some n0_
def M.r03_digits (n : Nat) (s0_ : Str) : Option Int :=
  Option.bind (M.r03_digits_loop1 s0_ n (0 : Int)) fun n0_ =>
    some n0_
def M.r03_May_loop1 (s0_ : Str) : Nat → Int → Option (Unit ⊕ Bool)
  | 0, _ => none
  | n + 1, i =>
    if i < (s0_.length : Int) then
      Option.bind (idx s0_ i) fun b1 =>
      if (b1.toNat : Int) < (65 : Int) then
        some (.inr false)
      else
        Option.bind (idx s0_ i) fun b2 =>
        if (90 : Int) < (b2.toNat : Int) then
          some (.inr false)
        else
          M.r03_May_loop1 s0_ n (i + 1)
    else
      some (.inl ())
def M.r03_May (n : Nat) (s0_ : Str) : Option Bool :=
  Option.bind (M.r03_digits n s0_) fun digits =>
  Option.bind (
      if digits < (1 : Int) then
        some true
      else
        if (4 : Int) < digits then
          some true
        else
          Option.bind (idx s0_ (0 : Int)) fun b =>
          if (b.toNat : Int) = (48 : Int) then
            some true
          else
            Option.bind (subC (s0_.length : Int) digits) fun v1 =>
            some (decide ((3 : Int) < v1))
    ) fun v =>
    if v = true then
      some false
    else
      Option.bind (M.r03_May_loop1 s0_ n digits) fun
        | .inl _ =>
          some true
        | .inr ret0 => some ret0
def M.r53_own (n : Nat) (t : api_TrackedUnit) : Option Bool :=
  Option.bind (
      if t.Kind < (0 : Int) then
        some true
      else
        if (7 : Int) < t.Kind then
          some true
        else
          Option.bind (M.r53_numbers t.Id) fun number =>
          if number = false then
            some true
          else
            Option.bind (M.r53_MayRow n t.Head) fun mayrow =>
            if mayrow = false then
              some true
            else
              Option.bind (M.r53_MayRow n t.Words) fun mayrow1 =>
              some (!mayrow1)
    ) fun v =>
    if v = true then
      some false
    else
      Option.bind (
          if ((decide (t.Kind = (0 : Int))) != (t.Label == ([] : Str))) = true then
            some true
          else
            if (t.Label != ([] : Str)) = true then
              Option.bind (M.r03_May n t.Label) fun may =>
              some (!may)
            else
              some false
        ) fun v1 =>
        if v1 = true then
          some false
        else
          Option.bind (
              if (t.Was != ([] : Str)) = true then
                Option.bind (M.r03_May n t.Was) fun may1 =>
                if may1 = false then
                  some true
                else
                  some (t.Was == t.Label)
              else
                some false
            ) fun v2 =>
            if v2 = true then
              some false
            else
              if t.State = (1 : Int) then
                some true
              else
                if t.State = (0 : Int) then
                  some (!t.Moved)
                else
                  if t.State = (2 : Int) then
                    some (!t.Moved)
                  else
                    some false
def M.r53_may_loop1 (t : api_TrackedUnit) (depth : Int) (slf : api_TrackedUnit → Int → Option Bool) : Nat → Int → Option (Unit ⊕ Bool)
  | 0, _ => none
  | n + 1, i =>
    if i < (t.Kids.length : Int) then
      Option.bind (idx t.Kids i) fun v1 =>
      Option.bind (addC depth (1 : Int)) fun v2 =>
      Option.bind (slf v1 v2) fun may =>
      if may = false then
        some (.inr false)
      else
        M.r53_may_loop1 t depth slf n (i + 1)
    else
      some (.inl ())
def M.r53_may : Nat → api_TrackedUnit → Int → Option Bool
  | 0, _, _ => none
  | n + 1, t, depth =>
    if (8 : Int) < depth then
      some false
    else
      Option.bind (
          if (0 : Int) < depth then
            Option.bind (M.r53_Place t) fun place =>
            some place
          else
            some false
        ) fun v =>
        if v = true then
          some true
        else
          Option.bind (M.r53_own n t) fun own =>
          if own = false then
            some false
          else
            Option.bind (M.r53_may_loop1 t depth (M.r53_may n) n (0 : Int)) fun
              | .inl _ =>
                some true
              | .inr ret0 => some ret0
def M.r53_May (n : Nat) (t : api_TrackedUnit) : Option Bool :=
  Option.bind (M.r53_may n t (0 : Int)) fun may =>
  some may
def M.r53_sign (t : api_TrackedUnit) : Option Str :=
  if t.Moved = true then
    if t.State = (1 : Int) then
      some ([62] : Str)
    else
      some ([60] : Str)
  else
    Option.bind (idx ([([61] : Str), ([43] : Str), ([45] : Str)]) t.State) fun v =>
    some v
def M.r17_Digits_loop1  : Nat → Int → Str → Option (Int × Str)
  | 0, _, _ => none
  | n + 1, n0_1, s0_ =>
    if (9 : Int) < n0_1 then
      Option.bind (remC n0_1 (10 : Int)) fun v =>
      Option.bind (addC (48 : Int) v) fun v1 =>
      Option.bind (catC (strOf [wrap8 v1]) s0_) fun v2 =>
      Option.bind (quoC n0_1 (10 : Int)) fun v3 =>
      M.r17_Digits_loop1 n v3 v2
    else
      some (n0_1, s0_)
def M.r17_Digits (n : Nat) (n0_ : Int) : Option Str :=
  Option.bind (M.r17_Digits_loop1 n n0_ ([] : Str)) fun (n0_1, s0_) =>
    Option.bind (addC (48 : Int) n0_1) fun v4 =>
    Option.bind (catC (strOf [wrap8 v4]) s0_) fun v5 =>
    some v5
def M.r53_mark (n : Nat) (id : api_Id) : Option Str :=
  Option.bind (M.r17_Digits n id.Act) fun digits =>
  Option.bind (catC ([35] : Str) digits) fun v =>
  Option.bind (catC v ([46] : Str)) fun v1 =>
  Option.bind (M.r17_Digits n id.Item) fun digits1 =>
  Option.bind (catC v1 digits1) fun v2 =>
  Option.bind (catC v2 ([46] : Str)) fun v3 =>
  Option.bind (M.r17_Digits n id.N) fun digits2 =>
  Option.bind (catC v3 digits2) fun v4 =>
  some v4
def M.r06_Name (kind : Int) : Option Str :=
  if kind < (0 : Int) then
    some ([] : Str)
  else
    if (7 : Int) < kind then
      some ([] : Str)
    else
      Option.bind (idx ([([98, 111, 111, 107] : Str), ([112, 97, 114, 116] : Str), ([115, 101, 99, 116, 105, 111, 110] : Str), ([112, 97, 114, 97, 103, 114, 97, 112, 104] : Str), ([116, 97, 98, 108, 101] : Str), ([114, 111, 119] : Str), ([99, 101, 108, 108] : Str), ([110, 111, 116, 101] : Str)]) kind) fun v =>
      some v
def M.r53_special (s0_ : Str) : Option Bool :=
  Option.bind (idx s0_ (0 : Int)) fun b =>
  if (b.toNat : Int) = (91 : Int) then
    some true
  else
    if (b.toNat : Int) = (93 : Int) then
      some true
    else
      if (b.toNat : Int) = (43 : Int) then
        some true
      else
        if (b.toNat : Int) = (45 : Int) then
          some true
        else
          if (b.toNat : Int) = (124 : Int) then
            some true
          else
            if (b.toNat : Int) = (35 : Int) then
              some true
            else
              some (decide ((b.toNat : Int) = (92 : Int)))
def M.r53_Row_loop1 (l : List api_TrackedWord) : Nat → Str → Int → Option Str
  | 0, _, _ => none
  | n + 1, s0_, i =>
    if i < (l.length : Int) then
      if i = (0 : Int) then
        Option.bind (addC i (1 : Int)) fun v =>
        if v = (l.length : Int) then
          Option.bind (
              if (0 : Int) < i then
                Option.bind (catC s0_ ([32] : Str)) fun v1 =>
                some v1
              else
                some s0_
            ) fun s0_1 =>
            Option.bind (
                Option.bind (idx l i) fun v2 =>
                Option.bind (idx ([([] : Str), ([91, 43, 32] : Str), ([91, 45, 32] : Str)]) v2.State) fun v3 =>
                Option.bind (catC s0_1 v3) fun v4 =>
                some v4
              ) fun s0_2 =>
              Option.bind (
                  Option.bind (idx l i) fun v5 =>
                  Option.bind (M.r53_special v5.Text) fun specia =>
                  if specia = true then
                    Option.bind (catC s0_2 (strOf [(92 : Int)])) fun v6 =>
                    some v6
                  else
                    some s0_2
                ) fun s0_3 =>
                Option.bind (idx l i) fun v7 =>
                Option.bind (catC s0_3 v7.Text) fun v8 =>
                Option.bind (idx l i) fun v9 =>
                Option.bind (idx ([([] : Str), ([32, 43, 93] : Str), ([32, 45, 93] : Str)]) v9.State) fun v10 =>
                Option.bind (catC v8 v10) fun v11 =>
                M.r53_Row_loop1 l n v11 (i + 1)
        else
          Option.bind (addC i (1 : Int)) fun v12 =>
          Option.bind (idx l v12) fun v13 =>
          Option.bind (idx l i) fun v14 =>
          Option.bind (
              if (0 : Int) < i then
                Option.bind (catC s0_ ([32] : Str)) fun v15 =>
                some v15
              else
                some s0_
            ) fun s0_4 =>
            Option.bind (
                Option.bind (idx l i) fun v16 =>
                Option.bind (idx ([([] : Str), ([91, 43, 32] : Str), ([91, 45, 32] : Str)]) v16.State) fun v17 =>
                Option.bind (catC s0_4 v17) fun v18 =>
                some v18
              ) fun s0_5 =>
              Option.bind (
                  Option.bind (idx l i) fun v19 =>
                  Option.bind (M.r53_special v19.Text) fun specia1 =>
                  if specia1 = true then
                    Option.bind (catC s0_5 (strOf [(92 : Int)])) fun v20 =>
                    some v20
                  else
                    some s0_5
                ) fun s0_6 =>
                Option.bind (idx l i) fun v21 =>
                Option.bind (catC s0_6 v21.Text) fun v22 =>
                if v13.State ≠ v14.State then
                  Option.bind (idx l i) fun v23 =>
                  Option.bind (idx ([([] : Str), ([32, 43, 93] : Str), ([32, 45, 93] : Str)]) v23.State) fun v24 =>
                  Option.bind (catC v22 v24) fun v25 =>
                  M.r53_Row_loop1 l n v25 (i + 1)
                else
                  M.r53_Row_loop1 l n v22 (i + 1)
      else
        Option.bind (subC i (1 : Int)) fun v26 =>
        Option.bind (idx l v26) fun v27 =>
        Option.bind (idx l i) fun v28 =>
        Option.bind (addC i (1 : Int)) fun v29 =>
        if v29 = (l.length : Int) then
          Option.bind (
              if (0 : Int) < i then
                Option.bind (catC s0_ ([32] : Str)) fun v30 =>
                some v30
              else
                some s0_
            ) fun s0_7 =>
            Option.bind (
                if v27.State ≠ v28.State then
                  Option.bind (idx l i) fun v31 =>
                  Option.bind (idx ([([] : Str), ([91, 43, 32] : Str), ([91, 45, 32] : Str)]) v31.State) fun v32 =>
                  Option.bind (catC s0_7 v32) fun v33 =>
                  some v33
                else
                  some s0_7
              ) fun s0_8 =>
              Option.bind (
                  Option.bind (idx l i) fun v34 =>
                  Option.bind (M.r53_special v34.Text) fun specia2 =>
                  if specia2 = true then
                    Option.bind (catC s0_8 (strOf [(92 : Int)])) fun v35 =>
                    some v35
                  else
                    some s0_8
                ) fun s0_9 =>
                Option.bind (idx l i) fun v36 =>
                Option.bind (catC s0_9 v36.Text) fun v37 =>
                Option.bind (idx l i) fun v38 =>
                Option.bind (idx ([([] : Str), ([32, 43, 93] : Str), ([32, 45, 93] : Str)]) v38.State) fun v39 =>
                Option.bind (catC v37 v39) fun v40 =>
                M.r53_Row_loop1 l n v40 (i + 1)
        else
          Option.bind (addC i (1 : Int)) fun v41 =>
          Option.bind (idx l v41) fun v42 =>
          Option.bind (idx l i) fun v43 =>
          Option.bind (
              if (0 : Int) < i then
                Option.bind (catC s0_ ([32] : Str)) fun v44 =>
                some v44
              else
                some s0_
            ) fun s0_10 =>
            Option.bind (
                if v27.State ≠ v28.State then
                  Option.bind (idx l i) fun v45 =>
                  Option.bind (idx ([([] : Str), ([91, 43, 32] : Str), ([91, 45, 32] : Str)]) v45.State) fun v46 =>
                  Option.bind (catC s0_10 v46) fun v47 =>
                  some v47
                else
                  some s0_10
              ) fun s0_11 =>
              Option.bind (
                  Option.bind (idx l i) fun v48 =>
                  Option.bind (M.r53_special v48.Text) fun specia3 =>
                  if specia3 = true then
                    Option.bind (catC s0_11 (strOf [(92 : Int)])) fun v49 =>
                    some v49
                  else
                    some s0_11
                ) fun s0_12 =>
                Option.bind (idx l i) fun v50 =>
                Option.bind (catC s0_12 v50.Text) fun v51 =>
                if v42.State ≠ v43.State then
                  Option.bind (idx l i) fun v52 =>
                  Option.bind (idx ([([] : Str), ([32, 43, 93] : Str), ([32, 45, 93] : Str)]) v52.State) fun v53 =>
                  Option.bind (catC v51 v53) fun v54 =>
                  M.r53_Row_loop1 l n v54 (i + 1)
                else
                  M.r53_Row_loop1 l n v51 (i + 1)
    else
      some s0_
def M.r53_Row (n : Nat) (l : List api_TrackedWord) : Option Str :=
  Option.bind (M.r53_MayRow n l) fun mayrow =>
  if mayrow = false then
    some ([] : Str)
  else
    Option.bind (M.r53_Row_loop1 l n ([] : Str) (0 : Int)) fun s0_ =>
      some s0_
def M.r53_line_loop1 (depth : Int) : Nat → Str → Int → Option Str
  | 0, _, _ => none
  | n + 1, s0_, i =>
    if i < depth then
      Option.bind (catC s0_ ([32, 32] : Str)) fun v =>
      Option.bind (addC i (1 : Int)) fun v1 =>
      M.r53_line_loop1 depth n v v1
    else
      some s0_
def M.r53_line (n : Nat) (t : api_TrackedUnit) (depth : Int) : Option Str :=
  Option.bind (M.r53_line_loop1 depth n ([] : Str) (0 : Int)) fun s0_ =>
    Option.bind (M.r53_sign t) fun sign =>
    Option.bind (catC s0_ sign) fun v2 =>
    Option.bind (catC v2 ([32] : Str)) fun v3 =>
    Option.bind (M.r53_sign t) fun sign1 =>
    if (sign1 == ([60] : Str)) = true then
      Option.bind (M.r53_mark n t.Id) fun mark =>
      Option.bind (catC v3 mark) fun v4 =>
      some v4
    else
      Option.bind (M.r06_Name t.Kind) fun name =>
      Option.bind (catC v3 name) fun v5 =>
      Option.bind (
          if (t.Label != ([] : Str)) = true then
            Option.bind (catC v5 ([32] : Str)) fun v6 =>
            Option.bind (catC v6 t.Label) fun v7 =>
            some v7
          else
            some v5
        ) fun s0_1 =>
        Option.bind (
            if (t.Was != ([] : Str)) = true then
              Option.bind (catC s0_1 ([32, 119, 97, 115, 32] : Str)) fun v8 =>
              Option.bind (catC v8 t.Was) fun v9 =>
              some v9
            else
              some s0_1
          ) fun s0_2 =>
          Option.bind (catC s0_2 ([32] : Str)) fun v10 =>
          Option.bind (M.r53_mark n t.Id) fun mark1 =>
          Option.bind (catC v10 mark1) fun v11 =>
          Option.bind (
              if (0 : Int) < (t.Head.length : Int) then
                Option.bind (catC v11 ([58, 32] : Str)) fun v12 =>
                Option.bind (M.r53_Row n t.Head) fun row =>
                Option.bind (catC v12 row) fun v13 =>
                some v13
              else
                some v11
            ) fun s0_3 =>
            if (0 : Int) < (t.Words.length : Int) then
              Option.bind (catC s0_3 ([32, 124, 32] : Str)) fun v14 =>
              Option.bind (M.r53_Row n t.Words) fun row1 =>
              Option.bind (catC v14 row1) fun v15 =>
              some v15
            else
              some s0_3
def M.r53_lines_loop1 (t : api_TrackedUnit) (depth : Int) (slf : api_TrackedUnit → Int → Option (List Str)) : Nat → (List Str) → Int → Option ((List Str))
  | 0, _, _ => none
  | n + 1, out, i =>
    if i < (t.Kids.length : Int) then
      Option.bind (idx t.Kids i) fun v =>
      Option.bind (addC depth (1 : Int)) fun v1 =>
      Option.bind (slf v v1) fun lines =>
      Option.bind (appC out lines) fun out1 =>
      M.r53_lines_loop1 t depth slf n out1 (i + 1)
    else
      some out
def M.r53_lines : Nat → api_TrackedUnit → Int → Option (List Str)
  | 0, _, _ => none
  | n + 1, t, depth =>
    Option.bind (M.r53_line n t depth) fun line =>
    Option.bind (M.r53_lines_loop1 t depth (M.r53_lines n) n [line] (0 : Int)) fun out =>
      some out
def M.r53_Text_loop1 (lines : List Str) : Nat → Str → Int → Option Str
  | 0, _, _ => none
  | n + 1, s0_, i =>
    if i < (lines.length : Int) then
      Option.bind (idx lines i) fun v =>
      Option.bind (catC s0_ v) fun v1 =>
      Option.bind (catC v1 ([10] : Str)) fun v2 =>
      M.r53_Text_loop1 lines n v2 (i + 1)
    else
      some s0_
def M.r53_Text (n : Nat) (t : api_TrackedUnit) : Option (Str × Int) :=
  Option.bind (M.r53_May n t) fun may =>
  if may = false then
    some (([] : Str), (1 : Int))
  else
    Option.bind (M.r53_lines n t (0 : Int)) fun lines =>
    Option.bind (M.r53_Text_loop1 lines n ([] : Str) (0 : Int)) fun s0_ =>
      if (16384 : Int) < (s0_.length : Int) then
        some (([] : Str), (6 : Int))
      else
        some (s0_, (0 : Int))
def M.r53_Lines (n : Nat) (t : api_TrackedUnit) : Option (List Str) :=
  Option.bind (M.r53_May n t) fun may =>
  if may = false then
    some ([] : List Str)
  else
    Option.bind (M.r53_lines n t (0 : Int)) fun lines =>
    some lines
def M.r04_Same_loop1 (a : List Str) (b : List Str) : Nat → Int → Option (Unit ⊕ Bool)
  | 0, _ => none
  | n + 1, i =>
    if i < (a.length : Int) then
      Option.bind (idx a i) fun v =>
      Option.bind (idx b i) fun v1 =>
      if (v != v1) = true then
        some (.inr false)
      else
        M.r04_Same_loop1 a b n (i + 1)
    else
      some (.inl ())
def M.r04_Same (n : Nat) (a : List Str) (b : List Str) : Option Bool :=
  if (a.length : Int) ≠ (b.length : Int) then
    some false
  else
    Option.bind (M.r04_Same_loop1 a b n (0 : Int)) fun
      | .inl _ =>
        some true
      | .inr ret0 => some ret0
def M.strings_trimLeftByte_loop1 (c : Int) : Nat → Str → Option Str
  | 0, _ => none
  | n + 1, s0_1 =>
    if (0 : Int) < (s0_1.length : Int) then
      Option.bind (idx s0_1 (0 : Int)) fun b =>
      if (b.toNat : Int) = c then
        Option.bind (slcLo s0_1 (1 : Int)) fun v =>
        M.strings_trimLeftByte_loop1 c n v
      else
        some s0_1
    else
      some s0_1
def M.strings_trimLeftByte (n : Nat) (s0_ : Str) (c : Int) : Option Str :=
  Option.bind (M.strings_trimLeftByte_loop1 c n s0_) fun s0_1 =>
    some s0_1
def M.strings_makeASCIISet_loop1 (chars : Str) : Nat → Int → (List Bool) → Option (((List Bool)) ⊕ ((List Bool) × Bool))
  | 0, _, _ => none
  | n + 1, i, as0_ =>
    if i < (chars.length : Int) then
      Option.bind (idx chars i) fun b1 =>
      if (128 : Int) ≤ (b1.toNat : Int) then
        some (.inr (as0_, false))
      else
        Option.bind (rngC 256 (b1.toNat : Int)) fun _ =>
        M.strings_makeASCIISet_loop1 chars n (i + 1) (as0_.set (b1.toNat : Int).toNat true)
    else
      some (.inl as0_)
def M.strings_makeASCIISet (n : Nat) (chars : Str) : Option ((List Bool) × Bool) :=
  Option.bind (M.strings_makeASCIISet_loop1 chars n (0 : Int) (List.replicate 256 false)) fun
    | .inl as0_ =>
      some (as0_, true)
    | .inr ret0 => some ret0
def M.strings_asciiSet_contains (as0_ : List Bool) (c : Int) : Option Bool :=
  Option.bind (idx as0_ c) fun v =>
  some v
def M.strings_trimLeftASCII_loop1 (as0_ : List Bool) : Nat → Str → Option Str
  | 0, _ => none
  | n + 1, s0_1 =>
    if (0 : Int) < (s0_1.length : Int) then
      Option.bind (idx s0_1 (0 : Int)) fun b =>
      Option.bind (M.strings_asciiSet_contains as0_ (b.toNat : Int)) fun contai =>
      if contai = false then
        some s0_1
      else
        Option.bind (slcLo s0_1 (1 : Int)) fun v =>
        M.strings_trimLeftASCII_loop1 as0_ n v
    else
      some s0_1
def M.strings_trimLeftASCII (n : Nat) (s0_ : Str) (as0_ : List Bool) : Option Str :=
  Option.bind (M.strings_trimLeftASCII_loop1 as0_ n s0_) fun s0_1 =>
    some s0_1
def M.strings_TrimLeft (n : Nat) (s0_ : Str) (cutset : Str) : Option Str :=
  Option.bind (
      if (s0_ == ([] : Str)) = true then
        some true
      else
        some (cutset == ([] : Str))
    ) fun v =>
    if v = true then
      some s0_
    else
      Option.bind (
          if (cutset.length : Int) = (1 : Int) then
            Option.bind (idx cutset (0 : Int)) fun b =>
            some (decide ((b.toNat : Int) < (128 : Int)))
          else
            some false
        ) fun v1 =>
        if v1 = true then
          Option.bind (idx cutset (0 : Int)) fun b1 =>
          Option.bind (M.strings_trimLeftByte n s0_ (b1.toNat : Int)) fun trimle =>
          some trimle
        else
          Option.bind (M.strings_makeASCIISet n cutset) fun makeas =>
          if makeas.2 = true then
            Option.bind (M.strings_trimLeftASCII n s0_ makeas.1) fun trimle1 =>
            some trimle1
          else
            none
def M.internal_stringslite_HasPrefix (s0_ : Str) (prefix0_ : Str) : Option Bool :=
  if (prefix0_.length : Int) ≤ (s0_.length : Int) then
    Option.bind (slcHi s0_ (prefix0_.length : Int)) fun v =>
    some (v == prefix0_)
  else
    some false
def M.internal_stringslite_TrimPrefix (s0_ : Str) (prefix0_ : Str) : Option Str :=
  Option.bind (M.internal_stringslite_HasPrefix s0_ prefix0_) fun haspre =>
  if haspre = true then
    Option.bind (slcLo s0_ (prefix0_.length : Int)) fun v =>
    some v
  else
    some s0_
def M.strings_TrimPrefix (s0_ : Str) (prefix0_ : Str) : Option Str :=
  Option.bind (M.internal_stringslite_TrimPrefix s0_ prefix0_) fun trimpr =>
  some trimpr
def M.markup_parseID_loop1  : List Str → Int → api_Id → (List Int) → Option ((api_Id × (List Int)) ⊕ (api_Id × Bool))
  | [], _, v, n0_ =>
    some (.inl (v, n0_))
  | e :: es, i, v, n0_ =>
    Option.bind (atoiB e) fun atoi =>
    if atoi.2 = true then
      some (.inr ((⟨(0 : Int), (0 : Int), (0 : Int)⟩ : api_Id), false))
    else
      Option.bind (rngC 3 i) fun _ =>
      M.markup_parseID_loop1 es (i + 1) v (n0_.set i.toNat atoi.1)
def M.markup_parseID (s0_ : Str) : Option (api_Id × Bool) :=
  Option.bind (M.strings_TrimPrefix s0_ ([35] : Str)) fun trimpr =>
  Option.bind (splitM trimpr ([46] : Str)) fun split =>
  if (split.length : Int) ≠ (3 : Int) then
    some ((⟨(0 : Int), (0 : Int), (0 : Int)⟩ : api_Id), false)
  else
    Option.bind (M.markup_parseID_loop1 split (0 : Int) zapi_Id (List.replicate 3 (0 : Int))) fun
      | .inl (v, n0_) =>
        Option.bind (rngC 3 (0 : Int)) fun _ =>
        Option.bind (rngC 3 (1 : Int)) fun _ =>
        Option.bind (rngC 3 (2 : Int)) fun _ =>
        Option.bind (M.markup_validID (⟨(n0_[(0 : Int).toNat]?).getD (0 : Int), (n0_[(1 : Int).toNat]?).getD (0 : Int), (n0_[(2 : Int).toNat]?).getD (0 : Int)⟩ : api_Id)) fun validi =>
        if validi = true then
          Option.bind (M.markup_formatID (⟨(n0_[(0 : Int).toNat]?).getD (0 : Int), (n0_[(1 : Int).toNat]?).getD (0 : Int), (n0_[(2 : Int).toNat]?).getD (0 : Int)⟩ : api_Id)) fun format =>
          some ((⟨(n0_[(0 : Int).toNat]?).getD (0 : Int), (n0_[(1 : Int).toNat]?).getD (0 : Int), (n0_[(2 : Int).toNat]?).getD (0 : Int)⟩ : api_Id), format == s0_)
        else
          some ((⟨(n0_[(0 : Int).toNat]?).getD (0 : Int), (n0_[(1 : Int).toNat]?).getD (0 : Int), (n0_[(2 : Int).toNat]?).getD (0 : Int)⟩ : api_Id), false)
      | .inr ret0 => some ret0
def M.markup_parseFront_loop1 (v3 : List Str) : Nat → Int → api_TrackedUnit → Option api_TrackedUnit
  | 0, _, _ => none
  | n + 1, kind, t1 =>
    Option.bind (
        if kind ≤ (7 : Int) then
          some (decide ((0 : Int) < (v3.length : Int)))
        else
          some false
      ) fun v4 =>
      if v4 = true then
        Option.bind (M.unit_KindName kind) fun kindna =>
        Option.bind (idx v3 (0 : Int)) fun v5 =>
        if (kindna == v5) = true then
          Option.bind (addC kind (1 : Int)) fun v6 =>
          M.markup_parseFront_loop1 v3 n v6 ({ t1 with Kind := kind } : api_TrackedUnit)
        else
          Option.bind (addC kind (1 : Int)) fun v7 =>
          M.markup_parseFront_loop1 v3 n v7 t1
      else
        some t1
def M.markup_parseFront (n : Nat) (s0_ : Str) (t : api_TrackedUnit) : Option (Bool × api_TrackedUnit) :=
  Option.bind (splitM s0_ ([32] : Str)) fun split =>
  Option.bind (subC (split.length : Int) (1 : Int)) fun v =>
  Option.bind (idx split v) fun v1 =>
  Option.bind (M.markup_parseID v1) fun parsei =>
  if parsei.2 = false then
    some (false, t)
  else
    Option.bind (subC (split.length : Int) (1 : Int)) fun v2 =>
    Option.bind (slcHi split v2) fun v3 =>
    Option.bind (M.markup_parseFront_loop1 v3 n (0 : Int) ({ t with Id := parsei.1 } : api_TrackedUnit)) fun t1 =>
      Option.bind (
          if (v3.length : Int) = (3 : Int) then
            Option.bind (idx v3 (1 : Int)) fun v9 =>
            some (v9 == ([119, 97, 115] : Str))
          else
            some false
        ) fun v8 =>
        if v8 = true then
          Option.bind (idx v3 (2 : Int)) fun v10 =>
          some (true, ({ t1 with Was := v10 } : api_TrackedUnit))
        else
          if (v3.length : Int) = (4 : Int) then
            Option.bind (idx v3 (1 : Int)) fun v11 =>
            Option.bind (idx v3 (3 : Int)) fun v12 =>
            some (true, ({ ({ t1 with Label := v11 } : api_TrackedUnit) with Was := v12 } : api_TrackedUnit))
          else
            if (v3.length : Int) = (2 : Int) then
              Option.bind (idx v3 (1 : Int)) fun v13 =>
              some (true, ({ t1 with Label := v13 } : api_TrackedUnit))
            else
              some (true, t1)
def M.markup_unescape (s0_ : Str) : Option (Str × Bool) :=
  if (s0_ == ([] : Str)) = true then
    some (([] : Str), false)
  else
    Option.bind (
        Option.bind (idx s0_ (0 : Int)) fun b =>
        if (b.toNat : Int) = (92 : Int) then
          if (1 : Int) < (s0_.length : Int) then
            Option.bind (slc s0_ (1 : Int) (2 : Int)) fun v1 =>
            Option.bind (containsM ([91, 93, 43, 45, 124, 35, 92] : Str) v1) fun contai =>
            some contai
          else
            some false
        else
          some false
      ) fun v =>
      if v = true then
        Option.bind (slcLo s0_ (1 : Int)) fun v2 =>
        some (v2, true)
      else
        Option.bind (slcHi s0_ (1 : Int)) fun v3 =>
        Option.bind (containsM ([91, 93, 43, 45, 124, 35, 92] : Str) v3) fun contai1 =>
        some (s0_, !contai1)
def M.markup_ParseWords_loop1  : List Str → (List api_TrackedWord) → Int → Option (((List api_TrackedWord)) ⊕ ((List api_TrackedWord) × Bool))
  | [], out, state =>
    some (.inl out)
  | e :: es, out, state =>
    if (e == ([91, 43] : Str)) = true then
      M.markup_ParseWords_loop1 es out (1 : Int)
    else
      if (e == ([91, 45] : Str)) = true then
        M.markup_ParseWords_loop1 es out (2 : Int)
      else
        Option.bind (
            if (e == ([43, 93] : Str)) = true then
              some (e == ([43, 93] : Str))
            else
              some (e == ([45, 93] : Str))
          ) fun v =>
          if v = true then
            M.markup_ParseWords_loop1 es out (0 : Int)
          else
            Option.bind (M.markup_unescape e) fun unesca =>
            if unesca.2 = false then
              some (.inr (([] : List api_TrackedWord), false))
            else
              Option.bind (appC out [(⟨state, unesca.1⟩ : api_TrackedWord)]) fun out1 =>
              M.markup_ParseWords_loop1 es out1 state
def M.markup_ParseWords (n : Nat) (s0_ : Str) : Option ((List api_TrackedWord) × Bool) :=
  if (s0_ == ([] : Str)) = true then
    some (([] : List api_TrackedWord), true)
  else
    Option.bind (splitM s0_ ([32] : Str)) fun split =>
    Option.bind (M.markup_ParseWords_loop1 split ([] : List api_TrackedWord) (0 : Int)) fun
      | .inl out =>
        Option.bind (M.markup_validRow n out) fun validr =>
        if validr = false then
          some (([] : List api_TrackedWord), false)
        else
          Option.bind (M.markup_FormatWords n out) fun format =>
          if (format != s0_) = true then
            some (([] : List api_TrackedWord), false)
          else
            some (out, true)
      | .inr ret0 => some ret0
def M.markup_parseLine (n : Nat) (s0_ : Str) : Option (api_TrackedUnit × Int × Bool) :=
  Option.bind (M.strings_TrimLeft n s0_ ([32] : Str)) fun trimle =>
  Option.bind (subC (s0_.length : Int) (trimle.length : Int)) fun v =>
  Option.bind (quoC v (2 : Int)) fun v1 =>
  Option.bind (
      if (trimle.length : Int) < (2 : Int) then
        some true
      else
        Option.bind (idx trimle (1 : Int)) fun b1 =>
        some (decide ((b1.toNat : Int) ≠ (32 : Int)))
    ) fun v2 =>
    if v2 = true then
      some ((⟨(0 : Int), (0 : Int), zapi_Id, ([] : Str), ([] : Str), false, ([] : List api_TrackedWord), ([] : List api_TrackedWord), ([] : List api_TrackedUnit)⟩ : api_TrackedUnit), (0 : Int), false)
    else
      Option.bind ((
          Option.bind (idx trimle (0 : Int)) fun b3 =>
          if (b3.toNat : Int) = (61 : Int) then
            some (.inl (zapi_TrackedUnit, zapi_TrackedUnit))
          else
            if (b3.toNat : Int) = (43 : Int) then
              some (.inl (zapi_TrackedUnit, ({ zapi_TrackedUnit with State := (1 : Int) } : api_TrackedUnit)))
            else
              if (b3.toNat : Int) = (62 : Int) then
                some (.inl (zapi_TrackedUnit, ({ ({ zapi_TrackedUnit with State := (1 : Int) } : api_TrackedUnit) with Moved := true } : api_TrackedUnit)))
              else
                if (b3.toNat : Int) = (45 : Int) then
                  some (.inl (zapi_TrackedUnit, ({ zapi_TrackedUnit with State := (2 : Int) } : api_TrackedUnit)))
                else
                  if (b3.toNat : Int) = (60 : Int) then
                    some (.inl (zapi_TrackedUnit, ({ ({ zapi_TrackedUnit with State := (2 : Int) } : api_TrackedUnit) with Moved := true } : api_TrackedUnit)))
                  else
                    some (.inr ((⟨(0 : Int), (0 : Int), zapi_Id, ([] : Str), ([] : Str), false, ([] : List api_TrackedWord), ([] : List api_TrackedWord), ([] : List api_TrackedUnit)⟩ : api_TrackedUnit), (0 : Int), false))
        ) : Option ((api_TrackedUnit × api_TrackedUnit) ⊕ (api_TrackedUnit × Int × Bool))) fun
        | .inl (v3, t) =>
          Option.bind (slcLo trimle (2 : Int)) fun v4 =>
          Option.bind (cutM v4 ([32, 124, 32] : Str)) fun cut =>
          Option.bind (cutM cut.1 ([58, 32] : Str)) fun cut1 =>
          Option.bind (M.markup_parseFront n cut1.1 t) fun (parsef, t1) =>
          Option.bind (
              Option.bind (
                  if cut1.2.2 = true then
                    some parsef
                  else
                    some false
                ) fun v5 =>
                if v5 = true then
                  Option.bind (M.markup_ParseWords n cut1.2.1) fun parsew =>
                  some (parsew.2, ({ t1 with Head := parsew.1 } : api_TrackedUnit))
                else
                  some (parsef, t1)
            ) fun (ok, t2) =>
            Option.bind (
                Option.bind (
                    if cut.2.2 = true then
                      some ok
                    else
                      some false
                  ) fun v6 =>
                  if v6 = true then
                    Option.bind (M.markup_ParseWords n cut.2.1) fun parsew1 =>
                    some (parsew1.2, ({ t2 with Words := parsew1.1 } : api_TrackedUnit))
                  else
                    some (ok, t2)
              ) fun (ok1, t3) =>
              Option.bind (
                  if ok1 = false then
                    some true
                  else
                    Option.bind (M.markup_validUnit n t3) fun validu =>
                    if validu = false then
                      Option.bind (M.markup_isPlaceholder t3) fun isplac =>
                      if isplac = false then
                        some true
                      else
                        Option.bind (M.markup_line n t3 v1) fun line =>
                        some (line != s0_)
                    else
                      Option.bind (M.markup_line n t3 v1) fun line1 =>
                      some (line1 != s0_)
                ) fun v7 =>
                if v7 = true then
                  some ((⟨(0 : Int), (0 : Int), zapi_Id, ([] : Str), ([] : Str), false, ([] : List api_TrackedWord), ([] : List api_TrackedWord), ([] : List api_TrackedUnit)⟩ : api_TrackedUnit), (0 : Int), false)
                else
                  some (t3, v1, true)
        | .inr ret0 => some ret0
abbrev SpL := List (List api_TrackedUnit × api_TrackedUnit)
def spSk (u : api_TrackedUnit) (ks : List api_TrackedUnit) : api_TrackedUnit := { u with Kids := ks }
def M.sp_v : SpL → List api_TrackedUnit
  | [] => []
  | (xs, u) :: sp => xs ++ [spSk u (M.sp_v sp)]
def M.sp_n : SpL → SpL
  | [] => [([], zapi_TrackedUnit)]
  | x :: sp => x :: sp
def M.sp_root (sp : SpL) : api_TrackedUnit := match M.sp_n sp with
  | [] => zapi_TrackedUnit
  | (_, u) :: r => spSk u (M.sp_v r)
def M.sp_at (sp : SpL) (d : Nat) : Option api_TrackedUnit := match sp.drop d with
  | [] => none
  | (_, u) :: r => some (spSk u (M.sp_v r))
def M.sp_push (sp : SpL) (d : Nat) (w : api_TrackedUnit) : Option SpL := match sp.drop d with
  | [] => none
  | (xs, u) :: r => Option.bind (appC (M.sp_v r) [w]) fun ks => some (sp.take d ++ [(xs, spSk u ks), (M.sp_v r, w)])
def M.markup_Parse_loop : Nat → Str → SpL → Nat → Option ((SpL × Nat) ⊕ (api_TrackedUnit × Int × Int))
  | 0, _, _, _ => none
  | n + 1, s, sp, i =>
    if s ≠ [] ∨ i = 0 then
      Option.bind (cutM s [10]) fun c =>
      Option.bind (M.markup_parseLine n c.1) fun v =>
      if c.2.2 = false ∨ v.2.2 = false then some (.inr (zapi_TrackedUnit, (i : Int), 2)) else
      if i = 0 then
        if 0 < v.2.1 then some (.inr (zapi_TrackedUnit, (i : Int), 3)) else
        Option.bind (M.markup_isPlaceholder v.1) fun p =>
        if p = true then some (.inr (zapi_TrackedUnit, (i : Int), 9)) else
        Option.bind (addC (i : Int) 1) fun _ =>
        M.markup_Parse_loop n c.2.1 [([], v.1)] (i + 1)
      else
        if v.2.1 < 1 ∨ (sp.length : Int) < v.2.1 ∨ 8 < v.2.1 then some (.inr (zapi_TrackedUnit, (i : Int), 3)) else
        Option.bind (M.sp_at sp (v.2.1.toNat - 1)) fun q =>
        Option.bind (M.markup_isPlaceholder q) fun p =>
        if p = true then some (.inr (zapi_TrackedUnit, (i : Int), 9)) else
        Option.bind (M.sp_push sp (v.2.1.toNat - 1) v.1) fun sp2 =>
        Option.bind (addC (i : Int) 1) fun _ =>
        M.markup_Parse_loop n c.2.1 sp2 (i + 1)
    else some (.inl (sp, i))
def M.markup_Parse (n : Nat) (s : Str) : Option (api_TrackedUnit × Int × Int) :=
  if (16384 : Int) < (s.length : Int) then some (zapi_TrackedUnit, 0, 6) else
  Option.bind (M.markup_Parse_loop n s [] 0) fun
    | .inl x => some (M.sp_root x.1, (x.2 : Int), 0)
    | .inr r => some r
def M.r53_Rows_loop1 (a : List api_TrackedWord) (b : List api_TrackedWord) : Nat → Int → Option (Unit ⊕ Bool)
  | 0, _ => none
  | n + 1, i =>
    if i < (a.length : Int) then
      Option.bind (idx a i) fun v =>
      Option.bind (idx b i) fun v1 =>
      if v ≠ v1 then
        some (.inr false)
      else
        M.r53_Rows_loop1 a b n (i + 1)
    else
      some (.inl ())
def M.r53_Rows (n : Nat) (a : List api_TrackedWord) (b : List api_TrackedWord) : Option Bool :=
  if (a.length : Int) ≠ (b.length : Int) then
    some false
  else
    Option.bind (M.r53_Rows_loop1 a b n (0 : Int)) fun
      | .inl _ =>
        some true
      | .inr ret0 => some ret0
def M.r53_Same_loop1 (a : api_TrackedUnit) (b : api_TrackedUnit) (slf : api_TrackedUnit → api_TrackedUnit → Option Bool) : Nat → Int → Option (Unit ⊕ Bool)
  | 0, _ => none
  | n + 1, i =>
    if i < (a.Kids.length : Int) then
      Option.bind (idx a.Kids i) fun v1 =>
      Option.bind (idx b.Kids i) fun v2 =>
      Option.bind (slf v1 v2) fun same =>
      if same = false then
        some (.inr false)
      else
        M.r53_Same_loop1 a b slf n (i + 1)
    else
      some (.inl ())
def M.r53_Same : Nat → api_TrackedUnit → api_TrackedUnit → Option Bool
  | 0, _, _ => none
  | n + 1, a, b =>
    Option.bind (
        if a.State ≠ b.State then
          some true
        else
          if a.Kind ≠ b.Kind then
            some true
          else
            if a.Id ≠ b.Id then
              some true
            else
              if (a.Label != b.Label) = true then
                some true
              else
                if (a.Was != b.Was) = true then
                  some true
                else
                  if (a.Moved != b.Moved) = true then
                    some true
                  else
                    Option.bind (M.r53_Rows n a.Head b.Head) fun rows =>
                    if rows = false then
                      some true
                    else
                      Option.bind (M.r53_Rows n a.Words b.Words) fun rows1 =>
                      if rows1 = false then
                        some true
                      else
                        some (decide ((a.Kids.length : Int) ≠ (b.Kids.length : Int)))
      ) fun v =>
      if v = true then
        some false
      else
        Option.bind (M.r53_Same_loop1 a b (M.r53_Same n) n (0 : Int)) fun
          | .inl _ =>
            some true
          | .inr ret0 => some ret0
def M.law53_MarkupFormat (n : Nat) (t : api_TrackedUnit) : Option Bool :=
  Option.bind (M.law53_awake n) fun awake =>
  if awake = false then
    some false
  else
    Option.bind (M.r53_Few n t (40 : Int)) fun few =>
    if few = false then
      some true
    else
      Option.bind (M.markup_Format n t) fun format =>
      Option.bind (M.r53_Text n t) fun text =>
      if (format.1 != text.1) = true then
        some false
      else
        if format.2 ≠ text.2 then
          some false
        else
          Option.bind (M.markup_Lines n t) fun lines =>
          Option.bind (M.r53_Lines n t) fun lines1 =>
          Option.bind (M.r04_Same n lines lines1) fun same =>
          if same = false then
            some false
          else
            if format.2 ≠ (0 : Int) then
              some true
            else
              Option.bind (M.markup_Parse n format.1) fun parse =>
              if parse.2.2 = (0 : Int) then
                Option.bind (M.r53_Lines n t) fun lines2 =>
                if parse.2.1 = (lines2.length : Int) then
                  Option.bind (M.r53_Same n t parse.1) fun same1 =>
                  some same1
                else
                  some false
              else
                some false
end Go.Proofs.YtalogjkalmkpjaaGreatDoor
