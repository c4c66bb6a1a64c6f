/-
  What the functions compute: plain functions, written by program out of the code; no machine in sight.
-/
import Derived.Test.YtclepigknhoonaaMod
set_option linter.unusedVariables false
set_option linter.unusedSimpArgs false
namespace Go.Proofs.Ytclepigknhoonaa
open Go Go.Dec


structure api_Id where
  Act : Int
  Item : Int
  N : Int
theorem api_Id.eq_iff (a b : api_Id) : (a.Act = b.Act ∧ a.Item = b.Item ∧ a.N = b.N) ↔ a = b := ⟨fun h => by cases a; cases b; simp_all, fun h => by subst h; simp⟩
instance : DecidableEq api_Id := fun a b => decidable_of_iff _ (api_Id.eq_iff a b)
def zapi_Id : api_Id := ⟨(0 : Int), (0 : Int), (0 : Int)⟩

structure api_Mark where
  Act : Int
  Item : Int
  At : Int
theorem api_Mark.eq_iff (a b : api_Mark) : (a.Act = b.Act ∧ a.Item = b.Item ∧ a.At = b.At) ↔ a = b := ⟨fun h => by cases a; cases b; simp_all, fun h => by subst h; simp⟩
instance : DecidableEq api_Mark := fun a b => decidable_of_iff _ (api_Mark.eq_iff a b)
def zapi_Mark : api_Mark := ⟨(0 : Int), (0 : Int), (0 : Int)⟩

structure api_Word where
  Text : Str
  By : api_Mark
theorem api_Word.eq_iff (a b : api_Word) : (a.Text = b.Text ∧ a.By = b.By) ↔ a = b := ⟨fun h => by cases a; cases b; simp_all, fun h => by subst h; simp⟩
instance : DecidableEq api_Word := fun a b => decidable_of_iff _ (api_Word.eq_iff a b)
def zapi_Word : api_Word := ⟨([] : Str), zapi_Mark⟩

structure api_Unit where
  Id : api_Id
  Kind : Int
  Label : Str
  Head : List api_Word
  Words : List api_Word
  Kids : List api_Unit
def zapi_Unit : api_Unit := ⟨zapi_Id, (0 : Int), ([] : Str), ([] : List api_Word), ([] : List api_Word), ([] : List api_Unit)⟩

structure api_Meaning where
  At : api_Id
  N : Int
  To : List api_Id
def zapi_Meaning : api_Meaning := ⟨zapi_Id, (0 : Int), ([] : List api_Id)⟩

structure api_Destination where
  From : api_Id
  To : api_Id
theorem api_Destination.eq_iff (a b : api_Destination) : (a.From = b.From ∧ a.To = b.To) ↔ a = b := ⟨fun h => by cases a; cases b; simp_all, fun h => by subst h; simp⟩
instance : DecidableEq api_Destination := fun a b => decidable_of_iff _ (api_Destination.eq_iff a b)
def zapi_Destination : api_Destination := ⟨zapi_Id, zapi_Id⟩

structure api_Finding where
  At : Int
  Id : api_Id
  Why : Int
  Text : Str
theorem api_Finding.eq_iff (a b : api_Finding) : (a.At = b.At ∧ a.Id = b.Id ∧ a.Why = b.Why ∧ a.Text = b.Text) ↔ a = b := ⟨fun h => by cases a; cases b; simp_all, fun h => by subst h; simp⟩
instance : DecidableEq api_Finding := fun a b => decidable_of_iff _ (api_Finding.eq_iff a b)
def zapi_Finding : api_Finding := ⟨(0 : Int), zapi_Id, (0 : Int), ([] : Str)⟩

structure equivalence_table where
  a_ : api_Unit
  b_ : api_Unit
  to_ : List (api_Id × (List api_Id))
  from_ : List (api_Id × (List api_Id))
def zequivalence_table : equivalence_table := ⟨zapi_Unit, zapi_Unit, ([] : List (api_Id × (List api_Id))), ([] : List (api_Id × (List api_Id)))⟩

structure api_Step where
  Kind : Int
  Label : Str
theorem api_Step.eq_iff (a b : api_Step) : (a.Kind = b.Kind ∧ a.Label = b.Label) ↔ a = b := ⟨fun h => by cases a; cases b; simp_all, fun h => by subst h; simp⟩
instance : DecidableEq api_Step := fun a b => decidable_of_iff _ (api_Step.eq_iff a b)
def zapi_Step : api_Step := ⟨(0 : Int), ([] : Str)⟩

structure api_Cite where
  Kind : Int
  Path : List api_Step
  To : Str
  From : Int
  At : Int
def zapi_Cite : api_Cite := ⟨(0 : Int), ([] : List api_Step), ([] : Str), (0 : Int), (0 : Int)⟩

structure equivalence_text where
  words_ : List Str
  cites_ : List (Int × api_Cite)
  targets_ : List (Int × (List api_Id))
def zequivalence_text : equivalence_text := ⟨([] : List Str), ([] : List (Int × api_Cite)), ([] : List (Int × (List api_Id)))⟩

structure citation_reader where
  l_ : List Str
  at_ : Int
  ended_ : Bool
def zcitation_reader : citation_reader := ⟨([] : List Str), (0 : Int), false⟩


def M.r06_size_loop1 (u : api_Unit) (deep : Int) (most : Int) (slf : api_Unit → Int → Int → Option Int) : Nat → Int → Int → Option Int
  | 0, _, _ => none
  | n + 1, n0_, i =>
    Option.bind (
        if i < (u.Kids.length : Int) then
          some (decide (n0_ ≤ most))
        else
          some false
      ) fun v1 =>
      if v1 = true then
        Option.bind (idx u.Kids i) fun v2 =>
        Option.bind (addC deep (1 : Int)) fun v3 =>
        Option.bind (subC most n0_) fun v4 =>
        Option.bind (slf v2 v3 v4) fun size =>
        Option.bind (addC n0_ size) fun v5 =>
        Option.bind (addC i (1 : Int)) fun v6 =>
        M.r06_size_loop1 u deep most slf n v5 v6
      else
        some n0_
def M.r06_size : Nat → api_Unit → Int → Int → Option Int
  | 0, _, _, _ => none
  | n + 1, u, deep, most =>
    if (20 : Int) < deep then
      Option.bind (addC most (1 : Int)) fun v =>
      some v
    else
      Option.bind (M.r06_size_loop1 u deep most (M.r06_size n) n (1 : Int) (0 : Int)) fun n0_ =>
        some n0_

def M.r06_short_loop1 (l : List api_Word) : Nat → Int → Option (Unit ⊕ Bool)
  | 0, _ => none
  | n + 1, i =>
    if i < (l.length : Int) then
      Option.bind (idx l i) fun v =>
      if (100 : Int) < (v.Text.length : Int) then
        some (.inr false)
      else
        M.r06_short_loop1 l n (i + 1)
    else
      some (.inl ())
def M.r06_short (n : Nat) (l : List api_Word) : Option Bool :=
  Option.bind (M.r06_short_loop1 l n (0 : Int)) fun
    | .inl _ =>
      some (decide ((l.length : Int) ≤ (300 : Int)))
    | .inr ret0 => some ret0

def M.r06_words_loop1 (u : api_Unit) (slf : api_Unit → Option Bool) : Nat → Int → Option (Unit ⊕ Bool)
  | 0, _ => none
  | n + 1, i =>
    if i < (u.Kids.length : Int) then
      Option.bind (idx u.Kids i) fun v1 =>
      Option.bind (slf v1) fun words =>
      if words = false then
        some (.inr false)
      else
        M.r06_words_loop1 u slf n (i + 1)
    else
      some (.inl ())
def M.r06_words : Nat → api_Unit → Option Bool
  | 0, _ => none
  | n + 1, u =>
    Option.bind (
        if (30 : Int) < (u.Label.length : Int) then
          some true
        else
          Option.bind (M.r06_short n u.Head) fun short =>
          if short = false then
            some true
          else
            Option.bind (M.r06_short n u.Words) fun short1 =>
            some (!short1)
      ) fun v =>
      if v = true then
        some false
      else
        Option.bind (M.r06_words_loop1 u (M.r06_words n) n (0 : Int)) fun
          | .inl _ =>
            some true
          | .inr ret0 => some ret0

def M.r06_Few (n : Nat) (u : api_Unit) (most : Int) : Option Bool :=
  Option.bind (M.r06_size n u (0 : Int) most) fun size =>
  if size ≤ most then
    Option.bind (M.r06_words n u) fun words =>
    some words
  else
    some false

def M.law48_heavy_loop1  : List api_Meaning → Option (Unit ⊕ Bool)
  | [] =>
    some (.inl ())
  | e :: es =>
    if (20 : Int) < (e.To.length : Int) then
      some (.inr true)
    else
      M.law48_heavy_loop1 es
def M.law48_heavy (n : Nat) (a : api_Unit) (b : api_Unit) (l : List api_Destination) (x : List api_Meaning) (y : List api_Meaning) : Option Bool :=
  Option.bind (
      Option.bind (M.r06_Few n a (20 : Int)) fun few =>
      if few = false then
        some true
      else
        Option.bind (M.r06_Few n b (20 : Int)) fun few1 =>
        if few1 = false then
          some true
        else
          if (40 : Int) < (l.length : Int) then
            some true
          else
            Option.bind (addC (x.length : Int) (y.length : Int)) fun v1 =>
            some (decide ((40 : Int) < v1))
    ) fun v =>
    if v = true then
      some true
    else
      Option.bind (appC ([] : List api_Meaning) x) fun out =>
      Option.bind (appC out y) fun out1 =>
      Option.bind (M.law48_heavy_loop1 out1) fun
        | .inl _ =>
          some false
        | .inr ret0 => some ret0

def M.r06_All_loop1 (u : api_Unit) (slf : api_Unit → Option ((List api_Id))) : Nat → (List api_Id) → Int → Option ((List api_Id))
  | 0, _, _ => none
  | n + 1, out, i =>
    if i < (u.Kids.length : Int) then
      Option.bind (idx u.Kids i) fun v =>
      Option.bind (slf v) fun all =>
      Option.bind (appC out all) fun out1 =>
      M.r06_All_loop1 u slf n out1 (i + 1)
    else
      some out
def M.r06_All : Nat → api_Unit → Option ((List api_Id))
  | 0, _ => none
  | n + 1, u =>
    Option.bind (M.r06_All_loop1 u (M.r06_All n) n [u.Id] (0 : Int)) fun out =>
      some out

def M.law48_once_loop2 (all : (List api_Id)) (v : Int) : Nat → Int → Option (Unit ⊕ Bool)
  | 0, _ => none
  | n + 1, k =>
    if k < v then
      Option.bind (idx all v) fun v1 =>
      Option.bind (idx all k) fun v2 =>
      if v1 = v2 then
        some (.inr false)
      else
        Option.bind (addC k (1 : Int)) fun v3 =>
        M.law48_once_loop2 all v n v3
    else
      some (.inl ())
def M.law48_once_loop1 (all : (List api_Id)) : Nat → Int → Option (Unit ⊕ Bool)
  | 0, _ => none
  | n + 1, v =>
    if v < (all.length : Int) then
      Option.bind (M.law48_once_loop2 all v n (0 : Int)) fun
        | .inl _ =>
          Option.bind (addC v (1 : Int)) fun v4 =>
          M.law48_once_loop1 all n v4
        | .inr ret0 => some (.inr ret0)
    else
      some (.inl ())
def M.law48_once (n : Nat) (u : api_Unit) : Option Bool :=
  Option.bind (M.r06_All n u) fun all =>
  Option.bind (M.law48_once_loop1 all n (0 : Int)) fun
    | .inl _ =>
      some true
    | .inr ret0 => some ret0

def M.law48_awake_1 (n0_ : Int) : Option api_Id :=
  some (⟨(1 : Int), (0 : Int), n0_⟩ : api_Id)

def M.law48_awake_2_loop1  : List Str → (List api_Word) → Option ((List api_Word))
  | [], out =>
    some out
  | e :: es, out =>
    Option.bind (appC out [(⟨e, zapi_Mark⟩ : api_Word)]) fun out1 =>
    M.law48_awake_2_loop1 es out1
def M.law48_awake_2 (l : List Str) : Option ((List api_Word)) :=
  Option.bind (M.law48_awake_2_loop1 l ([] : List api_Word)) fun out =>
    some out

def M.equivalence_made_loop1  : List api_Destination → (List (api_Id × (List api_Id))) → (List (api_Id × (List api_Id))) → Option ((List (api_Id × (List api_Id))) × (List (api_Id × (List api_Id))))
  | [], v, v1 =>
    some (v, v1)
  | e :: es, v, v1 =>
    Option.bind (appC (mget v e.From []) [e.To]) fun out =>
    Option.bind (appC (mget v1 e.To []) [e.From]) fun out1 =>
    M.equivalence_made_loop1 es (mset v e.From out) (mset v1 e.To out1)
def M.equivalence_made (a : api_Unit) (b : api_Unit) (l : List api_Destination) : Option equivalence_table :=
  Option.bind (M.equivalence_made_loop1 l ([] : List (api_Id × (List api_Id))) ([] : List (api_Id × (List api_Id)))) fun (v, v1) =>
    some ({ (⟨a, b, ([] : List (api_Id × (List api_Id))), ([] : List (api_Id × (List api_Id)))⟩ : equivalence_table) with to_ := v, from_ := v1 } : equivalence_table)

def M.equivalence_table_flaw_1 (why : Int) (s0_ : Str) (c : api_Unit) : Option api_Finding :=
  some (⟨(0 : Int), c.Id, why, s0_⟩ : api_Finding)

def M.unit_way_loop1 (u : api_Unit) (id : api_Id) (slf : api_Unit → api_Id → Option ((List api_Unit))) : List api_Unit → Option (Unit ⊕ ((List api_Unit)))
  | [] =>
    some (.inl ())
  | e :: es =>
    Option.bind (slf e id) fun way =>
    if way.isEmpty = false then
      Option.bind (appC [u] way) fun out =>
      Option.bind (neC out) fun _ =>
      some (.inr out)
    else
      M.unit_way_loop1 u id slf es
def M.unit_way : Nat → api_Unit → api_Id → Option ((List api_Unit))
  | 0, _, _ => none
  | n + 1, u, id =>
    if u.Id = id then
      Option.bind (neC [u]) fun _ =>
      some [u]
    else
      Option.bind (M.unit_way_loop1 u id (M.unit_way n) u.Kids) fun
        | .inl _ =>
          some ([] : List api_Unit)
        | .inr ret0 => some ret0

def M.slices_Clone_api_Word_api_Word (l : List api_Word) : Option (List api_Word) := appC [] l

def M.unit_copied_loop1 (slf : api_Unit → Option api_Unit) : List api_Unit → (List api_Unit) → Option ((List api_Unit))
  | [], kids =>
    some kids
  | e :: es, kids =>
    Option.bind (slf e) fun copied =>
    Option.bind (appC kids [copied]) fun kids1 =>
    M.unit_copied_loop1 slf es kids1
def M.unit_copied : Nat → api_Unit → Option api_Unit
  | 0, _ => none
  | n + 1, u =>
    Option.bind (M.slices_Clone_api_Word_api_Word u.Head) fun word =>
    Option.bind (M.slices_Clone_api_Word_api_Word u.Words) fun word1 =>
    Option.bind (M.unit_copied_loop1 (M.unit_copied n) (({ ({ u with Head := word } : api_Unit) with Words := word1 } : api_Unit).Kids) ([] : List api_Unit)) fun kids =>
      some ({ ({ ({ u with Head := word } : api_Unit) with Words := word1 } : api_Unit) with Kids := kids } : api_Unit)

def M.unit_Find (n : Nat) (u : api_Unit) (id : api_Id) : Option (api_Unit × Bool) :=
  Option.bind (M.unit_way n u id) fun way =>
  if (way.length : Int) = (0 : Int) then
    some ((⟨zapi_Id, (0 : Int), ([] : Str), ([] : List api_Word), ([] : List api_Word), ([] : List api_Unit)⟩ : api_Unit), false)
  else
    Option.bind (subC (way.length : Int) (1 : Int)) fun v =>
    Option.bind (idx way v) fun v1 =>
    Option.bind (M.unit_copied n v1) fun copied =>
    some (copied, true)

def M.equivalence_inner (n : Nat) (u : api_Unit) (id : api_Id) : Option Bool :=
  Option.bind (M.unit_Find n u id) fun find =>
  if find.2 = true then
    some (decide (id ≠ u.Id))
  else
    some false

def M.equivalence_table_goes (n : Nat) (t : equivalence_table) (id : api_Id) : Option (api_Id × Bool) :=
  if ((mget t.to_ id ([] : List api_Id)).length : Int) ≠ (1 : Int) then
    some ((⟨(0 : Int), (0 : Int), (0 : Int)⟩ : api_Id), false)
  else
    Option.bind (idx (mget t.to_ id ([] : List api_Id)) (0 : Int)) fun v =>
    Option.bind (M.equivalence_inner n t.b_ v) fun inner =>
    if inner = false then
      some ((⟨(0 : Int), (0 : Int), (0 : Int)⟩ : api_Id), false)
    else
      Option.bind (idx (mget t.to_ id ([] : List api_Id)) (0 : Int)) fun v1 =>
      some (v1, true)

def M.equivalence_texts_loop1  : List api_Word → (List Str) → Option ((List Str))
  | [], out =>
    some out
  | e :: es, out =>
    Option.bind (appC out [e.Text]) fun out1 =>
    M.equivalence_texts_loop1 es out1
def M.equivalence_texts (l : List api_Word) : Option ((List Str)) :=
  Option.bind (M.equivalence_texts_loop1 l ([] : List Str)) fun out =>
    some out

def M.slices_Equal_string_string_loop1 (s1_ : List Str) (s2_ : List Str) : Nat → Int → Option (Unit ⊕ Bool)
  | 0, _ => none
  | n + 1, v =>
    if v < (s1_.length : Int) then
      Option.bind (idx s1_ v) fun v1 =>
      Option.bind (idx s2_ v) fun v2 =>
      if (v1 != v2) = true then
        some (.inr false)
      else
        M.slices_Equal_string_string_loop1 s1_ s2_ n (v + 1)
    else
      some (.inl ())
def M.slices_Equal_string_string (n : Nat) (s1_ : List Str) (s2_ : List Str) : Option Bool :=
  if (s1_.length : Int) ≠ (s2_.length : Int) then
    some false
  else
    Option.bind (M.slices_Equal_string_string_loop1 s1_ s2_ n (0 : Int)) fun
      | .inl _ =>
        some true
      | .inr ret0 => some ret0

def M.wordseq_Equal (n : Nat) (a : List Str) (b : List Str) : Option Bool :=
  Option.bind (M.slices_Equal_string_string n a b) fun string =>
  some string

def M.citation_reader_just_1 (s0_ : Str) (c : Str) : Option Bool :=
  some (s0_ == c)

def M.citation_reader_word (r0_ : citation_reader) (is : Str → Option Bool) : Option ((Str × Bool) × citation_reader) :=
  if r0_.ended_ = true then
    some ((([] : Str), false), r0_)
  else
    if (r0_.l_.length : Int) ≤ r0_.at_ then
      some ((([] : Str), false), r0_)
    else
      Option.bind (idx r0_.l_ r0_.at_) fun v =>
      Option.bind ((
          Option.bind (is v) fun v1 =>
          if v1 = false then
            Option.bind (subC (v.length : Int) (1 : Int)) fun v2 =>
            Option.bind (
                if v2 < (0 : Int) then
                  some true
                else
                  Option.bind (idx v v2) fun b1 =>
                  Option.bind (ixM ([44, 59, 46, 58, 41] : Str) (b1.toNat : Int)) fun indexb =>
                  if indexb < (0 : Int) then
                    some true
                  else
                    Option.bind (slcHi v v2) fun v4 =>
                    Option.bind (is v4) fun v5 =>
                    some (!v5)
              ) fun v3 =>
              if v3 = true then
                some (.inr ((([] : Str), false), r0_))
              else
                Option.bind (slcHi v v2) fun v6 =>
                some (.inl (v6, ({ r0_ with ended_ := true } : citation_reader)))
          else
            some (.inl (v, r0_))
        ) : Option ((Str × citation_reader) ⊕ ((Str × Bool) × citation_reader))) fun
        | .inl (s0_, r0_1) =>
          Option.bind (addC r0_1.at_ (1 : Int)) fun v7 =>
          some ((s0_, true), ({ r0_1 with at_ := v7 } : citation_reader))
        | .inr ret0 => some ret0

def M.citation_reader_just (r0_ : citation_reader) (want : Str) : Option (Bool × citation_reader) :=
  Option.bind (M.citation_reader_word r0_ (fun s0 => M.citation_reader_just_1 s0 want)) fun (word, r0_1) =>
  some (word.2, r0_1)

def M.citation_single  : Option ((List Str)) :=
  some ([([] : Str), ([112, 97, 114, 116] : Str), ([115, 101, 99, 116, 105, 111, 110] : Str), ([112, 97, 114, 97, 103, 114, 97, 112, 104] : Str), ([116, 97, 98, 108, 101] : Str), ([114, 111, 119] : Str), ([99, 101, 108, 108] : Str), ([110, 111, 116, 101] : Str)])

def M.slices_Index_string_string_loop1 (s0_ : List Str) (v : Str) : Nat → Int → Option (Unit ⊕ Int)
  | 0, _ => none
  | n + 1, v1 =>
    if v1 < (s0_.length : Int) then
      Option.bind (idx s0_ v1) fun v2 =>
      if (v == v2) = true then
        some (.inr v1)
      else
        M.slices_Index_string_string_loop1 s0_ v n (v1 + 1)
    else
      some (.inl ())
def M.slices_Index_string_string (n : Nat) (s0_ : List Str) (v : Str) : Option Int :=
  Option.bind (M.slices_Index_string_string_loop1 s0_ v n (0 : Int)) fun
    | .inl _ =>
      some (-1 : Int)
    | .inr ret0 => some ret0

def M.citation_kind (n : Nat) (l : List Str) (word : Str) : Option Int :=
  if (word == ([] : Str)) = true then
    some (0 : Int)
  else
    Option.bind (M.slices_Index_string_string n l word) fun string =>
    some (max string (0 : Int))

def M.citation_reader_kind_1 (n : Nat) (s0_ : Str) (c : List Str) : Option Bool :=
  Option.bind (M.citation_kind n c s0_) fun kind =>
  some (decide ((0 : Int) < kind))

def M.citation_reader_kind (n : Nat) (r0_ : citation_reader) (l : List Str) : Option ((Int × Bool) × citation_reader) :=
  Option.bind (M.citation_reader_word r0_ (fun s0 => M.citation_reader_kind_1 n s0 l)) fun (word, r0_1) =>
  Option.bind (M.citation_kind n l word.1) fun kind =>
  some ((kind, word.2), r0_1)

def M.strings_indexFunc_loop1 (s0_ : Str) (f : Int → Option Bool) (truth : Bool) : Nat → Nat → Option (Nat ⊕ Int)
  | 0, _ => none
  | n + 1, v =>
    if v < s0_.length then
      Option.bind (f ((runeAt s0_ v).1 : Int)) fun v1 =>
      if (v1 == truth) = true then
        some (.inr (v : Int))
      else
        M.strings_indexFunc_loop1 s0_ f truth n (v + (runeAt s0_ v).2)
    else
      some (.inl v)
def M.strings_indexFunc (n : Nat) (s0_ : Str) (f : Int → Option Bool) (truth : Bool) : Option Int :=
  Option.bind (M.strings_indexFunc_loop1 s0_ f truth n 0) fun
    | .inl v =>
      some (-1 : Int)
    | .inr ret0 => some ret0

def M.strings_IndexFunc (n : Nat) (s0_ : Str) (f : Int → Option Bool) : Option Int :=
  Option.bind (M.strings_indexFunc n s0_ f true) fun indexf =>
  some indexf

def M.label_parted_1 (b : Int) : Option Bool :=
  if b < (48 : Int) then
    some true
  else
    some (decide ((57 : Int) < b))

def M.label_parted (n : Nat) (s0_ : Str) : Option (Str × Str) :=
  Option.bind (M.strings_IndexFunc n s0_ (fun s0 => M.label_parted_1 s0)) fun indexf =>
  if indexf < (0 : Int) then
    some (s0_, ([] : Str))
  else
    Option.bind (slcHi s0_ indexf) fun v =>
    Option.bind (slcLo s0_ indexf) fun v1 =>
    some (v, v1)

def M.strings_ContainsFunc (n : Nat) (s0_ : Str) (f : Int → Option Bool) : Option Bool :=
  Option.bind (M.strings_IndexFunc n s0_ f) fun indexf =>
  some (decide ((0 : Int) ≤ indexf))

def M.label_Valid_1 (b : Int) : Option Bool :=
  if b < (65 : Int) then
    some true
  else
    some (decide ((90 : Int) < b))

def M.label_Valid (n : Nat) (s0_ : Str) : Option Bool :=
  Option.bind (M.label_parted n s0_) fun parted =>
  if (1 : Int) ≤ (parted.1.length : Int) then
    if (parted.1.length : Int) ≤ (4 : Int) then
      Option.bind (idx parted.1 (0 : Int)) fun b =>
      if (b.toNat : Int) ≠ (48 : Int) then
        if (parted.2.length : Int) ≤ (3 : Int) then
          Option.bind (M.strings_ContainsFunc n parted.2 (fun s0 => M.label_Valid_1 s0)) fun contai =>
          some (!contai)
        else
          some false
      else
        some false
    else
      some false
  else
    some false

def M.citation_reader_step (n : Nat) (r0_ : citation_reader) (l : List Str) : Option ((api_Step × Bool) × citation_reader) :=
  Option.bind (M.citation_reader_kind n r0_ l) fun (kind, r0_1) =>
  Option.bind (M.citation_reader_word r0_1 (fun s0 => M.label_Valid n s0)) fun (word, r0_2) =>
  Option.bind (
      if kind.2 = false then
        some true
      else
        some (!word.2)
    ) fun v =>
    if v = true then
      some (((⟨(0 : Int), ([] : Str)⟩ : api_Step), false), r0_)
    else
      some (((⟨kind.1, word.1⟩ : api_Step), true), r0_2)

def M.citation_reader_more_loop1  : Nat → (List api_Step) → citation_reader → Option ((List api_Step) × citation_reader)
  | 0, _, _ => none
  | n + 1, p1, r0_1 =>
    if (p1.length : Int) < (9 : Int) then
      Option.bind M.citation_single fun single =>
      Option.bind (M.citation_reader_step n r0_1 single) fun (step, r0_2) =>
      if step.2 = false then
        some (p1, r0_2)
      else
        Option.bind (appC p1 [step.1]) fun out =>
        M.citation_reader_more_loop1 n out r0_2
    else
      some (p1, r0_1)
def M.citation_reader_more (n : Nat) (r0_ : citation_reader) (p : List api_Step) : Option (((List api_Step)) × citation_reader) :=
  Option.bind (M.citation_reader_more_loop1 n p r0_) fun (p1, r0_2) =>
    some (p1, r0_2)

def M.citation_reader_path (n : Nat) (r0_ : citation_reader) : Option (((List api_Step)) × citation_reader) :=
  Option.bind (
      Option.bind (M.citation_reader_just r0_ ([98, 111, 111, 107] : Str)) fun (just, r0_2) =>
      if just = true then
        Option.bind (appC ([] : List api_Step) ([(⟨(0 : Int), ([] : Str)⟩ : api_Step)])) fun p1 =>
        some (p1, r0_2)
      else
        some (([] : List api_Step), r0_2)
    ) fun (p, r0_1) =>
    Option.bind (M.citation_reader_more n r0_1 p) fun (more, r0_3) =>
    some (more, r0_3)

def M.citation_forms_1 (n : Nat) (r0_ : citation_reader) : Option (api_Cite × citation_reader) :=
  Option.bind (M.citation_reader_path n r0_) fun (path, r0_1) =>
  some ((⟨(0 : Int), path, ([] : Str), (0 : Int), (0 : Int)⟩ : api_Cite), r0_1)

def M.citation_plural  : Option ((List Str)) :=
  some ([([] : Str), ([112, 97, 114, 116, 115] : Str), ([115, 101, 99, 116, 105, 111, 110, 115] : Str), ([112, 97, 114, 97, 103, 114, 97, 112, 104, 115] : Str), ([116, 97, 98, 108, 101, 115] : Str), ([114, 111, 119, 115] : Str), ([] : Str), ([110, 111, 116, 101, 115] : Str)])

def M.citation_reader_span (n : Nat) (r0_ : citation_reader) : Option (api_Cite × citation_reader) :=
  Option.bind (M.citation_reader_path n r0_) fun (path, r0_1) =>
  Option.bind M.citation_plural fun plural =>
  Option.bind (M.citation_reader_step n r0_1 plural) fun (step, r0_2) =>
  Option.bind (
      if step.2 = false then
        some (true, r0_2)
      else
        Option.bind (M.citation_reader_just r0_2 ([116, 111] : Str)) fun (just, r0_4) =>
        some (!just, r0_4)
    ) fun (v, r0_3) =>
    if v = true then
      some ((⟨(1 : Int), path, ([] : Str), (0 : Int), (0 : Int)⟩ : api_Cite), r0_3)
    else
      Option.bind (appC path [step.1]) fun out =>
      Option.bind (M.citation_reader_word r0_3 (fun s0 => M.label_Valid n s0)) fun (word, r0_5) =>
      some (({ ({ (⟨(1 : Int), path, ([] : Str), (0 : Int), (0 : Int)⟩ : api_Cite) with Path := out } : api_Cite) with To := word.1 } : api_Cite), r0_5)

def M.citation_reader_beside (n : Nat) (r0_ : citation_reader) : Option (((List api_Step)) × citation_reader) :=
  Option.bind M.citation_single fun single =>
  Option.bind (M.citation_reader_kind n r0_ single) fun (kind, r0_1) =>
  if kind.2 = false then
    some (([] : List api_Step), r0_1)
  else
    Option.bind (M.citation_reader_more n r0_1 ([(⟨kind.1, ([] : Str)⟩ : api_Step)])) fun (more, r0_2) =>
    some (more, r0_2)

def M.citation_forms_2 (n : Nat) (r0_ : citation_reader) : Option (api_Cite × citation_reader) :=
  Option.bind (M.citation_reader_just r0_ ([116, 104, 105, 115] : Str)) fun (just, r0_1) =>
  if just = false then
    some ((⟨(2 : Int), ([] : List api_Step), ([] : Str), (0 : Int), (0 : Int)⟩ : api_Cite), r0_1)
  else
    Option.bind (M.citation_reader_beside n r0_1) fun (beside, r0_2) =>
    some ((⟨(2 : Int), beside, ([] : Str), (0 : Int), (0 : Int)⟩ : api_Cite), r0_2)

def M.citation_forms_3 (n : Nat) (r0_ : citation_reader) : Option (api_Cite × citation_reader) :=
  Option.bind (
      Option.bind (M.citation_reader_just r0_ ([116, 104, 101] : Str)) fun (just, r0_2) =>
      if just = false then
        some (true, r0_2)
      else
        Option.bind (M.citation_reader_just r0_2 ([115, 97, 105, 100] : Str)) fun (just1, r0_3) =>
        some (!just1, r0_3)
    ) fun (v, r0_1) =>
    if v = true then
      some ((⟨(3 : Int), ([] : List api_Step), ([] : Str), (0 : Int), (0 : Int)⟩ : api_Cite), r0_1)
    else
      Option.bind (M.citation_reader_beside n r0_1) fun (beside, r0_4) =>
      some ((⟨(3 : Int), beside, ([] : Str), (0 : Int), (0 : Int)⟩ : api_Cite), r0_4)

def M.citation_forms_4 (n : Nat) (r0_ : citation_reader) : Option (api_Cite × citation_reader) :=
  Option.bind (M.citation_reader_just r0_ ([102, 111, 114, 109, 101, 114, 108, 121] : Str)) fun (just, r0_1) =>
  if just = false then
    some ((⟨(4 : Int), ([] : List api_Step), ([] : Str), (0 : Int), (0 : Int)⟩ : api_Cite), r0_1)
  else
    Option.bind (M.citation_reader_path n r0_1) fun (path, r0_2) =>
    some ((⟨(4 : Int), path, ([] : Str), (0 : Int), (0 : Int)⟩ : api_Cite), r0_2)

def M.citation_forms (n : Nat)  : Option ((List (citation_reader → Option (api_Cite × citation_reader)))) :=
  some [(fun s0 => M.citation_forms_1 n s0), (fun s0 => M.citation_reader_span n s0), (fun s0 => M.citation_forms_2 n s0), (fun s0 => M.citation_forms_3 n s0), (fun s0 => M.citation_forms_4 n s0)]

def M.citation_book (s0_ : api_Step) : Option Bool :=
  some (decide (s0_ = (⟨(0 : Int), ([] : Str)⟩ : api_Step)))

def M.slices_IndexFunc_api_Step_api_Step_loop1 (s0_ : List api_Step) (f : api_Step → Option Bool) : Nat → Int → Option (Unit ⊕ Int)
  | 0, _ => none
  | n + 1, v =>
    if v < (s0_.length : Int) then
      Option.bind (idx s0_ v) fun v1 =>
      Option.bind (f v1) fun v2 =>
      if v2 = true then
        some (.inr v)
      else
        M.slices_IndexFunc_api_Step_api_Step_loop1 s0_ f n (v + 1)
    else
      some (.inl ())
def M.slices_IndexFunc_api_Step_api_Step (n : Nat) (s0_ : List api_Step) (f : api_Step → Option Bool) : Option Int :=
  Option.bind (M.slices_IndexFunc_api_Step_api_Step_loop1 s0_ f n (0 : Int)) fun
    | .inl _ =>
      some (-1 : Int)
    | .inr ret0 => some ret0

def M.slices_ContainsFunc_api_Step_api_Step (n : Nat) (s0_ : List api_Step) (f : api_Step → Option Bool) : Option Bool :=
  Option.bind (M.slices_IndexFunc_api_Step_api_Step n s0_ f) fun step =>
  some (decide ((0 : Int) ≤ step))

def M.citation_named (n : Nat) (s0_ : api_Step) : Option Bool :=
  if (1 : Int) ≤ s0_.Kind then
    if s0_.Kind ≤ (7 : Int) then
      Option.bind (M.label_Valid n s0_.Label) fun valid =>
      some valid
    else
      some false
  else
    some false

def M.citation_plain_1 (n : Nat) (s0_ : api_Step) : Option Bool :=
  Option.bind (M.citation_named n s0_) fun named =>
  some (!named)

def M.citation_plain (n : Nat) (p : List api_Step) : Option Bool :=
  Option.bind (
      if (0 : Int) < (p.length : Int) then
        Option.bind (idx p (0 : Int)) fun v =>
        Option.bind (M.citation_book v) fun book =>
        if book = true then
          Option.bind (slcLo p (1 : Int)) fun v1 =>
          some v1
        else
          some p
      else
        some p
    ) fun p1 =>
    if (0 : Int) < (p1.length : Int) then
      Option.bind (M.slices_ContainsFunc_api_Step_api_Step n p1 (fun s0 => M.citation_plain_1 n s0)) fun step =>
      some (!step)
    else
      some false

def M.citation_near_1 (n : Nat) (s0_ : api_Step) : Option Bool :=
  Option.bind (M.citation_named n s0_) fun named =>
  some (!named)

def M.citation_near (n : Nat) (p : List api_Step) : Option Bool :=
  Option.bind (
      if (p.length : Int) = (0 : Int) then
        some true
      else
        Option.bind (idx p (0 : Int)) fun v1 =>
        if (v1.Label != ([] : Str)) = true then
          some true
        else
          Option.bind (idx p (0 : Int)) fun v2 =>
          if v2.Kind < (1 : Int) then
            some true
          else
            Option.bind (idx p (0 : Int)) fun v3 =>
            some (decide ((7 : Int) < v3.Kind))
    ) fun v =>
    if v = true then
      some false
    else
      Option.bind (slcLo p (1 : Int)) fun v4 =>
      Option.bind (M.slices_ContainsFunc_api_Step_api_Step n v4 (fun s0 => M.citation_near_1 n s0)) fun step =>
      some (!step)

def M.citation_Valid (n : Nat) (c : api_Cite) : Option Bool :=
  Option.bind (
      if (9 : Int) < (c.Path.length : Int) then
        some true
      else
        some ((c.To != ([] : Str)) != (decide (c.Kind = (1 : Int))))
    ) fun v =>
    if v = true then
      some false
    else
      Option.bind (
          if c.Kind = (0 : Int) then
            some (decide (c.Kind = (0 : Int)))
          else
            some (decide (c.Kind = (4 : Int)))
        ) fun v1 =>
        if v1 = true then
          Option.bind (M.citation_plain n c.Path) fun plain =>
          some plain
        else
          if c.Kind = (1 : Int) then
            Option.bind (M.citation_plain n c.Path) fun plain1 =>
            if plain1 = true then
              Option.bind (M.label_Valid n c.To) fun valid =>
              if valid = true then
                Option.bind (subC (c.Path.length : Int) (1 : Int)) fun v2 =>
                Option.bind (idx c.Path v2) fun v3 =>
                some (decide (v3.Kind ≠ (6 : Int)))
              else
                some false
            else
              some false
          else
            Option.bind (
                if c.Kind = (2 : Int) then
                  some (decide (c.Kind = (2 : Int)))
                else
                  some (decide (c.Kind = (3 : Int)))
              ) fun v4 =>
              if v4 = true then
                Option.bind (M.citation_near n c.Path) fun near =>
                some near
              else
                some false

def M.citation_longest_loop1 (n : Nat) (l : List Str) (from0_ : Int) : List (citation_reader → Option (api_Cite × citation_reader)) → api_Cite → Option api_Cite
  | [], best =>
    some best
  | e :: es, best =>
    Option.bind (e (⟨l, from0_, false⟩ : citation_reader)) fun (v, w) =>
    Option.bind (M.citation_Valid n ({ ({ v with From := from0_ } : api_Cite) with At := w.at_ } : api_Cite)) fun valid =>
    if valid = true then
      if best.At < ({ ({ v with From := from0_ } : api_Cite) with At := w.at_ } : api_Cite).At then
        M.citation_longest_loop1 n l from0_ es ({ ({ v with From := from0_ } : api_Cite) with At := w.at_ } : api_Cite)
      else
        M.citation_longest_loop1 n l from0_ es best
    else
      M.citation_longest_loop1 n l from0_ es best
def M.citation_longest (n : Nat) (l : List Str) (from0_ : Int) : Option (api_Cite × Bool) :=
  Option.bind (M.citation_forms n) fun forms =>
  Option.bind (M.citation_longest_loop1 n l from0_ forms zapi_Cite) fun best =>
    some (best, decide ((0 : Int) < best.At))

def M.citation_Scan_loop1 (l : List Str) : Nat → (List api_Cite) → Int → Option ((List api_Cite))
  | 0, _, _ => none
  | n + 1, out, at0_ =>
    if at0_ < (l.length : Int) then
      Option.bind (M.citation_longest n l at0_) fun longes =>
      if longes.2 = false then
        M.citation_Scan_loop1 l n out (at0_ + 1)
      else
        Option.bind (appC out [longes.1]) fun out1 =>
        M.citation_Scan_loop1 l n out1 longes.1.At
    else
      some out
def M.citation_Scan (n : Nat) (l : List Str) : Option ((List api_Cite)) :=
  Option.bind (M.citation_Scan_loop1 l n ([] : List api_Cite) (0 : Int)) fun out =>
    some out

def M.equivalence_read_1 (s0_ : api_Meaning) (c : api_Unit) (c1 : Int) : Option Bool :=
  if s0_.At = c.Id then
    some (decide (s0_.N = c1))
  else
    some false

def M.slices_IndexFunc_api_Meaning_api_Meaning_loop1 (s0_ : List api_Meaning) (f : api_Meaning → Option Bool) : Nat → Int → Option (Unit ⊕ Int)
  | 0, _ => none
  | n + 1, v =>
    if v < (s0_.length : Int) then
      Option.bind (idx s0_ v) fun v1 =>
      Option.bind (f v1) fun v2 =>
      if v2 = true then
        some (.inr v)
      else
        M.slices_IndexFunc_api_Meaning_api_Meaning_loop1 s0_ f n (v + 1)
    else
      some (.inl ())
def M.slices_IndexFunc_api_Meaning_api_Meaning (n : Nat) (s0_ : List api_Meaning) (f : api_Meaning → Option Bool) : Option Int :=
  Option.bind (M.slices_IndexFunc_api_Meaning_api_Meaning_loop1 s0_ f n (0 : Int)) fun
    | .inl _ =>
      some (-1 : Int)
    | .inr ret0 => some ret0

def M.equivalence_read_loop2 (n : Nat) (u : api_Unit) (senses : List api_Meaning) : List api_Cite → Int → (List (Int × api_Cite)) → (List (Int × (List api_Id))) → Option ((List (Int × api_Cite)) × (List (Int × (List api_Id))))
  | [], _, v, v1 =>
    some (v, v1)
  | e1 :: es1, i1, v, v1 =>
    Option.bind (M.slices_IndexFunc_api_Meaning_api_Meaning n senses (fun s0 => M.equivalence_read_1 s0 u i1)) fun meanin =>
    if (0 : Int) ≤ meanin then
      Option.bind (idx senses meanin) fun v2 =>
      M.equivalence_read_loop2 n u senses es1 (i1 + 1) (mset v e1.From e1) (mset v1 e1.From v2.To)
    else
      M.equivalence_read_loop2 n u senses es1 (i1 + 1) (mset v e1.From e1) v1
def M.equivalence_read_loop1  : List api_Word → equivalence_text → Option equivalence_text
  | [], t =>
    some t
  | e :: es, t =>
    Option.bind (appC t.words_ [e.Text]) fun out =>
    M.equivalence_read_loop1 es ({ t with words_ := out } : equivalence_text)
def M.equivalence_read (n : Nat) (u : api_Unit) (senses : List api_Meaning) : Option equivalence_text :=
  Option.bind (M.equivalence_read_loop1 u.Words (⟨([] : List Str), ([] : List (Int × api_Cite)), ([] : List (Int × (List api_Id)))⟩ : equivalence_text)) fun t =>
    Option.bind (M.citation_Scan n t.words_) fun scan =>
    Option.bind (M.equivalence_read_loop2 n u senses scan (0 : Int) ([] : List (Int × api_Cite)) ([] : List (Int × (List api_Id)))) fun (v, v1) =>
      some ({ t with cites_ := v, targets_ := v1 } : equivalence_text)

def M.equivalence_table_carried_loop1 (n : Nat) (t : equivalence_table) : List api_Id → (List api_Id) → Option (((List api_Id)) ⊕ ((List api_Id) × Bool))
  | [], out =>
    some (.inl out)
  | e :: es, out =>
    Option.bind (M.equivalence_table_goes n t e) fun goes =>
    if goes.2 = false then
      some (.inr (([] : List api_Id), false))
    else
      Option.bind (appC out [goes.1]) fun out1 =>
      M.equivalence_table_carried_loop1 n t es out1
def M.equivalence_table_carried (n : Nat) (t : equivalence_table) (l : List api_Id) : Option ((List api_Id) × Bool) :=
  Option.bind (M.equivalence_table_carried_loop1 n t l ([] : List api_Id)) fun
    | .inl out =>
      some (out, decide ((0 : Int) < (out.length : Int)))
    | .inr ret0 => some ret0

def M.equivalence_text_run_loop1 (t : equivalence_text) (many : Int) : Nat → Int → (List api_Id) → Option (Unit ⊕ ((List api_Id) × Int × Bool))
  | 0, _, _ => none
  | n + 1, at0_1, out =>
    if ((mget t.cites_ at0_1 zapi_Cite, mhas t.cites_ at0_1).2) = false then
      some (.inr (([] : List api_Id), (0 : Int), false))
    else
      Option.bind (appC out (mget t.targets_ at0_1 ([] : List api_Id))) fun out1 =>
      if many ≤ (out1.length : Int) then
        some (.inr (out1, ((mget t.cites_ at0_1 zapi_Cite, mhas t.cites_ at0_1).1).At, true))
      else
        if (t.words_.length : Int) ≤ ((mget t.cites_ at0_1 zapi_Cite, mhas t.cites_ at0_1).1).At then
          some (.inr (([] : List api_Id), (0 : Int), false))
        else
          Option.bind (idx t.words_ (((mget t.cites_ at0_1 zapi_Cite, mhas t.cites_ at0_1).1).At)) fun v =>
          if (v != ([97, 110, 100] : Str)) = true then
            some (.inr (([] : List api_Id), (0 : Int), false))
          else
            Option.bind (addC (((mget t.cites_ at0_1 zapi_Cite, mhas t.cites_ at0_1).1).At) (1 : Int)) fun v1 =>
            M.equivalence_text_run_loop1 t many n v1 out1
def M.equivalence_text_run (n : Nat) (t : equivalence_text) (at0_ : Int) (many : Int) : Option ((List api_Id) × Int × Bool) :=
  Option.bind (M.equivalence_text_run_loop1 t many n at0_ ([] : List api_Id)) fun
    | .inl _ =>
      none
    | .inr ret0 => some ret0

def M.slices_Equal_api_Id_api_Id_loop1 (s1_ : List api_Id) (s2_ : List api_Id) : Nat → Int → Option (Unit ⊕ Bool)
  | 0, _ => none
  | n + 1, v =>
    if v < (s1_.length : Int) then
      Option.bind (idx s1_ v) fun v1 =>
      Option.bind (idx s2_ v) fun v2 =>
      if v1 ≠ v2 then
        some (.inr false)
      else
        M.slices_Equal_api_Id_api_Id_loop1 s1_ s2_ n (v + 1)
    else
      some (.inl ())
def M.slices_Equal_api_Id_api_Id (n : Nat) (s1_ : List api_Id) (s2_ : List api_Id) : Option Bool :=
  if (s1_.length : Int) ≠ (s2_.length : Int) then
    some false
  else
    Option.bind (M.slices_Equal_api_Id_api_Id_loop1 s1_ s2_ n (0 : Int)) fun
      | .inl _ =>
        some true
      | .inr ret0 => some ret0

def M.equivalence_text_sign (t : equivalence_text) (at0_ : Int) : Option Str :=
  Option.bind (idx t.words_ at0_) fun v =>
  Option.bind (subC (v.length : Int) (1 : Int)) fun v1 =>
  Option.bind (slcLo v v1) fun v2 =>
  Option.bind (containsM ([44, 59, 46, 58, 41] : Str) v2) fun contai =>
  if contai = true then
    some v2
  else
    some ([] : Str)

def M.equivalence_table_differ_loop1 (t : equivalence_table) (x : equivalence_text) (y : equivalence_text) : Nat → Int → Int → Option (Unit ⊕ (Int × Bool))
  | 0, _, _ => none
  | n + 1, i, k =>
    Option.bind (
        if i < (x.words_.length : Int) then
          some true
        else
          some (decide (k < (y.words_.length : Int)))
      ) fun v =>
      if v = true then
        Option.bind (M.equivalence_table_carried n t (mget x.targets_ i ([] : List api_Id))) fun carrie =>
        Option.bind (
            if ((mget x.cites_ i zapi_Cite, mhas x.cites_ i).2) = true then
              some carrie.2
            else
              some false
          ) fun v1 =>
          if v1 = true then
            Option.bind (M.equivalence_text_run n y k (carrie.1.length : Int)) fun run =>
            if run.2.2 = false then
              some (.inr (i, true))
            else
              Option.bind (M.slices_Equal_api_Id_api_Id n run.1 carrie.1) fun id =>
              if id = false then
                some (.inr (i, true))
              else
                Option.bind (subC (((mget x.cites_ i zapi_Cite, mhas x.cites_ i).1).At) (1 : Int)) fun v2 =>
                Option.bind (M.equivalence_text_sign x v2) fun sign =>
                Option.bind (subC run.2.1 (1 : Int)) fun v3 =>
                Option.bind (M.equivalence_text_sign y v3) fun sign1 =>
                if (sign != sign1) = true then
                  some (.inr (i, true))
                else
                  M.equivalence_table_differ_loop1 t x y n (((mget x.cites_ i zapi_Cite, mhas x.cites_ i).1).At) run.2.1
          else
            if i < (x.words_.length : Int) then
              if k < (y.words_.length : Int) then
                Option.bind (idx x.words_ i) fun v4 =>
                Option.bind (idx y.words_ k) fun v5 =>
                if (v4 == v5) = true then
                  M.equivalence_table_differ_loop1 t x y n (i + 1) (k + 1)
                else
                  some (.inr (i, true))
              else
                some (.inr (i, true))
            else
              some (.inr (i, true))
      else
        some (.inl ())
def M.equivalence_table_differ (n : Nat) (t : equivalence_table) (x : equivalence_text) (y : equivalence_text) : Option (Int × Bool) :=
  Option.bind (M.equivalence_table_differ_loop1 t x y n (0 : Int) (0 : Int)) fun
    | .inl _ =>
      some ((0 : Int), false)
    | .inr ret0 => some ret0

def M.equivalence_table_flaw (n : Nat) (t : equivalence_table) (u : api_Unit) (x : List api_Meaning) (y : List api_Meaning) : Option api_Finding :=
  Option.bind (M.equivalence_table_goes n t u.Id) fun goes =>
  if ((mget t.to_ u.Id ([] : List api_Id)).length : Int) = (0 : Int) then
    Option.bind ((fun s0 s1 => M.equivalence_table_flaw_1 s0 s1 u) (4 : Int) ([110, 111, 32, 100, 101, 115, 116, 105, 110, 97, 116, 105, 111, 110] : Str)) fun v =>
    some v
  else
    if (1 : Int) < ((mget t.to_ u.Id ([] : List api_Id)).length : Int) then
      Option.bind ((fun s0 s1 => M.equivalence_table_flaw_1 s0 s1 u) (8 : Int) ([115, 101, 118, 101, 114, 97, 108, 32, 100, 101, 115, 116, 105, 110, 97, 116, 105, 111, 110, 115] : Str)) fun v1 =>
      some v1
    else
      if goes.2 = false then
        Option.bind ((fun s0 s1 => M.equivalence_table_flaw_1 s0 s1 u) (7 : Int) ([100, 101, 115, 116, 105, 110, 97, 116, 105, 111, 110, 32, 109, 105, 115, 115, 105, 110, 103] : Str)) fun v2 =>
        some v2
      else
        Option.bind (M.unit_Find n t.b_ goes.1) fun find =>
        if u.Kind ≠ find.1.Kind then
          Option.bind ((fun s0 s1 => M.equivalence_table_flaw_1 s0 s1 u) (9 : Int) ([107, 105, 110, 100] : Str)) fun v3 =>
          some v3
        else
          Option.bind (M.equivalence_texts u.Head) fun texts =>
          Option.bind (M.equivalence_texts find.1.Head) fun texts1 =>
          Option.bind (M.wordseq_Equal n texts texts1) fun equal =>
          if equal = false then
            Option.bind ((fun s0 s1 => M.equivalence_table_flaw_1 s0 s1 u) (11 : Int) ([104, 101, 97, 100, 105, 110, 103] : Str)) fun v4 =>
            some v4
          else
            Option.bind (M.equivalence_read n u x) fun read =>
            Option.bind (M.equivalence_read n find.1 y) fun read1 =>
            Option.bind (M.equivalence_table_differ n t read read1) fun differ =>
            if differ.2 = true then
              Option.bind ((fun s0 s1 => M.equivalence_table_flaw_1 s0 s1 u) (2 : Int) ([119, 111, 114, 100, 115] : Str)) fun v5 =>
              some ({ v5 with At := differ.1 } : api_Finding)
            else
              some (⟨(0 : Int), zapi_Id, (0 : Int), ([] : Str)⟩ : api_Finding)

def M.equivalence_Check_1 (f : api_Finding) (c : List api_Finding) : Option (List api_Finding) :=
  if f.Why ≠ (0 : Int) then
    Option.bind (appC c [f]) fun out =>
    some out
  else
    some c

def M.equivalence_Check_2 (n : Nat) (u : api_Unit) (c : List api_Finding) (c1 : equivalence_table) (c2 : List api_Meaning) (c3 : List api_Meaning) : Option (List api_Finding) :=
  Option.bind (M.equivalence_table_flaw n c1 u c2 c3) fun flaw1 =>
  Option.bind (M.equivalence_Check_1 flaw1 c) fun w1 =>
  some w1

def M.equivalence_each_i0_loop1 (n : Nat) (c1 : equivalence_table) (c2 : List api_Meaning) (c3 : List api_Meaning) (slf : api_Unit → (List api_Finding) → equivalence_table → (List api_Meaning) → (List api_Meaning) → Option (List api_Finding)) : List api_Unit → (List api_Finding) → Option ((List api_Finding))
  | [], v =>
    some v
  | e :: es, v =>
    Option.bind (M.equivalence_Check_2 n e v c1 c2 c3) fun w =>
    Option.bind (slf e w c1 c2 c3) fun w1 =>
    M.equivalence_each_i0_loop1 n c1 c2 c3 slf es w1
def M.equivalence_each_i0 : Nat → api_Unit → (List api_Finding) → equivalence_table → (List api_Meaning) → (List api_Meaning) → Option (List api_Finding)
  | 0, _, _, _, _, _ => none
  | n + 1, u, c, c1, c2, c3 =>
    Option.bind (M.equivalence_each_i0_loop1 n c1 c2 c3 (M.equivalence_each_i0 n) u.Kids c) fun v =>
      some v

def M.equivalence_Check_3 (v : api_Unit) (c : equivalence_table) (c1 : List api_Finding) : Option (List api_Finding) :=
  if ((mget c.from_ v.Id ([] : List api_Id)).length : Int) = (0 : Int) then
    Option.bind (M.equivalence_Check_1 (⟨(0 : Int), v.Id, (4 : Int), ([110, 111, 32, 115, 111, 117, 114, 99, 101] : Str)⟩ : api_Finding) c1) fun w =>
    some w
  else
    if (1 : Int) < ((mget c.from_ v.Id ([] : List api_Id)).length : Int) then
      Option.bind (M.equivalence_Check_1 (⟨(0 : Int), v.Id, (8 : Int), ([115, 101, 118, 101, 114, 97, 108, 32, 115, 111, 117, 114, 99, 101, 115] : Str)⟩ : api_Finding) c1) fun w1 =>
      some w1
    else
      some c1

def M.equivalence_each_i1_loop1 (c : equivalence_table) (slf : api_Unit → equivalence_table → (List api_Finding) → Option (List api_Finding)) : List api_Unit → (List api_Finding) → Option ((List api_Finding))
  | [], v =>
    some v
  | e :: es, v =>
    Option.bind (M.equivalence_Check_3 e c v) fun w =>
    Option.bind (slf e c w) fun w1 =>
    M.equivalence_each_i1_loop1 c slf es w1
def M.equivalence_each_i1 : Nat → api_Unit → equivalence_table → (List api_Finding) → Option (List api_Finding)
  | 0, _, _, _ => none
  | n + 1, u, c, c1 =>
    Option.bind (M.equivalence_each_i1_loop1 c (M.equivalence_each_i1 n) u.Kids c1) fun v =>
      some v

def M.equivalence_Check_loop1 (n : Nat) (a : api_Unit) : List api_Destination → Int → (List api_Finding) → Option ((List api_Finding))
  | [], _, out2 =>
    some out2
  | e :: es, i, out2 =>
    Option.bind (M.equivalence_inner n a e.From) fun inner =>
    if inner = false then
      Option.bind (M.equivalence_Check_1 (⟨i, e.From, (1 : Int), ([117, 110, 107, 110, 111, 119, 110, 32, 115, 111, 117, 114, 99, 101] : Str)⟩ : api_Finding) out2) fun out3 =>
      M.equivalence_Check_loop1 n a es (i + 1) out3
    else
      M.equivalence_Check_loop1 n a es (i + 1) out2
def M.equivalence_Check (n : Nat) (a : api_Unit) (b : api_Unit) (l : List api_Destination) (x : List api_Meaning) (y : List api_Meaning) : Option ((List api_Finding)) :=
  Option.bind (M.equivalence_made a b l) fun made =>
  Option.bind (M.equivalence_each_i0 n a ([] : List api_Finding) made x y) fun out =>
  Option.bind (M.equivalence_each_i1 n b made out) fun out1 =>
  Option.bind (M.equivalence_Check_loop1 n a l (0 : Int) out1) fun out2 =>
    some out2

def M.equivalence_Equivalent (n : Nat) (a : api_Unit) (b : api_Unit) (l : List api_Destination) (x : List api_Meaning) (y : List api_Meaning) : Option Bool :=
  Option.bind (M.equivalence_Check n a b l x y) fun check =>
  some (decide ((check.length : Int) = (0 : Int)))

def M.equivalence_CheckWords (n : Nat) (a : api_Unit) (b : api_Unit) (l : List api_Destination) : Option ((List api_Finding)) :=
  Option.bind (M.equivalence_Check n a b l ([] : List api_Meaning) ([] : List api_Meaning)) fun check =>
  some check

def M.unit_Parent_1 (n : Nat) (k : api_Unit) (c : api_Id) : Option Bool :=
  Option.bind (M.unit_way n k c) fun way =>
  some (!way.isEmpty)

def M.slices_IndexFunc_api_Unit_api_Unit_loop1 (s0_ : List api_Unit) (f : api_Unit → Option Bool) : Nat → Int → Option (Unit ⊕ Int)
  | 0, _ => none
  | n + 1, v =>
    if v < (s0_.length : Int) then
      Option.bind (idx s0_ v) fun v1 =>
      Option.bind (f v1) fun v2 =>
      if v2 = true then
        some (.inr v)
      else
        M.slices_IndexFunc_api_Unit_api_Unit_loop1 s0_ f n (v + 1)
    else
      some (.inl ())
def M.slices_IndexFunc_api_Unit_api_Unit (n : Nat) (s0_ : List api_Unit) (f : api_Unit → Option Bool) : Option Int :=
  Option.bind (M.slices_IndexFunc_api_Unit_api_Unit_loop1 s0_ f n (0 : Int)) fun
    | .inl _ =>
      some (-1 : Int)
    | .inr ret0 => some ret0

def M.unit_Parent (n : Nat) (u : api_Unit) (id : api_Id) : Option (api_Id × Int × Bool) :=
  Option.bind (M.unit_way n u id) fun way =>
  if (way.length : Int) < (2 : Int) then
    some ((⟨(0 : Int), (0 : Int), (0 : Int)⟩ : api_Id), (-1 : Int), false)
  else
    Option.bind (subC (way.length : Int) (2 : Int)) fun v =>
    Option.bind (idx way v) fun v1 =>
    Option.bind (M.slices_IndexFunc_api_Unit_api_Unit n v1.Kids (fun s0 => M.unit_Parent_1 n s0 id)) fun unit =>
    some (v1.Id, unit, true)

def M.equivalence_Moved_1 (n : Nat) (u : api_Unit) (c : equivalence_table) (c1 : api_Unit) (c2 : api_Unit) (c3 : List api_Id) : Option (List api_Id) :=
  Option.bind (M.equivalence_table_goes n c u.Id) fun goes =>
  if goes.2 = false then
    some c3
  else
    Option.bind (M.unit_Parent n c1 u.Id) fun parent =>
    Option.bind (M.unit_Parent n c2 goes.1) fun parent1 =>
    Option.bind (M.equivalence_table_goes n c parent.1) fun goes1 =>
    Option.bind (
        if parent.1 = c1.Id then
          some (true, c2.Id)
        else
          some (goes1.2, goes1.1)
      ) fun (there, home) =>
      if there = false then
        Option.bind (appC c3 [u.Id]) fun out =>
        some out
      else
        if home ≠ parent1.1 then
          Option.bind (appC c3 [u.Id]) fun out1 =>
          some out1
        else
          some c3

def M.equivalence_each_i2_loop1 (n : Nat) (c : equivalence_table) (c1 : api_Unit) (c2 : api_Unit) (slf : api_Unit → equivalence_table → api_Unit → api_Unit → (List api_Id) → Option (List api_Id)) : List api_Unit → (List api_Id) → Option ((List api_Id))
  | [], v =>
    some v
  | e :: es, v =>
    Option.bind (M.equivalence_Moved_1 n e c c1 c2 v) fun w =>
    Option.bind (slf e c c1 c2 w) fun w1 =>
    M.equivalence_each_i2_loop1 n c c1 c2 slf es w1
def M.equivalence_each_i2 : Nat → api_Unit → equivalence_table → api_Unit → api_Unit → (List api_Id) → Option (List api_Id)
  | 0, _, _, _, _, _ => none
  | n + 1, u, c, c1, c2, c3 =>
    Option.bind (M.equivalence_each_i2_loop1 n c c1 c2 (M.equivalence_each_i2 n) u.Kids c3) fun v =>
      some v

def M.equivalence_Moved (n : Nat) (a : api_Unit) (b : api_Unit) (l : List api_Destination) : Option ((List api_Id)) :=
  Option.bind (M.equivalence_made a b l) fun made =>
  Option.bind (M.equivalence_each_i2 n a made a b ([] : List api_Id)) fun out =>
  some out

def M.law48_awake (n : Nat)  : Option Bool :=
  Option.bind (M.law48_awake_1 (1 : Int)) fun v1_ =>
  Option.bind (M.law48_awake_2 ([([117, 110, 100, 101, 114] : Str), ([115, 101, 99, 116, 105, 111, 110] : Str), ([54, 44] : Str)])) fun v2_ =>
  Option.bind (M.law48_awake_1 (2 : Int)) fun v1_1 =>
  Option.bind (M.law48_awake_1 (3 : Int)) fun v1_2 =>
  Option.bind (M.law48_awake_2 ([([117, 110, 100, 101, 114] : Str), ([98, 111, 111, 107] : Str), ([115, 101, 99, 116, 105, 111, 110] : Str), ([51, 44] : Str)])) fun v2_1 =>
  Option.bind (M.law48_awake_1 (4 : Int)) fun v1_3 =>
  Option.bind (M.law48_awake_1 (1 : Int)) fun v1_4 =>
  Option.bind (M.law48_awake_1 (3 : Int)) fun v1_5 =>
  Option.bind (M.law48_awake_1 (2 : Int)) fun v1_6 =>
  Option.bind (M.law48_awake_1 (4 : Int)) fun v1_7 =>
  Option.bind (M.law48_awake_1 (1 : Int)) fun v1_8 =>
  Option.bind (M.law48_awake_1 (2 : Int)) fun v1_9 =>
  Option.bind (M.law48_awake_1 (3 : Int)) fun v1_10 =>
  Option.bind (M.law48_awake_1 (4 : Int)) fun v1_11 =>
  Option.bind (M.equivalence_Equivalent n (⟨zapi_Id, (0 : Int), ([] : Str), ([] : List api_Word), ([] : List api_Word), [(⟨v1_, (2 : Int), ([53] : Str), ([] : List api_Word), v2_, ([] : List api_Unit)⟩ : api_Unit), (⟨v1_1, (2 : Int), ([54] : Str), ([] : List api_Word), ([] : List api_Word), ([] : List api_Unit)⟩ : api_Unit)]⟩ : api_Unit) (⟨zapi_Id, (0 : Int), ([] : Str), ([] : List api_Word), ([] : List api_Word), [(⟨v1_2, (2 : Int), ([50] : Str), ([] : List api_Word), v2_1, ([] : List api_Unit)⟩ : api_Unit), (⟨v1_3, (2 : Int), ([51] : Str), ([] : List api_Word), ([] : List api_Word), ([] : List api_Unit)⟩ : api_Unit)]⟩ : api_Unit) [(⟨v1_4, v1_5⟩ : api_Destination), (⟨v1_6, v1_7⟩ : api_Destination)] ([(⟨v1_8, (0 : Int), [v1_9]⟩ : api_Meaning)]) ([(⟨v1_10, (0 : Int), [v1_11]⟩ : api_Meaning)])) fun equiva =>
  if equiva = true then
    Option.bind (M.equivalence_Check n (⟨zapi_Id, (0 : Int), ([] : Str), ([] : List api_Word), ([] : List api_Word), [(⟨v1_, (2 : Int), ([53] : Str), ([] : List api_Word), v2_, ([] : List api_Unit)⟩ : api_Unit), (⟨v1_1, (2 : Int), ([54] : Str), ([] : List api_Word), ([] : List api_Word), ([] : List api_Unit)⟩ : api_Unit)]⟩ : api_Unit) (⟨zapi_Id, (0 : Int), ([] : Str), ([] : List api_Word), ([] : List api_Word), [(⟨v1_2, (2 : Int), ([50] : Str), ([] : List api_Word), v2_1, ([] : List api_Unit)⟩ : api_Unit), (⟨v1_3, (2 : Int), ([51] : Str), ([] : List api_Word), ([] : List api_Word), ([] : List api_Unit)⟩ : api_Unit)]⟩ : api_Unit) [(⟨v1_4, v1_5⟩ : api_Destination), (⟨v1_6, v1_7⟩ : api_Destination)] ([(⟨v1_8, (0 : Int), [v1_9]⟩ : api_Meaning)]) ([] : List api_Meaning)) fun check =>
    if (check.length : Int) = (1 : Int) then
      Option.bind (M.equivalence_CheckWords n (⟨zapi_Id, (0 : Int), ([] : Str), ([] : List api_Word), ([] : List api_Word), [(⟨v1_, (2 : Int), ([53] : Str), ([] : List api_Word), v2_, ([] : List api_Unit)⟩ : api_Unit), (⟨v1_1, (2 : Int), ([54] : Str), ([] : List api_Word), ([] : List api_Word), ([] : List api_Unit)⟩ : api_Unit)]⟩ : api_Unit) (⟨zapi_Id, (0 : Int), ([] : Str), ([] : List api_Word), ([] : List api_Word), [(⟨v1_2, (2 : Int), ([50] : Str), ([] : List api_Word), v2_1, ([] : List api_Unit)⟩ : api_Unit), (⟨v1_3, (2 : Int), ([51] : Str), ([] : List api_Word), ([] : List api_Word), ([] : List api_Unit)⟩ : api_Unit)]⟩ : api_Unit) [(⟨v1_4, v1_5⟩ : api_Destination), (⟨v1_6, v1_7⟩ : api_Destination)]) fun checkw =>
      if (checkw.length : Int) = (1 : Int) then
        Option.bind (M.equivalence_Moved n (⟨zapi_Id, (0 : Int), ([] : Str), ([] : List api_Word), ([] : List api_Word), [(⟨v1_, (2 : Int), ([53] : Str), ([] : List api_Word), v2_, ([] : List api_Unit)⟩ : api_Unit), (⟨v1_1, (2 : Int), ([54] : Str), ([] : List api_Word), ([] : List api_Word), ([] : List api_Unit)⟩ : api_Unit)]⟩ : api_Unit) (⟨zapi_Id, (0 : Int), ([] : Str), ([] : List api_Word), ([] : List api_Word), [(⟨v1_2, (2 : Int), ([50] : Str), ([] : List api_Word), v2_1, ([] : List api_Unit)⟩ : api_Unit), (⟨v1_3, (2 : Int), ([51] : Str), ([] : List api_Word), ([] : List api_Word), ([] : List api_Unit)⟩ : api_Unit)]⟩ : api_Unit) [(⟨v1_4, v1_5⟩ : api_Destination), (⟨v1_6, v1_7⟩ : api_Destination)]) fun moved =>
        some (decide ((moved.length : Int) = (0 : Int)))
      else
        some false
    else
      some false
  else
    some false

def M.r12_Units_loop1 (u : api_Unit) (slf : api_Unit → Option ((List api_Unit))) : Nat → (List api_Unit) → Int → Option ((List api_Unit))
  | 0, _, _ => none
  | n + 1, out, i =>
    if i < (u.Kids.length : Int) then
      Option.bind (idx u.Kids i) fun v =>
      Option.bind (slf v) fun units =>
      Option.bind (appC out units) fun out1 =>
      M.r12_Units_loop1 u slf n out1 (i + 1)
    else
      some out
def M.r12_Units : Nat → api_Unit → Option ((List api_Unit))
  | 0, _ => none
  | n + 1, u =>
    Option.bind (M.r12_Units_loop1 u (M.r12_Units n) n [u] (0 : Int)) fun out =>
      some out

def M.r48_Self_loop1 (units : (List api_Unit)) : Nat → (List api_Destination) → Int → Option ((List api_Destination))
  | 0, _, _ => none
  | n + 1, out, i =>
    if i < (units.length : Int) then
      Option.bind (idx units i) fun v =>
      Option.bind (idx units i) fun v1 =>
      Option.bind (appC out [(⟨v.Id, v1.Id⟩ : api_Destination)]) fun out1 =>
      M.r48_Self_loop1 units n out1 (i + 1)
    else
      some out
def M.r48_Self (n : Nat) (u : api_Unit) : Option ((List api_Destination)) :=
  Option.bind (M.r12_Units n u) fun units =>
  Option.bind (M.r48_Self_loop1 units n ([] : List api_Destination) (1 : Int)) fun out =>
    some out

def M.law48_EquivalenceReflexive (n : Nat) (u : api_Unit) (x : List api_Meaning) : Option Bool :=
  Option.bind (
      Option.bind (M.law48_heavy n u u ([] : List api_Destination) x ([] : List api_Meaning)) fun heavy =>
      if heavy = true then
        some true
      else
        Option.bind (M.law48_once n u) fun once =>
        some (!once)
    ) fun v =>
    if v = true then
      Option.bind (M.law48_awake n) fun awake =>
      some awake
    else
      Option.bind (M.r48_Self n u) fun self =>
      Option.bind (M.equivalence_Equivalent n u u self x x) fun equiva =>
      if equiva = true then
        Option.bind (M.equivalence_CheckWords n u u self) fun checkw =>
        if (checkw.length : Int) = (0 : Int) then
          Option.bind (M.equivalence_Moved n u u self) fun moved =>
          if (moved.length : Int) = (0 : Int) then
            Option.bind (M.law48_awake n) fun awake1 =>
            some awake1
          else
            some false
        else
          some false
      else
        some false

def M.law48_named_loop1 (by0_ : Int) (slf : api_Unit → Int → Option (api_Unit × (List api_Destination))) : List api_Unit → (List api_Destination) → (List api_Unit) → Option ((List api_Destination) × (List api_Unit))
  | [], l, kids =>
    some (l, kids)
  | e :: es, l, kids =>
    Option.bind (addC e.Id.Act by0_) fun v =>
    Option.bind (slf e by0_) fun named =>
    Option.bind (appC l [(⟨e.Id, ({ e.Id with Act := v } : api_Id)⟩ : api_Destination)]) fun l1 =>
    Option.bind (appC l1 named.2) fun l2 =>
    Option.bind (appC kids [({ named.1 with Id := ({ e.Id with Act := v } : api_Id) } : api_Unit)]) fun out =>
    M.law48_named_loop1 by0_ slf es l2 out
def M.law48_named : Nat → api_Unit → Int → Option (api_Unit × (List api_Destination))
  | 0, _, _ => none
  | n + 1, u, by0_ =>
    Option.bind (M.law48_named_loop1 by0_ (M.law48_named n) u.Kids ([] : List api_Destination) ([] : List api_Unit)) fun (l, kids) =>
      some (({ u with Kids := kids } : api_Unit), l)

def M.law48_EquivalenceRenamed_loop3 (n : Nat) (v1 : List (api_Id × Bool)) : List api_Id → api_Meaning → Option (api_Meaning ⊕ Bool)
  | [], t =>
    some (.inl t)
  | e2 :: es2, t =>
    if (mget v1 e2 false) = false then
      Option.bind (M.law48_awake n) fun awake2 =>
      some (.inr awake2)
    else
      Option.bind (addC e2.Act (5000 : Int)) fun v4 =>
      Option.bind (appC t.To [({ e2 with Act := v4 } : api_Id)]) fun out =>
      M.law48_EquivalenceRenamed_loop3 n v1 es2 ({ t with To := out } : api_Meaning)
def M.law48_EquivalenceRenamed_loop2 (n : Nat) (v1 : List (api_Id × Bool)) : List api_Meaning → (List api_Meaning) → Option (((List api_Meaning)) ⊕ Bool)
  | [], y =>
    some (.inl y)
  | e1 :: es1, y =>
    if (mget v1 e1.At false) = false then
      M.law48_EquivalenceRenamed_loop2 n v1 es1 y
    else
      Option.bind (addC ((⟨e1.At, e1.N, ([] : List api_Id)⟩ : api_Meaning).At.Act) (5000 : Int)) fun v3 =>
      Option.bind (M.law48_EquivalenceRenamed_loop3 n v1 e1.To ({ (⟨e1.At, e1.N, ([] : List api_Id)⟩ : api_Meaning) with At := { (⟨e1.At, e1.N, ([] : List api_Id)⟩ : api_Meaning).At with Act := v3 } } : api_Meaning)) fun
        | .inl t =>
          Option.bind (appC y [t]) fun y1 =>
          M.law48_EquivalenceRenamed_loop2 n v1 es1 y1
        | .inr ret0 => some (.inr ret0)
def M.law48_EquivalenceRenamed_loop1 (n : Nat) (u : api_Unit) : List api_Id → (List (api_Id × Bool)) → Option (((List (api_Id × Bool))) ⊕ Bool)
  | [], v1 =>
    some (.inl v1)
  | e :: es, v1 =>
    Option.bind (
        if e.Act < (0 : Int) then
          some true
        else
          some (decide ((1000 : Int) < e.Act))
      ) fun v2 =>
      if v2 = true then
        Option.bind (M.law48_awake n) fun awake1 =>
        some (.inr awake1)
      else
        M.law48_EquivalenceRenamed_loop1 n u es (mset v1 e (decide (e ≠ u.Id)))
def M.law48_EquivalenceRenamed (n : Nat) (u : api_Unit) (x : List api_Meaning) : Option Bool :=
  Option.bind (
      Option.bind (M.law48_heavy n u u ([] : List api_Destination) x ([] : List api_Meaning)) fun heavy =>
      if heavy = true then
        some true
      else
        Option.bind (M.law48_once n u) fun once =>
        some (!once)
    ) fun v =>
    if v = true then
      Option.bind (M.law48_awake n) fun awake =>
      some awake
    else
      Option.bind (M.r06_All n u) fun all =>
      Option.bind (M.law48_EquivalenceRenamed_loop1 n u all ([] : List (api_Id × Bool))) fun
        | .inl v1 =>
          Option.bind (M.law48_named n u (5000 : Int)) fun named =>
          Option.bind (M.law48_EquivalenceRenamed_loop2 n v1 x ([] : List api_Meaning)) fun
            | .inl y =>
              Option.bind (M.equivalence_Equivalent n u named.1 named.2 x y) fun equiva =>
              if equiva = true then
                Option.bind (M.equivalence_Moved n u named.1 named.2) fun moved =>
                if (moved.length : Int) = (0 : Int) then
                  Option.bind (M.law48_awake n) fun awake3 =>
                  some awake3
                else
                  some false
              else
                some false
            | .inr ret0 => some ret0
        | .inr ret0 => some ret0

def M.r08_With_loop1 (u : api_Unit) (x : api_Unit) (slf : api_Unit → api_Unit → Option api_Unit) : Nat → (List api_Unit) → Int → Option ((List api_Unit))
  | 0, _, _ => none
  | n + 1, kids, i =>
    if i < (u.Kids.length : Int) then
      Option.bind (idx u.Kids i) fun v =>
      Option.bind (slf v x) fun with0_ =>
      Option.bind (appC kids [with0_]) fun out =>
      M.r08_With_loop1 u x slf n out (i + 1)
    else
      some kids
def M.r08_With : Nat → api_Unit → api_Unit → Option api_Unit
  | 0, _, _ => none
  | n + 1, u, x =>
    if u.Id = x.Id then
      some ({ x with Kids := u.Kids } : api_Unit)
    else
      Option.bind (M.r08_With_loop1 u x (M.r08_With n) n ([] : List api_Unit) (0 : Int)) fun kids =>
        some ({ u with Kids := kids } : api_Unit)

def M.law48_EquivalenceDetects (n : Nat) (u : api_Unit) (at0_ : Int) : Option Bool :=
  Option.bind (
      Option.bind (M.law48_heavy n u u ([] : List api_Destination) ([] : List api_Meaning) ([] : List api_Meaning)) fun heavy =>
      if heavy = true then
        some true
      else
        Option.bind (M.law48_once n u) fun once =>
        if once = false then
          some true
        else
          some (decide ((u.Kids.length : Int) = (0 : Int)))
    ) fun v =>
    if v = true then
      Option.bind (M.law48_awake n) fun awake =>
      some awake
    else
      Option.bind (M.r12_Units n u) fun units =>
      Option.bind (subC (units.length : Int) (1 : Int)) fun v1 =>
      Option.bind (remC at0_ v1) fun v2 =>
      Option.bind (addC (1 : Int) v2) fun v3 =>
      Option.bind (idx units v3) fun v4 =>
      Option.bind (appC ([] : List api_Word) v4.Words) fun out =>
      Option.bind (appC out ([(⟨([109, 111, 114, 101] : Str), zapi_Mark⟩ : api_Word)])) fun out1 =>
      Option.bind (M.r08_With n u ({ v4 with Words := out1 } : api_Unit)) fun with0_ =>
      Option.bind (M.r48_Self n u) fun self =>
      Option.bind (M.equivalence_CheckWords n u with0_ self) fun checkw =>
      if (checkw.length : Int) = (1 : Int) then
        Option.bind (idx checkw (0 : Int)) fun v5 =>
        if v5 = (⟨(v4.Words.length : Int), ({ v4 with Words := out1 } : api_Unit).Id, (2 : Int), ([119, 111, 114, 100, 115] : Str)⟩ : api_Finding) then
          Option.bind (M.law48_awake n) fun awake1 =>
          some awake1
        else
          some false
      else
        some false

def M.law48_EquivalenceTransitive_loop2 (e : api_Destination) : List api_Destination → (List api_Destination) → Option ((List api_Destination))
  | [], both1 =>
    some both1
  | e1 :: es1, both1 =>
    if e.To = e1.From then
      Option.bind (appC both1 [(⟨e.From, e1.To⟩ : api_Destination)]) fun both2 =>
      M.law48_EquivalenceTransitive_loop2 e es1 both2
    else
      M.law48_EquivalenceTransitive_loop2 e es1 both1
def M.law48_EquivalenceTransitive_loop1 (m0_ : List api_Destination) : List api_Destination → (List api_Destination) → Option ((List api_Destination))
  | [], both =>
    some both
  | e :: es, both =>
    Option.bind (M.law48_EquivalenceTransitive_loop2 e m0_ both) fun both1 =>
      M.law48_EquivalenceTransitive_loop1 m0_ es both1
def M.law48_EquivalenceTransitive (n : Nat) (a : api_Unit) (b : api_Unit) (c : api_Unit) (l : List api_Destination) (m0_ : List api_Destination) : Option Bool :=
  Option.bind (
      Option.bind (M.law48_heavy n a b l ([] : List api_Meaning) ([] : List api_Meaning)) fun heavy =>
      if heavy = true then
        some true
      else
        Option.bind (M.law48_heavy n b c m0_ ([] : List api_Meaning) ([] : List api_Meaning)) fun heavy1 =>
        if heavy1 = true then
          some true
        else
          Option.bind (M.law48_once n a) fun once =>
          if once = false then
            some true
          else
            Option.bind (M.law48_once n b) fun once1 =>
            if once1 = false then
              some true
            else
              Option.bind (M.law48_once n c) fun once2 =>
              some (!once2)
    ) fun v =>
    if v = true then
      Option.bind (M.law48_awake n) fun awake =>
      some awake
    else
      Option.bind (
          Option.bind (M.equivalence_CheckWords n a b l) fun checkw =>
          if (checkw.length : Int) ≠ (0 : Int) then
            some true
          else
            Option.bind (M.equivalence_CheckWords n b c m0_) fun checkw1 =>
            some (decide ((checkw1.length : Int) ≠ (0 : Int)))
        ) fun v1 =>
        if v1 = true then
          Option.bind (M.law48_awake n) fun awake1 =>
          some awake1
        else
          Option.bind (M.law48_EquivalenceTransitive_loop1 m0_ l ([] : List api_Destination)) fun both =>
            Option.bind (M.equivalence_CheckWords n a c both) fun checkw2 =>
            if (checkw2.length : Int) = (0 : Int) then
              Option.bind (M.law48_awake n) fun awake2 =>
              some awake2
            else
              some false

end Go.Proofs.Ytclepigknhoonaa
