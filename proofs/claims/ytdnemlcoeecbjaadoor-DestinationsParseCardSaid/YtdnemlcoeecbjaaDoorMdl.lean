/-
  What the functions compute: plain functions, written by program out of the code; no machine in sight.
-/
import Derived.Test.YtdnemlcoeecbjaaDoorMod
set_option linter.unusedVariables false
set_option linter.unusedSimpArgs false
namespace Go.Proofs.YtdnemlcoeecbjaaDoor
open Go Go.Dec


structure api_Id where
  Act : Int
  Item : Int
  N : Int
theorem api_Id.eq_iff (a b : api_Id) : (a.Act = b.Act ∧ a.Item = b.Item ∧ a.N = b.N) ↔ a = b := ⟨fun h => by cases a; cases b; simp_all, fun h => by subst h; simp⟩
instance : DecidableEq api_Id := fun a b => decidable_of_iff _ (api_Id.eq_iff a b)
def zapi_Id : api_Id := ⟨(0 : Int), (0 : Int), (0 : Int)⟩

structure api_Destination where
  From : api_Id
  To : api_Id
theorem api_Destination.eq_iff (a b : api_Destination) : (a.From = b.From ∧ a.To = b.To) ↔ a = b := ⟨fun h => by cases a; cases b; simp_all, fun h => by subst h; simp⟩
instance : DecidableEq api_Destination := fun a b => decidable_of_iff _ (api_Destination.eq_iff a b)
def zapi_Destination : api_Destination := ⟨zapi_Id, zapi_Id⟩


def M.destinations_To_1 (d : api_Destination) (c : api_Id) : Option Bool :=
  some (decide (d.From = c))

def M.slices_IndexFunc_api_Destination_api_Destination_loop1 (s0_ : List api_Destination) (f : api_Destination → Option Bool) : Nat → Int → Option (Unit ⊕ Int)
  | 0, _ => none
  | n + 1, v =>
    if v < (s0_.length : Int) then
      Option.bind (idx s0_ v) fun v1 =>
      Option.bind (f v1) fun v2 =>
      if v2 = true then
        some (.inr v)
      else
        M.slices_IndexFunc_api_Destination_api_Destination_loop1 s0_ f n (v + 1)
    else
      some (.inl ())
def M.slices_IndexFunc_api_Destination_api_Destination (n : Nat) (s0_ : List api_Destination) (f : api_Destination → Option Bool) : Option Int :=
  Option.bind (M.slices_IndexFunc_api_Destination_api_Destination_loop1 s0_ f n (0 : Int)) fun
    | .inl _ =>
      some (-1 : Int)
    | .inr ret0 => some ret0

def M.destinations_found (n : Nat) (l : List api_Destination) (such : api_Destination → Option Bool) : Option (api_Destination × Bool) :=
  Option.bind (M.slices_IndexFunc_api_Destination_api_Destination n l such) fun destin =>
  if destin < (0 : Int) then
    some ((⟨zapi_Id, zapi_Id⟩ : api_Destination), false)
  else
    Option.bind (idx l destin) fun v =>
    some (v, true)

def M.destinations_To (n : Nat) (id : api_Id) (l : List api_Destination) : Option (api_Id × Bool) :=
  Option.bind (M.destinations_found n l (fun s0 => M.destinations_To_1 s0 id)) fun found =>
  some (found.1.To, found.2)

def M.destinations_From_1 (d : api_Destination) (c : api_Id) : Option Bool :=
  some (decide (d.To = c))

def M.destinations_From (n : Nat) (id : api_Id) (l : List api_Destination) : Option (api_Id × Bool) :=
  Option.bind (M.destinations_found n l (fun s0 => M.destinations_From_1 s0 id)) fun found =>
  some (found.1.From, found.2)

def M.destinations_three (id : api_Id) : Option Str :=
  Option.bind (itoaM id.Act) fun itoa =>
  Option.bind (catC itoa ([32] : Str)) fun v =>
  Option.bind (itoaM id.Item) fun itoa1 =>
  Option.bind (catC v itoa1) fun v1 =>
  Option.bind (catC v1 ([32] : Str)) fun v2 =>
  Option.bind (itoaM id.N) fun itoa2 =>
  Option.bind (catC v2 itoa2) fun v3 =>
  some v3

def M.destinations_line (d : api_Destination) : Option Str :=
  Option.bind (M.destinations_three d.From) fun three =>
  Option.bind (catC three ([32, 45, 62, 32] : Str)) fun v =>
  Option.bind (M.destinations_three d.To) fun three1 =>
  Option.bind (catC v three1) fun v1 =>
  some v1

def M.destinations_Format_loop1  : List api_Destination → Str → Option Str
  | [], out =>
    some out
  | e :: es, out =>
    Option.bind (M.destinations_line e) fun line =>
    Option.bind (catC line ([10] : Str)) fun v =>
    Option.bind (appC out v) fun out1 =>
    M.destinations_Format_loop1 es out1
def M.destinations_Format (l : List api_Destination) : Option Str :=
  Option.bind (M.destinations_Format_loop1 l ([] : Str)) fun out =>
    some out

def M.law47_awake (n : Nat)  : Option Bool :=
  Option.bind (M.destinations_To n ((⟨(⟨(1 : Int), (0 : Int), (3 : Int)⟩ : api_Id), (⟨(9 : Int), (0 : Int), (7 : Int)⟩ : api_Id)⟩ : api_Destination).From) [(⟨(⟨(1 : Int), (0 : Int), (3 : Int)⟩ : api_Id), (⟨(9 : Int), (0 : Int), (7 : Int)⟩ : api_Id)⟩ : api_Destination)]) fun to =>
  Option.bind (M.destinations_From n ((⟨(⟨(1 : Int), (0 : Int), (3 : Int)⟩ : api_Id), (⟨(9 : Int), (0 : Int), (7 : Int)⟩ : api_Id)⟩ : api_Destination).To) [(⟨(⟨(1 : Int), (0 : Int), (3 : Int)⟩ : api_Id), (⟨(9 : Int), (0 : Int), (7 : Int)⟩ : api_Id)⟩ : api_Destination)]) fun from0_ =>
  if to.2 = true then
    if from0_.2 = true then
      if to.1 = ((⟨(⟨(1 : Int), (0 : Int), (3 : Int)⟩ : api_Id), (⟨(9 : Int), (0 : Int), (7 : Int)⟩ : api_Id)⟩ : api_Destination).To) then
        if from0_.1 = ((⟨(⟨(1 : Int), (0 : Int), (3 : Int)⟩ : api_Id), (⟨(9 : Int), (0 : Int), (7 : Int)⟩ : api_Id)⟩ : api_Destination).From) then
          Option.bind (M.destinations_Format [(⟨(⟨(1 : Int), (0 : Int), (3 : Int)⟩ : api_Id), (⟨(9 : Int), (0 : Int), (7 : Int)⟩ : api_Id)⟩ : api_Destination)]) fun format =>
          some (format == ([49, 32, 48, 32, 51, 32, 45, 62, 32, 57, 32, 48, 32, 55, 10] : Str))
        else
          some false
      else
        some false
    else
      some false
  else
    some false

def M.r47_Digits_loop1  : Nat → Int → Str → Option (Int × Str)
  | 0, _, _ => none
  | n + 1, n0_1, s0_ =>
    if n0_1 < (-9 : Int) then
      Option.bind (remC n0_1 (10 : Int)) fun v =>
      Option.bind (subC (48 : Int) v) fun v1 =>
      Option.bind (catC (strOf [wrap8 v1]) s0_) fun v2 =>
      Option.bind (quoC n0_1 (10 : Int)) fun v3 =>
      M.r47_Digits_loop1 n v3 v2
    else
      some (n0_1, s0_)
def M.r47_Digits_loop2  : Nat → Int → Str → Option Str
  | 0, _, _ => none
  | n + 1, n0_2, s0_1 =>
    if (9 : Int) < n0_2 then
      Option.bind (quoC n0_2 (10 : Int)) fun v10 =>
      Option.bind (remC v10 (10 : Int)) fun v11 =>
      Option.bind (addC (48 : Int) v11) fun v12 =>
      Option.bind (catC (strOf [wrap8 v12]) s0_1) fun v13 =>
      M.r47_Digits_loop2 n v10 v13
    else
      some s0_1
def M.r47_Digits (n : Nat) (n0_ : Int) : Option Str :=
  if n0_ < (0 : Int) then
    Option.bind (M.r47_Digits_loop1 n n0_ ([] : Str)) fun (n0_1, s0_) =>
      Option.bind (remC n0_1 (10 : Int)) fun v4 =>
      Option.bind (subC (48 : Int) v4) fun v5 =>
      Option.bind (catC ([45] : Str) (strOf [wrap8 v5])) fun v6 =>
      Option.bind (catC v6 s0_) fun v7 =>
      some v7
  else
    Option.bind (remC n0_ (10 : Int)) fun v8 =>
    Option.bind (addC (48 : Int) v8) fun v9 =>
    Option.bind (M.r47_Digits_loop2 n n0_ (strOf [wrap8 v9])) fun s0_1 =>
      some s0_1

def M.r47_id (n : Nat) (x : api_Id) : Option Str :=
  Option.bind (M.r47_Digits n x.Act) fun digits =>
  Option.bind (catC digits ([32] : Str)) fun v =>
  Option.bind (M.r47_Digits n x.Item) fun digits1 =>
  Option.bind (catC v digits1) fun v1 =>
  Option.bind (catC v1 ([32] : Str)) fun v2 =>
  Option.bind (M.r47_Digits n x.N) fun digits2 =>
  Option.bind (catC v2 digits2) fun v3 =>
  some v3

def M.r47_Line (n : Nat) (d : api_Destination) : Option Str :=
  Option.bind (M.r47_id n d.From) fun id =>
  Option.bind (catC id ([32, 45, 62, 32] : Str)) fun v =>
  Option.bind (M.r47_id n d.To) fun id1 =>
  Option.bind (catC v id1) fun v1 =>
  some v1

def M.r47_Text_loop1 (l : List api_Destination) : Nat → Str → Int → Option Str
  | 0, _, _ => none
  | n + 1, s0_, i =>
    if i < (l.length : Int) then
      Option.bind (idx l i) fun v =>
      Option.bind (M.r47_Line n v) fun line =>
      Option.bind (catC s0_ line) fun v1 =>
      Option.bind (catC v1 ([10] : Str)) fun v2 =>
      M.r47_Text_loop1 l n v2 (i + 1)
    else
      some s0_
def M.r47_Text (n : Nat) (l : List api_Destination) : Option Str :=
  Option.bind (M.r47_Text_loop1 l n ([] : Str) (0 : Int)) fun s0_ =>
    some s0_

def M.destinations_read_loop1  : List Str → Int → (List Int) → Option ((List Int))
  | [], _, n0_ =>
    some n0_
  | e :: es, i, n0_ =>
    Option.bind (atoiM e) fun atoi =>
    Option.bind (rngC 7 i) fun _ =>
    M.destinations_read_loop1 es (i + 1) (n0_.set i.toNat atoi.1)
def M.destinations_read (s0_ : Str) : Option (api_Destination × Bool) :=
  Option.bind (splitM s0_ ([32] : Str)) fun split =>
  if (split.length : Int) ≠ (7 : Int) then
    some ((⟨zapi_Id, zapi_Id⟩ : api_Destination), false)
  else
    Option.bind (M.destinations_read_loop1 split (0 : Int) (List.replicate 7 (0 : Int))) fun n0_ =>
      Option.bind (rngC 7 (0 : Int)) fun _ =>
      Option.bind (rngC 7 (1 : Int)) fun _ =>
      Option.bind (rngC 7 (2 : Int)) fun _ =>
      Option.bind (rngC 7 (4 : Int)) fun _ =>
      Option.bind (rngC 7 (5 : Int)) fun _ =>
      Option.bind (rngC 7 (6 : Int)) fun _ =>
      Option.bind (M.destinations_line (⟨(⟨(n0_[(0 : Int).toNat]?).getD (0 : Int), (n0_[(1 : Int).toNat]?).getD (0 : Int), (n0_[(2 : Int).toNat]?).getD (0 : Int)⟩ : api_Id), (⟨(n0_[(4 : Int).toNat]?).getD (0 : Int), (n0_[(5 : Int).toNat]?).getD (0 : Int), (n0_[(6 : Int).toNat]?).getD (0 : Int)⟩ : api_Id)⟩ : api_Destination)) fun line =>
      some ((⟨(⟨(n0_[(0 : Int).toNat]?).getD (0 : Int), (n0_[(1 : Int).toNat]?).getD (0 : Int), (n0_[(2 : Int).toNat]?).getD (0 : Int)⟩ : api_Id), (⟨(n0_[(4 : Int).toNat]?).getD (0 : Int), (n0_[(5 : Int).toNat]?).getD (0 : Int), (n0_[(6 : Int).toNat]?).getD (0 : Int)⟩ : api_Id)⟩ : api_Destination), line == s0_)

def M.destinations_Parse_loop1  : Nat → Str → (List api_Destination) → Option (((List api_Destination)) ⊕ ((List api_Destination) × Int × Int))
  | 0, _, _ => none
  | n + 1, s0_1, out =>
    if (s0_1 != ([] : Str)) = true then
      Option.bind (cutM s0_1 ([10] : Str)) fun cut =>
      Option.bind (M.destinations_read cut.1) fun read =>
      Option.bind (
          if cut.2.2 = false then
            some true
          else
            some (!read.2)
        ) fun v =>
        if v = true then
          some (.inr (([] : List api_Destination), (out.length : Int), (2 : Int)))
        else
          Option.bind (M.destinations_To n read.1.From out) fun to =>
          Option.bind (M.destinations_From n read.1.To out) fun from0_ =>
          Option.bind (
              if to.2 = true then
                some true
              else
                some from0_.2
            ) fun v1 =>
            if v1 = true then
              some (.inr (([] : List api_Destination), (out.length : Int), (5 : Int)))
            else
              if (4096 : Int) ≤ (out.length : Int) then
                some (.inr (([] : List api_Destination), (out.length : Int), (6 : Int)))
              else
                Option.bind (appC out [read.1]) fun out1 =>
                M.destinations_Parse_loop1 n cut.2.1 out1
    else
      some (.inl out)
def M.destinations_Parse (n : Nat) (s0_ : Str) : Option ((List api_Destination) × Int × Int) :=
  Option.bind (M.destinations_Parse_loop1 n s0_ ([] : List api_Destination)) fun
    | .inl out =>
      some (out, (out.length : Int), (0 : Int))
    | .inr ret0 => some ret0

def M.destinations_Valid_loop1  : List api_Destination → (List (api_Id × Bool)) → (List (api_Id × Bool)) → Option (((List (api_Id × Bool)) × (List (api_Id × Bool))) ⊕ Bool)
  | [], v, v1 =>
    some (.inl (v, v1))
  | e :: es, v, v1 =>
    Option.bind (
        if (mget v e.From false) = true then
          some true
        else
          some (mget v1 e.To false)
      ) fun v2 =>
      if v2 = true then
        some (.inr false)
      else
        M.destinations_Valid_loop1 es (mset v e.From true) (mset v1 e.To true)
def M.destinations_Valid (l : List api_Destination) : Option Bool :=
  Option.bind (M.destinations_Valid_loop1 l ([] : List (api_Id × Bool)) ([] : List (api_Id × Bool))) fun
    | .inl (v, v1) =>
      some (decide ((l.length : Int) ≤ (4096 : Int)))
    | .inr ret0 => some ret0

def M.r47_Same_loop1 (a : List api_Destination) (b : List api_Destination) : Nat → Int → Option (Unit ⊕ Bool)
  | 0, _ => none
  | n + 1, i =>
    if i < (a.length : Int) then
      Option.bind (idx a i) fun v =>
      Option.bind (idx b i) fun v1 =>
      if v ≠ v1 then
        some (.inr false)
      else
        M.r47_Same_loop1 a b n (i + 1)
    else
      some (.inl ())
def M.r47_Same (n : Nat) (a : List api_Destination) (b : List api_Destination) : Option Bool :=
  if (a.length : Int) ≠ (b.length : Int) then
    some false
  else
    Option.bind (M.r47_Same_loop1 a b n (0 : Int)) fun
      | .inl _ =>
        some true
      | .inr ret0 => some ret0

def M.law47_DestinationsFormat (n : Nat) (l : List api_Destination) : Option Bool :=
  Option.bind (
      Option.bind (M.law47_awake n) fun awake =>
      if awake = false then
        some true
      else
        some (decide ((60 : Int) < (l.length : Int)))
    ) fun v =>
    if v = true then
      Option.bind (M.law47_awake n) fun awake1 =>
      some awake1
    else
      Option.bind (M.destinations_Format l) fun format =>
      Option.bind (M.r47_Text n l) fun text =>
      if (format != text) = true then
        some false
      else
        Option.bind (M.destinations_Parse n format) fun parse =>
        Option.bind (M.destinations_Valid l) fun valid =>
        if valid = false then
          Option.bind (
              if parse.2.2 = (5 : Int) then
                if (parse.1.length : Int) = (0 : Int) then
                  some (decide (parse.2.1 < (l.length : Int)))
                else
                  some false
              else
                some false
            ) fun v1 =>
            some v1
        else
          if parse.2.2 = (0 : Int) then
            if parse.2.1 = (l.length : Int) then
              Option.bind (M.r47_Same n l parse.1) fun same =>
              some same
            else
              some false
          else
            some false

def M.r07_Cut_loop1 (s0_ : Str) : Nat → (List Str) → Int → Int → Option ((List Str))
  | 0, _, _, _ => none
  | n + 1, out, from0_, i =>
    if i ≤ (s0_.length : Int) then
      Option.bind (
          if i = (s0_.length : Int) then
            some true
          else
            Option.bind (idx s0_ i) fun b =>
            some (decide ((b.toNat : Int) = (32 : Int)))
        ) fun v =>
        if v = true then
          Option.bind (slc s0_ from0_ i) fun v1 =>
          Option.bind (appC out [v1]) fun out1 =>
          Option.bind (addC i (1 : Int)) fun v2 =>
          Option.bind (addC i (1 : Int)) fun v3 =>
          M.r07_Cut_loop1 s0_ n out1 v2 v3
        else
          Option.bind (addC i (1 : Int)) fun v4 =>
          M.r07_Cut_loop1 s0_ n out from0_ v4
    else
      some out
def M.r07_Cut (n : Nat) (s0_ : Str) : Option ((List Str)) :=
  Option.bind (M.r07_Cut_loop1 s0_ n ([] : List Str) (0 : Int) (0 : Int)) fun out =>
    some out

def M.r47_number_loop1 (s0_ : Str) : Nat → Int → Int → Option Int
  | 0, _, _ => none
  | n + 1, n0_, i =>
    if i < (s0_.length : Int) then
      Option.bind (
          Option.bind (idx s0_ i) fun b =>
          if (48 : Int) ≤ (b.toNat : Int) then
            Option.bind (idx s0_ i) fun b1 =>
            some (decide ((b1.toNat : Int) ≤ (57 : Int)))
          else
            some false
        ) fun v =>
        if v = true then
          Option.bind (idx s0_ i) fun b2 =>
          M.r47_number_loop1 s0_ n (wrap64 ((wrap64 ((10 : Int) * n0_)) - (wrap8 ((b2.toNat : Int) - (48 : Int))))) (i + 1)
        else
          M.r47_number_loop1 s0_ n n0_ (i + 1)
    else
      some n0_
def M.r47_number (n : Nat) (s0_ : Str) : Option Int :=
  Option.bind (M.r47_number_loop1 s0_ n (0 : Int) (0 : Int)) fun n0_ =>
    if (0 : Int) < (s0_.length : Int) then
      Option.bind (idx s0_ (0 : Int)) fun b3 =>
      if (b3.toNat : Int) = (45 : Int) then
        some n0_
      else
        some (wrap64 (0 - n0_))
    else
      some (wrap64 (0 - n0_))

def M.r47_Read (n : Nat) (s0_ : Str) : Option (api_Destination × Bool) :=
  Option.bind (M.r07_Cut n s0_) fun cut =>
  if (cut.length : Int) ≠ (7 : Int) then
    some ((⟨zapi_Id, zapi_Id⟩ : api_Destination), false)
  else
    Option.bind (idx cut (0 : Int)) fun v =>
    Option.bind (M.r47_number n v) fun number =>
    Option.bind (idx cut (1 : Int)) fun v1 =>
    Option.bind (M.r47_number n v1) fun number1 =>
    Option.bind (idx cut (2 : Int)) fun v2 =>
    Option.bind (M.r47_number n v2) fun number2 =>
    Option.bind (idx cut (4 : Int)) fun v3 =>
    Option.bind (M.r47_number n v3) fun number3 =>
    Option.bind (idx cut (5 : Int)) fun v4 =>
    Option.bind (M.r47_number n v4) fun number4 =>
    Option.bind (idx cut (6 : Int)) fun v5 =>
    Option.bind (M.r47_number n v5) fun number5 =>
    Option.bind (M.r47_Line n (⟨(⟨number, number1, number2⟩ : api_Id), (⟨number3, number4, number5⟩ : api_Id)⟩ : api_Destination)) fun line =>
    if (line != s0_) = true then
      some ((⟨zapi_Id, zapi_Id⟩ : api_Destination), false)
    else
      some ((⟨(⟨number, number1, number2⟩ : api_Id), (⟨number3, number4, number5⟩ : api_Id)⟩ : api_Destination), true)

def M.r47_May_loop2 (l : List api_Destination) (i : Int) : Nat → Int → Option (Unit ⊕ Bool)
  | 0, _ => none
  | n + 1, k =>
    if k < i then
      Option.bind (idx l k) fun v =>
      Option.bind (idx l i) fun v1 =>
      if v.From = v1.From then
        some (.inr false)
      else
        Option.bind (idx l k) fun v2 =>
        Option.bind (idx l i) fun v3 =>
        if v2.To = v3.To then
          some (.inr false)
        else
          Option.bind (addC k (1 : Int)) fun v4 =>
          M.r47_May_loop2 l i n v4
    else
      some (.inl ())
def M.r47_May_loop1 (l : List api_Destination) : Nat → Int → Option (Unit ⊕ Bool)
  | 0, _ => none
  | n + 1, i =>
    if i < (l.length : Int) then
      Option.bind (M.r47_May_loop2 l i n (0 : Int)) fun
        | .inl _ =>
          Option.bind (addC i (1 : Int)) fun v5 =>
          M.r47_May_loop1 l n v5
        | .inr ret0 => some (.inr ret0)
    else
      some (.inl ())
def M.r47_May (n : Nat) (l : List api_Destination) : Option Bool :=
  Option.bind (M.r47_May_loop1 l n (0 : Int)) fun
    | .inl _ =>
      some (decide ((l.length : Int) ≤ (4096 : Int)))
    | .inr ret0 => some ret0

def M.r47_Parse_loop1 (s0_ : Str) : Nat → (List api_Destination) → Int → Int → Option (((List api_Destination) × Int) ⊕ ((List api_Destination) × Int × Int))
  | 0, _, _, _ => none
  | n + 1, l, from0_, i =>
    if i < (s0_.length : Int) then
      Option.bind (idx s0_ i) fun b =>
      if (b.toNat : Int) ≠ (10 : Int) then
        M.r47_Parse_loop1 s0_ n l from0_ (i + 1)
      else
        Option.bind (slc s0_ from0_ i) fun v =>
        Option.bind (M.r47_Read n v) fun read =>
        if read.2 = false then
          some (.inr (([] : List api_Destination), (l.length : Int), (2 : Int)))
        else
          Option.bind (appC ([] : List api_Destination) l) fun out =>
          Option.bind (appC out [read.1]) fun out1 =>
          Option.bind (M.r47_May n out1) fun may =>
          if may = false then
            if (l.length : Int) < (4096 : Int) then
              some (.inr (([] : List api_Destination), (l.length : Int), (5 : Int)))
            else
              if (4096 : Int) ≤ (l.length : Int) then
                some (.inr (([] : List api_Destination), (l.length : Int), (6 : Int)))
              else
                Option.bind (appC l [read.1]) fun out2 =>
                M.r47_Parse_loop1 s0_ n out2 (i + 1) (i + 1)
          else
            if (4096 : Int) ≤ (l.length : Int) then
              some (.inr (([] : List api_Destination), (l.length : Int), (6 : Int)))
            else
              Option.bind (appC l [read.1]) fun out3 =>
              M.r47_Parse_loop1 s0_ n out3 (i + 1) (i + 1)
    else
      some (.inl (l, from0_))
def M.r47_Parse (n : Nat) (s0_ : Str) : Option ((List api_Destination) × Int × Int) :=
  Option.bind (M.r47_Parse_loop1 s0_ n ([] : List api_Destination) (0 : Int) (0 : Int)) fun
    | .inl (l, from0_) =>
      if from0_ < (s0_.length : Int) then
        some (([] : List api_Destination), (l.length : Int), (2 : Int))
      else
        some (l, (l.length : Int), (0 : Int))
    | .inr ret0 => some ret0

def M.law47_DestinationsParse (n : Nat) (s0_ : Str) : Option Bool :=
  Option.bind (
      Option.bind (M.law47_awake n) fun awake =>
      if awake = false then
        some true
      else
        some (decide ((4000 : Int) < (s0_.length : Int)))
    ) fun v =>
    if v = true then
      Option.bind (M.law47_awake n) fun awake1 =>
      some awake1
    else
      Option.bind (M.destinations_Parse n s0_) fun parse =>
      Option.bind (M.r47_Parse n s0_) fun parse1 =>
      if parse.2.1 = parse1.2.1 then
        if parse.2.2 = parse1.2.2 then
          Option.bind (M.r47_Same n parse.1 parse1.1) fun same =>
          if same = true then
            if parse.2.2 ≠ (0 : Int) then
              some true
            else
              Option.bind (M.destinations_Format parse.1) fun format =>
              some (format == s0_)
          else
            some false
        else
          some false
      else
        some false

end Go.Proofs.YtdnemlcoeecbjaaDoor
