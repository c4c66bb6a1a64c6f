/-
  What the functions compute: plain functions, written by program out of the code; no machine in sight.
-/
import Derived.Test.YtdnemlcoeecbjaaDoorMod
set_option linter.unusedVariables false
set_option linter.unusedSimpArgs false
namespace Go.Proofs.YtdnemlcoeecbjaaDoor
open Go Go.Dec


structure api_Id where
  Act : Int
  Item : Int
  N : Int
theorem api_Id.eq_iff (a b : api_Id) : (a.Act = b.Act ∧ a.Item = b.Item ∧ a.N = b.N) ↔ a = b := ⟨fun h => by cases a; cases b; simp_all, fun h => by subst h; simp⟩
instance : DecidableEq api_Id := fun a b => decidable_of_iff _ (api_Id.eq_iff a b)
def zapi_Id : api_Id := ⟨(0 : Int), (0 : Int), (0 : Int)⟩

structure api_Destination where
  From : api_Id
  To : api_Id
theorem api_Destination.eq_iff (a b : api_Destination) : (a.From = b.From ∧ a.To = b.To) ↔ a = b := ⟨fun h => by cases a; cases b; simp_all, fun h => by subst h; simp⟩
instance : DecidableEq api_Destination := fun a b => decidable_of_iff _ (api_Destination.eq_iff a b)
def zapi_Destination : api_Destination := ⟨zapi_Id, zapi_Id⟩

structure api_Mark where
  Act : Int
  Item : Int
  At : Int
theorem api_Mark.eq_iff (a b : api_Mark) : (a.Act = b.Act ∧ a.Item = b.Item ∧ a.At = b.At) ↔ a = b := ⟨fun h => by cases a; cases b; simp_all, fun h => by subst h; simp⟩
instance : DecidableEq api_Mark := fun a b => decidable_of_iff _ (api_Mark.eq_iff a b)
def zapi_Mark : api_Mark := ⟨(0 : Int), (0 : Int), (0 : Int)⟩

structure api_Word where
  Text : Str
  By : api_Mark
theorem api_Word.eq_iff (a b : api_Word) : (a.Text = b.Text ∧ a.By = b.By) ↔ a = b := ⟨fun h => by cases a; cases b; simp_all, fun h => by subst h; simp⟩
instance : DecidableEq api_Word := fun a b => decidable_of_iff _ (api_Word.eq_iff a b)
def zapi_Word : api_Word := ⟨([] : Str), zapi_Mark⟩

structure api_Unit where
  Id : api_Id
  Kind : Int
  Label : Str
  Head : List api_Word
  Words : List api_Word
  Kids : List api_Unit
def zapi_Unit : api_Unit := ⟨zapi_Id, (0 : Int), ([] : Str), ([] : List api_Word), ([] : List api_Word), ([] : List api_Unit)⟩

structure api_Step where
  Kind : Int
  Label : Str
theorem api_Step.eq_iff (a b : api_Step) : (a.Kind = b.Kind ∧ a.Label = b.Label) ↔ a = b := ⟨fun h => by cases a; cases b; simp_all, fun h => by subst h; simp⟩
instance : DecidableEq api_Step := fun a b => decidable_of_iff _ (api_Step.eq_iff a b)
def zapi_Step : api_Step := ⟨(0 : Int), ([] : Str)⟩


def M.destinations_To_1 (d : api_Destination) (c : api_Id) : Option Bool :=
  some (decide (d.From = c))

def M.slices_IndexFunc_api_Destination_api_Destination_loop1 (s0_ : List api_Destination) (f : api_Destination → Option Bool) : Nat → Int → Option (Unit ⊕ Int)
  | 0, _ => none
  | n + 1, v =>
    if v < (s0_.length : Int) then
      Option.bind (idx s0_ v) fun v1 =>
      Option.bind (f v1) fun v2 =>
      if v2 = true then
        some (.inr v)
      else
        M.slices_IndexFunc_api_Destination_api_Destination_loop1 s0_ f n (v + 1)
    else
      some (.inl ())
def M.slices_IndexFunc_api_Destination_api_Destination (n : Nat) (s0_ : List api_Destination) (f : api_Destination → Option Bool) : Option Int :=
  Option.bind (M.slices_IndexFunc_api_Destination_api_Destination_loop1 s0_ f n (0 : Int)) fun
    | .inl _ =>
      some (-1 : Int)
    | .inr ret0 => some ret0

def M.destinations_found (n : Nat) (l : List api_Destination) (such : api_Destination → Option Bool) : Option (api_Destination × Bool) :=
  Option.bind (M.slices_IndexFunc_api_Destination_api_Destination n l such) fun destin =>
  if destin < (0 : Int) then
    some ((⟨zapi_Id, zapi_Id⟩ : api_Destination), false)
  else
    Option.bind (idx l destin) fun v =>
    some (v, true)

def M.destinations_To (n : Nat) (id : api_Id) (l : List api_Destination) : Option (api_Id × Bool) :=
  Option.bind (M.destinations_found n l (fun s0 => M.destinations_To_1 s0 id)) fun found =>
  some (found.1.To, found.2)

def M.destinations_From_1 (d : api_Destination) (c : api_Id) : Option Bool :=
  some (decide (d.To = c))

def M.destinations_From (n : Nat) (id : api_Id) (l : List api_Destination) : Option (api_Id × Bool) :=
  Option.bind (M.destinations_found n l (fun s0 => M.destinations_From_1 s0 id)) fun found =>
  some (found.1.From, found.2)

def M.internal_strconv_small (i : Int) : Option Str :=
  if i < (10 : Int) then
    Option.bind (addC i (1 : Int)) fun v =>
    Option.bind (slc ([48, 49, 50, 51, 52, 53, 54, 55, 56, 57, 97, 98, 99, 100, 101, 102, 103, 104, 105, 106, 107, 108, 109, 110, 111, 112, 113, 114, 115, 116, 117, 118, 119, 120, 121, 122] : Str) i v) fun v1 =>
    some v1
  else
    Option.bind (mulC i (2 : Int)) fun v2 =>
    Option.bind (mulC i (2 : Int)) fun v3 =>
    Option.bind (addC v3 (2 : Int)) fun v4 =>
    Option.bind (slc ([48, 48, 48, 49, 48, 50, 48, 51, 48, 52, 48, 53, 48, 54, 48, 55, 48, 56, 48, 57, 49, 48, 49, 49, 49, 50, 49, 51, 49, 52, 49, 53, 49, 54, 49, 55, 49, 56, 49, 57, 50, 48, 50, 49, 50, 50, 50, 51, 50, 52, 50, 53, 50, 54, 50, 55, 50, 56, 50, 57, 51, 48, 51, 49, 51, 50, 51, 51, 51, 52, 51, 53, 51, 54, 51, 55, 51, 56, 51, 57, 52, 48, 52, 49, 52, 50, 52, 51, 52, 52, 52, 53, 52, 54, 52, 55, 52, 56, 52, 57, 53, 48, 53, 49, 53, 50, 53, 51, 53, 52, 53, 53, 53, 54, 53, 55, 53, 56, 53, 57, 54, 48, 54, 49, 54, 50, 54, 51, 54, 52, 54, 53, 54, 54, 54, 55, 54, 56, 54, 57, 55, 48, 55, 49, 55, 50, 55, 51, 55, 52, 55, 53, 55, 54, 55, 55, 55, 56, 55, 57, 56, 48, 56, 49, 56, 50, 56, 51, 56, 52, 56, 53, 56, 54, 56, 55, 56, 56, 56, 57, 57, 48, 57, 49, 57, 50, 57, 51, 57, 52, 57, 53, 57, 54, 57, 55, 57, 56, 57, 57] : Str) v2 v4) fun v5 =>
    some v5

def M.internal_strconv_FormatInt (i : Int) (base : Int) : Option Str :=
  if base = (10 : Int) then
    Option.bind (
        if (0 : Int) ≤ i then
          some (decide (i < (100 : Int)))
        else
          some false
      ) fun v =>
      if v = true then
        Option.bind (M.internal_strconv_small i) fun small =>
        some small
      else
        none
  else
    none

def M.internal_strconv_Itoa (i : Int) : Option Str :=
  Option.bind (M.internal_strconv_FormatInt i (10 : Int)) fun format =>
  some format

def M.strconv_Itoa (i : Int) : Option Str :=
  Option.bind (M.internal_strconv_Itoa i) fun itoa =>
  some itoa

def M.destinations_three (id : api_Id) : Option Str :=
  Option.bind (M.strconv_Itoa id.Act) fun itoa =>
  Option.bind (catC itoa ([32] : Str)) fun v =>
  Option.bind (M.strconv_Itoa id.Item) fun itoa1 =>
  Option.bind (catC v itoa1) fun v1 =>
  Option.bind (catC v1 ([32] : Str)) fun v2 =>
  Option.bind (M.strconv_Itoa id.N) fun itoa2 =>
  Option.bind (catC v2 itoa2) fun v3 =>
  some v3

def M.destinations_line (d : api_Destination) : Option Str :=
  Option.bind (M.destinations_three d.From) fun three =>
  Option.bind (catC three ([32, 45, 62, 32] : Str)) fun v =>
  Option.bind (M.destinations_three d.To) fun three1 =>
  Option.bind (catC v three1) fun v1 =>
  some v1

def M.destinations_Format_loop1  : List api_Destination → Str → Option Str
  | [], out =>
    some out
  | e :: es, out =>
    Option.bind (M.destinations_line e) fun line =>
    Option.bind (catC line ([10] : Str)) fun v =>
    Option.bind (appC out v) fun out1 =>
    M.destinations_Format_loop1 es out1
def M.destinations_Format (l : List api_Destination) : Option Str :=
  Option.bind (M.destinations_Format_loop1 l ([] : Str)) fun out =>
    some out

def M.law47_awake (n : Nat)  : Option Bool :=
  Option.bind (M.destinations_To n ((⟨(⟨(1 : Int), (0 : Int), (3 : Int)⟩ : api_Id), (⟨(9 : Int), (0 : Int), (7 : Int)⟩ : api_Id)⟩ : api_Destination).From) [(⟨(⟨(1 : Int), (0 : Int), (3 : Int)⟩ : api_Id), (⟨(9 : Int), (0 : Int), (7 : Int)⟩ : api_Id)⟩ : api_Destination)]) fun to =>
  Option.bind (M.destinations_From n ((⟨(⟨(1 : Int), (0 : Int), (3 : Int)⟩ : api_Id), (⟨(9 : Int), (0 : Int), (7 : Int)⟩ : api_Id)⟩ : api_Destination).To) [(⟨(⟨(1 : Int), (0 : Int), (3 : Int)⟩ : api_Id), (⟨(9 : Int), (0 : Int), (7 : Int)⟩ : api_Id)⟩ : api_Destination)]) fun from0_ =>
  if to.2 = true then
    if from0_.2 = true then
      if to.1 = ((⟨(⟨(1 : Int), (0 : Int), (3 : Int)⟩ : api_Id), (⟨(9 : Int), (0 : Int), (7 : Int)⟩ : api_Id)⟩ : api_Destination).To) then
        if from0_.1 = ((⟨(⟨(1 : Int), (0 : Int), (3 : Int)⟩ : api_Id), (⟨(9 : Int), (0 : Int), (7 : Int)⟩ : api_Id)⟩ : api_Destination).From) then
          Option.bind (M.destinations_Format [(⟨(⟨(1 : Int), (0 : Int), (3 : Int)⟩ : api_Id), (⟨(9 : Int), (0 : Int), (7 : Int)⟩ : api_Id)⟩ : api_Destination)]) fun format =>
          some (format == ([49, 32, 48, 32, 51, 32, 45, 62, 32, 57, 32, 48, 32, 55, 10] : Str))
        else
          some false
      else
        some false
    else
      some false
  else
    some false

def M.r47_To_loop1 (id : api_Id) (l : List api_Destination) : Nat → Int → api_Id → Option (api_Id ⊕ (api_Id × Bool))
  | 0, _, _ => none
  | n + 1, i, v =>
    if i < (l.length : Int) then
      Option.bind (idx l i) fun v1 =>
      if v1.From = id then
        Option.bind (idx l i) fun v2 =>
        some (.inr (v2.To, true))
      else
        M.r47_To_loop1 id l n (i + 1) v
    else
      some (.inl v)
def M.r47_To (n : Nat) (id : api_Id) (l : List api_Destination) : Option (api_Id × Bool) :=
  Option.bind (M.r47_To_loop1 id l n (0 : Int) zapi_Id) fun
    | .inl v =>
      some ((⟨(0 : Int), (0 : Int), (0 : Int)⟩ : api_Id), false)
    | .inr ret0 => some ret0

def M.r47_Back_loop1 (l : List api_Destination) : Nat → (List api_Destination) → Int → Option ((List api_Destination))
  | 0, _, _ => none
  | n + 1, out, i =>
    if i < (l.length : Int) then
      Option.bind (idx l i) fun v =>
      Option.bind (idx l i) fun v1 =>
      Option.bind (appC out [(⟨v.To, v1.From⟩ : api_Destination)]) fun out1 =>
      M.r47_Back_loop1 l n out1 (i + 1)
    else
      some out
def M.r47_Back (n : Nat) (l : List api_Destination) : Option ((List api_Destination)) :=
  Option.bind (M.r47_Back_loop1 l n ([] : List api_Destination) (0 : Int)) fun out =>
    some out

def M.destinations_Valid_loop1  : List api_Destination → (List (api_Id × Bool)) → (List (api_Id × Bool)) → Option (((List (api_Id × Bool)) × (List (api_Id × Bool))) ⊕ Bool)
  | [], v, v1 =>
    some (.inl (v, v1))
  | e :: es, v, v1 =>
    Option.bind (
        if (mget v e.From false) = true then
          some true
        else
          some (mget v1 e.To false)
      ) fun v2 =>
      if v2 = true then
        some (.inr false)
      else
        M.destinations_Valid_loop1 es (mset v e.From true) (mset v1 e.To true)
def M.destinations_Valid (l : List api_Destination) : Option Bool :=
  Option.bind (M.destinations_Valid_loop1 l ([] : List (api_Id × Bool)) ([] : List (api_Id × Bool))) fun
    | .inl (v, v1) =>
      some (decide ((l.length : Int) ≤ (4096 : Int)))
    | .inr ret0 => some ret0

def M.r47_May_loop2 (l : List api_Destination) (i : Int) : Nat → Int → Option (Unit ⊕ Bool)
  | 0, _ => none
  | n + 1, k =>
    if k < i then
      Option.bind (idx l k) fun v =>
      Option.bind (idx l i) fun v1 =>
      if v.From = v1.From then
        some (.inr false)
      else
        Option.bind (idx l k) fun v2 =>
        Option.bind (idx l i) fun v3 =>
        if v2.To = v3.To then
          some (.inr false)
        else
          Option.bind (addC k (1 : Int)) fun v4 =>
          M.r47_May_loop2 l i n v4
    else
      some (.inl ())
def M.r47_May_loop1 (l : List api_Destination) : Nat → Int → Option (Unit ⊕ Bool)
  | 0, _ => none
  | n + 1, i =>
    if i < (l.length : Int) then
      Option.bind (M.r47_May_loop2 l i n (0 : Int)) fun
        | .inl _ =>
          Option.bind (addC i (1 : Int)) fun v5 =>
          M.r47_May_loop1 l n v5
        | .inr ret0 => some (.inr ret0)
    else
      some (.inl ())
def M.r47_May (n : Nat) (l : List api_Destination) : Option Bool :=
  Option.bind (M.r47_May_loop1 l n (0 : Int)) fun
    | .inl _ =>
      some (decide ((l.length : Int) ≤ (4096 : Int)))
    | .inr ret0 => some ret0

def M.law47_DestinationsLookup (n : Nat) (l : List api_Destination) (id : api_Id) : Option Bool :=
  Option.bind (
      Option.bind (M.law47_awake n) fun awake =>
      if awake = false then
        some true
      else
        some (decide ((60 : Int) < (l.length : Int)))
    ) fun v =>
    if v = true then
      Option.bind (M.law47_awake n) fun awake1 =>
      some awake1
    else
      Option.bind (M.destinations_To n id l) fun to =>
      Option.bind (M.destinations_From n id l) fun from0_ =>
      Option.bind (M.r47_To n id l) fun to1 =>
      Option.bind (M.r47_Back n l) fun back =>
      Option.bind (M.r47_To n id back) fun to2 =>
      Option.bind (M.destinations_Valid l) fun valid =>
      Option.bind (M.r47_May n l) fun may =>
      if (valid == may) = true then
        if to.1 = to1.1 then
          if (to.2 == to1.2) = true then
            if from0_.1 = to2.1 then
              some (from0_.2 == to2.2)
            else
              some false
          else
            some false
        else
          some false
      else
        some false

def M.destinations_Invert_loop1  : List api_Destination → (List api_Destination) → Option ((List api_Destination))
  | [], out =>
    some out
  | e :: es, out =>
    Option.bind (appC out [(⟨e.To, e.From⟩ : api_Destination)]) fun out1 =>
    M.destinations_Invert_loop1 es out1
def M.destinations_Invert (l : List api_Destination) : Option ((List api_Destination)) :=
  Option.bind (M.destinations_Invert_loop1 l ([] : List api_Destination)) fun out =>
    some out

def M.r47_Same_loop1 (a : List api_Destination) (b : List api_Destination) : Nat → Int → Option (Unit ⊕ Bool)
  | 0, _ => none
  | n + 1, i =>
    if i < (a.length : Int) then
      Option.bind (idx a i) fun v =>
      Option.bind (idx b i) fun v1 =>
      if v ≠ v1 then
        some (.inr false)
      else
        M.r47_Same_loop1 a b n (i + 1)
    else
      some (.inl ())
def M.r47_Same (n : Nat) (a : List api_Destination) (b : List api_Destination) : Option Bool :=
  if (a.length : Int) ≠ (b.length : Int) then
    some false
  else
    Option.bind (M.r47_Same_loop1 a b n (0 : Int)) fun
      | .inl _ =>
        some true
      | .inr ret0 => some ret0

def M.law47_DestinationsInvert_loop1 (n : Nat) (l : List api_Destination) : List api_Destination → Option (Unit ⊕ Bool)
  | [] =>
    some (.inl ())
  | e :: es =>
    Option.bind (M.destinations_To n e.From l) fun to =>
    Option.bind (M.destinations_From n to.1 l) fun from0_ =>
    if to.2 = false then
      some (.inr false)
    else
      if from0_.2 = false then
        some (.inr false)
      else
        if to.1 ≠ e.To then
          some (.inr false)
        else
          if from0_.1 ≠ e.From then
            some (.inr false)
          else
            M.law47_DestinationsInvert_loop1 n l es
def M.law47_DestinationsInvert (n : Nat) (l : List api_Destination) : Option Bool :=
  Option.bind (
      Option.bind (M.law47_awake n) fun awake =>
      if awake = false then
        some true
      else
        some (decide ((60 : Int) < (l.length : Int)))
    ) fun v =>
    if v = true then
      Option.bind (M.law47_awake n) fun awake1 =>
      some awake1
    else
      Option.bind (M.destinations_Invert l) fun invert =>
      Option.bind (
          Option.bind (M.r47_Back n l) fun back =>
          Option.bind (M.r47_Same n invert back) fun same =>
          if same = false then
            some true
          else
            Option.bind (M.destinations_Invert invert) fun invert1 =>
            Option.bind (M.r47_Same n invert1 l) fun same1 =>
            if same1 = false then
              some true
            else
              Option.bind (M.destinations_Valid invert) fun valid =>
              Option.bind (M.destinations_Valid l) fun valid1 =>
              some (valid != valid1)
        ) fun v1 =>
        if v1 = true then
          some false
        else
          Option.bind (M.destinations_Valid l) fun valid2 =>
          if valid2 = false then
            some true
          else
            Option.bind (M.law47_DestinationsInvert_loop1 n l l) fun
              | .inl _ =>
                some true
              | .inr ret0 => some ret0

def M.destinations_Compose_loop1 (n : Nat) (b : List api_Destination) : List api_Destination → (List api_Destination) → Option ((List api_Destination))
  | [], out =>
    some out
  | e :: es, out =>
    Option.bind (M.destinations_To n e.To b) fun to =>
    if to.2 = true then
      Option.bind (appC out [(⟨e.From, to.1⟩ : api_Destination)]) fun out1 =>
      M.destinations_Compose_loop1 n b es out1
    else
      M.destinations_Compose_loop1 n b es out
def M.destinations_Compose (n : Nat) (a : List api_Destination) (b : List api_Destination) : Option ((List api_Destination)) :=
  Option.bind (M.destinations_Compose_loop1 n b a ([] : List api_Destination)) fun out =>
    some out

def M.r47_Chain_loop1 (a : List api_Destination) (b : List api_Destination) : Nat → (List api_Destination) → Int → Option ((List api_Destination))
  | 0, _, _ => none
  | n + 1, out, i =>
    if i < (a.length : Int) then
      Option.bind (idx a i) fun v =>
      Option.bind (M.r47_To n v.To b) fun to =>
      if to.2 = true then
        Option.bind (idx a i) fun v1 =>
        Option.bind (appC out [(⟨v1.From, to.1⟩ : api_Destination)]) fun out1 =>
        M.r47_Chain_loop1 a b n out1 (i + 1)
      else
        M.r47_Chain_loop1 a b n out (i + 1)
    else
      some out
def M.r47_Chain (n : Nat) (a : List api_Destination) (b : List api_Destination) : Option ((List api_Destination)) :=
  Option.bind (M.r47_Chain_loop1 a b n ([] : List api_Destination) (0 : Int)) fun out =>
    some out

def M.law47_DestinationsCompose (n : Nat) (a : List api_Destination) (b : List api_Destination) (id : api_Id) : Option Bool :=
  Option.bind (
      Option.bind (M.law47_awake n) fun awake =>
      if awake = false then
        some true
      else
        if (40 : Int) < (a.length : Int) then
          some true
        else
          some (decide ((40 : Int) < (b.length : Int)))
    ) fun v =>
    if v = true then
      Option.bind (M.law47_awake n) fun awake1 =>
      some awake1
    else
      Option.bind (M.destinations_Compose n a b) fun compos =>
      Option.bind (M.r47_Chain n a b) fun chain =>
      Option.bind (M.r47_Same n compos chain) fun same =>
      if same = false then
        some false
      else
        Option.bind (
            Option.bind (M.destinations_Valid a) fun valid =>
            if valid = false then
              some true
            else
              Option.bind (M.destinations_Valid b) fun valid1 =>
              some (!valid1)
          ) fun v1 =>
          if v1 = true then
            some true
          else
            Option.bind (M.destinations_To n id compos) fun to =>
            Option.bind (M.destinations_To n id a) fun to1 =>
            Option.bind (M.destinations_To n to1.1 b) fun to2 =>
            Option.bind (M.destinations_Valid compos) fun valid2 =>
            if valid2 = true then
              if to1.2 = true then
                if (to.2 == to2.2) = true then
                  if to.2 = false then
                    some true
                  else
                    some (decide (to.1 = to2.1))
                else
                  some false
              else
                if (to.2 == false) = true then
                  if to.2 = false then
                    some true
                  else
                    some (decide (to.1 = to2.1))
                else
                  some false
            else
              some false

def M.law47_DestinationsIdentity_loop1 (a : List api_Destination) : List api_Destination → Int → Option (Unit ⊕ Bool)
  | [], _ =>
    some (.inl ())
  | e :: es, i =>
    if e.From ≠ e.To then
      some (.inr false)
    else
      Option.bind (idx a i) fun v2 =>
      if e.From ≠ v2.From then
        some (.inr false)
      else
        M.law47_DestinationsIdentity_loop1 a es (i + 1)
def M.law47_DestinationsIdentity (n : Nat) (a : List api_Destination) (b : List api_Destination) (c : List api_Destination) : Option Bool :=
  Option.bind (
      Option.bind (M.law47_awake n) fun awake =>
      if awake = false then
        some true
      else
        if (30 : Int) < (a.length : Int) then
          some true
        else
          if (30 : Int) < (b.length : Int) then
            some true
          else
            some (decide ((30 : Int) < (c.length : Int)))
    ) fun v =>
    if v = true then
      Option.bind (M.law47_awake n) fun awake1 =>
      some awake1
    else
      Option.bind (
          Option.bind (M.destinations_Compose n a b) fun compos =>
          Option.bind (M.destinations_Compose n compos c) fun compos1 =>
          Option.bind (M.destinations_Compose n b c) fun compos2 =>
          Option.bind (M.destinations_Compose n a compos2) fun compos3 =>
          Option.bind (M.r47_Same n compos1 compos3) fun same =>
          if same = false then
            Option.bind (M.destinations_Valid b) fun valid =>
            some valid
          else
            some false
        ) fun v1 =>
        if v1 = true then
          some false
        else
          Option.bind (M.destinations_Valid a) fun valid1 =>
          if valid1 = false then
            some true
          else
            Option.bind (M.destinations_Invert a) fun invert =>
            Option.bind (M.destinations_Compose n a invert) fun compos4 =>
            Option.bind (M.law47_DestinationsIdentity_loop1 a compos4 (0 : Int)) fun
              | .inl _ =>
                some (decide ((compos4.length : Int) = (a.length : Int)))
              | .inr ret0 => some ret0

def M.r07_few_loop1 (u : api_Unit) (deep : Int) (slf : api_Unit → Int → Int → Option Int) : Nat → Int → Int → Option Int
  | 0, _, _ => none
  | n + 1, left1, i =>
    Option.bind (
        if i < (u.Kids.length : Int) then
          some (decide ((0 : Int) ≤ left1))
        else
          some false
      ) fun v7 =>
      if v7 = true then
        Option.bind (idx u.Kids i) fun v8 =>
        Option.bind (addC deep (1 : Int)) fun v9 =>
        Option.bind (slf v8 left1 v9) fun few =>
        Option.bind (addC i (1 : Int)) fun v10 =>
        M.r07_few_loop1 u deep slf n few v10
      else
        some left1
def M.r07_few : Nat → api_Unit → Int → Int → Option Int
  | 0, _, _, _ => none
  | n + 1, u, left, deep =>
    Option.bind (subC left (1 : Int)) fun v =>
    Option.bind (quoC (u.Words.length : Int) (50 : Int)) fun v1 =>
    Option.bind (subC v v1) fun v2 =>
    Option.bind (quoC (u.Head.length : Int) (50 : Int)) fun v3 =>
    Option.bind (subC v2 v3) fun v4 =>
    Option.bind (quoC (u.Label.length : Int) (50 : Int)) fun v5 =>
    Option.bind (subC v4 v5) fun v6 =>
    if (12 : Int) < deep then
      some (-1 : Int)
    else
      Option.bind (M.r07_few_loop1 u deep (M.r07_few n) n v6 (0 : Int)) fun left1 =>
        some left1

def M.r07_Few (n : Nat) (u : api_Unit) (most : Int) : Option Bool :=
  Option.bind (M.r07_few n u most (0 : Int)) fun few =>
  some (decide ((0 : Int) ≤ few))

def M.address_way_loop1 (id : api_Id) (slf : api_Unit → api_Id → Option ((List api_Step) × Bool)) : List api_Unit → Option (Unit ⊕ ((List api_Step) × Bool))
  | [] =>
    some (.inl ())
  | e :: es =>
    Option.bind (slf e id) fun way =>
    if way.2 = true then
      Option.bind (appC [(⟨e.Kind, e.Label⟩ : api_Step)] way.1) fun out =>
      some (.inr (out, true))
    else
      M.address_way_loop1 id slf es
def M.address_way : Nat → api_Unit → api_Id → Option ((List api_Step) × Bool)
  | 0, _, _ => none
  | n + 1, u, id =>
    if u.Id = id then
      some (([] : List api_Step), true)
    else
      Option.bind (M.address_way_loop1 id (M.address_way n) u.Kids) fun
        | .inl _ =>
          some (([] : List api_Step), false)
        | .inr ret0 => some ret0

def M.address_Full (n : Nat) (u : api_Unit) (id : api_Id) : Option ((List api_Step) × Bool) :=
  Option.bind (M.address_way n u id) fun way =>
  if way.2 = false then
    some (([] : List api_Step), false)
  else
    Option.bind (appC ([(⟨(0 : Int), ([] : Str)⟩ : api_Step)]) way.1) fun out =>
    some (out, true)

def M.address_book (s0_ : api_Step) : Option Bool :=
  if s0_.Kind = (0 : Int) then
    some (s0_.Label == ([] : Str))
  else
    some false

def M.strings_indexFunc_loop1 (s0_ : Str) (f : Int → Option Bool) (truth : Bool) : Nat → Nat → Option (Nat ⊕ Int)
  | 0, _ => none
  | n + 1, v =>
    if v < s0_.length then
      Option.bind (f ((runeAt s0_ v).1 : Int)) fun v1 =>
      if (v1 == truth) = true then
        some (.inr (v : Int))
      else
        M.strings_indexFunc_loop1 s0_ f truth n (v + (runeAt s0_ v).2)
    else
      some (.inl v)
def M.strings_indexFunc (n : Nat) (s0_ : Str) (f : Int → Option Bool) (truth : Bool) : Option Int :=
  Option.bind (M.strings_indexFunc_loop1 s0_ f truth n 0) fun
    | .inl v =>
      some (-1 : Int)
    | .inr ret0 => some ret0

def M.strings_IndexFunc (n : Nat) (s0_ : Str) (f : Int → Option Bool) : Option Int :=
  Option.bind (M.strings_indexFunc n s0_ f true) fun indexf =>
  some indexf

def M.label_parted_1 (b : Int) : Option Bool :=
  if b < (48 : Int) then
    some true
  else
    some (decide ((57 : Int) < b))

def M.label_parted (n : Nat) (s0_ : Str) : Option (Str × Str) :=
  Option.bind (M.strings_IndexFunc n s0_ (fun s0 => M.label_parted_1 s0)) fun indexf =>
  if indexf < (0 : Int) then
    some (s0_, ([] : Str))
  else
    Option.bind (slcHi s0_ indexf) fun v =>
    Option.bind (slcLo s0_ indexf) fun v1 =>
    some (v, v1)

def M.strings_ContainsFunc (n : Nat) (s0_ : Str) (f : Int → Option Bool) : Option Bool :=
  Option.bind (M.strings_IndexFunc n s0_ f) fun indexf =>
  some (decide ((0 : Int) ≤ indexf))

def M.label_Valid_1 (b : Int) : Option Bool :=
  if b < (65 : Int) then
    some true
  else
    some (decide ((90 : Int) < b))

def M.label_Valid (n : Nat) (s0_ : Str) : Option Bool :=
  Option.bind (M.label_parted n s0_) fun parted =>
  if (1 : Int) ≤ (parted.1.length : Int) then
    if (parted.1.length : Int) ≤ (4 : Int) then
      Option.bind (idx parted.1 (0 : Int)) fun b =>
      if (b.toNat : Int) ≠ (48 : Int) then
        if (parted.2.length : Int) ≤ (3 : Int) then
          Option.bind (M.strings_ContainsFunc n parted.2 (fun s0 => M.label_Valid_1 s0)) fun contai =>
          some (!contai)
        else
          some false
      else
        some false
    else
      some false
  else
    some false

def M.address_Valid_loop1 (n : Nat)  : List api_Step → Int → Option (Unit ⊕ Bool)
  | [], _ =>
    some (.inl ())
  | e :: es, i =>
    Option.bind (
        if i = (0 : Int) then
          Option.bind (M.address_book e) fun book =>
          some book
        else
          some false
      ) fun v =>
      if v = true then
        M.address_Valid_loop1 n es (i + 1)
      else
        if e.Kind ≤ (0 : Int) then
          some (.inr false)
        else
          if (7 : Int) < e.Kind then
            some (.inr false)
          else
            Option.bind (M.label_Valid n e.Label) fun valid =>
            if valid = false then
              some (.inr false)
            else
              M.address_Valid_loop1 n es (i + 1)
def M.address_Valid (n : Nat) (p : List api_Step) : Option Bool :=
  Option.bind (M.address_Valid_loop1 n p (0 : Int)) fun
    | .inl _ =>
      some (decide ((p.length : Int) ≤ (9 : Int)))
    | .inr ret0 => some ret0

def M.address_name (kind : Int) : Option (Str × Bool) :=
  if kind < (0 : Int) then
    some (([] : Str), false)
  else
    if (8 : Int) ≤ kind then
      some (([] : Str), false)
    else
      Option.bind (idx ([([98, 111, 111, 107] : Str), ([112, 97, 114, 116] : Str), ([115, 101, 99, 116, 105, 111, 110] : Str), ([112, 97, 114, 97, 103, 114, 97, 112, 104] : Str), ([116, 97, 98, 108, 101] : Str), ([114, 111, 119] : Str), ([99, 101, 108, 108] : Str), ([110, 111, 116, 101] : Str)]) kind) fun v =>
      some (v, true)

def M.strings_Join_loop2 (sep : Str) : List Str → Str → Option Str
  | [], b2 =>
    some b2
  | e1 :: es1, b2 =>
    Option.bind (appC b2 sep) fun b3 =>
    Option.bind (appC b3 e1) fun b4 =>
    M.strings_Join_loop2 sep es1 b4
def M.strings_Join_loop1  : List Str → Int → Option Int
  | [], n0_1 =>
    some n0_1
  | e :: es, n0_1 =>
    Option.bind (subC (9223372036854775807 : Int) n0_1) fun v6 =>
    if v6 < (e.length : Int) then
      none
    else
      Option.bind (addC n0_1 (e.length : Int)) fun v7 =>
      M.strings_Join_loop1 es v7
def M.strings_Join (elems : List Str) (sep : Str) : Option Str :=
  if (elems.length : Int) = (0 : Int) then
    some ([] : Str)
  else
    if (elems.length : Int) = (1 : Int) then
      Option.bind (idx elems (0 : Int)) fun v =>
      some v
    else
      Option.bind (
          if (0 : Int) < (sep.length : Int) then
            Option.bind (
                Option.bind (subC (elems.length : Int) (1 : Int)) fun v1 =>
                Option.bind (quoC (9223372036854775807 : Int) v1) fun v2 =>
                if v2 ≤ (sep.length : Int) then
                  none
                else
                  some ()
              ) fun _ =>
              Option.bind (subC (elems.length : Int) (1 : Int)) fun v3 =>
              Option.bind (mulC (sep.length : Int) v3) fun v4 =>
              Option.bind (addC (0 : Int) v4) fun v5 =>
              some v5
          else
            some (0 : Int)
        ) fun n0_ =>
        Option.bind (M.strings_Join_loop1 elems n0_) fun n0_1 =>
          Option.bind (growC n0_1) fun _ =>
          Option.bind (idx elems (0 : Int)) fun v8 =>
          Option.bind (appC ([] : Str) v8) fun b1 =>
          Option.bind (slcLo elems (1 : Int)) fun v9 =>
          Option.bind (M.strings_Join_loop2 sep v9 b1) fun b2 =>
            some b2

def M.address_Format_loop1  : List api_Step → (List Str) → Option ((List Str))
  | [], words =>
    some words
  | e :: es, words =>
    Option.bind (M.address_name e.Kind) fun name =>
    Option.bind (appC words [name.1]) fun words1 =>
    Option.bind (M.address_book e) fun book =>
    if book = false then
      Option.bind (appC words1 [e.Label]) fun words2 =>
      M.address_Format_loop1 es words2
    else
      M.address_Format_loop1 es words1
def M.address_Format (n : Nat) (p : List api_Step) : Option Str :=
  Option.bind (M.address_Valid n p) fun valid =>
  if valid = false then
    some ([] : Str)
  else
    Option.bind (M.address_Format_loop1 p ([] : List Str)) fun words =>
      Option.bind (M.strings_Join words ([32] : Str)) fun join =>
      some join

def M.destinations_Names_loop1 (n : Nat) (a : api_Unit) (b : api_Unit) : List api_Destination → (List Str) → Option ((List Str))
  | [], out =>
    some out
  | e :: es, out =>
    Option.bind (M.address_Full n a e.From) fun full =>
    Option.bind (M.address_Full n b e.To) fun full1 =>
    Option.bind (
        if full.2 = true then
          some full1.2
        else
          some false
      ) fun v =>
      if v = true then
        Option.bind (M.address_Format n full.1) fun format =>
        Option.bind (catC format ([32, 45, 62, 32] : Str)) fun v1 =>
        Option.bind (M.address_Format n full1.1) fun format1 =>
        Option.bind (catC v1 format1) fun v2 =>
        Option.bind (appC out [v2]) fun out1 =>
        M.destinations_Names_loop1 n a b es out1
      else
        M.destinations_Names_loop1 n a b es out
def M.destinations_Names (n : Nat) (a : api_Unit) (b : api_Unit) (l : List api_Destination) : Option ((List Str)) :=
  Option.bind (M.destinations_Names_loop1 n a b l ([] : List Str)) fun out =>
    some out

def M.r07_below_loop1 (u : api_Unit) (id : api_Id) (slf : api_Unit → api_Id → Option ((List api_Step) × Bool)) : Nat → Int → Option (Unit ⊕ ((List api_Step) × Bool))
  | 0, _ => none
  | n + 1, i =>
    if i < (u.Kids.length : Int) then
      Option.bind (idx u.Kids i) fun v =>
      Option.bind (slf v id) fun below =>
      if below.2 = true then
        Option.bind (idx u.Kids i) fun v1 =>
        Option.bind (idx u.Kids i) fun v2 =>
        Option.bind (appC [(⟨v1.Kind, v2.Label⟩ : api_Step)] below.1) fun out =>
        some (.inr (out, true))
      else
        M.r07_below_loop1 u id slf n (i + 1)
    else
      some (.inl ())
def M.r07_below : Nat → api_Unit → api_Id → Option ((List api_Step) × Bool)
  | 0, _, _ => none
  | n + 1, u, id =>
    if u.Id = id then
      some (([] : List api_Step), true)
    else
      Option.bind (M.r07_below_loop1 u id (M.r07_below n) n (0 : Int)) fun
        | .inl _ =>
          some (([] : List api_Step), false)
        | .inr ret0 => some ret0

def M.r07_Whole (n : Nat) (u : api_Unit) (id : api_Id) : Option ((List api_Step) × Bool) :=
  Option.bind (M.r07_below n u id) fun below =>
  if below.2 = false then
    some (([] : List api_Step), false)
  else
    Option.bind (appC ([(⟨(0 : Int), ([] : Str)⟩ : api_Step)]) below.1) fun out =>
    some (out, true)

def M.r07_book (s0_ : api_Step) : Option Bool :=
  if s0_.Kind = (0 : Int) then
    some (s0_.Label == ([] : Str))
  else
    some false

def M.r03_digits_loop1 (s0_ : Str) : Nat → Int → Option Int
  | 0, _ => none
  | n + 1, n0_ =>
    if n0_ < (s0_.length : Int) then
      Option.bind (idx s0_ n0_) fun b =>
      if (48 : Int) ≤ (b.toNat : Int) then
        Option.bind (idx s0_ n0_) fun b1 =>
        if (b1.toNat : Int) ≤ (57 : Int) then
          M.r03_digits_loop1 s0_ n (n0_ + 1)
        else
          some n0_
      else
        some n0_
    else
      some n0_
def M.r03_digits (n : Nat) (s0_ : Str) : Option Int :=
  Option.bind (M.r03_digits_loop1 s0_ n (0 : Int)) fun n0_ =>
    some n0_

def M.r03_May_loop1 (s0_ : Str) : Nat → Int → Option (Unit ⊕ Bool)
  | 0, _ => none
  | n + 1, i =>
    if i < (s0_.length : Int) then
      Option.bind (idx s0_ i) fun b1 =>
      if (b1.toNat : Int) < (65 : Int) then
        some (.inr false)
      else
        Option.bind (idx s0_ i) fun b2 =>
        if (90 : Int) < (b2.toNat : Int) then
          some (.inr false)
        else
          M.r03_May_loop1 s0_ n (i + 1)
    else
      some (.inl ())
def M.r03_May (n : Nat) (s0_ : Str) : Option Bool :=
  Option.bind (M.r03_digits n s0_) fun digits =>
  Option.bind (
      if digits < (1 : Int) then
        some true
      else
        if (4 : Int) < digits then
          some true
        else
          Option.bind (idx s0_ (0 : Int)) fun b =>
          if (b.toNat : Int) = (48 : Int) then
            some true
          else
            Option.bind (subC (s0_.length : Int) digits) fun v1 =>
            some (decide ((3 : Int) < v1))
    ) fun v =>
    if v = true then
      some false
    else
      Option.bind (M.r03_May_loop1 s0_ n digits) fun
        | .inl _ =>
          some true
        | .inr ret0 => some ret0

def M.r07_May_loop1 (p : List api_Step) : Nat → Int → Option (Unit ⊕ Bool)
  | 0, _ => none
  | n + 1, i =>
    if i < (p.length : Int) then
      Option.bind (
          if i = (0 : Int) then
            Option.bind (idx p i) fun v1 =>
            Option.bind (M.r07_book v1) fun book =>
            some book
          else
            some false
        ) fun v =>
        if v = true then
          M.r07_May_loop1 p n (i + 1)
        else
          Option.bind (idx p i) fun v2 =>
          if v2.Kind < (1 : Int) then
            some (.inr false)
          else
            Option.bind (idx p i) fun v3 =>
            if (7 : Int) < v3.Kind then
              some (.inr false)
            else
              Option.bind (idx p i) fun v4 =>
              Option.bind (M.r03_May n v4.Label) fun may =>
              if may = false then
                some (.inr false)
              else
                M.r07_May_loop1 p n (i + 1)
    else
      some (.inl ())
def M.r07_May (n : Nat) (p : List api_Step) : Option Bool :=
  if (9 : Int) < (p.length : Int) then
    some false
  else
    Option.bind (M.r07_May_loop1 p n (0 : Int)) fun
      | .inl _ =>
        some true
      | .inr ret0 => some ret0

def M.r07_Names  : Option ((List Str)) :=
  some ([([98, 111, 111, 107] : Str), ([112, 97, 114, 116] : Str), ([115, 101, 99, 116, 105, 111, 110] : Str), ([112, 97, 114, 97, 103, 114, 97, 112, 104] : Str), ([116, 97, 98, 108, 101] : Str), ([114, 111, 119] : Str), ([99, 101, 108, 108] : Str), ([110, 111, 116, 101] : Str)])

def M.r07_Text_loop1 (p : List api_Step) : Nat → Str → Int → Option Str
  | 0, _, _ => none
  | n + 1, s0_, i =>
    if i < (p.length : Int) then
      Option.bind (
          if (0 : Int) < i then
            Option.bind (catC s0_ ([32] : Str)) fun v =>
            some v
          else
            some s0_
        ) fun s0_1 =>
        Option.bind M.r07_Names fun names =>
        Option.bind (idx p i) fun v1 =>
        Option.bind (idx names v1.Kind) fun v2 =>
        Option.bind (catC s0_1 v2) fun v3 =>
        Option.bind (idx p i) fun v4 =>
        Option.bind (M.r07_book v4) fun book =>
        if book = false then
          Option.bind (catC v3 ([32] : Str)) fun v5 =>
          Option.bind (idx p i) fun v6 =>
          Option.bind (catC v5 v6.Label) fun v7 =>
          M.r07_Text_loop1 p n v7 (i + 1)
        else
          M.r07_Text_loop1 p n v3 (i + 1)
    else
      some s0_
def M.r07_Text (n : Nat) (p : List api_Step) : Option Str :=
  Option.bind (M.r07_May n p) fun may =>
  if may = false then
    some ([] : Str)
  else
    Option.bind (M.r07_Text_loop1 p n ([] : Str) (0 : Int)) fun s0_ =>
      some s0_

def M.r47_Names_loop1 (a : api_Unit) (b : api_Unit) (l : List api_Destination) : Nat → (List Str) → Int → Option ((List Str))
  | 0, _, _ => none
  | n + 1, out, i =>
    if i < (l.length : Int) then
      Option.bind (idx l i) fun v =>
      Option.bind (M.r07_Whole n a v.From) fun whole =>
      Option.bind (idx l i) fun v1 =>
      Option.bind (M.r07_Whole n b v1.To) fun whole1 =>
      Option.bind (
          if whole.2 = true then
            some whole1.2
          else
            some false
        ) fun v2 =>
        if v2 = true then
          Option.bind (M.r07_Text n whole.1) fun text =>
          Option.bind (catC text ([32, 45, 62, 32] : Str)) fun v3 =>
          Option.bind (M.r07_Text n whole1.1) fun text1 =>
          Option.bind (catC v3 text1) fun v4 =>
          Option.bind (appC out [v4]) fun out1 =>
          M.r47_Names_loop1 a b l n out1 (i + 1)
        else
          M.r47_Names_loop1 a b l n out (i + 1)
    else
      some out
def M.r47_Names (n : Nat) (a : api_Unit) (b : api_Unit) (l : List api_Destination) : Option ((List Str)) :=
  Option.bind (M.r47_Names_loop1 a b l n ([] : List Str) (0 : Int)) fun out =>
    some out

def M.r03_Same_loop1 (a : List Str) (b : List Str) : Nat → Int → Option (Unit ⊕ Bool)
  | 0, _ => none
  | n + 1, i =>
    if i < (a.length : Int) then
      Option.bind (idx a i) fun v =>
      Option.bind (idx b i) fun v1 =>
      if (v != v1) = true then
        some (.inr false)
      else
        M.r03_Same_loop1 a b n (i + 1)
    else
      some (.inl ())
def M.r03_Same (n : Nat) (a : List Str) (b : List Str) : Option Bool :=
  if (a.length : Int) ≠ (b.length : Int) then
    some false
  else
    Option.bind (M.r03_Same_loop1 a b n (0 : Int)) fun
      | .inl _ =>
        some true
      | .inr ret0 => some ret0

def M.law47_DestinationsNames (n : Nat) (a : api_Unit) (b : api_Unit) (l : List api_Destination) : Option Bool :=
  Option.bind (
      Option.bind (M.law47_awake n) fun awake =>
      if awake = false then
        some true
      else
        Option.bind (M.r07_Few n a (40 : Int)) fun few =>
        if few = false then
          some true
        else
          Option.bind (M.r07_Few n b (40 : Int)) fun few1 =>
          if few1 = false then
            some true
          else
            some (decide ((40 : Int) < (l.length : Int)))
    ) fun v =>
    if v = true then
      Option.bind (M.law47_awake n) fun awake1 =>
      some awake1
    else
      Option.bind (M.destinations_Names n a b l) fun names =>
      Option.bind (M.r47_Names n a b l) fun names1 =>
      Option.bind (M.r03_Same n names names1) fun same =>
      some same

end Go.Proofs.YtdnemlcoeecbjaaDoor
