/-
  What the functions compute: plain functions, written by program out of the code; no machine in sight.
-/
import Derived.Test.YtdnemlcoeecbjaaDoorMod
set_option linter.unusedVariables false
set_option linter.unusedSimpArgs false
namespace Go.Proofs.YtdnemlcoeecbjaaDoor
open Go Go.Dec


structure api_Id where
  Act : Int
  Item : Int
  N : Int
theorem api_Id.eq_iff (a b : api_Id) : (a.Act = b.Act ∧ a.Item = b.Item ∧ a.N = b.N) ↔ a = b := ⟨fun h => by cases a; cases b; simp_all, fun h => by subst h; simp⟩
instance : DecidableEq api_Id := fun a b => decidable_of_iff _ (api_Id.eq_iff a b)
def zapi_Id : api_Id := ⟨(0 : Int), (0 : Int), (0 : Int)⟩

structure api_Destination where
  From : api_Id
  To : api_Id
theorem api_Destination.eq_iff (a b : api_Destination) : (a.From = b.From ∧ a.To = b.To) ↔ a = b := ⟨fun h => by cases a; cases b; simp_all, fun h => by subst h; simp⟩
instance : DecidableEq api_Destination := fun a b => decidable_of_iff _ (api_Destination.eq_iff a b)
def zapi_Destination : api_Destination := ⟨zapi_Id, zapi_Id⟩


def M.destinations_To_1 (d : api_Destination) (c : api_Id) : Option Bool :=
  some (decide (d.From = c))

def M.slices_IndexFunc_api_Destination_api_Destination_loop1 (s0_ : List api_Destination) (f : api_Destination → Option Bool) : Nat → Int → Option (Unit ⊕ Int)
  | 0, _ => none
  | n + 1, v =>
    if v < (s0_.length : Int) then
      Option.bind (idx s0_ v) fun v1 =>
      Option.bind (f v1) fun v2 =>
      if v2 = true then
        some (.inr v)
      else
        M.slices_IndexFunc_api_Destination_api_Destination_loop1 s0_ f n (v + 1)
    else
      some (.inl ())
def M.slices_IndexFunc_api_Destination_api_Destination (n : Nat) (s0_ : List api_Destination) (f : api_Destination → Option Bool) : Option Int :=
  Option.bind (M.slices_IndexFunc_api_Destination_api_Destination_loop1 s0_ f n (0 : Int)) fun
    | .inl _ =>
      some (-1 : Int)
    | .inr ret0 => some ret0

def M.destinations_found (n : Nat) (l : List api_Destination) (such : api_Destination → Option Bool) : Option (api_Destination × Bool) :=
  Option.bind (M.slices_IndexFunc_api_Destination_api_Destination n l such) fun destin =>
  if destin < (0 : Int) then
    some ((⟨zapi_Id, zapi_Id⟩ : api_Destination), false)
  else
    Option.bind (idx l destin) fun v =>
    some (v, true)

def M.destinations_To (n : Nat) (id : api_Id) (l : List api_Destination) : Option (api_Id × Bool) :=
  Option.bind (M.destinations_found n l (fun s0 => M.destinations_To_1 s0 id)) fun found =>
  some (found.1.To, found.2)

def M.destinations_From_1 (d : api_Destination) (c : api_Id) : Option Bool :=
  some (decide (d.To = c))

def M.destinations_From (n : Nat) (id : api_Id) (l : List api_Destination) : Option (api_Id × Bool) :=
  Option.bind (M.destinations_found n l (fun s0 => M.destinations_From_1 s0 id)) fun found =>
  some (found.1.From, found.2)

def M.internal_strconv_small (i : Int) : Option Str :=
  if i < (10 : Int) then
    Option.bind (addC i (1 : Int)) fun v =>
    Option.bind (slc ([48, 49, 50, 51, 52, 53, 54, 55, 56, 57, 97, 98, 99, 100, 101, 102, 103, 104, 105, 106, 107, 108, 109, 110, 111, 112, 113, 114, 115, 116, 117, 118, 119, 120, 121, 122] : Str) i v) fun v1 =>
    some v1
  else
    Option.bind (mulC i (2 : Int)) fun v2 =>
    Option.bind (mulC i (2 : Int)) fun v3 =>
    Option.bind (addC v3 (2 : Int)) fun v4 =>
    Option.bind (slc ([48, 48, 48, 49, 48, 50, 48, 51, 48, 52, 48, 53, 48, 54, 48, 55, 48, 56, 48, 57, 49, 48, 49, 49, 49, 50, 49, 51, 49, 52, 49, 53, 49, 54, 49, 55, 49, 56, 49, 57, 50, 48, 50, 49, 50, 50, 50, 51, 50, 52, 50, 53, 50, 54, 50, 55, 50, 56, 50, 57, 51, 48, 51, 49, 51, 50, 51, 51, 51, 52, 51, 53, 51, 54, 51, 55, 51, 56, 51, 57, 52, 48, 52, 49, 52, 50, 52, 51, 52, 52, 52, 53, 52, 54, 52, 55, 52, 56, 52, 57, 53, 48, 53, 49, 53, 50, 53, 51, 53, 52, 53, 53, 53, 54, 53, 55, 53, 56, 53, 57, 54, 48, 54, 49, 54, 50, 54, 51, 54, 52, 54, 53, 54, 54, 54, 55, 54, 56, 54, 57, 55, 48, 55, 49, 55, 50, 55, 51, 55, 52, 55, 53, 55, 54, 55, 55, 55, 56, 55, 57, 56, 48, 56, 49, 56, 50, 56, 51, 56, 52, 56, 53, 56, 54, 56, 55, 56, 56, 56, 57, 57, 48, 57, 49, 57, 50, 57, 51, 57, 52, 57, 53, 57, 54, 57, 55, 57, 56, 57, 57] : Str) v2 v4) fun v5 =>
    some v5

def M.internal_strconv_FormatInt (i : Int) (base : Int) : Option Str :=
  if base = (10 : Int) then
    Option.bind (
        if (0 : Int) ≤ i then
          some (decide (i < (100 : Int)))
        else
          some false
      ) fun v =>
      if v = true then
        Option.bind (M.internal_strconv_small i) fun small =>
        some small
      else
        none
  else
    none

def M.internal_strconv_Itoa (i : Int) : Option Str :=
  Option.bind (M.internal_strconv_FormatInt i (10 : Int)) fun format =>
  some format

def M.strconv_Itoa (i : Int) : Option Str :=
  Option.bind (M.internal_strconv_Itoa i) fun itoa =>
  some itoa

def M.destinations_three (id : api_Id) : Option Str :=
  Option.bind (M.strconv_Itoa id.Act) fun itoa =>
  Option.bind (catC itoa ([32] : Str)) fun v =>
  Option.bind (M.strconv_Itoa id.Item) fun itoa1 =>
  Option.bind (catC v itoa1) fun v1 =>
  Option.bind (catC v1 ([32] : Str)) fun v2 =>
  Option.bind (M.strconv_Itoa id.N) fun itoa2 =>
  Option.bind (catC v2 itoa2) fun v3 =>
  some v3

def M.destinations_line (d : api_Destination) : Option Str :=
  Option.bind (M.destinations_three d.From) fun three =>
  Option.bind (catC three ([32, 45, 62, 32] : Str)) fun v =>
  Option.bind (M.destinations_three d.To) fun three1 =>
  Option.bind (catC v three1) fun v1 =>
  some v1

def M.destinations_Format_loop1  : List api_Destination → Str → Option Str
  | [], out =>
    some out
  | e :: es, out =>
    Option.bind (M.destinations_line e) fun line =>
    Option.bind (catC line ([10] : Str)) fun v =>
    Option.bind (appC out v) fun out1 =>
    M.destinations_Format_loop1 es out1
def M.destinations_Format (l : List api_Destination) : Option Str :=
  Option.bind (M.destinations_Format_loop1 l ([] : Str)) fun out =>
    some out

def M.law47_awake (n : Nat)  : Option Bool :=
  Option.bind (M.destinations_To n ((⟨(⟨(1 : Int), (0 : Int), (3 : Int)⟩ : api_Id), (⟨(9 : Int), (0 : Int), (7 : Int)⟩ : api_Id)⟩ : api_Destination).From) [(⟨(⟨(1 : Int), (0 : Int), (3 : Int)⟩ : api_Id), (⟨(9 : Int), (0 : Int), (7 : Int)⟩ : api_Id)⟩ : api_Destination)]) fun to =>
  Option.bind (M.destinations_From n ((⟨(⟨(1 : Int), (0 : Int), (3 : Int)⟩ : api_Id), (⟨(9 : Int), (0 : Int), (7 : Int)⟩ : api_Id)⟩ : api_Destination).To) [(⟨(⟨(1 : Int), (0 : Int), (3 : Int)⟩ : api_Id), (⟨(9 : Int), (0 : Int), (7 : Int)⟩ : api_Id)⟩ : api_Destination)]) fun from0_ =>
  if to.2 = true then
    if from0_.2 = true then
      if to.1 = ((⟨(⟨(1 : Int), (0 : Int), (3 : Int)⟩ : api_Id), (⟨(9 : Int), (0 : Int), (7 : Int)⟩ : api_Id)⟩ : api_Destination).To) then
        if from0_.1 = ((⟨(⟨(1 : Int), (0 : Int), (3 : Int)⟩ : api_Id), (⟨(9 : Int), (0 : Int), (7 : Int)⟩ : api_Id)⟩ : api_Destination).From) then
          Option.bind (M.destinations_Format [(⟨(⟨(1 : Int), (0 : Int), (3 : Int)⟩ : api_Id), (⟨(9 : Int), (0 : Int), (7 : Int)⟩ : api_Id)⟩ : api_Destination)]) fun format =>
          some (format == ([49, 32, 48, 32, 51, 32, 45, 62, 32, 57, 32, 48, 32, 55, 10] : Str))
        else
          some false
      else
        some false
    else
      some false
  else
    some false

def M.r47_To_loop1 (id : api_Id) (l : List api_Destination) : Nat → Int → api_Id → Option (api_Id ⊕ (api_Id × Bool))
  | 0, _, _ => none
  | n + 1, i, v =>
    if i < (l.length : Int) then
      Option.bind (idx l i) fun v1 =>
      if v1.From = id then
        Option.bind (idx l i) fun v2 =>
        some (.inr (v2.To, true))
      else
        M.r47_To_loop1 id l n (i + 1) v
    else
      some (.inl v)
def M.r47_To (n : Nat) (id : api_Id) (l : List api_Destination) : Option (api_Id × Bool) :=
  Option.bind (M.r47_To_loop1 id l n (0 : Int) zapi_Id) fun
    | .inl v =>
      some ((⟨(0 : Int), (0 : Int), (0 : Int)⟩ : api_Id), false)
    | .inr ret0 => some ret0

def M.r47_Back_loop1 (l : List api_Destination) : Nat → (List api_Destination) → Int → Option ((List api_Destination))
  | 0, _, _ => none
  | n + 1, out, i =>
    if i < (l.length : Int) then
      Option.bind (idx l i) fun v =>
      Option.bind (idx l i) fun v1 =>
      Option.bind (appC out [(⟨v.To, v1.From⟩ : api_Destination)]) fun out1 =>
      M.r47_Back_loop1 l n out1 (i + 1)
    else
      some out
def M.r47_Back (n : Nat) (l : List api_Destination) : Option ((List api_Destination)) :=
  Option.bind (M.r47_Back_loop1 l n ([] : List api_Destination) (0 : Int)) fun out =>
    some out

def M.destinations_Valid_loop1  : List api_Destination → (List (api_Id × Bool)) → (List (api_Id × Bool)) → Option (((List (api_Id × Bool)) × (List (api_Id × Bool))) ⊕ Bool)
  | [], v, v1 =>
    some (.inl (v, v1))
  | e :: es, v, v1 =>
    Option.bind (
        if (mget v e.From false) = true then
          some true
        else
          some (mget v1 e.To false)
      ) fun v2 =>
      if v2 = true then
        some (.inr false)
      else
        M.destinations_Valid_loop1 es (mset v e.From true) (mset v1 e.To true)
def M.destinations_Valid (l : List api_Destination) : Option Bool :=
  Option.bind (M.destinations_Valid_loop1 l ([] : List (api_Id × Bool)) ([] : List (api_Id × Bool))) fun
    | .inl (v, v1) =>
      some (decide ((l.length : Int) ≤ (4096 : Int)))
    | .inr ret0 => some ret0

def M.r47_May_loop2 (l : List api_Destination) (i : Int) : Nat → Int → Option (Unit ⊕ Bool)
  | 0, _ => none
  | n + 1, k =>
    if k < i then
      Option.bind (idx l k) fun v =>
      Option.bind (idx l i) fun v1 =>
      if v.From = v1.From then
        some (.inr false)
      else
        Option.bind (idx l k) fun v2 =>
        Option.bind (idx l i) fun v3 =>
        if v2.To = v3.To then
          some (.inr false)
        else
          Option.bind (addC k (1 : Int)) fun v4 =>
          M.r47_May_loop2 l i n v4
    else
      some (.inl ())
def M.r47_May_loop1 (l : List api_Destination) : Nat → Int → Option (Unit ⊕ Bool)
  | 0, _ => none
  | n + 1, i =>
    if i < (l.length : Int) then
      Option.bind (M.r47_May_loop2 l i n (0 : Int)) fun
        | .inl _ =>
          Option.bind (addC i (1 : Int)) fun v5 =>
          M.r47_May_loop1 l n v5
        | .inr ret0 => some (.inr ret0)
    else
      some (.inl ())
def M.r47_May (n : Nat) (l : List api_Destination) : Option Bool :=
  Option.bind (M.r47_May_loop1 l n (0 : Int)) fun
    | .inl _ =>
      some (decide ((l.length : Int) ≤ (4096 : Int)))
    | .inr ret0 => some ret0

def M.law47_DestinationsLookup (n : Nat) (l : List api_Destination) (id : api_Id) : Option Bool :=
  Option.bind (
      Option.bind (M.law47_awake n) fun awake =>
      if awake = false then
        some true
      else
        some (decide ((60 : Int) < (l.length : Int)))
    ) fun v =>
    if v = true then
      Option.bind (M.law47_awake n) fun awake1 =>
      some awake1
    else
      Option.bind (M.destinations_To n id l) fun to =>
      Option.bind (M.destinations_From n id l) fun from0_ =>
      Option.bind (M.r47_To n id l) fun to1 =>
      Option.bind (M.r47_Back n l) fun back =>
      Option.bind (M.r47_To n id back) fun to2 =>
      Option.bind (M.destinations_Valid l) fun valid =>
      Option.bind (M.r47_May n l) fun may =>
      if (valid == may) = true then
        if to.1 = to1.1 then
          if (to.2 == to1.2) = true then
            if from0_.1 = to2.1 then
              some (from0_.2 == to2.2)
            else
              some false
          else
            some false
        else
          some false
      else
        some false

def M.destinations_Invert_loop1  : List api_Destination → (List api_Destination) → Option ((List api_Destination))
  | [], out =>
    some out
  | e :: es, out =>
    Option.bind (appC out [(⟨e.To, e.From⟩ : api_Destination)]) fun out1 =>
    M.destinations_Invert_loop1 es out1
def M.destinations_Invert (l : List api_Destination) : Option ((List api_Destination)) :=
  Option.bind (M.destinations_Invert_loop1 l ([] : List api_Destination)) fun out =>
    some out

def M.r47_Same_loop1 (a : List api_Destination) (b : List api_Destination) : Nat → Int → Option (Unit ⊕ Bool)
  | 0, _ => none
  | n + 1, i =>
    if i < (a.length : Int) then
      Option.bind (idx a i) fun v =>
      Option.bind (idx b i) fun v1 =>
      if v ≠ v1 then
        some (.inr false)
      else
        M.r47_Same_loop1 a b n (i + 1)
    else
      some (.inl ())
def M.r47_Same (n : Nat) (a : List api_Destination) (b : List api_Destination) : Option Bool :=
  if (a.length : Int) ≠ (b.length : Int) then
    some false
  else
    Option.bind (M.r47_Same_loop1 a b n (0 : Int)) fun
      | .inl _ =>
        some true
      | .inr ret0 => some ret0

def M.law47_DestinationsInvert_loop1 (n : Nat) (l : List api_Destination) : List api_Destination → Option (Unit ⊕ Bool)
  | [] =>
    some (.inl ())
  | e :: es =>
    Option.bind (M.destinations_To n e.From l) fun to =>
    Option.bind (M.destinations_From n to.1 l) fun from0_ =>
    if to.2 = false then
      some (.inr false)
    else
      if from0_.2 = false then
        some (.inr false)
      else
        if to.1 ≠ e.To then
          some (.inr false)
        else
          if from0_.1 ≠ e.From then
            some (.inr false)
          else
            M.law47_DestinationsInvert_loop1 n l es
def M.law47_DestinationsInvert (n : Nat) (l : List api_Destination) : Option Bool :=
  Option.bind (
      Option.bind (M.law47_awake n) fun awake =>
      if awake = false then
        some true
      else
        some (decide ((60 : Int) < (l.length : Int)))
    ) fun v =>
    if v = true then
      Option.bind (M.law47_awake n) fun awake1 =>
      some awake1
    else
      Option.bind (M.destinations_Invert l) fun invert =>
      Option.bind (
          Option.bind (M.r47_Back n l) fun back =>
          Option.bind (M.r47_Same n invert back) fun same =>
          if same = false then
            some true
          else
            Option.bind (M.destinations_Invert invert) fun invert1 =>
            Option.bind (M.r47_Same n invert1 l) fun same1 =>
            if same1 = false then
              some true
            else
              Option.bind (M.destinations_Valid invert) fun valid =>
              Option.bind (M.destinations_Valid l) fun valid1 =>
              some (valid != valid1)
        ) fun v1 =>
        if v1 = true then
          some false
        else
          Option.bind (M.destinations_Valid l) fun valid2 =>
          if valid2 = false then
            some true
          else
            Option.bind (M.law47_DestinationsInvert_loop1 n l l) fun
              | .inl _ =>
                some true
              | .inr ret0 => some ret0

def M.destinations_Compose_loop1 (n : Nat) (b : List api_Destination) : List api_Destination → (List api_Destination) → Option ((List api_Destination))
  | [], out =>
    some out
  | e :: es, out =>
    Option.bind (M.destinations_To n e.To b) fun to =>
    if to.2 = true then
      Option.bind (appC out [(⟨e.From, to.1⟩ : api_Destination)]) fun out1 =>
      M.destinations_Compose_loop1 n b es out1
    else
      M.destinations_Compose_loop1 n b es out
def M.destinations_Compose (n : Nat) (a : List api_Destination) (b : List api_Destination) : Option ((List api_Destination)) :=
  Option.bind (M.destinations_Compose_loop1 n b a ([] : List api_Destination)) fun out =>
    some out

def M.r47_Chain_loop1 (a : List api_Destination) (b : List api_Destination) : Nat → (List api_Destination) → Int → Option ((List api_Destination))
  | 0, _, _ => none
  | n + 1, out, i =>
    if i < (a.length : Int) then
      Option.bind (idx a i) fun v =>
      Option.bind (M.r47_To n v.To b) fun to =>
      if to.2 = true then
        Option.bind (idx a i) fun v1 =>
        Option.bind (appC out [(⟨v1.From, to.1⟩ : api_Destination)]) fun out1 =>
        M.r47_Chain_loop1 a b n out1 (i + 1)
      else
        M.r47_Chain_loop1 a b n out (i + 1)
    else
      some out
def M.r47_Chain (n : Nat) (a : List api_Destination) (b : List api_Destination) : Option ((List api_Destination)) :=
  Option.bind (M.r47_Chain_loop1 a b n ([] : List api_Destination) (0 : Int)) fun out =>
    some out

def M.law47_DestinationsCompose (n : Nat) (a : List api_Destination) (b : List api_Destination) (id : api_Id) : Option Bool :=
  Option.bind (
      Option.bind (M.law47_awake n) fun awake =>
      if awake = false then
        some true
      else
        if (40 : Int) < (a.length : Int) then
          some true
        else
          some (decide ((40 : Int) < (b.length : Int)))
    ) fun v =>
    if v = true then
      Option.bind (M.law47_awake n) fun awake1 =>
      some awake1
    else
      Option.bind (M.destinations_Compose n a b) fun compos =>
      Option.bind (M.r47_Chain n a b) fun chain =>
      Option.bind (M.r47_Same n compos chain) fun same =>
      if same = false then
        some false
      else
        Option.bind (
            Option.bind (M.destinations_Valid a) fun valid =>
            if valid = false then
              some true
            else
              Option.bind (M.destinations_Valid b) fun valid1 =>
              some (!valid1)
          ) fun v1 =>
          if v1 = true then
            some true
          else
            Option.bind (M.destinations_To n id compos) fun to =>
            Option.bind (M.destinations_To n id a) fun to1 =>
            Option.bind (M.destinations_To n to1.1 b) fun to2 =>
            Option.bind (M.destinations_Valid compos) fun valid2 =>
            if valid2 = true then
              if to1.2 = true then
                if (to.2 == to2.2) = true then
                  if to.2 = false then
                    some true
                  else
                    some (decide (to.1 = to2.1))
                else
                  some false
              else
                if (to.2 == false) = true then
                  if to.2 = false then
                    some true
                  else
                    some (decide (to.1 = to2.1))
                else
                  some false
            else
              some false

def M.law47_DestinationsIdentity_loop1 (a : List api_Destination) : List api_Destination → Int → Option (Unit ⊕ Bool)
  | [], _ =>
    some (.inl ())
  | e :: es, i =>
    if e.From ≠ e.To then
      some (.inr false)
    else
      Option.bind (idx a i) fun v2 =>
      if e.From ≠ v2.From then
        some (.inr false)
      else
        M.law47_DestinationsIdentity_loop1 a es (i + 1)
def M.law47_DestinationsIdentity (n : Nat) (a : List api_Destination) (b : List api_Destination) (c : List api_Destination) : Option Bool :=
  Option.bind (
      Option.bind (M.law47_awake n) fun awake =>
      if awake = false then
        some true
      else
        if (30 : Int) < (a.length : Int) then
          some true
        else
          if (30 : Int) < (b.length : Int) then
            some true
          else
            some (decide ((30 : Int) < (c.length : Int)))
    ) fun v =>
    if v = true then
      Option.bind (M.law47_awake n) fun awake1 =>
      some awake1
    else
      Option.bind (
          Option.bind (M.destinations_Compose n a b) fun compos =>
          Option.bind (M.destinations_Compose n compos c) fun compos1 =>
          Option.bind (M.destinations_Compose n b c) fun compos2 =>
          Option.bind (M.destinations_Compose n a compos2) fun compos3 =>
          Option.bind (M.r47_Same n compos1 compos3) fun same =>
          if same = false then
            Option.bind (M.destinations_Valid b) fun valid =>
            some valid
          else
            some false
        ) fun v1 =>
        if v1 = true then
          some false
        else
          Option.bind (M.destinations_Valid a) fun valid1 =>
          if valid1 = false then
            some true
          else
            Option.bind (M.destinations_Invert a) fun invert =>
            Option.bind (M.destinations_Compose n a invert) fun compos4 =>
            Option.bind (M.law47_DestinationsIdentity_loop1 a compos4 (0 : Int)) fun
              | .inl _ =>
                some (decide ((compos4.length : Int) = (a.length : Int)))
              | .inr ret0 => some ret0

end Go.Proofs.YtdnemlcoeecbjaaDoor
