/-
  What the functions compute: plain functions, written by program out of the code; no machine in sight.
-/
import Derived.Test.YtnmkblpbmoikpaaDoorMod
set_option linter.unusedVariables false
set_option linter.unusedSimpArgs false
namespace Go.Proofs.YtnmkblpbmoikpaaDoor
open Go Go.Dec
structure api_Step where
  Kind : Int
  Label : Str
theorem api_Step.eq_iff (a b : api_Step) : (a.Kind = b.Kind ∧ a.Label = b.Label) ↔ a = b := ⟨fun h => by cases a; cases b; simp_all, fun h => by subst h; simp⟩
instance : DecidableEq api_Step := fun a b => decidable_of_iff _ (api_Step.eq_iff a b)
def zapi_Step : api_Step := ⟨(0 : Int), ([] : Str)⟩
structure api_Cite where
  Kind : Int
  Path : List api_Step
  To : Str
  From : Int
  At : Int
def zapi_Cite : api_Cite := ⟨(0 : Int), ([] : List api_Step), ([] : Str), (0 : Int), (0 : Int)⟩
structure citation_reader where
  l_ : List Str
  at_ : Int
  ended_ : Bool
def zcitation_reader : citation_reader := ⟨([] : List Str), (0 : Int), false⟩
def M.law20_wide_loop1  : List api_Step → Int → Option Int
  | [], n0_ =>
    some n0_
  | e :: es, n0_ =>
    M.law20_wide_loop1 es (wrap64 (n0_ + (e.Label.length : Int)))
def M.law20_wide (c : api_Cite) : Option Bool :=
  Option.bind (M.law20_wide_loop1 c.Path (c.To.length : Int)) fun n0_ =>
    if (12 : Int) < (c.Path.length : Int) then
      some true
    else
      some (decide ((300 : Int) < n0_))
def M.citation_reader_just_1 (s0_ : Str) (c : Str) : Option Bool :=
  some (s0_ == c)
def M.citation_reader_word (r0_ : citation_reader) (is : Str → Option Bool) : Option ((Str × Bool) × citation_reader) :=
  if r0_.ended_ = true then
    some ((([] : Str), false), r0_)
  else
    if (r0_.l_.length : Int) ≤ r0_.at_ then
      some ((([] : Str), false), r0_)
    else
      Option.bind (idx r0_.l_ r0_.at_) fun v =>
      Option.bind ((
          Option.bind (is v) fun v1 =>
          if v1 = false then
            Option.bind (subC (v.length : Int) (1 : Int)) fun v2 =>
            Option.bind (
                if v2 < (0 : Int) then
                  some true
                else
                  Option.bind (idx v v2) fun b1 =>
                  Option.bind (ixM ([44, 59, 46, 58, 41] : Str) (b1.toNat : Int)) fun indexb =>
                  if indexb < (0 : Int) then
                    some true
                  else
                    Option.bind (slcHi v v2) fun v4 =>
                    Option.bind (is v4) fun v5 =>
                    some (!v5)
              ) fun v3 =>
              if v3 = true then
                some (.inr ((([] : Str), false), r0_))
              else
                Option.bind (slcHi v v2) fun v6 =>
                some (.inl (v6, ({ r0_ with ended_ := true } : citation_reader)))
          else
            some (.inl (v, r0_))
        ) : Option ((Str × citation_reader) ⊕ ((Str × Bool) × citation_reader))) fun
        | .inl (s0_, r0_1) =>
          Option.bind (addC r0_1.at_ (1 : Int)) fun v7 =>
          some ((s0_, true), ({ r0_1 with at_ := v7 } : citation_reader))
        | .inr ret0 => some ret0
def M.citation_reader_just (r0_ : citation_reader) (want : Str) : Option (Bool × citation_reader) :=
  Option.bind (M.citation_reader_word r0_ (fun s0 => M.citation_reader_just_1 s0 want)) fun (word, r0_1) =>
  some (word.2, r0_1)
def M.citation_single  : Option ((List Str)) :=
  some ([([] : Str), ([112, 97, 114, 116] : Str), ([115, 101, 99, 116, 105, 111, 110] : Str), ([112, 97, 114, 97, 103, 114, 97, 112, 104] : Str), ([116, 97, 98, 108, 101] : Str), ([114, 111, 119] : Str), ([99, 101, 108, 108] : Str), ([110, 111, 116, 101] : Str)])
def M.slices_Index_string_string_loop1 (s0_ : List Str) (v : Str) : Nat → Int → Option (Unit ⊕ Int)
  | 0, _ => none
  | n + 1, v1 =>
    if v1 < (s0_.length : Int) then
      Option.bind (idx s0_ v1) fun v2 =>
      if (v == v2) = true then
        some (.inr v1)
      else
        M.slices_Index_string_string_loop1 s0_ v n (v1 + 1)
    else
      some (.inl ())
def M.slices_Index_string_string (n : Nat) (s0_ : List Str) (v : Str) : Option Int :=
  Option.bind (M.slices_Index_string_string_loop1 s0_ v n (0 : Int)) fun
    | .inl _ =>
      some (-1 : Int)
    | .inr ret0 => some ret0
def M.citation_kind (n : Nat) (l : List Str) (word : Str) : Option Int :=
  if (word == ([] : Str)) = true then
    some (0 : Int)
  else
    Option.bind (M.slices_Index_string_string n l word) fun string =>
    some (max string (0 : Int))
def M.citation_reader_kind_1 (n : Nat) (s0_ : Str) (c : List Str) : Option Bool :=
  Option.bind (M.citation_kind n c s0_) fun kind =>
  some (decide ((0 : Int) < kind))
def M.citation_reader_kind (n : Nat) (r0_ : citation_reader) (l : List Str) : Option ((Int × Bool) × citation_reader) :=
  Option.bind (M.citation_reader_word r0_ (fun s0 => M.citation_reader_kind_1 n s0 l)) fun (word, r0_1) =>
  Option.bind (M.citation_kind n l word.1) fun kind =>
  some ((kind, word.2), r0_1)
def M.strings_indexFunc_loop1 (s0_ : Str) (f : Int → Option Bool) (truth : Bool) : Nat → Nat → Option (Nat ⊕ Int)
  | 0, _ => none
  | n + 1, v =>
    if v < s0_.length then
      Option.bind (f ((runeAt s0_ v).1 : Int)) fun v1 =>
      if (v1 == truth) = true then
        some (.inr (v : Int))
      else
        M.strings_indexFunc_loop1 s0_ f truth n (v + (runeAt s0_ v).2)
    else
      some (.inl v)
def M.strings_indexFunc (n : Nat) (s0_ : Str) (f : Int → Option Bool) (truth : Bool) : Option Int :=
  Option.bind (M.strings_indexFunc_loop1 s0_ f truth n 0) fun
    | .inl v =>
      some (-1 : Int)
    | .inr ret0 => some ret0
def M.strings_IndexFunc (n : Nat) (s0_ : Str) (f : Int → Option Bool) : Option Int :=
  Option.bind (M.strings_indexFunc n s0_ f true) fun indexf =>
  some indexf
def M.label_parted_1 (b : Int) : Option Bool :=
  if b < (48 : Int) then
    some true
  else
    some (decide ((57 : Int) < b))
def M.label_parted (n : Nat) (s0_ : Str) : Option (Str × Str) :=
  Option.bind (M.strings_IndexFunc n s0_ (fun s0 => M.label_parted_1 s0)) fun indexf =>
  if indexf < (0 : Int) then
    some (s0_, ([] : Str))
  else
    Option.bind (slcHi s0_ indexf) fun v =>
    Option.bind (slcLo s0_ indexf) fun v1 =>
    some (v, v1)
def M.strings_ContainsFunc (n : Nat) (s0_ : Str) (f : Int → Option Bool) : Option Bool :=
  Option.bind (M.strings_IndexFunc n s0_ f) fun indexf =>
  some (decide ((0 : Int) ≤ indexf))
def M.label_Valid_1 (b : Int) : Option Bool :=
  if b < (65 : Int) then
    some true
  else
    some (decide ((90 : Int) < b))
def M.label_Valid (n : Nat) (s0_ : Str) : Option Bool :=
  Option.bind (M.label_parted n s0_) fun parted =>
  if (1 : Int) ≤ (parted.1.length : Int) then
    if (parted.1.length : Int) ≤ (4 : Int) then
      Option.bind (idx parted.1 (0 : Int)) fun b =>
      if (b.toNat : Int) ≠ (48 : Int) then
        if (parted.2.length : Int) ≤ (3 : Int) then
          Option.bind (M.strings_ContainsFunc n parted.2 (fun s0 => M.label_Valid_1 s0)) fun contai =>
          some (!contai)
        else
          some false
      else
        some false
    else
      some false
  else
    some false
def M.citation_reader_step (n : Nat) (r0_ : citation_reader) (l : List Str) : Option ((api_Step × Bool) × citation_reader) :=
  Option.bind (M.citation_reader_kind n r0_ l) fun (kind, r0_1) =>
  Option.bind (M.citation_reader_word r0_1 (fun s0 => M.label_Valid n s0)) fun (word, r0_2) =>
  Option.bind (
      if kind.2 = false then
        some true
      else
        some (!word.2)
    ) fun v =>
    if v = true then
      some (((⟨(0 : Int), ([] : Str)⟩ : api_Step), false), r0_)
    else
      some (((⟨kind.1, word.1⟩ : api_Step), true), r0_2)
def M.citation_reader_more_loop1  : Nat → (List api_Step) → citation_reader → Option ((List api_Step) × citation_reader)
  | 0, _, _ => none
  | n + 1, p1, r0_1 =>
    if (p1.length : Int) < (9 : Int) then
      Option.bind M.citation_single fun single =>
      Option.bind (M.citation_reader_step n r0_1 single) fun (step, r0_2) =>
      if step.2 = false then
        some (p1, r0_2)
      else
        Option.bind (appC p1 [step.1]) fun out =>
        M.citation_reader_more_loop1 n out r0_2
    else
      some (p1, r0_1)
def M.citation_reader_more (n : Nat) (r0_ : citation_reader) (p : List api_Step) : Option (((List api_Step)) × citation_reader) :=
  Option.bind (M.citation_reader_more_loop1 n p r0_) fun (p1, r0_2) =>
    some (p1, r0_2)
def M.citation_reader_path (n : Nat) (r0_ : citation_reader) : Option (((List api_Step)) × citation_reader) :=
  Option.bind (
      Option.bind (M.citation_reader_just r0_ ([98, 111, 111, 107] : Str)) fun (just, r0_2) =>
      if just = true then
        Option.bind (appC ([] : List api_Step) ([(⟨(0 : Int), ([] : Str)⟩ : api_Step)])) fun p1 =>
        some (p1, r0_2)
      else
        some (([] : List api_Step), r0_2)
    ) fun (p, r0_1) =>
    Option.bind (M.citation_reader_more n r0_1 p) fun (more, r0_3) =>
    some (more, r0_3)
def M.citation_forms_1 (n : Nat) (r0_ : citation_reader) : Option (api_Cite × citation_reader) :=
  Option.bind (M.citation_reader_path n r0_) fun (path, r0_1) =>
  some ((⟨(0 : Int), path, ([] : Str), (0 : Int), (0 : Int)⟩ : api_Cite), r0_1)
def M.citation_plural  : Option ((List Str)) :=
  some ([([] : Str), ([112, 97, 114, 116, 115] : Str), ([115, 101, 99, 116, 105, 111, 110, 115] : Str), ([112, 97, 114, 97, 103, 114, 97, 112, 104, 115] : Str), ([116, 97, 98, 108, 101, 115] : Str), ([114, 111, 119, 115] : Str), ([] : Str), ([110, 111, 116, 101, 115] : Str)])
def M.citation_reader_span (n : Nat) (r0_ : citation_reader) : Option (api_Cite × citation_reader) :=
  Option.bind (M.citation_reader_path n r0_) fun (path, r0_1) =>
  Option.bind M.citation_plural fun plural =>
  Option.bind (M.citation_reader_step n r0_1 plural) fun (step, r0_2) =>
  Option.bind (
      if step.2 = false then
        some (true, r0_2)
      else
        Option.bind (M.citation_reader_just r0_2 ([116, 111] : Str)) fun (just, r0_4) =>
        some (!just, r0_4)
    ) fun (v, r0_3) =>
    if v = true then
      some ((⟨(1 : Int), path, ([] : Str), (0 : Int), (0 : Int)⟩ : api_Cite), r0_3)
    else
      Option.bind (appC path [step.1]) fun out =>
      Option.bind (M.citation_reader_word r0_3 (fun s0 => M.label_Valid n s0)) fun (word, r0_5) =>
      some (({ ({ (⟨(1 : Int), path, ([] : Str), (0 : Int), (0 : Int)⟩ : api_Cite) with Path := out } : api_Cite) with To := word.1 } : api_Cite), r0_5)
def M.citation_reader_beside (n : Nat) (r0_ : citation_reader) : Option (((List api_Step)) × citation_reader) :=
  Option.bind M.citation_single fun single =>
  Option.bind (M.citation_reader_kind n r0_ single) fun (kind, r0_1) =>
  if kind.2 = false then
    some (([] : List api_Step), r0_1)
  else
    Option.bind (M.citation_reader_more n r0_1 ([(⟨kind.1, ([] : Str)⟩ : api_Step)])) fun (more, r0_2) =>
    some (more, r0_2)
def M.citation_forms_2 (n : Nat) (r0_ : citation_reader) : Option (api_Cite × citation_reader) :=
  Option.bind (M.citation_reader_just r0_ ([116, 104, 105, 115] : Str)) fun (just, r0_1) =>
  if just = false then
    some ((⟨(2 : Int), ([] : List api_Step), ([] : Str), (0 : Int), (0 : Int)⟩ : api_Cite), r0_1)
  else
    Option.bind (M.citation_reader_beside n r0_1) fun (beside, r0_2) =>
    some ((⟨(2 : Int), beside, ([] : Str), (0 : Int), (0 : Int)⟩ : api_Cite), r0_2)
def M.citation_forms_3 (n : Nat) (r0_ : citation_reader) : Option (api_Cite × citation_reader) :=
  Option.bind (
      Option.bind (M.citation_reader_just r0_ ([116, 104, 101] : Str)) fun (just, r0_2) =>
      if just = false then
        some (true, r0_2)
      else
        Option.bind (M.citation_reader_just r0_2 ([115, 97, 105, 100] : Str)) fun (just1, r0_3) =>
        some (!just1, r0_3)
    ) fun (v, r0_1) =>
    if v = true then
      some ((⟨(3 : Int), ([] : List api_Step), ([] : Str), (0 : Int), (0 : Int)⟩ : api_Cite), r0_1)
    else
      Option.bind (M.citation_reader_beside n r0_1) fun (beside, r0_4) =>
      some ((⟨(3 : Int), beside, ([] : Str), (0 : Int), (0 : Int)⟩ : api_Cite), r0_4)
def M.citation_forms_4 (n : Nat) (r0_ : citation_reader) : Option (api_Cite × citation_reader) :=
  Option.bind (M.citation_reader_just r0_ ([102, 111, 114, 109, 101, 114, 108, 121] : Str)) fun (just, r0_1) =>
  if just = false then
    some ((⟨(4 : Int), ([] : List api_Step), ([] : Str), (0 : Int), (0 : Int)⟩ : api_Cite), r0_1)
  else
    Option.bind (M.citation_reader_path n r0_1) fun (path, r0_2) =>
    some ((⟨(4 : Int), path, ([] : Str), (0 : Int), (0 : Int)⟩ : api_Cite), r0_2)
def M.citation_forms (n : Nat)  : Option ((List (citation_reader → Option (api_Cite × citation_reader)))) :=
  some [(fun s0 => M.citation_forms_1 n s0), (fun s0 => M.citation_reader_span n s0), (fun s0 => M.citation_forms_2 n s0), (fun s0 => M.citation_forms_3 n s0), (fun s0 => M.citation_forms_4 n s0)]
def M.citation_book (s0_ : api_Step) : Option Bool :=
  some (decide (s0_ = (⟨(0 : Int), ([] : Str)⟩ : api_Step)))
def M.slices_IndexFunc_api_Step_api_Step_loop1 (s0_ : List api_Step) (f : api_Step → Option Bool) : Nat → Int → Option (Unit ⊕ Int)
  | 0, _ => none
  | n + 1, v =>
    if v < (s0_.length : Int) then
      Option.bind (idx s0_ v) fun v1 =>
      Option.bind (f v1) fun v2 =>
      if v2 = true then
        some (.inr v)
      else
        M.slices_IndexFunc_api_Step_api_Step_loop1 s0_ f n (v + 1)
    else
      some (.inl ())
def M.slices_IndexFunc_api_Step_api_Step (n : Nat) (s0_ : List api_Step) (f : api_Step → Option Bool) : Option Int :=
  Option.bind (M.slices_IndexFunc_api_Step_api_Step_loop1 s0_ f n (0 : Int)) fun
    | .inl _ =>
      some (-1 : Int)
    | .inr ret0 => some ret0
def M.slices_ContainsFunc_api_Step_api_Step (n : Nat) (s0_ : List api_Step) (f : api_Step → Option Bool) : Option Bool :=
  Option.bind (M.slices_IndexFunc_api_Step_api_Step n s0_ f) fun step =>
  some (decide ((0 : Int) ≤ step))
def M.citation_named (n : Nat) (s0_ : api_Step) : Option Bool :=
  if (1 : Int) ≤ s0_.Kind then
    if s0_.Kind ≤ (7 : Int) then
      Option.bind (M.label_Valid n s0_.Label) fun valid =>
      some valid
    else
      some false
  else
    some false
def M.citation_plain_1 (n : Nat) (s0_ : api_Step) : Option Bool :=
  Option.bind (M.citation_named n s0_) fun named =>
  some (!named)
def M.citation_plain (n : Nat) (p : List api_Step) : Option Bool :=
  Option.bind (
      if (0 : Int) < (p.length : Int) then
        Option.bind (idx p (0 : Int)) fun v =>
        Option.bind (M.citation_book v) fun book =>
        if book = true then
          Option.bind (slcLo p (1 : Int)) fun v1 =>
          some v1
        else
          some p
      else
        some p
    ) fun p1 =>
    if (0 : Int) < (p1.length : Int) then
      Option.bind (M.slices_ContainsFunc_api_Step_api_Step n p1 (fun s0 => M.citation_plain_1 n s0)) fun step =>
      some (!step)
    else
      some false
def M.citation_near_1 (n : Nat) (s0_ : api_Step) : Option Bool :=
  Option.bind (M.citation_named n s0_) fun named =>
  some (!named)
def M.citation_near (n : Nat) (p : List api_Step) : Option Bool :=
  Option.bind (
      if (p.length : Int) = (0 : Int) then
        some true
      else
        Option.bind (idx p (0 : Int)) fun v1 =>
        if (v1.Label != ([] : Str)) = true then
          some true
        else
          Option.bind (idx p (0 : Int)) fun v2 =>
          if v2.Kind < (1 : Int) then
            some true
          else
            Option.bind (idx p (0 : Int)) fun v3 =>
            some (decide ((7 : Int) < v3.Kind))
    ) fun v =>
    if v = true then
      some false
    else
      Option.bind (slcLo p (1 : Int)) fun v4 =>
      Option.bind (M.slices_ContainsFunc_api_Step_api_Step n v4 (fun s0 => M.citation_near_1 n s0)) fun step =>
      some (!step)
def M.citation_Valid (n : Nat) (c : api_Cite) : Option Bool :=
  Option.bind (
      if (9 : Int) < (c.Path.length : Int) then
        some true
      else
        some ((c.To != ([] : Str)) != (decide (c.Kind = (1 : Int))))
    ) fun v =>
    if v = true then
      some false
    else
      Option.bind (
          if c.Kind = (0 : Int) then
            some (decide (c.Kind = (0 : Int)))
          else
            some (decide (c.Kind = (4 : Int)))
        ) fun v1 =>
        if v1 = true then
          Option.bind (M.citation_plain n c.Path) fun plain =>
          some plain
        else
          if c.Kind = (1 : Int) then
            Option.bind (M.citation_plain n c.Path) fun plain1 =>
            if plain1 = true then
              Option.bind (M.label_Valid n c.To) fun valid =>
              if valid = true then
                Option.bind (subC (c.Path.length : Int) (1 : Int)) fun v2 =>
                Option.bind (idx c.Path v2) fun v3 =>
                some (decide (v3.Kind ≠ (6 : Int)))
              else
                some false
            else
              some false
          else
            Option.bind (
                if c.Kind = (2 : Int) then
                  some (decide (c.Kind = (2 : Int)))
                else
                  some (decide (c.Kind = (3 : Int)))
              ) fun v4 =>
              if v4 = true then
                Option.bind (M.citation_near n c.Path) fun near =>
                some near
              else
                some false
def M.citation_longest_loop1 (n : Nat) (l : List Str) (from0_ : Int) : List (citation_reader → Option (api_Cite × citation_reader)) → api_Cite → Option api_Cite
  | [], best =>
    some best
  | e :: es, best =>
    Option.bind (e (⟨l, from0_, false⟩ : citation_reader)) fun (v, w) =>
    Option.bind (M.citation_Valid n ({ ({ v with From := from0_ } : api_Cite) with At := w.at_ } : api_Cite)) fun valid =>
    if valid = true then
      if best.At < ({ ({ v with From := from0_ } : api_Cite) with At := w.at_ } : api_Cite).At then
        M.citation_longest_loop1 n l from0_ es ({ ({ v with From := from0_ } : api_Cite) with At := w.at_ } : api_Cite)
      else
        M.citation_longest_loop1 n l from0_ es best
    else
      M.citation_longest_loop1 n l from0_ es best
def M.citation_longest (n : Nat) (l : List Str) (from0_ : Int) : Option (api_Cite × Bool) :=
  Option.bind (M.citation_forms n) fun forms =>
  Option.bind (M.citation_longest_loop1 n l from0_ forms zapi_Cite) fun best =>
    some (best, decide ((0 : Int) < best.At))
def M.citation_Scan_loop1 (l : List Str) : Nat → (List api_Cite) → Int → Option ((List api_Cite))
  | 0, _, _ => none
  | n + 1, out, at0_ =>
    if at0_ < (l.length : Int) then
      Option.bind (M.citation_longest n l at0_) fun longes =>
      if longes.2 = false then
        M.citation_Scan_loop1 l n out (at0_ + 1)
      else
        Option.bind (appC out [longes.1]) fun out1 =>
        M.citation_Scan_loop1 l n out1 longes.1.At
    else
      some out
def M.citation_Scan (n : Nat) (l : List Str) : Option ((List api_Cite)) :=
  Option.bind (M.citation_Scan_loop1 l n ([] : List api_Cite) (0 : Int)) fun out =>
    some out
def M.citation_told_loop1  : List api_Step → (List Str) → Option ((List Str))
  | [], out =>
    some out
  | e :: es, out =>
    Option.bind (M.citation_book e) fun book =>
    if book = true then
      Option.bind (appC out ([([98, 111, 111, 107] : Str)])) fun out1 =>
      M.citation_told_loop1 es out1
    else
      if (e.Label == ([] : Str)) = true then
        Option.bind M.citation_single fun single =>
        Option.bind (idx single e.Kind) fun v =>
        Option.bind (appC out [v]) fun out2 =>
        M.citation_told_loop1 es out2
      else
        Option.bind M.citation_single fun single1 =>
        Option.bind (idx single1 e.Kind) fun v1 =>
        Option.bind (appC out [v1, e.Label]) fun out3 =>
        M.citation_told_loop1 es out3
def M.citation_told (p : List api_Step) : Option ((List Str)) :=
  Option.bind (M.citation_told_loop1 p ([] : List Str)) fun out =>
    some out
def M.citation_words (c : api_Cite) : Option ((List Str)) :=
  if c.Kind = (1 : Int) then
    Option.bind (subC (c.Path.length : Int) (1 : Int)) fun v =>
    Option.bind (idx c.Path v) fun v1 =>
    Option.bind (subC (c.Path.length : Int) (1 : Int)) fun v2 =>
    Option.bind (slcHi c.Path v2) fun v3 =>
    Option.bind (M.citation_told v3) fun told =>
    Option.bind M.citation_plural fun plural =>
    Option.bind (idx plural v1.Kind) fun v4 =>
    Option.bind (appC told ([v4, v1.Label, ([116, 111] : Str), c.To])) fun out =>
    some out
  else
    if c.Kind = (2 : Int) then
      Option.bind (M.citation_told c.Path) fun told1 =>
      Option.bind (appC ([([116, 104, 105, 115] : Str)]) told1) fun out1 =>
      some out1
    else
      if c.Kind = (3 : Int) then
        Option.bind (M.citation_told c.Path) fun told2 =>
        Option.bind (appC ([([116, 104, 101] : Str), ([115, 97, 105, 100] : Str)]) told2) fun out2 =>
        some out2
      else
        if c.Kind = (4 : Int) then
          Option.bind (M.citation_told c.Path) fun told3 =>
          Option.bind (appC ([([102, 111, 114, 109, 101, 114, 108, 121] : Str)]) told3) fun out3 =>
          some out3
        else
          Option.bind (M.citation_told c.Path) fun told4 =>
          some told4
def M.strings_Join_loop2 (sep : Str) : List Str → Str → Option Str
  | [], b2 =>
    some b2
  | e1 :: es1, b2 =>
    Option.bind (appC b2 sep) fun b3 =>
    Option.bind (appC b3 e1) fun b4 =>
    M.strings_Join_loop2 sep es1 b4
def M.strings_Join_loop1  : List Str → Int → Option Int
  | [], n0_1 =>
    some n0_1
  | e :: es, n0_1 =>
    Option.bind (subC (9223372036854775807 : Int) n0_1) fun v6 =>
    if v6 < (e.length : Int) then
      none
    else
      Option.bind (addC n0_1 (e.length : Int)) fun v7 =>
      M.strings_Join_loop1 es v7
def M.strings_Join (elems : List Str) (sep : Str) : Option Str :=
  if (elems.length : Int) = (0 : Int) then
    some ([] : Str)
  else
    if (elems.length : Int) = (1 : Int) then
      Option.bind (idx elems (0 : Int)) fun v =>
      some v
    else
      Option.bind (
          if (0 : Int) < (sep.length : Int) then
            Option.bind (
                Option.bind (subC (elems.length : Int) (1 : Int)) fun v1 =>
                Option.bind (quoC (9223372036854775807 : Int) v1) fun v2 =>
                if v2 ≤ (sep.length : Int) then
                  none
                else
                  some ()
              ) fun _ =>
              Option.bind (subC (elems.length : Int) (1 : Int)) fun v3 =>
              Option.bind (mulC (sep.length : Int) v3) fun v4 =>
              Option.bind (addC (0 : Int) v4) fun v5 =>
              some v5
          else
            some (0 : Int)
        ) fun n0_ =>
        Option.bind (M.strings_Join_loop1 elems n0_) fun n0_1 =>
          Option.bind (growC n0_1) fun _ =>
          Option.bind (idx elems (0 : Int)) fun v8 =>
          Option.bind (appC ([] : Str) v8) fun b1 =>
          Option.bind (slcLo elems (1 : Int)) fun v9 =>
          Option.bind (M.strings_Join_loop2 sep v9 b1) fun b2 =>
            some b2
def M.citation_Format (n : Nat) (c : api_Cite) : Option Str :=
  Option.bind (M.citation_Valid n c) fun valid =>
  if valid = false then
    some ([] : Str)
  else
    Option.bind (M.citation_words c) fun words =>
    Option.bind (M.strings_Join words ([32] : Str)) fun join =>
    some join
def M.citation_Parse (n : Nat) (s0_ : Str) : Option (api_Cite × Int) :=
  Option.bind (splitM s0_ ([32] : Str)) fun split =>
  Option.bind (M.citation_longest n split (0 : Int)) fun longes =>
  if longes.2 = false then
    some ((⟨(0 : Int), ([] : List api_Step), ([] : Str), (0 : Int), (0 : Int)⟩ : api_Cite), (2 : Int))
  else
    if longes.1.At ≠ (split.length : Int) then
      some ((⟨(0 : Int), ([] : List api_Step), ([] : Str), (0 : Int), (0 : Int)⟩ : api_Cite), (2 : Int))
    else
      Option.bind (M.citation_Format n longes.1) fun format =>
      if (format != s0_) = true then
        some ((⟨(0 : Int), ([] : List api_Step), ([] : Str), (0 : Int), (0 : Int)⟩ : api_Cite), (2 : Int))
      else
        some (longes.1, (0 : Int))
def M.law20_awake (n : Nat)  : Option Bool :=
  Option.bind (M.citation_Scan n ([([117, 110, 100, 101, 114] : Str), ([115, 101, 99, 116, 105, 111, 110] : Str), ([53] : Str), ([112, 97, 114, 97, 103, 114, 97, 112, 104] : Str), ([50, 44] : Str), ([111, 114] : Str), ([115, 101, 99, 116, 105, 111, 110, 115] : Str), ([54] : Str), ([116, 111] : Str), ([56] : Str)])) fun scan =>
  Option.bind (M.citation_Parse n ([116, 104, 101, 32, 115, 97, 105, 100, 32, 115, 101, 99, 116, 105, 111, 110] : Str)) fun parse =>
  Option.bind (
      if (scan.length : Int) ≠ (2 : Int) then
        some true
      else
        Option.bind (idx scan (0 : Int)) fun v1 =>
        if (v1.Path.length : Int) ≠ (2 : Int) then
          some true
        else
          some (decide ((parse.1.Path.length : Int) ≠ (1 : Int)))
    ) fun v =>
    if v = true then
      some false
    else
      Option.bind (idx scan (0 : Int)) fun v2 =>
      if v2.From = (1 : Int) then
        Option.bind (idx scan (0 : Int)) fun v3 =>
        if v3.At = (5 : Int) then
          Option.bind (idx scan (1 : Int)) fun v4 =>
          if v4.Kind = (1 : Int) then
            Option.bind (idx scan (1 : Int)) fun v5 =>
            if (v5.To == ([56] : Str)) = true then
              Option.bind (idx scan (1 : Int)) fun v6 =>
              if v6.At = (10 : Int) then
                if parse.2 = (0 : Int) then
                  if parse.1.Kind = (3 : Int) then
                    Option.bind (idx parse.1.Path (0 : Int)) fun v7 =>
                    some (decide (v7.Kind = (2 : Int)))
                  else
                    some false
                else
                  some false
              else
                some false
            else
              some false
          else
            some false
        else
          some false
      else
        some false
def M.r03_digits_loop1 (s0_ : Str) : Nat → Int → Option Int
  | 0, _ => none
  | n + 1, n0_ =>
    if n0_ < (s0_.length : Int) then
      Option.bind (idx s0_ n0_) fun b =>
      if (48 : Int) ≤ (b.toNat : Int) then
        Option.bind (idx s0_ n0_) fun b1 =>
        if (b1.toNat : Int) ≤ (57 : Int) then
          M.r03_digits_loop1 s0_ n (n0_ + 1)
        else
          some n0_
      else
        some n0_
    else
      some n0_
def M.r03_digits (n : Nat) (s0_ : Str) : Option Int :=
  Option.bind (M.r03_digits_loop1 s0_ n (0 : Int)) fun n0_ =>
    some n0_
def M.r03_May_loop1 (s0_ : Str) : Nat → Int → Option (Unit ⊕ Bool)
  | 0, _ => none
  | n + 1, i =>
    if i < (s0_.length : Int) then
      Option.bind (idx s0_ i) fun b1 =>
      if (b1.toNat : Int) < (65 : Int) then
        some (.inr false)
      else
        Option.bind (idx s0_ i) fun b2 =>
        if (90 : Int) < (b2.toNat : Int) then
          some (.inr false)
        else
          M.r03_May_loop1 s0_ n (i + 1)
    else
      some (.inl ())
def M.r03_May (n : Nat) (s0_ : Str) : Option Bool :=
  Option.bind (M.r03_digits n s0_) fun digits =>
  Option.bind (
      if digits < (1 : Int) then
        some true
      else
        if (4 : Int) < digits then
          some true
        else
          Option.bind (idx s0_ (0 : Int)) fun b =>
          if (b.toNat : Int) = (48 : Int) then
            some true
          else
            Option.bind (subC (s0_.length : Int) digits) fun v1 =>
            some (decide ((3 : Int) < v1))
    ) fun v =>
    if v = true then
      some false
    else
      Option.bind (M.r03_May_loop1 s0_ n digits) fun
        | .inl _ =>
          some true
        | .inr ret0 => some ret0
def M.r20_step (n : Nat) (s0_ : api_Step) : Option Bool :=
  if (1 : Int) ≤ s0_.Kind then
    if s0_.Kind ≤ (7 : Int) then
      Option.bind (M.r03_May n s0_.Label) fun may =>
      some may
    else
      some false
  else
    some false
def M.r20_steps_loop1 (p : List api_Step) : Nat → Int → Option (Unit ⊕ Bool)
  | 0, _ => none
  | n + 1, i =>
    if i < (p.length : Int) then
      Option.bind (idx p i) fun v =>
      Option.bind (M.r20_step n v) fun step =>
      if step = false then
        some (.inr false)
      else
        M.r20_steps_loop1 p n (i + 1)
    else
      some (.inl ())
def M.r20_steps (n : Nat) (p : List api_Step) : Option Bool :=
  Option.bind (M.r20_steps_loop1 p n (0 : Int)) fun
    | .inl _ =>
      some true
    | .inr ret0 => some ret0
def M.r20_plain (n : Nat) (p : List api_Step) : Option Bool :=
  Option.bind (
      if (0 : Int) < (p.length : Int) then
        Option.bind (idx p (0 : Int)) fun v =>
        if v.Kind = (0 : Int) then
          Option.bind (idx p (0 : Int)) fun v1 =>
          if (v1.Label == ([] : Str)) = true then
            Option.bind (slcLo p (1 : Int)) fun v2 =>
            some v2
          else
            some p
        else
          some p
      else
        some p
    ) fun p1 =>
    if (0 : Int) < (p1.length : Int) then
      Option.bind (M.r20_steps n p1) fun steps =>
      some steps
    else
      some false
def M.r20_Plurals  : Option ((List Str)) :=
  some ([([112, 97, 114, 116, 115] : Str), ([115, 101, 99, 116, 105, 111, 110, 115] : Str), ([112, 97, 114, 97, 103, 114, 97, 112, 104, 115] : Str), ([116, 97, 98, 108, 101, 115] : Str), ([114, 111, 119, 115] : Str), ([] : Str), ([110, 111, 116, 101, 115] : Str)])
def M.r20_May (n : Nat) (c : api_Cite) : Option Bool :=
  Option.bind (
      if (9 : Int) < (c.Path.length : Int) then
        some true
      else
        some (decide ((c.Path.length : Int) = (0 : Int)))
    ) fun v =>
    if v = true then
      some false
    else
      Option.bind (
          if c.Kind = (0 : Int) then
            some (decide (c.Kind = (0 : Int)))
          else
            some (decide (c.Kind = (4 : Int)))
        ) fun v1 =>
        if v1 = true then
          if (c.To == ([] : Str)) = true then
            Option.bind (M.r20_plain n c.Path) fun plain =>
            some plain
          else
            some false
        else
          if c.Kind = (1 : Int) then
            Option.bind (M.r03_May n c.To) fun may =>
            if may = true then
              Option.bind (M.r20_plain n c.Path) fun plain1 =>
              if plain1 = true then
                Option.bind M.r20_Plurals fun plural =>
                Option.bind (subC (c.Path.length : Int) (1 : Int)) fun v2 =>
                Option.bind (idx c.Path v2) fun v3 =>
                Option.bind (subC v3.Kind (1 : Int)) fun v4 =>
                Option.bind (idx plural v4) fun v5 =>
                some (v5 != ([] : Str))
              else
                some false
            else
              some false
          else
            Option.bind (
                if c.Kind = (2 : Int) then
                  some (decide (c.Kind = (2 : Int)))
                else
                  some (decide (c.Kind = (3 : Int)))
              ) fun v6 =>
              if v6 = true then
                if (c.To == ([] : Str)) = true then
                  Option.bind (idx c.Path (0 : Int)) fun v7 =>
                  if (1 : Int) ≤ v7.Kind then
                    Option.bind (idx c.Path (0 : Int)) fun v8 =>
                    if v8.Kind ≤ (7 : Int) then
                      Option.bind (idx c.Path (0 : Int)) fun v9 =>
                      if (v9.Label == ([] : Str)) = true then
                        Option.bind (slcLo c.Path (1 : Int)) fun v10 =>
                        Option.bind (M.r20_steps n v10) fun steps =>
                        some steps
                      else
                        some false
                    else
                      some false
                  else
                    some false
                else
                  some false
              else
                some false
def M.r20_Singles  : Option ((List Str)) :=
  some ([([112, 97, 114, 116] : Str), ([115, 101, 99, 116, 105, 111, 110] : Str), ([112, 97, 114, 97, 103, 114, 97, 112, 104] : Str), ([116, 97, 98, 108, 101] : Str), ([114, 111, 119] : Str), ([99, 101, 108, 108] : Str), ([110, 111, 116, 101] : Str)])
def M.r20_Words_loop1 (c : api_Cite) : Nat → (List Str) → Int → Option ((List Str))
  | 0, _, _ => none
  | n + 1, out4, i =>
    if i < (c.Path.length : Int) then
      Option.bind (idx c.Path i) fun v =>
      if v.Kind = (0 : Int) then
        Option.bind (appC out4 ([([98, 111, 111, 107] : Str)])) fun out5 =>
        M.r20_Words_loop1 c n out5 (i + 1)
      else
        Option.bind (
            if c.Kind = (1 : Int) then
              Option.bind (subC (c.Path.length : Int) (1 : Int)) fun v2 =>
              some (decide (i = v2))
            else
              some false
          ) fun v1 =>
          if v1 = true then
            Option.bind M.r20_Plurals fun plural =>
            Option.bind (subC v.Kind (1 : Int)) fun v3 =>
            Option.bind (idx plural v3) fun v4 =>
            Option.bind (appC out4 ([v4, v.Label, ([116, 111] : Str), c.To])) fun out6 =>
            Option.bind (addC i (1 : Int)) fun v5 =>
            M.r20_Words_loop1 c n out6 v5
          else
            Option.bind M.r20_Singles fun single =>
            Option.bind (subC v.Kind (1 : Int)) fun v6 =>
            Option.bind (idx single v6) fun v7 =>
            Option.bind (appC out4 [v7]) fun out7 =>
            if (v.Label != ([] : Str)) = true then
              Option.bind (appC out7 [v.Label]) fun out8 =>
              Option.bind (addC i (1 : Int)) fun v8 =>
              M.r20_Words_loop1 c n out8 v8
            else
              Option.bind (addC i (1 : Int)) fun v9 =>
              M.r20_Words_loop1 c n out7 v9
    else
      some out4
def M.r20_Words (n : Nat) (c : api_Cite) : Option ((List Str)) :=
  Option.bind (
      if c.Kind = (2 : Int) then
        Option.bind (appC ([] : List Str) ([([116, 104, 105, 115] : Str)])) fun out1 =>
        some out1
      else
        if c.Kind = (3 : Int) then
          Option.bind (appC ([] : List Str) ([([116, 104, 101] : Str), ([115, 97, 105, 100] : Str)])) fun out2 =>
          some out2
        else
          if c.Kind = (4 : Int) then
            Option.bind (appC ([] : List Str) ([([102, 111, 114, 109, 101, 114, 108, 121] : Str)])) fun out3 =>
            some out3
          else
            some ([] : List Str)
    ) fun out =>
    Option.bind (M.r20_Words_loop1 c n out (0 : Int)) fun out4 =>
      some out4
def M.r04_Text_loop1 (l : List Str) : Nat → Str → Int → Option Str
  | 0, _, _ => none
  | n + 1, s0_, i =>
    if i < (l.length : Int) then
      Option.bind (
          if (0 : Int) < i then
            Option.bind (catC s0_ ([32] : Str)) fun v =>
            some v
          else
            some s0_
        ) fun s0_1 =>
        Option.bind (idx l i) fun v1 =>
        Option.bind (catC s0_1 v1) fun v2 =>
        M.r04_Text_loop1 l n v2 (i + 1)
    else
      some s0_
def M.r04_Text (n : Nat) (l : List Str) : Option Str :=
  Option.bind (M.r04_Text_loop1 l n ([] : Str) (0 : Int)) fun s0_ =>
    some s0_
def M.law20_long_loop1  : List Str → Int → Option Int
  | [], n0_ =>
    some n0_
  | e :: es, n0_ =>
    M.law20_long_loop1 es (wrap64 (n0_ + (e.length : Int)))
def M.law20_long (l : List Str) : Option Bool :=
  Option.bind (M.law20_long_loop1 l (0 : Int)) fun n0_ =>
    if (60 : Int) < (l.length : Int) then
      some true
    else
      some (decide ((1500 : Int) < n0_))
def M.r20_kind_loop1 (l : List Str) (s0_ : Str) : Nat → Int → Option (Unit ⊕ Int)
  | 0, _ => none
  | n + 1, i =>
    if i < (l.length : Int) then
      if (s0_ != ([] : Str)) = true then
        Option.bind (idx l i) fun v =>
        if (v == s0_) = true then
          some (.inr (i + 1))
        else
          M.r20_kind_loop1 l s0_ n (i + 1)
      else
        M.r20_kind_loop1 l s0_ n (i + 1)
    else
      some (.inl ())
def M.r20_kind (n : Nat) (l : List Str) (s0_ : Str) : Option Int :=
  Option.bind (M.r20_kind_loop1 l s0_ n (0 : Int)) fun
    | .inl _ =>
      some (0 : Int)
    | .inr ret0 => some ret0
def M.r20_Read_loop1 (w : List Str) : Nat → Int → api_Cite → Option (Int × api_Cite)
  | 0, _, _ => none
  | n + 1, i2, c2 =>
    Option.bind (addC i2 (1 : Int)) fun v30 =>
    if v30 < (w.length : Int) then
      Option.bind M.r20_Singles fun single8 =>
      Option.bind (idx w i2) fun v31 =>
      Option.bind (M.r20_kind n single8 v31) fun kind8 =>
      if (0 : Int) < kind8 then
        Option.bind M.r20_Singles fun single9 =>
        Option.bind (idx w i2) fun v32 =>
        Option.bind (M.r20_kind n single9 v32) fun kind9 =>
        Option.bind (addC i2 (1 : Int)) fun v33 =>
        Option.bind (idx w v33) fun v34 =>
        Option.bind (appC c2.Path [(⟨kind9, v34⟩ : api_Step)]) fun out1 =>
        Option.bind (addC i2 (2 : Int)) fun v35 =>
        M.r20_Read_loop1 w n v35 ({ c2 with Path := out1 } : api_Cite)
      else
        some (i2, c2)
    else
      some (i2, c2)
def M.r20_Read (n : Nat) (w : List Str) : Option (api_Cite × Bool) :=
  Option.bind (
      if (1 : Int) < (w.length : Int) then
        Option.bind (idx w (0 : Int)) fun v =>
        if (v == ([116, 104, 105, 115] : Str)) = true then
          Option.bind M.r20_Singles fun single =>
          Option.bind (idx w (1 : Int)) fun v1 =>
          Option.bind (M.r20_kind n single v1) fun kind =>
          if (0 : Int) < kind then
            Option.bind M.r20_Singles fun single1 =>
            Option.bind (idx w (1 : Int)) fun v2 =>
            Option.bind (M.r20_kind n single1 v2) fun kind1 =>
            some ((2 : Int), ({ ({ (⟨(0 : Int), ([] : List api_Step), ([] : Str), (0 : Int), (0 : Int)⟩ : api_Cite) with Kind := (2 : Int) } : api_Cite) with Path := [(⟨kind1, ([] : Str)⟩ : api_Step)] } : api_Cite))
          else
            if (2 : Int) < (w.length : Int) then
              Option.bind (idx w (0 : Int)) fun v3 =>
              if (v3 == ([116, 104, 101] : Str)) = true then
                Option.bind (idx w (1 : Int)) fun v4 =>
                if (v4 == ([115, 97, 105, 100] : Str)) = true then
                  Option.bind M.r20_Singles fun single2 =>
                  Option.bind (idx w (2 : Int)) fun v5 =>
                  Option.bind (M.r20_kind n single2 v5) fun kind2 =>
                  if (0 : Int) < kind2 then
                    Option.bind M.r20_Singles fun single3 =>
                    Option.bind (idx w (2 : Int)) fun v6 =>
                    Option.bind (M.r20_kind n single3 v6) fun kind3 =>
                    some ((3 : Int), ({ ({ (⟨(0 : Int), ([] : List api_Step), ([] : Str), (0 : Int), (0 : Int)⟩ : api_Cite) with Kind := (3 : Int) } : api_Cite) with Path := [(⟨kind3, ([] : Str)⟩ : api_Step)] } : api_Cite))
                  else
                    if (0 : Int) < (w.length : Int) then
                      Option.bind (idx w (0 : Int)) fun v7 =>
                      if (v7 == ([102, 111, 114, 109, 101, 114, 108, 121] : Str)) = true then
                        some ((1 : Int), ({ (⟨(0 : Int), ([] : List api_Step), ([] : Str), (0 : Int), (0 : Int)⟩ : api_Cite) with Kind := (4 : Int) } : api_Cite))
                      else
                        some ((0 : Int), (⟨(0 : Int), ([] : List api_Step), ([] : Str), (0 : Int), (0 : Int)⟩ : api_Cite))
                    else
                      some ((0 : Int), (⟨(0 : Int), ([] : List api_Step), ([] : Str), (0 : Int), (0 : Int)⟩ : api_Cite))
                else
                  if (0 : Int) < (w.length : Int) then
                    Option.bind (idx w (0 : Int)) fun v8 =>
                    if (v8 == ([102, 111, 114, 109, 101, 114, 108, 121] : Str)) = true then
                      some ((1 : Int), ({ (⟨(0 : Int), ([] : List api_Step), ([] : Str), (0 : Int), (0 : Int)⟩ : api_Cite) with Kind := (4 : Int) } : api_Cite))
                    else
                      some ((0 : Int), (⟨(0 : Int), ([] : List api_Step), ([] : Str), (0 : Int), (0 : Int)⟩ : api_Cite))
                  else
                    some ((0 : Int), (⟨(0 : Int), ([] : List api_Step), ([] : Str), (0 : Int), (0 : Int)⟩ : api_Cite))
              else
                if (0 : Int) < (w.length : Int) then
                  Option.bind (idx w (0 : Int)) fun v9 =>
                  if (v9 == ([102, 111, 114, 109, 101, 114, 108, 121] : Str)) = true then
                    some ((1 : Int), ({ (⟨(0 : Int), ([] : List api_Step), ([] : Str), (0 : Int), (0 : Int)⟩ : api_Cite) with Kind := (4 : Int) } : api_Cite))
                  else
                    some ((0 : Int), (⟨(0 : Int), ([] : List api_Step), ([] : Str), (0 : Int), (0 : Int)⟩ : api_Cite))
                else
                  some ((0 : Int), (⟨(0 : Int), ([] : List api_Step), ([] : Str), (0 : Int), (0 : Int)⟩ : api_Cite))
            else
              if (0 : Int) < (w.length : Int) then
                Option.bind (idx w (0 : Int)) fun v10 =>
                if (v10 == ([102, 111, 114, 109, 101, 114, 108, 121] : Str)) = true then
                  some ((1 : Int), ({ (⟨(0 : Int), ([] : List api_Step), ([] : Str), (0 : Int), (0 : Int)⟩ : api_Cite) with Kind := (4 : Int) } : api_Cite))
                else
                  some ((0 : Int), (⟨(0 : Int), ([] : List api_Step), ([] : Str), (0 : Int), (0 : Int)⟩ : api_Cite))
              else
                some ((0 : Int), (⟨(0 : Int), ([] : List api_Step), ([] : Str), (0 : Int), (0 : Int)⟩ : api_Cite))
        else
          if (2 : Int) < (w.length : Int) then
            Option.bind (idx w (0 : Int)) fun v11 =>
            if (v11 == ([116, 104, 101] : Str)) = true then
              Option.bind (idx w (1 : Int)) fun v12 =>
              if (v12 == ([115, 97, 105, 100] : Str)) = true then
                Option.bind M.r20_Singles fun single4 =>
                Option.bind (idx w (2 : Int)) fun v13 =>
                Option.bind (M.r20_kind n single4 v13) fun kind4 =>
                if (0 : Int) < kind4 then
                  Option.bind M.r20_Singles fun single5 =>
                  Option.bind (idx w (2 : Int)) fun v14 =>
                  Option.bind (M.r20_kind n single5 v14) fun kind5 =>
                  some ((3 : Int), ({ ({ (⟨(0 : Int), ([] : List api_Step), ([] : Str), (0 : Int), (0 : Int)⟩ : api_Cite) with Kind := (3 : Int) } : api_Cite) with Path := [(⟨kind5, ([] : Str)⟩ : api_Step)] } : api_Cite))
                else
                  if (0 : Int) < (w.length : Int) then
                    Option.bind (idx w (0 : Int)) fun v15 =>
                    if (v15 == ([102, 111, 114, 109, 101, 114, 108, 121] : Str)) = true then
                      some ((1 : Int), ({ (⟨(0 : Int), ([] : List api_Step), ([] : Str), (0 : Int), (0 : Int)⟩ : api_Cite) with Kind := (4 : Int) } : api_Cite))
                    else
                      some ((0 : Int), (⟨(0 : Int), ([] : List api_Step), ([] : Str), (0 : Int), (0 : Int)⟩ : api_Cite))
                  else
                    some ((0 : Int), (⟨(0 : Int), ([] : List api_Step), ([] : Str), (0 : Int), (0 : Int)⟩ : api_Cite))
              else
                if (0 : Int) < (w.length : Int) then
                  Option.bind (idx w (0 : Int)) fun v16 =>
                  if (v16 == ([102, 111, 114, 109, 101, 114, 108, 121] : Str)) = true then
                    some ((1 : Int), ({ (⟨(0 : Int), ([] : List api_Step), ([] : Str), (0 : Int), (0 : Int)⟩ : api_Cite) with Kind := (4 : Int) } : api_Cite))
                  else
                    some ((0 : Int), (⟨(0 : Int), ([] : List api_Step), ([] : Str), (0 : Int), (0 : Int)⟩ : api_Cite))
                else
                  some ((0 : Int), (⟨(0 : Int), ([] : List api_Step), ([] : Str), (0 : Int), (0 : Int)⟩ : api_Cite))
            else
              if (0 : Int) < (w.length : Int) then
                Option.bind (idx w (0 : Int)) fun v17 =>
                if (v17 == ([102, 111, 114, 109, 101, 114, 108, 121] : Str)) = true then
                  some ((1 : Int), ({ (⟨(0 : Int), ([] : List api_Step), ([] : Str), (0 : Int), (0 : Int)⟩ : api_Cite) with Kind := (4 : Int) } : api_Cite))
                else
                  some ((0 : Int), (⟨(0 : Int), ([] : List api_Step), ([] : Str), (0 : Int), (0 : Int)⟩ : api_Cite))
              else
                some ((0 : Int), (⟨(0 : Int), ([] : List api_Step), ([] : Str), (0 : Int), (0 : Int)⟩ : api_Cite))
          else
            if (0 : Int) < (w.length : Int) then
              Option.bind (idx w (0 : Int)) fun v18 =>
              if (v18 == ([102, 111, 114, 109, 101, 114, 108, 121] : Str)) = true then
                some ((1 : Int), ({ (⟨(0 : Int), ([] : List api_Step), ([] : Str), (0 : Int), (0 : Int)⟩ : api_Cite) with Kind := (4 : Int) } : api_Cite))
              else
                some ((0 : Int), (⟨(0 : Int), ([] : List api_Step), ([] : Str), (0 : Int), (0 : Int)⟩ : api_Cite))
            else
              some ((0 : Int), (⟨(0 : Int), ([] : List api_Step), ([] : Str), (0 : Int), (0 : Int)⟩ : api_Cite))
      else
        if (2 : Int) < (w.length : Int) then
          Option.bind (idx w (0 : Int)) fun v19 =>
          if (v19 == ([116, 104, 101] : Str)) = true then
            Option.bind (idx w (1 : Int)) fun v20 =>
            if (v20 == ([115, 97, 105, 100] : Str)) = true then
              Option.bind M.r20_Singles fun single6 =>
              Option.bind (idx w (2 : Int)) fun v21 =>
              Option.bind (M.r20_kind n single6 v21) fun kind6 =>
              if (0 : Int) < kind6 then
                Option.bind M.r20_Singles fun single7 =>
                Option.bind (idx w (2 : Int)) fun v22 =>
                Option.bind (M.r20_kind n single7 v22) fun kind7 =>
                some ((3 : Int), ({ ({ (⟨(0 : Int), ([] : List api_Step), ([] : Str), (0 : Int), (0 : Int)⟩ : api_Cite) with Kind := (3 : Int) } : api_Cite) with Path := [(⟨kind7, ([] : Str)⟩ : api_Step)] } : api_Cite))
              else
                if (0 : Int) < (w.length : Int) then
                  Option.bind (idx w (0 : Int)) fun v23 =>
                  if (v23 == ([102, 111, 114, 109, 101, 114, 108, 121] : Str)) = true then
                    some ((1 : Int), ({ (⟨(0 : Int), ([] : List api_Step), ([] : Str), (0 : Int), (0 : Int)⟩ : api_Cite) with Kind := (4 : Int) } : api_Cite))
                  else
                    some ((0 : Int), (⟨(0 : Int), ([] : List api_Step), ([] : Str), (0 : Int), (0 : Int)⟩ : api_Cite))
                else
                  some ((0 : Int), (⟨(0 : Int), ([] : List api_Step), ([] : Str), (0 : Int), (0 : Int)⟩ : api_Cite))
            else
              if (0 : Int) < (w.length : Int) then
                Option.bind (idx w (0 : Int)) fun v24 =>
                if (v24 == ([102, 111, 114, 109, 101, 114, 108, 121] : Str)) = true then
                  some ((1 : Int), ({ (⟨(0 : Int), ([] : List api_Step), ([] : Str), (0 : Int), (0 : Int)⟩ : api_Cite) with Kind := (4 : Int) } : api_Cite))
                else
                  some ((0 : Int), (⟨(0 : Int), ([] : List api_Step), ([] : Str), (0 : Int), (0 : Int)⟩ : api_Cite))
              else
                some ((0 : Int), (⟨(0 : Int), ([] : List api_Step), ([] : Str), (0 : Int), (0 : Int)⟩ : api_Cite))
          else
            if (0 : Int) < (w.length : Int) then
              Option.bind (idx w (0 : Int)) fun v25 =>
              if (v25 == ([102, 111, 114, 109, 101, 114, 108, 121] : Str)) = true then
                some ((1 : Int), ({ (⟨(0 : Int), ([] : List api_Step), ([] : Str), (0 : Int), (0 : Int)⟩ : api_Cite) with Kind := (4 : Int) } : api_Cite))
              else
                some ((0 : Int), (⟨(0 : Int), ([] : List api_Step), ([] : Str), (0 : Int), (0 : Int)⟩ : api_Cite))
            else
              some ((0 : Int), (⟨(0 : Int), ([] : List api_Step), ([] : Str), (0 : Int), (0 : Int)⟩ : api_Cite))
        else
          if (0 : Int) < (w.length : Int) then
            Option.bind (idx w (0 : Int)) fun v26 =>
            if (v26 == ([102, 111, 114, 109, 101, 114, 108, 121] : Str)) = true then
              some ((1 : Int), ({ (⟨(0 : Int), ([] : List api_Step), ([] : Str), (0 : Int), (0 : Int)⟩ : api_Cite) with Kind := (4 : Int) } : api_Cite))
            else
              some ((0 : Int), (⟨(0 : Int), ([] : List api_Step), ([] : Str), (0 : Int), (0 : Int)⟩ : api_Cite))
          else
            some ((0 : Int), (⟨(0 : Int), ([] : List api_Step), ([] : Str), (0 : Int), (0 : Int)⟩ : api_Cite))
    ) fun (i, c) =>
    Option.bind (
        Option.bind (
            if c.Kind ≠ (2 : Int) then
              if c.Kind ≠ (3 : Int) then
                if i < (w.length : Int) then
                  Option.bind (idx w i) fun v28 =>
                  some (v28 == ([98, 111, 111, 107] : Str))
                else
                  some false
              else
                some false
            else
              some false
          ) fun v27 =>
          if v27 = true then
            Option.bind (appC c.Path ([(⟨(0 : Int), ([] : Str)⟩ : api_Step)])) fun out =>
            Option.bind (addC i (1 : Int)) fun v29 =>
            some (v29, ({ c with Path := out } : api_Cite))
          else
            some (i, c)
      ) fun (i1, c1) =>
      Option.bind (M.r20_Read_loop1 w n i1 c1) fun (i2, c2) =>
        Option.bind (
            if c2.Kind = (0 : Int) then
              Option.bind (addC i2 (4 : Int)) fun v36 =>
              if v36 = (w.length : Int) then
                Option.bind M.r20_Plurals fun plural =>
                Option.bind (idx w i2) fun v37 =>
                Option.bind (M.r20_kind n plural v37) fun kind10 =>
                if (0 : Int) < kind10 then
                  Option.bind (addC i2 (2 : Int)) fun v38 =>
                  Option.bind (idx w v38) fun v39 =>
                  if (v39 == ([116, 111] : Str)) = true then
                    Option.bind M.r20_Plurals fun plural1 =>
                    Option.bind (idx w i2) fun v40 =>
                    Option.bind (M.r20_kind n plural1 v40) fun kind11 =>
                    Option.bind (addC i2 (1 : Int)) fun v41 =>
                    Option.bind (idx w v41) fun v42 =>
                    Option.bind (appC c2.Path [(⟨kind11, v42⟩ : api_Step)]) fun out2 =>
                    Option.bind (addC i2 (3 : Int)) fun v43 =>
                    Option.bind (idx w v43) fun v44 =>
                    Option.bind (addC i2 (4 : Int)) fun v45 =>
                    some (v45, ({ ({ ({ c2 with Kind := (1 : Int) } : api_Cite) with Path := out2 } : api_Cite) with To := v44 } : api_Cite))
                  else
                    some (i2, c2)
                else
                  some (i2, c2)
              else
                some (i2, c2)
            else
              some (i2, c2)
          ) fun (i3, c3) =>
          if i3 ≠ (w.length : Int) then
            some ((⟨(0 : Int), ([] : List api_Step), ([] : Str), (0 : Int), (0 : Int)⟩ : api_Cite), false)
          else
            Option.bind (M.r20_May n c3) fun may =>
            if may = false then
              some ((⟨(0 : Int), ([] : List api_Step), ([] : Str), (0 : Int), (0 : Int)⟩ : api_Cite), false)
            else
              some (c3, true)
def M.r20_bare (s0_ : Str) : Option Str :=
  if (s0_ == ([] : Str)) = true then
    some s0_
  else
    Option.bind (subC (s0_.length : Int) (1 : Int)) fun v =>
    Option.bind (idx s0_ v) fun b =>
    if (b.toNat : Int) = (44 : Int) then
      Option.bind (subC (s0_.length : Int) (1 : Int)) fun v1 =>
      Option.bind (slcHi s0_ v1) fun v2 =>
      some v2
    else
      if (b.toNat : Int) = (59 : Int) then
        Option.bind (subC (s0_.length : Int) (1 : Int)) fun v3 =>
        Option.bind (slcHi s0_ v3) fun v4 =>
        some v4
      else
        if (b.toNat : Int) = (46 : Int) then
          Option.bind (subC (s0_.length : Int) (1 : Int)) fun v5 =>
          Option.bind (slcHi s0_ v5) fun v6 =>
          some v6
        else
          if (b.toNat : Int) = (58 : Int) then
            Option.bind (subC (s0_.length : Int) (1 : Int)) fun v7 =>
            Option.bind (slcHi s0_ v7) fun v8 =>
            some v8
          else
            if (b.toNat : Int) = (41 : Int) then
              Option.bind (subC (s0_.length : Int) (1 : Int)) fun v9 =>
              Option.bind (slcHi s0_ v9) fun v10 =>
              some v10
            else
              some s0_
def M.r20_at_loop1 (l : List Str) (from0_ : Int) : Nat → Int → api_Cite → Option (api_Cite ⊕ (api_Cite × Bool))
  | 0, _, _ => none
  | n + 1, end0_, v =>
    if from0_ < end0_ then
      Option.bind (subC end0_ from0_) fun v1 =>
      if (23 : Int) < v1 then
        Option.bind (subC end0_ (1 : Int)) fun v2 =>
        M.r20_at_loop1 l from0_ n v2 v
      else
        Option.bind (slc l from0_ end0_) fun v3 =>
        Option.bind (appC ([] : List Str) v3) fun out =>
        Option.bind (M.r20_Read n out) fun read =>
        if read.2 = false then
          Option.bind (
              Option.bind (subC (out.length : Int) (1 : Int)) fun v4 =>
              Option.bind (subC (out.length : Int) (1 : Int)) fun v5 =>
              Option.bind (idx out v5) fun v6 =>
              Option.bind (M.r20_bare v6) fun bare =>
              Option.bind (idx out v4) fun v7 =>
              Option.bind (setC out v4 bare) fun w =>
              Option.bind (M.r20_Read n w) fun read1 =>
              some (read1.2, read1.1)
            ) fun (ok, c) =>
            if ok = true then
              some (.inr (({ ({ c with From := from0_ } : api_Cite) with At := end0_ } : api_Cite), true))
            else
              Option.bind (subC end0_ (1 : Int)) fun v8 =>
              M.r20_at_loop1 l from0_ n v8 v
        else
          Option.bind (
              some (true, read.1)
            ) fun (ok1, c1) =>
            if ok1 = true then
              some (.inr (({ ({ c1 with From := from0_ } : api_Cite) with At := end0_ } : api_Cite), true))
            else
              Option.bind (subC end0_ (1 : Int)) fun v9 =>
              M.r20_at_loop1 l from0_ n v9 v
    else
      some (.inl v)
def M.r20_at (n : Nat) (l : List Str) (from0_ : Int) : Option (api_Cite × Bool) :=
  Option.bind (M.r20_at_loop1 l from0_ n (l.length : Int) zapi_Cite) fun
    | .inl v =>
      some ((⟨(0 : Int), ([] : List api_Step), ([] : Str), (0 : Int), (0 : Int)⟩ : api_Cite), false)
    | .inr ret0 => some ret0
def M.r20_Scan_loop1 (l : List Str) : Nat → (List api_Cite) → Int → Option ((List api_Cite))
  | 0, _, _ => none
  | n + 1, out, i =>
    if i < (l.length : Int) then
      Option.bind (M.r20_at n l i) fun at0_ =>
      if at0_.2 = true then
        Option.bind (appC out [at0_.1]) fun out1 =>
        M.r20_Scan_loop1 l n out1 at0_.1.At
      else
        M.r20_Scan_loop1 l n out (i + 1)
    else
      some out
def M.r20_Scan (n : Nat) (l : List Str) : Option ((List api_Cite)) :=
  Option.bind (M.r20_Scan_loop1 l n ([] : List api_Cite) (0 : Int)) fun out =>
    some out
def M.r07_Same_loop1 (a : List api_Step) (b : List api_Step) : Nat → Int → Option (Unit ⊕ Bool)
  | 0, _ => none
  | n + 1, i =>
    if i < (a.length : Int) then
      Option.bind (idx a i) fun v =>
      Option.bind (idx b i) fun v1 =>
      if v ≠ v1 then
        some (.inr false)
      else
        M.r07_Same_loop1 a b n (i + 1)
    else
      some (.inl ())
def M.r07_Same (n : Nat) (a : List api_Step) (b : List api_Step) : Option Bool :=
  if (a.length : Int) ≠ (b.length : Int) then
    some false
  else
    Option.bind (M.r07_Same_loop1 a b n (0 : Int)) fun
      | .inl _ =>
        some true
      | .inr ret0 => some ret0
def M.r20_Same (n : Nat) (a : api_Cite) (b : api_Cite) : Option Bool :=
  if a.Kind = b.Kind then
    if (a.To == b.To) = true then
      if a.From = b.From then
        if a.At = b.At then
          Option.bind (M.r07_Same n a.Path b.Path) fun same =>
          some same
        else
          some false
      else
        some false
    else
      some false
  else
    some false
def M.r20_All_loop1 (a : List api_Cite) (b : List api_Cite) : Nat → Int → Option (Unit ⊕ Bool)
  | 0, _ => none
  | n + 1, i =>
    if i < (a.length : Int) then
      Option.bind (idx a i) fun v =>
      Option.bind (idx b i) fun v1 =>
      Option.bind (M.r20_Same n v v1) fun same =>
      if same = false then
        some (.inr false)
      else
        M.r20_All_loop1 a b n (i + 1)
    else
      some (.inl ())
def M.r20_All (n : Nat) (a : List api_Cite) (b : List api_Cite) : Option Bool :=
  if (a.length : Int) ≠ (b.length : Int) then
    some false
  else
    Option.bind (M.r20_All_loop1 a b n (0 : Int)) fun
      | .inl _ =>
        some true
      | .inr ret0 => some ret0
def M.law20_CitationScans (n : Nat) (l : List Str) : Option Bool :=
  Option.bind (M.law20_long l) fun long =>
  if long = true then
    Option.bind (M.law20_awake n) fun awake =>
    some awake
  else
    Option.bind (M.citation_Scan n l) fun scan =>
    Option.bind (M.r20_Scan n l) fun scan1 =>
    Option.bind (M.r20_All n scan scan1) fun all =>
    if all = true then
      Option.bind (M.law20_awake n) fun awake1 =>
      some awake1
    else
      some false
def M.r04_Pieces_loop1 (s0_ : Str) : Nat → (List Str) → Int → Int → Option ((List Str))
  | 0, _, _, _ => none
  | n + 1, out, from0_, i =>
    if i ≤ (s0_.length : Int) then
      Option.bind (
          if i = (s0_.length : Int) then
            some true
          else
            Option.bind (idx s0_ i) fun b =>
            some (decide ((b.toNat : Int) = (32 : Int)))
        ) fun v =>
        if v = true then
          Option.bind (slc s0_ from0_ i) fun v1 =>
          Option.bind (appC out [v1]) fun out1 =>
          Option.bind (addC i (1 : Int)) fun v2 =>
          Option.bind (addC i (1 : Int)) fun v3 =>
          M.r04_Pieces_loop1 s0_ n out1 v2 v3
        else
          Option.bind (addC i (1 : Int)) fun v4 =>
          M.r04_Pieces_loop1 s0_ n out from0_ v4
    else
      some out
def M.r04_Pieces (n : Nat) (s0_ : Str) : Option ((List Str)) :=
  if (s0_ == ([] : Str)) = true then
    some ([] : List Str)
  else
    Option.bind (M.r04_Pieces_loop1 s0_ n ([] : List Str) (0 : Int) (0 : Int)) fun out =>
      some out
def M.law20_CitationParses (n : Nat) (s0_ : Str) : Option Bool :=
  if (300 : Int) < (s0_.length : Int) then
    Option.bind (M.law20_awake n) fun awake =>
    some awake
  else
    Option.bind (M.citation_Parse n s0_) fun parse =>
    Option.bind (M.r04_Pieces n s0_) fun pieces =>
    Option.bind (M.r20_Read n pieces) fun read =>
    Option.bind (
        if read.2 = false then
          some true
        else
          Option.bind (M.r20_Words n ({ read.1 with At := (pieces.length : Int) } : api_Cite)) fun words =>
          Option.bind (M.r04_Text n words) fun text =>
          some (text != s0_)
      ) fun v =>
      if v = true then
        Option.bind (
            if parse.2 = (2 : Int) then
              Option.bind (M.r20_Same n parse.1 (⟨(0 : Int), ([] : List api_Step), ([] : Str), (0 : Int), (0 : Int)⟩ : api_Cite)) fun same =>
              if same = true then
                Option.bind (M.law20_awake n) fun awake1 =>
                some awake1
              else
                some false
            else
              some false
          ) fun v1 =>
          some v1
      else
        if parse.2 = (0 : Int) then
          Option.bind (M.r20_Same n parse.1 ({ read.1 with At := (pieces.length : Int) } : api_Cite)) fun same1 =>
          if same1 = true then
            Option.bind (M.citation_Format n parse.1) fun format =>
            if (format == s0_) = true then
              Option.bind (M.law20_awake n) fun awake2 =>
              some awake2
            else
              some false
          else
            some false
        else
          some false
def M.slices_Equal_api_Step_api_Step_loop1 (s1_ : List api_Step) (s2_ : List api_Step) : Nat → Int → Option (Unit ⊕ Bool)
  | 0, _ => none
  | n + 1, v =>
    if v < (s1_.length : Int) then
      Option.bind (idx s1_ v) fun v1 =>
      Option.bind (idx s2_ v) fun v2 =>
      if v1 ≠ v2 then
        some (.inr false)
      else
        M.slices_Equal_api_Step_api_Step_loop1 s1_ s2_ n (v + 1)
    else
      some (.inl ())
def M.slices_Equal_api_Step_api_Step (n : Nat) (s1_ : List api_Step) (s2_ : List api_Step) : Option Bool :=
  if (s1_.length : Int) ≠ (s2_.length : Int) then
    some false
  else
    Option.bind (M.slices_Equal_api_Step_api_Step_loop1 s1_ s2_ n (0 : Int)) fun
      | .inl _ =>
        some true
      | .inr ret0 => some ret0
def M.slices_Equal_string_string_loop1 (s1_ : List Str) (s2_ : List Str) : Nat → Int → Option (Unit ⊕ Bool)
  | 0, _ => none
  | n + 1, v =>
    if v < (s1_.length : Int) then
      Option.bind (idx s1_ v) fun v1 =>
      Option.bind (idx s2_ v) fun v2 =>
      if (v1 != v2) = true then
        some (.inr false)
      else
        M.slices_Equal_string_string_loop1 s1_ s2_ n (v + 1)
    else
      some (.inl ())
def M.slices_Equal_string_string (n : Nat) (s1_ : List Str) (s2_ : List Str) : Option Bool :=
  if (s1_.length : Int) ≠ (s2_.length : Int) then
    some false
  else
    Option.bind (M.slices_Equal_string_string_loop1 s1_ s2_ n (0 : Int)) fun
      | .inl _ =>
        some true
      | .inr ret0 => some ret0
def M.wordseq_Equal (n : Nat) (a : List Str) (b : List Str) : Option Bool :=
  Option.bind (M.slices_Equal_string_string n a b) fun string =>
  some string
def M.citation_Equal (n : Nat) (a : api_Cite) (b : api_Cite) : Option Bool :=
  if a.Kind = b.Kind then
    Option.bind (M.slices_Equal_api_Step_api_Step n a.Path b.Path) fun step =>
    if step = true then
      Option.bind (M.wordseq_Equal n [a.To] [b.To]) fun equal =>
      if equal = true then
        if a.From = b.From then
          some (decide (a.At = b.At))
        else
          some false
      else
        some false
    else
      some false
  else
    some false
def M.law20_CitationInContext_loop2 (behind : Int) : Nat → (List Str) → Int → Option ((List Str))
  | 0, _, _ => none
  | n + 1, l4, v8 =>
    if v8 < behind.tmod (9 : Int) then
      Option.bind (appC l4 ([([111, 102] : Str)])) fun l5 =>
      Option.bind (addC v8 (1 : Int)) fun v9 =>
      M.law20_CitationInContext_loop2 behind n l5 v9
    else
      some l4
def M.law20_CitationInContext_loop1 (ahead : Int) : Nat → (List Str) → Int → Option ((List Str))
  | 0, _, _ => none
  | n + 1, l, v1 =>
    if v1 < ahead.tmod (9 : Int) then
      Option.bind (appC l ([([111, 102] : Str)])) fun l1 =>
      Option.bind (addC v1 (1 : Int)) fun v2 =>
      M.law20_CitationInContext_loop1 ahead n l1 v2
    else
      some l
def M.law20_CitationInContext (n : Nat) (c : api_Cite) (ahead : Int) (behind : Int) (sign : Int) : Option Bool :=
  Option.bind (
      Option.bind (M.law20_wide c) fun wide =>
      if wide = true then
        some true
      else
        Option.bind (M.r20_May n c) fun may =>
        some (!may)
    ) fun v =>
    if v = true then
      Option.bind (M.law20_awake n) fun awake =>
      some awake
    else
      Option.bind (M.citation_Format n c) fun format =>
      Option.bind (M.r04_Pieces n format) fun pieces =>
      Option.bind (M.law20_CitationInContext_loop1 ahead n ([] : List Str) (0 : Int)) fun l =>
        Option.bind (appC l pieces) fun l2 =>
        Option.bind (subC (l2.length : Int) (1 : Int)) fun v3 =>
        Option.bind (idx l2 v3) fun v4 =>
        Option.bind (idx ([([] : Str), ([44] : Str), ([59] : Str), ([46] : Str), ([58] : Str), ([41] : Str)]) (sign.tmod (6 : Int))) fun v5 =>
        Option.bind (catC v4 v5) fun v6 =>
        Option.bind (idx l2 v3) fun v7 =>
        Option.bind (setC l2 v3 v6) fun l3 =>
        Option.bind (M.law20_CitationInContext_loop2 behind n l3 (0 : Int)) fun l4 =>
          Option.bind (M.citation_Scan n l4) fun scan =>
          if (scan.length : Int) = (1 : Int) then
            Option.bind (idx scan (0 : Int)) fun v10 =>
            Option.bind (M.citation_Equal n v10 ({ ({ c with From := (l.length : Int) } : api_Cite) with At := (l2.length : Int) } : api_Cite)) fun equal =>
            if equal = true then
              Option.bind (M.law20_awake n) fun awake1 =>
              some awake1
            else
              some false
          else
            some false
end Go.Proofs.YtnmkblpbmoikpaaDoor
