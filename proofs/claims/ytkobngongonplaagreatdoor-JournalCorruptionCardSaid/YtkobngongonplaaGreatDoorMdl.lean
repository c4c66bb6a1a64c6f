/-
  What the functions compute: plain functions, written by program out of the code; no machine in sight.
-/
import Derived.Test.YtkobngongonplaaGreatDoorMod
set_option linter.unusedVariables false
set_option linter.unusedSimpArgs false
namespace Go.Proofs.YtkobngongonplaaGreatDoor
open Go Go.Dec
def gv7 : List Int := [(0 : Int), (1 : Int), (56 : Int), (2 : Int), (57 : Int), (49 : Int), (28 : Int), (3 : Int), (61 : Int), (58 : Int), (42 : Int), (50 : Int), (38 : Int), (29 : Int), (17 : Int), (4 : Int), (62 : Int), (47 : Int), (59 : Int), (36 : Int), (45 : Int), (43 : Int), (51 : Int), (22 : Int), (53 : Int), (39 : Int), (33 : Int), (30 : Int), (24 : Int), (18 : Int), (12 : Int), (5 : Int), (63 : Int), (55 : Int), (48 : Int), (27 : Int), (60 : Int), (41 : Int), (37 : Int), (16 : Int), (46 : Int), (35 : Int), (44 : Int), (21 : Int), (52 : Int), (32 : Int), (23 : Int), (11 : Int), (54 : Int), (26 : Int), (40 : Int), (15 : Int), (34 : Int), (20 : Int), (31 : Int), (10 : Int), (25 : Int), (14 : Int), (19 : Int), (9 : Int), (13 : Int), (8 : Int), (7 : Int), (6 : Int)]
structure pandectlaw14_Call where
  Kind : Int
  N : Int
  Text : Str
theorem pandectlaw14_Call.eq_iff (a b : pandectlaw14_Call) : (a.Kind = b.Kind ∧ a.N = b.N ∧ a.Text = b.Text) ↔ a = b := ⟨fun h => by cases a; cases b; simp_all, fun h => by subst h; simp⟩
instance : DecidableEq pandectlaw14_Call := fun a b => decidable_of_iff _ (pandectlaw14_Call.eq_iff a b)
structure pagestore_Store where
  pages_ : List Str
  lasting_ : Int
  root_ : Int
  fuse_ : Int
  down_ : Bool
def zpagestore_Store : pagestore_Store := ⟨([] : List Str), (0 : Int), (0 : Int), (0 : Int), false⟩
structure journal_mark where
  page_ : Int
  sum_ : Str
theorem journal_mark.eq_iff (a b : journal_mark) : (a.page_ = b.page_ ∧ a.sum_ = b.sum_) ↔ a = b := ⟨fun h => by cases a; cases b; simp_all, fun h => by subst h; simp⟩
instance : DecidableEq journal_mark := fun a b => decidable_of_iff _ (journal_mark.eq_iff a b)
def zjournal_mark : journal_mark := ⟨(0 : Int), ([] : Str)⟩
structure journal_Journal where
  Store : Unit
  texts_ : List Str
  lasting_ : Int
  last_ : journal_mark
def zjournal_Journal : journal_Journal := ⟨(), ([] : List Str), (0 : Int), zjournal_mark⟩
structure journal_read where
  at_ : Int
  ahead_ : Int
  sign_ : Str
  text_ : Str
  whole_ : Str
theorem journal_read.eq_iff (a b : journal_read) : (a.at_ = b.at_ ∧ a.ahead_ = b.ahead_ ∧ a.sign_ = b.sign_ ∧ a.text_ = b.text_ ∧ a.whole_ = b.whole_) ↔ a = b := ⟨fun h => by cases a; cases b; simp_all, fun h => by subst h; simp⟩
instance : DecidableEq journal_read := fun a b => decidable_of_iff _ (journal_read.eq_iff a b)
def zjournal_read : journal_read := ⟨(0 : Int), (0 : Int), ([] : Str), ([] : Str), ([] : Str)⟩
def M.pagestore_New  : Option (Option pagestore_Store) :=
  some (some (⟨([] : List Str), (0 : Int), (-1 : Int), (-1 : Int), false⟩ : pagestore_Store))
def M.pagestore_Store_Failed (s0_ : pagestore_Store) : Option Bool :=
  some s0_.down_
def M.pagestore_Store_Root (s0_ : pagestore_Store) : Option Int :=
  some s0_.root_
def M.pagestore_Store_there (s0_ : pagestore_Store) (page : Int) : Option Bool :=
  if (0 : Int) ≤ page then
    some (decide (page < (s0_.pages_.length : Int)))
  else
    some false
def M.pagestore_Store_Read (s0_ : pagestore_Store) (page : Int) : Option (Str × Int) :=
  if s0_.down_ = true then
    some (([] : Str), (16 : Int))
  else
    Option.bind (M.pagestore_Store_there s0_ page) fun there =>
    if there = false then
      some (([] : Str), (3 : Int))
    else
      Option.bind (idx s0_.pages_ page) fun v =>
      some (v, (0 : Int))
def M.journal_open (at0_ : Int) (whole : Str) : Option (journal_read × Bool) :=
  Option.bind (cutM whole ([10] : Str)) fun cut =>
  Option.bind (splitM cut.1 ([32] : Str)) fun split =>
  Option.bind (
      if cut.2.2 = false then
        some true
      else
        if (split.length : Int) ≠ (3 : Int) then
          some true
        else
          Option.bind (idx split (2 : Int)) fun v1 =>
          if (v1 != ([43] : Str)) = true then
            Option.bind (idx split (2 : Int)) fun v2 =>
            some (v2 != ([46] : Str))
          else
            some false
    ) fun v =>
    if v = true then
      some ((⟨(0 : Int), (0 : Int), ([] : Str), ([] : Str), ([] : Str)⟩ : journal_read), false)
    else
      Option.bind ((
          Option.bind (idx split (0 : Int)) fun v4 =>
          if (v4 != ([45] : Str)) = true then
            Option.bind (idx split (0 : Int)) fun v5 =>
            Option.bind (atoiB v5) fun atoi =>
            if atoi.2 = true then
              some (.inr ((⟨(0 : Int), (0 : Int), ([] : Str), ([] : Str), ([] : Str)⟩ : journal_read), false))
            else
              if atoi.1 < (0 : Int) then
                some (.inr ((⟨(0 : Int), (0 : Int), ([] : Str), ([] : Str), ([] : Str)⟩ : journal_read), false))
              else
                Option.bind (itoaM atoi.1) fun itoa =>
                Option.bind (idx split (0 : Int)) fun v6 =>
                if (itoa != v6) = true then
                  some (.inr ((⟨(0 : Int), (0 : Int), ([] : Str), ([] : Str), ([] : Str)⟩ : journal_read), false))
                else
                  some (.inl (atoi.1, zjournal_read))
          else
            some (.inl ((-1 : Int), zjournal_read))
        ) : Option ((Int × journal_read) ⊕ (journal_read × Bool))) fun
        | .inl (ahead, v3) =>
          Option.bind (idx split (2 : Int)) fun v7 =>
          some ((⟨at0_, ahead, v7, cut.2.1, whole⟩ : journal_read), true)
        | .inr ret0 => some ret0
def M.journal_way_loop1 (s0_ : pagestore_Store) : Nat → (List journal_read) → Int → Option (((List journal_read)) ⊕ ((List journal_read) × Bool))
  | 0, _, _ => none
  | n + 1, out, at0_ =>
    if at0_ ≠ (-1 : Int) then
      Option.bind (M.pagestore_Store_Read s0_ at0_) fun read =>
      if read.2 ≠ (0 : Int) then
        some (.inr (([] : List journal_read), false))
      else
        Option.bind (M.journal_open at0_ read.1) fun open0_ =>
        Option.bind (
            if open0_.2 = false then
              some true
            else
              some (decide (at0_ ≤ open0_.1.ahead_))
          ) fun v =>
          if v = true then
            some (.inr (([] : List journal_read), false))
          else
            Option.bind (appC out [open0_.1]) fun out1 =>
            M.journal_way_loop1 s0_ n out1 open0_.1.ahead_
    else
      some (.inl out)
def M.journal_way (n : Nat) (s0_ : pagestore_Store) : Option ((List journal_read) × Bool) :=
  Option.bind (M.pagestore_Store_Root s0_) fun root =>
  Option.bind (M.journal_way_loop1 s0_ n ([] : List journal_read) root) fun
    | .inl out =>
      some (out.reverse, true)
    | .inr ret0 => some ret0
def M.internal_strconv_small (i : Int) : Option Str :=
  if i < (10 : Int) then
    Option.bind (addC i (1 : Int)) fun v =>
    Option.bind (slc ([48, 49, 50, 51, 52, 53, 54, 55, 56, 57, 97, 98, 99, 100, 101, 102, 103, 104, 105, 106, 107, 108, 109, 110, 111, 112, 113, 114, 115, 116, 117, 118, 119, 120, 121, 122] : Str) i v) fun v1 =>
    some v1
  else
    Option.bind (mulC i (2 : Int)) fun v2 =>
    Option.bind (mulC i (2 : Int)) fun v3 =>
    Option.bind (addC v3 (2 : Int)) fun v4 =>
    Option.bind (slc ([48, 48, 48, 49, 48, 50, 48, 51, 48, 52, 48, 53, 48, 54, 48, 55, 48, 56, 48, 57, 49, 48, 49, 49, 49, 50, 49, 51, 49, 52, 49, 53, 49, 54, 49, 55, 49, 56, 49, 57, 50, 48, 50, 49, 50, 50, 50, 51, 50, 52, 50, 53, 50, 54, 50, 55, 50, 56, 50, 57, 51, 48, 51, 49, 51, 50, 51, 51, 51, 52, 51, 53, 51, 54, 51, 55, 51, 56, 51, 57, 52, 48, 52, 49, 52, 50, 52, 51, 52, 52, 52, 53, 52, 54, 52, 55, 52, 56, 52, 57, 53, 48, 53, 49, 53, 50, 53, 51, 53, 52, 53, 53, 53, 54, 53, 55, 53, 56, 53, 57, 54, 48, 54, 49, 54, 50, 54, 51, 54, 52, 54, 53, 54, 54, 54, 55, 54, 56, 54, 57, 55, 48, 55, 49, 55, 50, 55, 51, 55, 52, 55, 53, 55, 54, 55, 55, 55, 56, 55, 57, 56, 48, 56, 49, 56, 50, 56, 51, 56, 52, 56, 53, 56, 54, 56, 55, 56, 56, 56, 57, 57, 48, 57, 49, 57, 50, 57, 51, 57, 52, 57, 53, 57, 54, 57, 55, 57, 56, 57, 57] : Str) v2 v4) fun v5 =>
    some v5
def M.internal_strconv_isPowerOfTwo (x : Int) : Option Bool :=
  Option.bind (subC x (1 : Int)) fun v =>
  some (decide (andI x v = (0 : Int)))
def M.math_bits_TrailingZeros64 (x : Int) : Option Int :=
  if x = (0 : Int) then
    some (64 : Int)
  else
    Option.bind (idx gv7 (shrU (wrapU ((andU x (wrapU (0 - x))) * (285870213051353865 : Int))) (58 : Int))) fun v =>
    some v
def M.math_bits_TrailingZeros (x : Int) : Option Int :=
  Option.bind (M.math_bits_TrailingZeros64 x) fun traili =>
  some traili
def M.internal_strconv_formatBits_loop1 (base : Int) (traili : Int) : Nat → Int → Int → (List Int) → Option (Int × Int × (List Int))
  | 0, _, _, _ => none
  | n + 1, u2, i1, a1 =>
    if wrapU base ≤ u2 then
      Option.bind (subC i1 (1 : Int)) fun v =>
      Option.bind (idx ([48, 49, 50, 51, 52, 53, 54, 55, 56, 57, 97, 98, 99, 100, 101, 102, 103, 104, 105, 106, 107, 108, 109, 110, 111, 112, 113, 114, 115, 116, 117, 118, 119, 120, 121, 122] : Str) (andU u2 (wrapU ((wrapU base) - (1 : Int))))) fun b1 =>
      Option.bind (rngC 65 v) fun _ =>
      M.internal_strconv_formatBits_loop1 base traili n (shrU u2 (wrapU traili)) v (a1.set v.toNat (b1.toNat : Int))
    else
      some (u2, i1, a1)
def M.internal_strconv_formatBits_loop2 (base : Int) : Nat → Int → Int → (List Int) → Option (Int × Int × (List Int))
  | 0, _, _, _ => none
  | n + 1, u3, i2, a2 =>
    if wrapU base ≤ u3 then
      none
    else
      some (u3, i2, a2)
def M.internal_strconv_formatBits (n : Nat) (dst : List Int) (u : Int) (base : Int) (neg : Bool) (append : Bool) : Option ((List Int) × Str) :=
  Option.bind (
      if base < (2 : Int) then
        none
      else
        if base = (10 : Int) then
          none
        else
          if (36 : Int) < base then
            none
          else
            some ()
    ) fun _ =>
    Option.bind (
        if neg = true then
          some (wrapU (0 - u))
        else
          some u
      ) fun u1 =>
      Option.bind (
          Option.bind (M.internal_strconv_isPowerOfTwo base) fun ispowe =>
          if ispowe = true then
            Option.bind (M.math_bits_TrailingZeros (wrapU base)) fun traili =>
            Option.bind (M.internal_strconv_formatBits_loop1 base traili n u1 (65 : Int) (List.replicate 65 (0 : Int))) fun (u2, i1, a1) =>
              Option.bind (subC i1 (1 : Int)) fun v1 =>
              Option.bind (idx ([48, 49, 50, 51, 52, 53, 54, 55, 56, 57, 97, 98, 99, 100, 101, 102, 103, 104, 105, 106, 107, 108, 109, 110, 111, 112, 113, 114, 115, 116, 117, 118, 119, 120, 121, 122] : Str) u2) fun b2 =>
              Option.bind (rngC 65 v1) fun _ =>
              some (v1, a1.set v1.toNat (b2.toNat : Int))
          else
            Option.bind (M.internal_strconv_formatBits_loop2 base n u1 (65 : Int) (List.replicate 65 (0 : Int))) fun (u3, i2, a2) =>
              Option.bind (subC i2 (1 : Int)) fun v3 =>
              Option.bind (idx ([48, 49, 50, 51, 52, 53, 54, 55, 56, 57, 97, 98, 99, 100, 101, 102, 103, 104, 105, 106, 107, 108, 109, 110, 111, 112, 113, 114, 115, 116, 117, 118, 119, 120, 121, 122] : Str) u3) fun b3 =>
              Option.bind (rngC 65 v3) fun _ =>
              some (v3, a2.set v3.toNat (b3.toNat : Int))
        ) fun (i, a) =>
        Option.bind (
            if neg = true then
              Option.bind (subC i (1 : Int)) fun v4 =>
              Option.bind (rngC 65 v4) fun _ =>
              some (v4, a.set v4.toNat (45 : Int))
            else
              some (i, a)
          ) fun (i3, a3) =>
          if append = true then
            none
          else
            Option.bind (slcLo a3 i3) fun v6 =>
            some (([] : List Int), strOf v6)
def M.internal_strconv_FormatUint (n : Nat) (i : Int) (base : Int) : Option Str :=
  if base = (10 : Int) then
    if i < (100 : Int) then
      Option.bind (M.internal_strconv_small (wrap64 i)) fun small =>
      some small
    else
      none
  else
    Option.bind (M.internal_strconv_formatBits n ([] : List Int) i base false false) fun format =>
    some format.2
def M.strconv_FormatUint (n : Nat) (i : Int) (base : Int) : Option Str :=
  Option.bind (M.internal_strconv_FormatUint n i base) fun format =>
  some format
def M.digest_Sum_loop1  : List Int → Int → Option Int
  | [], h =>
    some h
  | e :: es, h =>
    M.digest_Sum_loop1 es (xorU (wrapU ((wrapU ((wrapU (h + (wrapU e))) + (1 : Int))) * (10723151780598845931 : Int))) (shrU (wrapU ((wrapU ((wrapU (h + (wrapU e))) + (1 : Int))) * (10723151780598845931 : Int))) (31 : Int)))
def M.digest_Sum (n : Nat) (s0_ : Str) : Option Str :=
  Option.bind (M.digest_Sum_loop1 (bytesOf s0_) (11400714819323198485 : Int)) fun h =>
    Option.bind (M.strconv_FormatUint n h (16 : Int)) fun format =>
    Option.bind (subC (16 : Int) (format.length : Int)) fun v =>
    Option.bind (repeatM ([48] : Str) v) fun repeat0_ =>
    Option.bind (catC repeat0_ format) fun v1 =>
    some v1
def M.journal_sum (n : Nat) (ahead : Str) (sign : Str) (text : Str) : Option Str :=
  Option.bind (catC ahead ([10] : Str)) fun v =>
  Option.bind (catC v sign) fun v1 =>
  Option.bind (catC v1 ([10] : Str)) fun v2 =>
  Option.bind (catC v2 text) fun v3 =>
  Option.bind (M.digest_Sum n v3) fun sum =>
  some sum
def M.journal_name (page : Int) : Option Str :=
  if page = (-1 : Int) then
    some ([45] : Str)
  else
    Option.bind (itoaM page) fun itoa =>
    some itoa
def M.journal_page (n : Nat) (m0_ : journal_mark) (sign : Str) (text : Str) : Option (Str × Str) :=
  Option.bind (M.journal_sum n m0_.sum_ sign text) fun sum =>
  Option.bind (M.journal_name m0_.page_) fun name =>
  Option.bind (catC name ([32] : Str)) fun v =>
  Option.bind (catC v sum) fun v1 =>
  Option.bind (catC v1 ([32] : Str)) fun v2 =>
  Option.bind (catC v2 sign) fun v3 =>
  Option.bind (catC v3 ([10] : Str)) fun v4 =>
  Option.bind (catC v4 text) fun v5 =>
  some (v5, sum)
def M.strings_Join_loop2 (sep : Str) : List Str → Str → Option Str
  | [], b2 =>
    some b2
  | e1 :: es1, b2 =>
    Option.bind (appC b2 sep) fun b3 =>
    Option.bind (appC b3 e1) fun b4 =>
    M.strings_Join_loop2 sep es1 b4
def M.strings_Join_loop1  : List Str → Int → Option Int
  | [], n0_1 =>
    some n0_1
  | e :: es, n0_1 =>
    Option.bind (subC (9223372036854775807 : Int) n0_1) fun v6 =>
    if v6 < (e.length : Int) then
      none
    else
      Option.bind (addC n0_1 (e.length : Int)) fun v7 =>
      M.strings_Join_loop1 es v7
def M.strings_Join (elems : List Str) (sep : Str) : Option Str :=
  if (elems.length : Int) = (0 : Int) then
    some ([] : Str)
  else
    if (elems.length : Int) = (1 : Int) then
      Option.bind (idx elems (0 : Int)) fun v =>
      some v
    else
      Option.bind (
          if (0 : Int) < (sep.length : Int) then
            Option.bind (
                Option.bind (subC (elems.length : Int) (1 : Int)) fun v1 =>
                Option.bind (quoC (9223372036854775807 : Int) v1) fun v2 =>
                if v2 ≤ (sep.length : Int) then
                  none
                else
                  some ()
              ) fun _ =>
              Option.bind (subC (elems.length : Int) (1 : Int)) fun v3 =>
              Option.bind (mulC (sep.length : Int) v3) fun v4 =>
              Option.bind (addC (0 : Int) v4) fun v5 =>
              some v5
          else
            some (0 : Int)
        ) fun n0_ =>
        Option.bind (M.strings_Join_loop1 elems n0_) fun n0_1 =>
          Option.bind (growC n0_1) fun _ =>
          Option.bind (idx elems (0 : Int)) fun v8 =>
          Option.bind (appC ([] : Str) v8) fun b1 =>
          Option.bind (slcLo elems (1 : Int)) fun v9 =>
          Option.bind (M.strings_Join_loop2 sep v9 b1) fun b2 =>
            some b2
def M.journal_cut_loop1  : Nat → Str → (List Str) → Option (Str × (List Str))
  | 0, _, _ => none
  | n + 1, text1, out =>
    if (16320 : Int) < (text1.length : Int) then
      Option.bind (slcHi text1 (16320 : Int)) fun v =>
      Option.bind (appC out [v]) fun out1 =>
      Option.bind (slcLo text1 (16320 : Int)) fun v1 =>
      M.journal_cut_loop1 n v1 out1
    else
      some (text1, out)
def M.journal_cut (n : Nat) (text : Str) : Option (List Str) :=
  if (261120 : Int) < (text.length : Int) then
    some ([] : List Str)
  else
    Option.bind (M.journal_cut_loop1 n text ([] : List Str)) fun (text1, out) =>
      Option.bind (appC out [text1]) fun out2 =>
      some out2
def M.slices_Equal_string_string_loop1 (s1_ : List Str) (s2_ : List Str) : Nat → Int → Option (Unit ⊕ Bool)
  | 0, _ => none
  | n + 1, v =>
    if v < (s1_.length : Int) then
      Option.bind (idx s1_ v) fun v1 =>
      Option.bind (idx s2_ v) fun v2 =>
      if (v1 != v2) = true then
        some (.inr false)
      else
        M.slices_Equal_string_string_loop1 s1_ s2_ n (v + 1)
    else
      some (.inl ())
def M.slices_Equal_string_string (n : Nat) (s1_ : List Str) (s2_ : List Str) : Option Bool :=
  if (s1_.length : Int) ≠ (s2_.length : Int) then
    some false
  else
    Option.bind (M.slices_Equal_string_string_loop1 s1_ s2_ n (0 : Int)) fun
      | .inl _ =>
        some true
      | .inr ret0 => some ret0
def M.journal_load_loop1 (n : Nat)  : List journal_read → (List Str) → (List Str) → journal_mark → journal_mark → Option (((List Str) × (List Str) × journal_mark × journal_mark) ⊕ ((List Str) × journal_mark × Int))
  | [], texts, parts, v, m0_ =>
    some (.inl (texts, parts, v, m0_))
  | e :: es, texts, parts, v, m0_ =>
    Option.bind (M.journal_page n m0_ e.sign_ e.text_) fun page =>
    if (page.1 != e.whole_) = true then
      some (.inr (([] : List Str), m0_, (17 : Int)))
    else
      Option.bind (appC parts [e.text_]) fun parts1 =>
      if (e.sign_ == ([43] : Str)) = true then
        M.journal_load_loop1 n es texts parts1 v (⟨e.at_, page.2⟩ : journal_mark)
      else
        Option.bind (M.strings_Join parts1 ([] : Str)) fun join =>
        Option.bind (M.journal_cut n join) fun cut =>
        Option.bind (M.slices_Equal_string_string n cut parts1) fun string =>
        if string = false then
          some (.inr (([] : List Str), (⟨e.at_, page.2⟩ : journal_mark), (17 : Int)))
        else
          Option.bind (appC texts [join]) fun texts1 =>
          M.journal_load_loop1 n es texts1 ([] : List Str) v (⟨e.at_, page.2⟩ : journal_mark)
def M.journal_load (n : Nat) (s0_ : pagestore_Store) : Option ((List Str) × journal_mark × Int) :=
  Option.bind (M.pagestore_Store_Failed s0_) fun failed =>
  if failed = true then
    some (([] : List Str), (⟨(-1 : Int), ([] : Str)⟩ : journal_mark), (16 : Int))
  else
    Option.bind (M.journal_way n s0_) fun way =>
    if way.2 = false then
      some (([] : List Str), (⟨(-1 : Int), ([] : Str)⟩ : journal_mark), (17 : Int))
    else
      Option.bind (M.journal_load_loop1 n way.1 ([] : List Str) ([] : List Str) zjournal_mark (⟨(-1 : Int), ([] : Str)⟩ : journal_mark)) fun
        | .inl (texts, parts, v, m0_) =>
          if (0 : Int) < (parts.length : Int) then
            some (([] : List Str), m0_, (17 : Int))
          else
            some (texts, m0_, (0 : Int))
        | .inr ret0 => some ret0
def M.journal_Open (n : Nat) (s0_ : pagestore_Store) : Option ((Option journal_Journal) × Int) :=
  Option.bind (M.journal_load n s0_) fun load =>
  if load.2.2 ≠ (0 : Int) then
    some (none, load.2.2)
  else
    some (some (⟨(), load.1, (load.1.length : Int), load.2.1⟩ : journal_Journal), (0 : Int))
def M.pagestore_Store_Append_1 (c : pagestore_Store) (c1 : Int) (c2 : Str) : Option (pagestore_Store × Int) :=
  Option.bind (appC c.pages_ [c2]) fun out =>
  some (({ c with pages_ := out } : pagestore_Store), (c.pages_.length : Int))
def M.pagestore_Store_burn_i0 (s0_ : pagestore_Store) (c : Int) (c1 : Str) : Option (Int × pagestore_Store × Int) :=
  if s0_.fuse_ = (0 : Int) then
    some ((16 : Int), ({ s0_ with down_ := true } : pagestore_Store), c)
  else
    Option.bind (
        if (0 : Int) < s0_.fuse_ then
          Option.bind (subC s0_.fuse_ (1 : Int)) fun v =>
          some ({ s0_ with fuse_ := v } : pagestore_Store)
        else
          some s0_
      ) fun s0_1 =>
      Option.bind (M.pagestore_Store_Append_1 s0_1 c c1) fun (s0_2, w) =>
      some ((0 : Int), s0_2, w)
def M.pagestore_Store_Append (s0_ : pagestore_Store) (text : Str) : Option ((Int × Int) × pagestore_Store) :=
  if s0_.down_ = true then
    some (((0 : Int), (16 : Int)), s0_)
  else
    if (16384 : Int) < (text.length : Int) then
      some (((0 : Int), (1 : Int)), s0_)
    else
      if (4096 : Int) ≤ (s0_.pages_.length : Int) then
        some (((0 : Int), (6 : Int)), s0_)
      else
        Option.bind (M.pagestore_Store_burn_i0 s0_ (0 : Int) text) fun (burn, s0_1, n0_) =>
        some ((n0_, burn), s0_1)
def M.journal_Journal_Append_loop1 (n : Nat) (j : journal_Journal) (cut : List Str) : List Str → Int → journal_mark → pagestore_Store → Option ((journal_mark × pagestore_Store) ⊕ ((Int × Int) × journal_Journal × pagestore_Store))
  | [], _, m0_, v =>
    some (.inl (m0_, v))
  | e :: es, i, m0_, v =>
    Option.bind (
        Option.bind (subC (cut.length : Int) (1 : Int)) fun v1 =>
        if i = v1 then
          some ([46] : Str)
        else
          some ([43] : Str)
      ) fun sign =>
      Option.bind (M.journal_page n m0_ sign e) fun page =>
      Option.bind (M.pagestore_Store_Append v page.1) fun (append, w) =>
      if append.2 ≠ (0 : Int) then
        some (.inr (((0 : Int), append.2), j, w))
      else
        M.journal_Journal_Append_loop1 n j cut es (i + 1) (⟨append.1, page.2⟩ : journal_mark) w
def M.journal_Journal_Append (n : Nat) (j : journal_Journal) (st : pagestore_Store) (text : Str) : Option ((Int × Int) × journal_Journal × pagestore_Store) :=
  Option.bind (M.journal_cut n text) fun cut =>
  if (cut.length : Int) = (0 : Int) then
    some (((0 : Int), (1 : Int)), j, st)
  else
    Option.bind (M.journal_Journal_Append_loop1 n j cut cut (0 : Int) j.last_ st) fun
      | .inl (m0_, v) =>
        Option.bind (appC j.texts_ [text]) fun out =>
        Option.bind (subC (out.length : Int) (1 : Int)) fun v2 =>
        some ((v2, (0 : Int)), ({ ({ j with last_ := m0_ } : journal_Journal) with texts_ := out } : journal_Journal), v)
      | .inr ret0 => some ret0
def M.pagestore_Store_SetRoot_1 (c : Int) (c1 : pagestore_Store) : Option pagestore_Store :=
  some ({ ({ c1 with root_ := c } : pagestore_Store) with lasting_ := (c1.pages_.length : Int) } : pagestore_Store)
def M.pagestore_Store_burn_i1 (s0_ : pagestore_Store) (c : Int) : Option (Int × pagestore_Store) :=
  if s0_.fuse_ = (0 : Int) then
    some ((16 : Int), ({ s0_ with down_ := true } : pagestore_Store))
  else
    Option.bind (
        if (0 : Int) < s0_.fuse_ then
          Option.bind (subC s0_.fuse_ (1 : Int)) fun v =>
          some ({ s0_ with fuse_ := v } : pagestore_Store)
        else
          some s0_
      ) fun s0_1 =>
      Option.bind (M.pagestore_Store_SetRoot_1 c s0_1) fun s0_2 =>
      some ((0 : Int), s0_2)
def M.pagestore_Store_SetRoot (s0_ : pagestore_Store) (page : Int) : Option (Int × pagestore_Store) :=
  if s0_.down_ = true then
    some ((16 : Int), s0_)
  else
    Option.bind (M.pagestore_Store_there s0_ page) fun there =>
    if there = false then
      some ((3 : Int), s0_)
    else
      Option.bind (M.pagestore_Store_burn_i1 s0_ page) fun (burn, s0_1) =>
      some (burn, s0_1)
def M.journal_Journal_Commit (j : journal_Journal) (st : pagestore_Store) : Option (Int × journal_Journal × pagestore_Store) :=
  if (j.texts_.length : Int) = (0 : Int) then
    some ((0 : Int), j, st)
  else
    Option.bind (M.pagestore_Store_SetRoot st j.last_.page_) fun (setroo1, w1) =>
    if setroo1 ≠ (0 : Int) then
      some (setroo1, j, w1)
    else
      some ((0 : Int), ({ j with lasting_ := (j.texts_.length : Int) } : journal_Journal), w1)
def M.slices_Clone_string_string (l : List Str) : Option (List Str) := appC [] l
def M.pagestore_Store_Crash (s0_ : pagestore_Store) (keep : Int) : Option pagestore_Store :=
  Option.bind (subC (s0_.pages_.length : Int) s0_.lasting_) fun v =>
  Option.bind (addC s0_.lasting_ (min (max keep (0 : Int)) v)) fun v1 =>
  Option.bind (slcHi s0_.pages_ v1) fun v2 =>
  Option.bind (M.slices_Clone_string_string v2) fun string =>
  some ({ ({ ({ ({ s0_ with pages_ := string } : pagestore_Store) with lasting_ := (string.length : Int) } : pagestore_Store) with fuse_ := (-1 : Int) } : pagestore_Store) with down_ := false } : pagestore_Store)
def M.journal_Journal_At (j : journal_Journal) (st : pagestore_Store) (i : Int) : Option (Str × Int) :=
  Option.bind (
      if i < (0 : Int) then
        some true
      else
        some (decide ((j.texts_.length : Int) ≤ i))
    ) fun v =>
    if v = true then
      some (([] : Str), (3 : Int))
    else
      Option.bind (idx j.texts_ i) fun v1 =>
      some (v1, (0 : Int))
def M.journal_Journal_Len (j : journal_Journal) (st : pagestore_Store) : Option Int :=
  some (j.texts_.length : Int)
def M.pagestore_Store_Len (s0_ : pagestore_Store) : Option Int :=
  some (s0_.pages_.length : Int)
def M.law14_awake (n : Nat)  : Option Bool :=
  Option.bind M.pagestore_New fun new =>
  Option.bind new fun s0_ =>
  Option.bind (M.journal_Open n s0_) fun open0_ =>
  Option.bind (
      if open0_.2 ≠ (0 : Int) then
        some true
      else
        if open0_.1.isNone = true then
          some true
        else
          some false
    ) fun v =>
    if v = true then
      some false
    else
      Option.bind open0_.1 fun j =>
      Option.bind (M.journal_Journal_Append n j s0_ ([97] : Str)) fun (append, w, w1) =>
      Option.bind (M.journal_Journal_Commit w w1) fun (commit, w2, w3) =>
      Option.bind (M.journal_Journal_Append n w2 w3 ([98] : Str)) fun (append1, w4, w5) =>
      Option.bind (M.pagestore_Store_Crash w5 (1 : Int)) fun w6 =>
      Option.bind (M.journal_Open n w6) fun open0_1 =>
      if open0_1.1.isNone = true then
        some false
      else
        Option.bind open0_1.1 fun k4 =>
        Option.bind (M.journal_Journal_At k4 w6 (0 : Int)) fun at0_ =>
        if append.1 = (0 : Int) then
          if append.2 = (0 : Int) then
            if commit = (0 : Int) then
              if open0_1.2 = (0 : Int) then
                if (at0_.1 == ([97] : Str)) = true then
                  if at0_.2 = (0 : Int) then
                    Option.bind (M.journal_Journal_Len k4 w6) fun len =>
                    if len = (1 : Int) then
                      Option.bind (M.pagestore_Store_Len w6) fun len1 =>
                      some (decide (len1 = (2 : Int)))
                    else
                      some false
                  else
                    some false
                else
                  some false
              else
                some false
            else
              some false
          else
            some false
        else
          some false
def M.law14_few_loop1 (l : List pandectlaw14_Call) : Nat → Int → Option (Unit ⊕ Bool)
  | 0, _ => none
  | n + 1, i =>
    if i < (l.length : Int) then
      Option.bind (idx l i) fun v =>
      if (400 : Int) < (v.Text.length : Int) then
        some (.inr false)
      else
        M.law14_few_loop1 l n (i + 1)
    else
      some (.inl ())
def M.law14_few (n : Nat) (l : List pandectlaw14_Call) : Option Bool :=
  Option.bind (M.law14_few_loop1 l n (0 : Int)) fun
    | .inl _ =>
      some (decide ((l.length : Int) ≤ (20 : Int)))
    | .inr ret0 => some ret0
def M.pagestore_Store_FailAfter (s0_ : pagestore_Store) (n0_ : Int) : Option pagestore_Store :=
  some ({ s0_ with fuse_ := max n0_ (-1 : Int) } : pagestore_Store)
def M.journal_Journal_Committed (j : journal_Journal) (st : pagestore_Store) : Option Int :=
  some j.lasting_
def M.journal_Journal_All (j : journal_Journal) (st : pagestore_Store) : Option (List Str) :=
  Option.bind (M.slices_Clone_string_string j.texts_) fun string =>
  some string
def M.r14_Texts_loop1 (a : List Str) (b : List Str) : Nat → Int → Option (Unit ⊕ Bool)
  | 0, _ => none
  | n + 1, i =>
    if i < (a.length : Int) then
      Option.bind (idx a i) fun v =>
      Option.bind (idx b i) fun v1 =>
      if (v != v1) = true then
        some (.inr false)
      else
        M.r14_Texts_loop1 a b n (i + 1)
    else
      some (.inl ())
def M.r14_Texts (n : Nat) (a : List Str) (b : List Str) : Option Bool :=
  if (a.length : Int) ≠ (b.length : Int) then
    some false
  else
    Option.bind (M.r14_Texts_loop1 a b n (0 : Int)) fun
      | .inl _ =>
        some true
      | .inr ret0 => some ret0
def M.law14_play_loop1 (l : List pandectlaw14_Call) : Nat → (Option journal_Journal) → (List Str) → Int → Int → pagestore_Store → Option (((Option journal_Journal) × (List Str) × Int × pagestore_Store) ⊕ (((Option journal_Journal) × (List Str) × Int × Bool) × pagestore_Store))
  | 0, _, _, _, _, _ => none
  | n + 1, j, texts, lasting, i, s0_1 =>
    if i < (l.length : Int) then
      Option.bind (M.pagestore_Store_Failed s0_1) fun failed =>
      Option.bind ((
          Option.bind (idx l i) fun v1 =>
          if v1.Kind = (0 : Int) then
            Option.bind j fun j2 =>
            Option.bind (idx l i) fun v2 =>
            Option.bind (M.journal_Journal_Append n j2 s0_1 v2.Text) fun (append, w, s0_3) =>
            Option.bind (
                if append.2 = (0 : Int) then
                  if failed = true then
                    some true
                  else
                    if append.1 ≠ (texts.length : Int) then
                      some true
                    else
                      if append.2 ≠ (0 : Int) then
                        if append.2 ≠ (16 : Int) then
                          some true
                        else
                          Option.bind (M.pagestore_Store_Failed s0_3) fun failed1 =>
                          if failed1 = false then
                            some true
                          else
                            some (decide (append.1 ≠ (0 : Int)))
                      else
                        some false
                else
                  if append.2 ≠ (0 : Int) then
                    if append.2 ≠ (16 : Int) then
                      some true
                    else
                      Option.bind (M.pagestore_Store_Failed s0_3) fun failed2 =>
                      if failed2 = false then
                        some true
                      else
                        some (decide (append.1 ≠ (0 : Int)))
                  else
                    some false
              ) fun v3 =>
              if v3 = true then
                some (.inr ((none, ([] : List Str), (0 : Int), false), s0_3))
              else
                if append.2 = (0 : Int) then
                  Option.bind (idx l i) fun v4 =>
                  Option.bind (appC texts [v4.Text]) fun out =>
                  some (.inl (some w, out, lasting, s0_3))
                else
                  some (.inl (some w, texts, lasting, s0_3))
          else
            if v1.Kind = (1 : Int) then
              Option.bind j fun j3 =>
              Option.bind (M.journal_Journal_Commit j3 s0_1) fun (commit, w1, s0_4) =>
              Option.bind (
                  if commit = (0 : Int) then
                    if failed = true then
                      if (0 : Int) < (texts.length : Int) then
                        some true
                      else
                        if commit ≠ (0 : Int) then
                          if commit ≠ (16 : Int) then
                            some true
                          else
                            Option.bind (M.pagestore_Store_Failed s0_4) fun failed3 =>
                            some (!failed3)
                        else
                          some false
                    else
                      if commit ≠ (0 : Int) then
                        if commit ≠ (16 : Int) then
                          some true
                        else
                          Option.bind (M.pagestore_Store_Failed s0_4) fun failed4 =>
                          some (!failed4)
                      else
                        some false
                  else
                    if commit ≠ (0 : Int) then
                      if commit ≠ (16 : Int) then
                        some true
                      else
                        Option.bind (M.pagestore_Store_Failed s0_4) fun failed5 =>
                        some (!failed5)
                    else
                      some false
                ) fun v5 =>
                if v5 = true then
                  some (.inr ((none, ([] : List Str), (0 : Int), false), s0_4))
                else
                  if commit = (0 : Int) then
                    some (.inl (some w1, texts, (texts.length : Int), s0_4))
                  else
                    some (.inl (some w1, texts, lasting, s0_4))
            else
              if v1.Kind = (2 : Int) then
                Option.bind (idx l i) fun v6 =>
                Option.bind (M.pagestore_Store_Crash s0_1 v6.N) fun s0_5 =>
                Option.bind (M.journal_Open n s0_5) fun open0_1 =>
                if open0_1.2 ≠ (0 : Int) then
                  some (.inr ((none, ([] : List Str), (0 : Int), false), s0_5))
                else
                  if open0_1.1.isNone = true then
                    some (.inr ((none, ([] : List Str), (0 : Int), false), s0_5))
                  else
                    Option.bind (slcHi texts lasting) fun v7 =>
                    some (.inl (open0_1.1, v7, lasting, s0_5))
              else
                if v1.Kind = (3 : Int) then
                  Option.bind (idx l i) fun v8 =>
                  Option.bind (M.pagestore_Store_FailAfter s0_1 v8.N) fun s0_6 =>
                  some (.inl (j, texts, lasting, s0_6))
                else
                  some (.inl (j, texts, lasting, s0_1))
        ) : Option (((Option journal_Journal) × (List Str) × Int × pagestore_Store) ⊕ (((Option journal_Journal) × (List Str) × Int × Bool) × pagestore_Store))) fun
        | .inl (j1, texts1, lasting1, s0_2) =>
          Option.bind j1 fun j4 =>
          Option.bind (M.journal_Journal_Len j4 s0_2) fun len =>
          if len ≠ (texts1.length : Int) then
            some (.inr ((none, ([] : List Str), (0 : Int), false), s0_2))
          else
            Option.bind (M.journal_Journal_Committed j4 s0_2) fun commit1 =>
            if commit1 ≠ lasting1 then
              some (.inr ((none, ([] : List Str), (0 : Int), false), s0_2))
            else
              Option.bind (M.journal_Journal_All j4 s0_2) fun all =>
              Option.bind (M.r14_Texts n all texts1) fun texts2 =>
              if texts2 = false then
                some (.inr ((none, ([] : List Str), (0 : Int), false), s0_2))
              else
                M.law14_play_loop1 l n (some j4) texts1 lasting1 (i + 1) s0_2
        | .inr ret0 => some (.inr ret0)
    else
      some (.inl (j, texts, lasting, s0_1))
def M.law14_play (n : Nat) (s0_ : pagestore_Store) (l : List pandectlaw14_Call) : Option (((Option journal_Journal) × (List Str) × Int × Bool) × pagestore_Store) :=
  Option.bind (M.journal_Open n s0_) fun open0_ =>
  Option.bind (
      if open0_.2 ≠ (0 : Int) then
        some true
      else
        some open0_.1.isNone
    ) fun v =>
    if v = true then
      some ((none, ([] : List Str), (0 : Int), false), s0_)
    else
      Option.bind (M.law14_play_loop1 l n open0_.1 ([] : List Str) (0 : Int) (0 : Int) s0_) fun
        | .inl (j, texts, lasting, s0_1) =>
          some ((j, texts, lasting, true), s0_1)
        | .inr ret0 => some ret0
def M.law14_JournalSequences (n : Nat) (l : List pandectlaw14_Call) (n0_ : Int) : Option Bool :=
  Option.bind (M.law14_awake n) fun awake =>
  if awake = false then
    some false
  else
    Option.bind (M.law14_few n l) fun few =>
    if few = false then
      some true
    else
      Option.bind M.pagestore_New fun new =>
      Option.bind new fun ob =>
      Option.bind (M.law14_play n ob l) fun (play, w) =>
      if play.2.2.2 = false then
        some false
      else
        Option.bind play.1 fun j =>
        Option.bind (M.journal_Journal_At j w n0_) fun at0_ =>
        Option.bind (
            if n0_ < (0 : Int) then
              some true
            else
              some (decide ((play.2.1.length : Int) ≤ n0_))
          ) fun v =>
          if v = true then
            Option.bind (
                if (at0_.1 == ([] : Str)) = true then
                  some (decide (at0_.2 = (3 : Int)))
                else
                  some false
              ) fun v1 =>
              some v1
          else
            Option.bind (idx play.2.1 n0_) fun v2 =>
            if (at0_.1 == v2) = true then
              some (decide (at0_.2 = (0 : Int)))
            else
              some false
def M.law14_short_loop1 (l : List Str) : Nat → Int → Option (Unit ⊕ Bool)
  | 0, _ => none
  | n + 1, i =>
    if i < (l.length : Int) then
      Option.bind (idx l i) fun v =>
      if (400 : Int) < (v.length : Int) then
        some (.inr false)
      else
        M.law14_short_loop1 l n (i + 1)
    else
      some (.inl ())
def M.law14_short (n : Nat) (l : List Str) : Option Bool :=
  Option.bind (M.law14_short_loop1 l n (0 : Int)) fun
    | .inl _ =>
      some (decide ((l.length : Int) ≤ (12 : Int)))
    | .inr ret0 => some ret0
def M.r14_Cut_loop1  : Nat → Str → (List Str) → Option (Str × (List Str))
  | 0, _, _ => none
  | n + 1, s0_1, out =>
    if (16320 : Int) < (s0_1.length : Int) then
      Option.bind (slcHi s0_1 (16320 : Int)) fun v =>
      Option.bind (appC out [v]) fun out1 =>
      Option.bind (slcLo s0_1 (16320 : Int)) fun v1 =>
      M.r14_Cut_loop1 n v1 out1
    else
      some (s0_1, out)
def M.r14_Cut (n : Nat) (s0_ : Str) : Option (List Str) :=
  Option.bind (M.r14_Cut_loop1 n s0_ ([] : List Str)) fun (s0_1, out) =>
    Option.bind (appC out [s0_1]) fun out2 =>
    some out2
def M.r12_Text_loop2 (d : Int) : Nat → (List Int) → Int → Option ((List Int))
  | 0, _, _ => none
  | n + 1, out, i1 =>
    if i1 < (16 : Int) then
      Option.bind (mulC (4 : Int) i1) fun v =>
      Option.bind (subC (60 : Int) v) fun v1 =>
      if wrap8 (andU (shrU d (wrapU v1)) (15 : Int)) < (10 : Int) then
        Option.bind (appC out [wrap8 ((48 : Int) + (wrap8 (andU (shrU d (wrapU v1)) (15 : Int))))]) fun out1 =>
        Option.bind (addC i1 (1 : Int)) fun v2 =>
        M.r12_Text_loop2 d n out1 v2
      else
        Option.bind (appC out [wrap8 ((87 : Int) + (wrap8 (andU (shrU d (wrapU v1)) (15 : Int))))]) fun out2 =>
        Option.bind (addC i1 (1 : Int)) fun v3 =>
        M.r12_Text_loop2 d n out2 v3
    else
      some out
def M.r12_Text_loop1 (s0_ : Str) : Nat → Int → Int → Option Int
  | 0, _, _ => none
  | n + 1, d, i =>
    if i < (s0_.length : Int) then
      Option.bind (idx s0_ i) fun b =>
      M.r12_Text_loop1 s0_ n (xorU (wrapU ((wrapU ((wrapU (d + (wrapU (b.toNat : Int)))) + (1 : Int))) * (10723151780598845931 : Int))) (shrU (wrapU ((wrapU ((wrapU (d + (wrapU (b.toNat : Int)))) + (1 : Int))) * (10723151780598845931 : Int))) (31 : Int))) (i + 1)
    else
      some d
def M.r12_Text (n : Nat) (s0_ : Str) : Option Str :=
  Option.bind (M.r12_Text_loop1 s0_ n (11400714819323198485 : Int) (0 : Int)) fun d =>
    Option.bind (M.r12_Text_loop2 d n ([] : List Int) (0 : Int)) fun out =>
      some (strOf out)
def M.r14_Sum (n : Nat) (ahead : Str) (sign : Str) (part : Str) : Option Str :=
  Option.bind (catC ahead ([10] : Str)) fun v =>
  Option.bind (catC v sign) fun v1 =>
  Option.bind (catC v1 ([10] : Str)) fun v2 =>
  Option.bind (catC v2 part) fun v3 =>
  Option.bind (M.r12_Text n v3) fun text =>
  some text
def M.r12_Digits : Nat → Int → Option Str
  | 0, _ => none
  | n + 1, n0_ =>
    if n0_ < (0 : Int) then
      if (-10 : Int) < n0_ then
        Option.bind (subC (48 : Int) n0_) fun v =>
        Option.bind (catC ([45] : Str) (strOf [wrap8 v])) fun v1 =>
        some v1
      else
        Option.bind (quoC n0_ (10 : Int)) fun v2 =>
        Option.bind ((M.r12_Digits n) v2) fun digits =>
        Option.bind (remC n0_ (10 : Int)) fun v3 =>
        Option.bind (subC (48 : Int) v3) fun v4 =>
        Option.bind (catC digits (strOf [wrap8 v4])) fun v5 =>
        some v5
    else
      if n0_ < (10 : Int) then
        Option.bind (addC (48 : Int) n0_) fun v6 =>
        some (strOf [wrap8 v6])
      else
        Option.bind (quoC n0_ (10 : Int)) fun v7 =>
        Option.bind ((M.r12_Digits n) v7) fun digits1 =>
        Option.bind (remC n0_ (10 : Int)) fun v8 =>
        Option.bind (addC (48 : Int) v8) fun v9 =>
        Option.bind (catC digits1 (strOf [wrap8 v9])) fun v10 =>
        some v10
def M.r14_number (n : Nat) (n0_ : Int) : Option Str :=
  if n0_ < (0 : Int) then
    some ([45] : Str)
  else
    Option.bind (M.r12_Digits n n0_) fun digits =>
    some digits
def M.r14_Page (n : Nat) (ahead : Int) (sum : Str) (sign : Str) (part : Str) : Option (Str × Str) :=
  Option.bind (M.r14_Sum n sum sign part) fun sum1 =>
  Option.bind (M.r14_number n ahead) fun number =>
  Option.bind (catC number ([32] : Str)) fun v =>
  Option.bind (catC v sum1) fun v1 =>
  Option.bind (catC v1 ([32] : Str)) fun v2 =>
  Option.bind (catC v2 sign) fun v3 =>
  Option.bind (catC v3 ([10] : Str)) fun v4 =>
  Option.bind (catC v4 part) fun v5 =>
  some (v5, sum1)
def M.r14_Text_loop1 (first : Int) (cut : List Str) : Nat → Int → Str → (List Str) → Int → Option (Str × (List Str))
  | 0, _, _, _, _ => none
  | n + 1, ahead1, sum1, out, i =>
    if i < (cut.length : Int) then
      Option.bind (
          Option.bind (subC (cut.length : Int) (1 : Int)) fun v =>
          if i = v then
            some ([46] : Str)
          else
            some ([43] : Str)
        ) fun sign =>
        Option.bind (idx cut i) fun v1 =>
        Option.bind (M.r14_Page n ahead1 sum1 sign v1) fun page =>
        Option.bind (appC out [page.1]) fun out1 =>
        Option.bind (addC first i) fun v2 =>
        M.r14_Text_loop1 first cut n v2 page.2 out1 (i + 1)
    else
      some (sum1, out)
def M.r14_Text (n : Nat) (s0_ : Str) (ahead : Int) (sum : Str) (first : Int) : Option ((List Str) × Str) :=
  Option.bind (M.r14_Cut n s0_) fun cut =>
  Option.bind (M.r14_Text_loop1 first cut n ahead sum ([] : List Str) (0 : Int)) fun (sum1, out) =>
    some (out, sum1)
def M.r14_words_loop1 (s0_ : Str) : Nat → (List Str) → Int → Int → Option (Unit ⊕ ((List Str) × Str × Bool))
  | 0, _, _, _ => none
  | n + 1, out, at0_, i =>
    if i < (s0_.length : Int) then
      Option.bind (
          Option.bind (
              Option.bind (idx s0_ i) fun b =>
              if (b.toNat : Int) = (32 : Int) then
                some true
              else
                Option.bind (idx s0_ i) fun b1 =>
                some (decide ((b1.toNat : Int) = (10 : Int)))
            ) fun v =>
            if v = true then
              Option.bind (slc s0_ at0_ i) fun v1 =>
              Option.bind (appC out [v1]) fun out2 =>
              some (out2, i + 1)
            else
              some (out, at0_)
        ) fun (out1, at0_1) =>
        Option.bind (idx s0_ i) fun b2 =>
        if (b2.toNat : Int) = (10 : Int) then
          Option.bind (slcLo s0_ at0_1) fun v2 =>
          some (.inr (out1, v2, decide ((out1.length : Int) = (3 : Int))))
        else
          M.r14_words_loop1 s0_ n out1 at0_1 (i + 1)
    else
      some (.inl ())
def M.r14_words (n : Nat) (s0_ : Str) : Option ((List Str) × Str × Bool) :=
  Option.bind (M.r14_words_loop1 s0_ n ([] : List Str) (0 : Int) (0 : Int)) fun
    | .inl _ =>
      some (([] : List Str), ([] : Str), false)
    | .inr ret0 => some ret0
def M.r14_back_loop1 (s0_ : Str) : Nat → Int → Int → Option (Int ⊕ Int)
  | 0, _, _ => none
  | n + 1, n0_, i =>
    if i < (s0_.length : Int) then
      Option.bind (
          Option.bind (idx s0_ i) fun b =>
          if (b.toNat : Int) < (48 : Int) then
            some true
          else
            Option.bind (idx s0_ i) fun b1 =>
            if (57 : Int) < (b1.toNat : Int) then
              some true
            else
              some (decide ((6 : Int) < i))
        ) fun v =>
        if v = true then
          some (.inr (-2 : Int))
        else
          Option.bind (idx s0_ i) fun b2 =>
          M.r14_back_loop1 s0_ n (wrap64 (wrap64 ((10 : Int) * n0_) + wrap8 ((b2.toNat : Int) - (48 : Int)))) (i + 1)
    else
      some (.inl n0_)
def M.r14_back (n : Nat) (s0_ : Str) : Option Int :=
  if (s0_ == ([45] : Str)) = true then
    some (-1 : Int)
  else
    Option.bind (M.r14_back_loop1 s0_ n (0 : Int) (0 : Int)) fun
      | .inl n0_ =>
        if (s0_ == ([] : Str)) = true then
          some (-2 : Int)
        else
          Option.bind (M.r14_number n n0_) fun number =>
          if (number != s0_) = true then
            some (-2 : Int)
          else
            some n0_
      | .inr ret0 => some ret0
def M.r14_Way_loop4 (text1 : List Str) (cut : List Str) : Nat → Int → Option (Unit ⊕ ((List Str) × Bool))
  | 0, _ => none
  | n + 1, k8 =>
    if k8 < (cut.length : Int) then
      Option.bind (idx cut k8) fun v15 =>
      Option.bind (idx text1 k8) fun v16 =>
      if (v15 != v16) = true then
        some (.inr (([] : List Str), false))
      else
        M.r14_Way_loop4 text1 cut n (k8 + 1)
    else
      some (.inl ())
def M.r14_Way_loop3 (text1 : List Str) : Nat → Str → Int → Option Str
  | 0, _, _ => none
  | n + 1, whole, k7 =>
    if k7 < (text1.length : Int) then
      Option.bind (idx text1 k7) fun v12 =>
      Option.bind (catC whole v12) fun v13 =>
      M.r14_Way_loop3 text1 n v13 (k7 + 1)
    else
      some whole
def M.r14_Way_loop2 (pages : List Str) (way : List Int) : Nat → (List Str) → Str → Int → (List Str) → Int → Option (((List Str) × (List Str)) ⊕ ((List Str) × Bool))
  | 0, _, _, _, _, _ => none
  | n + 1, out1, sum, ahead, text, i =>
    if i < (way.length : Int) then
      Option.bind (idx way i) fun v2 =>
      Option.bind (idx pages v2) fun v3 =>
      Option.bind (M.r14_words n v3) fun words1 =>
      Option.bind (
          Option.bind (idx words1.1 (2 : Int)) fun v5 =>
          if (v5 != ([43] : Str)) = true then
            Option.bind (idx words1.1 (2 : Int)) fun v6 =>
            some (v6 != ([46] : Str))
          else
            some false
        ) fun v4 =>
        if v4 = true then
          some (.inr (([] : List Str), false))
        else
          Option.bind (idx words1.1 (2 : Int)) fun v7 =>
          Option.bind (M.r14_Page n ahead sum v7 words1.2.1) fun page =>
          Option.bind (idx way i) fun v8 =>
          Option.bind (idx pages v8) fun v9 =>
          if (page.1 != v9) = true then
            some (.inr (([] : List Str), false))
          else
            Option.bind (idx way i) fun v10 =>
            Option.bind (appC text [words1.2.1]) fun text1 =>
            Option.bind (idx words1.1 (2 : Int)) fun v11 =>
            if (v11 == ([43] : Str)) = true then
              M.r14_Way_loop2 pages way n out1 page.2 v10 text1 (i + 1)
            else
              Option.bind (M.r14_Way_loop3 text1 n ([] : Str) (0 : Int)) fun whole =>
                Option.bind (M.r14_Cut n whole) fun cut =>
                Option.bind (
                    if (cut.length : Int) ≠ (text1.length : Int) then
                      some true
                    else
                      some (decide ((16 : Int) < (cut.length : Int)))
                  ) fun v14 =>
                  if v14 = true then
                    some (.inr (([] : List Str), false))
                  else
                    Option.bind (M.r14_Way_loop4 text1 cut n (0 : Int)) fun
                      | .inl _ =>
                        Option.bind (appC out1 [whole]) fun out2 =>
                        Option.bind (addC i (1 : Int)) fun v17 =>
                        M.r14_Way_loop2 pages way n out2 page.2 v10 ([] : List Str) v17
                      | .inr ret0 => some (.inr ret0)
    else
      some (.inl (out1, text))
def M.r14_Way_loop1 (pages : List Str) : Nat → (List Int) → Int → Option (((List Int)) ⊕ ((List Str) × Bool))
  | 0, _, _ => none
  | n + 1, way, at0_ =>
    if (0 : Int) ≤ at0_ then
      if (pages.length : Int) ≤ at0_ then
        some (.inr (([] : List Str), false))
      else
        Option.bind (idx pages at0_) fun v =>
        Option.bind (M.r14_words n v) fun words =>
        if words.2.2 = false then
          some (.inr (([] : List Str), false))
        else
          Option.bind (appC [at0_] way) fun out =>
          Option.bind (idx words.1 (0 : Int)) fun v1 =>
          Option.bind (M.r14_back n v1) fun back =>
          if back < (-1 : Int) then
            some (.inr (([] : List Str), false))
          else
            if at0_ ≤ back then
              some (.inr (([] : List Str), false))
            else
              M.r14_Way_loop1 pages n out back
    else
      some (.inl way)
def M.r14_Way (n : Nat) (pages : List Str) (root : Int) : Option ((List Str) × Bool) :=
  if root < (0 : Int) then
    some (([] : List Str), true)
  else
    Option.bind (M.r14_Way_loop1 pages n ([] : List Int) root) fun
      | .inl way =>
        Option.bind (M.r14_Way_loop2 pages way n ([] : List Str) ([] : Str) (-1 : Int) ([] : List Str) (0 : Int)) fun
          | .inl (out1, text) =>
            some (out1, decide ((text.length : Int) = (0 : Int)))
          | .inr ret0 => some ret0
      | .inr ret0 => some ret0
def M.law14_laid_loop1 (pages : List Str) : Nat → Int → pagestore_Store → Option (pagestore_Store ⊕ (Option pagestore_Store))
  | 0, _, _ => none
  | n + 1, i, v =>
    if i < (pages.length : Int) then
      Option.bind (idx pages i) fun v1 =>
      Option.bind (M.pagestore_Store_Append v v1) fun (append, w) =>
      if append.2 ≠ (0 : Int) then
        some (.inr none)
      else
        M.law14_laid_loop1 pages n (i + 1) w
    else
      some (.inl v)
def M.law14_laid (n : Nat) (pages : List Str) (root : Int) : Option (Option pagestore_Store) :=
  Option.bind M.pagestore_New fun new =>
  Option.bind new fun s0_ =>
  Option.bind (M.law14_laid_loop1 pages n (0 : Int) s0_) fun
    | .inl v =>
      if (0 : Int) ≤ root then
        Option.bind (M.pagestore_Store_SetRoot v root) fun (setroo, w1) =>
        if setroo ≠ (0 : Int) then
          some none
        else
          some (some w1)
      else
        some (some v)
    | .inr ret0 => some ret0
def M.journal_Verify (n : Nat) (s0_ : pagestore_Store) : Option (Int × Int) :=
  Option.bind (M.journal_load n s0_) fun load =>
  if load.2.2 ≠ (0 : Int) then
    some ((0 : Int), load.2.2)
  else
    some ((load.1.length : Int), (0 : Int))
def M.law14_JournalCorruption_loop1 (l : List Str) : Nat → (List Str) → Int → Str → Int → Option ((List Str))
  | 0, _, _, _, _ => none
  | n + 1, pages, ahead, sum, i =>
    if i < (l.length : Int) then
      Option.bind (idx l i) fun v1 =>
      Option.bind (M.r14_Text n v1 ahead sum (pages.length : Int)) fun text =>
      Option.bind (appC pages text.1) fun out =>
      Option.bind (subC (out.length : Int) (1 : Int)) fun v2 =>
      M.law14_JournalCorruption_loop1 l n out v2 text.2 (i + 1)
    else
      some pages
def M.law14_JournalCorruption (n : Nat) (l : List Str) (page : Int) (at0_ : Int) (by0_ : Int) : Option Bool :=
  Option.bind (M.law14_awake n) fun awake =>
  if awake = false then
    some false
  else
    Option.bind (
        Option.bind (M.law14_short n l) fun short =>
        if short = false then
          some true
        else
          if (l.length : Int) = (0 : Int) then
            some true
          else
            some (decide (by0_ = (0 : Int)))
      ) fun v =>
      if v = true then
        some true
      else
        Option.bind (M.law14_JournalCorruption_loop1 l n ([] : List Str) (-1 : Int) ([] : Str) (0 : Int)) fun pages =>
          Option.bind (
              if page < (0 : Int) then
                some true
              else
                if (pages.length : Int) ≤ page then
                  some true
                else
                  if at0_ < (0 : Int) then
                    some true
                  else
                    Option.bind (idx pages page) fun v4 =>
                    some (decide ((v4.length : Int) ≤ at0_))
            ) fun v3 =>
            if v3 = true then
              some true
            else
              Option.bind (idx pages page) fun v5 =>
              Option.bind (idx (bytesOf v5) at0_) fun v6 =>
              Option.bind (idx (bytesOf v5) at0_) fun v7 =>
              Option.bind (setC (bytesOf v5) at0_ (xor8 v6 by0_)) fun w =>
              Option.bind (idx pages page) fun v8 =>
              Option.bind (setC pages page (strOf w)) fun w1 =>
              Option.bind (subC (w1.length : Int) (1 : Int)) fun v9 =>
              Option.bind (M.r14_Way n w1 v9) fun way =>
              if way.2 = true then
                some true
              else
                Option.bind (subC (w1.length : Int) (1 : Int)) fun v10 =>
                Option.bind (M.law14_laid n w1 v10) fun laid =>
                if laid.isNone = true then
                  some false
                else
                  Option.bind laid fun s0_ =>
                  Option.bind (M.journal_Open n s0_) fun open0_ =>
                  Option.bind (M.journal_Verify n s0_) fun verify =>
                  if open0_.2 = (17 : Int) then
                    some (decide (verify.2 = (17 : Int)))
                  else
                    some false
end Go.Proofs.YtkobngongonplaaGreatDoor
