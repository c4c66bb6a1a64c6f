/-
  What the functions compute: plain functions, written by program out of the code; no machine in sight.
-/
import Derived.Test.YtkobngongonplaaDoorMod
set_option linter.unusedVariables false
set_option linter.unusedSimpArgs false
namespace Go.Proofs.YtkobngongonplaaDoor
open Go Go.Dec
def gv7 : List Int := [(0 : Int), (1 : Int), (56 : Int), (2 : Int), (57 : Int), (49 : Int), (28 : Int), (3 : Int), (61 : Int), (58 : Int), (42 : Int), (50 : Int), (38 : Int), (29 : Int), (17 : Int), (4 : Int), (62 : Int), (47 : Int), (59 : Int), (36 : Int), (45 : Int), (43 : Int), (51 : Int), (22 : Int), (53 : Int), (39 : Int), (33 : Int), (30 : Int), (24 : Int), (18 : Int), (12 : Int), (5 : Int), (63 : Int), (55 : Int), (48 : Int), (27 : Int), (60 : Int), (41 : Int), (37 : Int), (16 : Int), (46 : Int), (35 : Int), (44 : Int), (21 : Int), (52 : Int), (32 : Int), (23 : Int), (11 : Int), (54 : Int), (26 : Int), (40 : Int), (15 : Int), (34 : Int), (20 : Int), (31 : Int), (10 : Int), (25 : Int), (14 : Int), (19 : Int), (9 : Int), (13 : Int), (8 : Int), (7 : Int), (6 : Int)]
structure pagestore_Store where
  pages_ : List Str
  lasting_ : Int
  root_ : Int
  fuse_ : Int
  down_ : Bool
def zpagestore_Store : pagestore_Store := ⟨([] : List Str), (0 : Int), (0 : Int), (0 : Int), false⟩
structure journal_mark where
  page_ : Int
  sum_ : Str
theorem journal_mark.eq_iff (a b : journal_mark) : (a.page_ = b.page_ ∧ a.sum_ = b.sum_) ↔ a = b := ⟨fun h => by cases a; cases b; simp_all, fun h => by subst h; simp⟩
instance : DecidableEq journal_mark := fun a b => decidable_of_iff _ (journal_mark.eq_iff a b)
def zjournal_mark : journal_mark := ⟨(0 : Int), ([] : Str)⟩
structure journal_Journal where
  Store : Unit
  texts_ : List Str
  lasting_ : Int
  last_ : journal_mark
def zjournal_Journal : journal_Journal := ⟨(), ([] : List Str), (0 : Int), zjournal_mark⟩
structure journal_read where
  at_ : Int
  ahead_ : Int
  sign_ : Str
  text_ : Str
  whole_ : Str
theorem journal_read.eq_iff (a b : journal_read) : (a.at_ = b.at_ ∧ a.ahead_ = b.ahead_ ∧ a.sign_ = b.sign_ ∧ a.text_ = b.text_ ∧ a.whole_ = b.whole_) ↔ a = b := ⟨fun h => by cases a; cases b; simp_all, fun h => by subst h; simp⟩
instance : DecidableEq journal_read := fun a b => decidable_of_iff _ (journal_read.eq_iff a b)
def zjournal_read : journal_read := ⟨(0 : Int), (0 : Int), ([] : Str), ([] : Str), ([] : Str)⟩
def M.pagestore_New  : Option (Option pagestore_Store) :=
  some (some (⟨([] : List Str), (0 : Int), (-1 : Int), (-1 : Int), false⟩ : pagestore_Store))
def M.pagestore_Store_Failed (s0_ : pagestore_Store) : Option Bool :=
  some s0_.down_
def M.pagestore_Store_Root (s0_ : pagestore_Store) : Option Int :=
  some s0_.root_
def M.pagestore_Store_there (s0_ : pagestore_Store) (page : Int) : Option Bool :=
  if (0 : Int) ≤ page then
    some (decide (page < (s0_.pages_.length : Int)))
  else
    some false
def M.pagestore_Store_Read (s0_ : pagestore_Store) (page : Int) : Option (Str × Int) :=
  if s0_.down_ = true then
    some (([] : Str), (16 : Int))
  else
    Option.bind (M.pagestore_Store_there s0_ page) fun there =>
    if there = false then
      some (([] : Str), (3 : Int))
    else
      Option.bind (idx s0_.pages_ page) fun v =>
      some (v, (0 : Int))
def M.journal_open (at0_ : Int) (whole : Str) : Option (journal_read × Bool) :=
  Option.bind (cutM whole ([10] : Str)) fun cut =>
  Option.bind (splitM cut.1 ([32] : Str)) fun split =>
  Option.bind (
      if cut.2.2 = false then
        some true
      else
        if (split.length : Int) ≠ (3 : Int) then
          some true
        else
          Option.bind (idx split (2 : Int)) fun v1 =>
          if (v1 != ([43] : Str)) = true then
            Option.bind (idx split (2 : Int)) fun v2 =>
            some (v2 != ([46] : Str))
          else
            some false
    ) fun v =>
    if v = true then
      some ((⟨(0 : Int), (0 : Int), ([] : Str), ([] : Str), ([] : Str)⟩ : journal_read), false)
    else
      Option.bind ((
          Option.bind (idx split (0 : Int)) fun v4 =>
          if (v4 != ([45] : Str)) = true then
            Option.bind (idx split (0 : Int)) fun v5 =>
            Option.bind (atoiB v5) fun atoi =>
            if atoi.2 = true then
              some (.inr ((⟨(0 : Int), (0 : Int), ([] : Str), ([] : Str), ([] : Str)⟩ : journal_read), false))
            else
              if atoi.1 < (0 : Int) then
                some (.inr ((⟨(0 : Int), (0 : Int), ([] : Str), ([] : Str), ([] : Str)⟩ : journal_read), false))
              else
                Option.bind (itoaM atoi.1) fun itoa =>
                Option.bind (idx split (0 : Int)) fun v6 =>
                if (itoa != v6) = true then
                  some (.inr ((⟨(0 : Int), (0 : Int), ([] : Str), ([] : Str), ([] : Str)⟩ : journal_read), false))
                else
                  some (.inl (atoi.1, zjournal_read))
          else
            some (.inl ((-1 : Int), zjournal_read))
        ) : Option ((Int × journal_read) ⊕ (journal_read × Bool))) fun
        | .inl (ahead, v3) =>
          Option.bind (idx split (2 : Int)) fun v7 =>
          some ((⟨at0_, ahead, v7, cut.2.1, whole⟩ : journal_read), true)
        | .inr ret0 => some ret0
def M.journal_way_loop1 (s0_ : pagestore_Store) : Nat → (List journal_read) → Int → Option (((List journal_read)) ⊕ ((List journal_read) × Bool))
  | 0, _, _ => none
  | n + 1, out, at0_ =>
    if at0_ ≠ (-1 : Int) then
      Option.bind (M.pagestore_Store_Read s0_ at0_) fun read =>
      if read.2 ≠ (0 : Int) then
        some (.inr (([] : List journal_read), false))
      else
        Option.bind (M.journal_open at0_ read.1) fun open0_ =>
        Option.bind (
            if open0_.2 = false then
              some true
            else
              some (decide (at0_ ≤ open0_.1.ahead_))
          ) fun v =>
          if v = true then
            some (.inr (([] : List journal_read), false))
          else
            Option.bind (appC out [open0_.1]) fun out1 =>
            M.journal_way_loop1 s0_ n out1 open0_.1.ahead_
    else
      some (.inl out)
def M.journal_way (n : Nat) (s0_ : pagestore_Store) : Option ((List journal_read) × Bool) :=
  Option.bind (M.pagestore_Store_Root s0_) fun root =>
  Option.bind (M.journal_way_loop1 s0_ n ([] : List journal_read) root) fun
    | .inl out =>
      some (out.reverse, true)
    | .inr ret0 => some ret0
def M.internal_strconv_small (i : Int) : Option Str :=
  if i < (10 : Int) then
    Option.bind (addC i (1 : Int)) fun v =>
    Option.bind (slc ([48, 49, 50, 51, 52, 53, 54, 55, 56, 57, 97, 98, 99, 100, 101, 102, 103, 104, 105, 106, 107, 108, 109, 110, 111, 112, 113, 114, 115, 116, 117, 118, 119, 120, 121, 122] : Str) i v) fun v1 =>
    some v1
  else
    Option.bind (mulC i (2 : Int)) fun v2 =>
    Option.bind (mulC i (2 : Int)) fun v3 =>
    Option.bind (addC v3 (2 : Int)) fun v4 =>
    Option.bind (slc ([48, 48, 48, 49, 48, 50, 48, 51, 48, 52, 48, 53, 48, 54, 48, 55, 48, 56, 48, 57, 49, 48, 49, 49, 49, 50, 49, 51, 49, 52, 49, 53, 49, 54, 49, 55, 49, 56, 49, 57, 50, 48, 50, 49, 50, 50, 50, 51, 50, 52, 50, 53, 50, 54, 50, 55, 50, 56, 50, 57, 51, 48, 51, 49, 51, 50, 51, 51, 51, 52, 51, 53, 51, 54, 51, 55, 51, 56, 51, 57, 52, 48, 52, 49, 52, 50, 52, 51, 52, 52, 52, 53, 52, 54, 52, 55, 52, 56, 52, 57, 53, 48, 53, 49, 53, 50, 53, 51, 53, 52, 53, 53, 53, 54, 53, 55, 53, 56, 53, 57, 54, 48, 54, 49, 54, 50, 54, 51, 54, 52, 54, 53, 54, 54, 54, 55, 54, 56, 54, 57, 55, 48, 55, 49, 55, 50, 55, 51, 55, 52, 55, 53, 55, 54, 55, 55, 55, 56, 55, 57, 56, 48, 56, 49, 56, 50, 56, 51, 56, 52, 56, 53, 56, 54, 56, 55, 56, 56, 56, 57, 57, 48, 57, 49, 57, 50, 57, 51, 57, 52, 57, 53, 57, 54, 57, 55, 57, 56, 57, 57] : Str) v2 v4) fun v5 =>
    some v5
def M.internal_strconv_isPowerOfTwo (x : Int) : Option Bool :=
  Option.bind (subC x (1 : Int)) fun v =>
  some (decide (andI x v = (0 : Int)))
def M.math_bits_TrailingZeros64 (x : Int) : Option Int :=
  if x = (0 : Int) then
    some (64 : Int)
  else
    Option.bind (idx gv7 (shrU (wrapU ((andU x (wrapU (0 - x))) * (285870213051353865 : Int))) (58 : Int))) fun v =>
    some v
def M.math_bits_TrailingZeros (x : Int) : Option Int :=
  Option.bind (M.math_bits_TrailingZeros64 x) fun traili =>
  some traili
def M.internal_strconv_formatBits_loop1 (base : Int) (traili : Int) : Nat → Int → Int → (List Int) → Option (Int × Int × (List Int))
  | 0, _, _, _ => none
  | n + 1, u2, i1, a1 =>
    if wrapU base ≤ u2 then
      Option.bind (subC i1 (1 : Int)) fun v =>
      Option.bind (idx ([48, 49, 50, 51, 52, 53, 54, 55, 56, 57, 97, 98, 99, 100, 101, 102, 103, 104, 105, 106, 107, 108, 109, 110, 111, 112, 113, 114, 115, 116, 117, 118, 119, 120, 121, 122] : Str) (andU u2 (wrapU ((wrapU base) - (1 : Int))))) fun b1 =>
      Option.bind (rngC 65 v) fun _ =>
      M.internal_strconv_formatBits_loop1 base traili n (shrU u2 (wrapU traili)) v (a1.set v.toNat (b1.toNat : Int))
    else
      some (u2, i1, a1)
def M.internal_strconv_formatBits_loop2 (base : Int) : Nat → Int → Int → (List Int) → Option (Int × Int × (List Int))
  | 0, _, _, _ => none
  | n + 1, u3, i2, a2 =>
    if wrapU base ≤ u3 then
      none
    else
      some (u3, i2, a2)
def M.internal_strconv_formatBits (n : Nat) (dst : List Int) (u : Int) (base : Int) (neg : Bool) (append : Bool) : Option ((List Int) × Str) :=
  Option.bind (
      if base < (2 : Int) then
        none
      else
        if base = (10 : Int) then
          none
        else
          if (36 : Int) < base then
            none
          else
            some ()
    ) fun _ =>
    Option.bind (
        if neg = true then
          some (wrapU (0 - u))
        else
          some u
      ) fun u1 =>
      Option.bind (
          Option.bind (M.internal_strconv_isPowerOfTwo base) fun ispowe =>
          if ispowe = true then
            Option.bind (M.math_bits_TrailingZeros (wrapU base)) fun traili =>
            Option.bind (M.internal_strconv_formatBits_loop1 base traili n u1 (65 : Int) (List.replicate 65 (0 : Int))) fun (u2, i1, a1) =>
              Option.bind (subC i1 (1 : Int)) fun v1 =>
              Option.bind (idx ([48, 49, 50, 51, 52, 53, 54, 55, 56, 57, 97, 98, 99, 100, 101, 102, 103, 104, 105, 106, 107, 108, 109, 110, 111, 112, 113, 114, 115, 116, 117, 118, 119, 120, 121, 122] : Str) u2) fun b2 =>
              Option.bind (rngC 65 v1) fun _ =>
              some (v1, a1.set v1.toNat (b2.toNat : Int))
          else
            Option.bind (M.internal_strconv_formatBits_loop2 base n u1 (65 : Int) (List.replicate 65 (0 : Int))) fun (u3, i2, a2) =>
              Option.bind (subC i2 (1 : Int)) fun v3 =>
              Option.bind (idx ([48, 49, 50, 51, 52, 53, 54, 55, 56, 57, 97, 98, 99, 100, 101, 102, 103, 104, 105, 106, 107, 108, 109, 110, 111, 112, 113, 114, 115, 116, 117, 118, 119, 120, 121, 122] : Str) u3) fun b3 =>
              Option.bind (rngC 65 v3) fun _ =>
              some (v3, a2.set v3.toNat (b3.toNat : Int))
        ) fun (i, a) =>
        Option.bind (
            if neg = true then
              Option.bind (subC i (1 : Int)) fun v4 =>
              Option.bind (rngC 65 v4) fun _ =>
              some (v4, a.set v4.toNat (45 : Int))
            else
              some (i, a)
          ) fun (i3, a3) =>
          if append = true then
            none
          else
            Option.bind (slcLo a3 i3) fun v6 =>
            some (([] : List Int), strOf v6)
def M.internal_strconv_FormatUint (n : Nat) (i : Int) (base : Int) : Option Str :=
  if base = (10 : Int) then
    if i < (100 : Int) then
      Option.bind (M.internal_strconv_small (wrap64 i)) fun small =>
      some small
    else
      none
  else
    Option.bind (M.internal_strconv_formatBits n ([] : List Int) i base false false) fun format =>
    some format.2
def M.strconv_FormatUint (n : Nat) (i : Int) (base : Int) : Option Str :=
  Option.bind (M.internal_strconv_FormatUint n i base) fun format =>
  some format
def M.digest_Sum_loop1  : List Int → Int → Option Int
  | [], h =>
    some h
  | e :: es, h =>
    M.digest_Sum_loop1 es (xorU (wrapU ((wrapU ((wrapU (h + (wrapU e))) + (1 : Int))) * (10723151780598845931 : Int))) (shrU (wrapU ((wrapU ((wrapU (h + (wrapU e))) + (1 : Int))) * (10723151780598845931 : Int))) (31 : Int)))
def M.digest_Sum (n : Nat) (s0_ : Str) : Option Str :=
  Option.bind (M.digest_Sum_loop1 (bytesOf s0_) (11400714819323198485 : Int)) fun h =>
    Option.bind (M.strconv_FormatUint n h (16 : Int)) fun format =>
    Option.bind (subC (16 : Int) (format.length : Int)) fun v =>
    Option.bind (repeatM ([48] : Str) v) fun repeat0_ =>
    Option.bind (catC repeat0_ format) fun v1 =>
    some v1
def M.journal_sum (n : Nat) (ahead : Str) (sign : Str) (text : Str) : Option Str :=
  Option.bind (catC ahead ([10] : Str)) fun v =>
  Option.bind (catC v sign) fun v1 =>
  Option.bind (catC v1 ([10] : Str)) fun v2 =>
  Option.bind (catC v2 text) fun v3 =>
  Option.bind (M.digest_Sum n v3) fun sum =>
  some sum
def M.journal_name (page : Int) : Option Str :=
  if page = (-1 : Int) then
    some ([45] : Str)
  else
    Option.bind (itoaM page) fun itoa =>
    some itoa
def M.journal_page (n : Nat) (m0_ : journal_mark) (sign : Str) (text : Str) : Option (Str × Str) :=
  Option.bind (M.journal_sum n m0_.sum_ sign text) fun sum =>
  Option.bind (M.journal_name m0_.page_) fun name =>
  Option.bind (catC name ([32] : Str)) fun v =>
  Option.bind (catC v sum) fun v1 =>
  Option.bind (catC v1 ([32] : Str)) fun v2 =>
  Option.bind (catC v2 sign) fun v3 =>
  Option.bind (catC v3 ([10] : Str)) fun v4 =>
  Option.bind (catC v4 text) fun v5 =>
  some (v5, sum)
def M.strings_Join_loop2 (sep : Str) : List Str → Str → Option Str
  | [], b2 =>
    some b2
  | e1 :: es1, b2 =>
    Option.bind (appC b2 sep) fun b3 =>
    Option.bind (appC b3 e1) fun b4 =>
    M.strings_Join_loop2 sep es1 b4
def M.strings_Join_loop1  : List Str → Int → Option Int
  | [], n0_1 =>
    some n0_1
  | e :: es, n0_1 =>
    Option.bind (subC (9223372036854775807 : Int) n0_1) fun v6 =>
    if v6 < (e.length : Int) then
      none
    else
      Option.bind (addC n0_1 (e.length : Int)) fun v7 =>
      M.strings_Join_loop1 es v7
def M.strings_Join (elems : List Str) (sep : Str) : Option Str :=
  if (elems.length : Int) = (0 : Int) then
    some ([] : Str)
  else
    if (elems.length : Int) = (1 : Int) then
      Option.bind (idx elems (0 : Int)) fun v =>
      some v
    else
      Option.bind (
          if (0 : Int) < (sep.length : Int) then
            Option.bind (
                Option.bind (subC (elems.length : Int) (1 : Int)) fun v1 =>
                Option.bind (quoC (9223372036854775807 : Int) v1) fun v2 =>
                if v2 ≤ (sep.length : Int) then
                  none
                else
                  some ()
              ) fun _ =>
              Option.bind (subC (elems.length : Int) (1 : Int)) fun v3 =>
              Option.bind (mulC (sep.length : Int) v3) fun v4 =>
              Option.bind (addC (0 : Int) v4) fun v5 =>
              some v5
          else
            some (0 : Int)
        ) fun n0_ =>
        Option.bind (M.strings_Join_loop1 elems n0_) fun n0_1 =>
          Option.bind (growC n0_1) fun _ =>
          Option.bind (idx elems (0 : Int)) fun v8 =>
          Option.bind (appC ([] : Str) v8) fun b1 =>
          Option.bind (slcLo elems (1 : Int)) fun v9 =>
          Option.bind (M.strings_Join_loop2 sep v9 b1) fun b2 =>
            some b2
def M.journal_cut_loop1  : Nat → Str → (List Str) → Option (Str × (List Str))
  | 0, _, _ => none
  | n + 1, text1, out =>
    if (16320 : Int) < (text1.length : Int) then
      Option.bind (slcHi text1 (16320 : Int)) fun v =>
      Option.bind (appC out [v]) fun out1 =>
      Option.bind (slcLo text1 (16320 : Int)) fun v1 =>
      M.journal_cut_loop1 n v1 out1
    else
      some (text1, out)
def M.journal_cut (n : Nat) (text : Str) : Option (List Str) :=
  if (261120 : Int) < (text.length : Int) then
    some ([] : List Str)
  else
    Option.bind (M.journal_cut_loop1 n text ([] : List Str)) fun (text1, out) =>
      Option.bind (appC out [text1]) fun out2 =>
      some out2
def M.slices_Equal_string_string_loop1 (s1_ : List Str) (s2_ : List Str) : Nat → Int → Option (Unit ⊕ Bool)
  | 0, _ => none
  | n + 1, v =>
    if v < (s1_.length : Int) then
      Option.bind (idx s1_ v) fun v1 =>
      Option.bind (idx s2_ v) fun v2 =>
      if (v1 != v2) = true then
        some (.inr false)
      else
        M.slices_Equal_string_string_loop1 s1_ s2_ n (v + 1)
    else
      some (.inl ())
def M.slices_Equal_string_string (n : Nat) (s1_ : List Str) (s2_ : List Str) : Option Bool :=
  if (s1_.length : Int) ≠ (s2_.length : Int) then
    some false
  else
    Option.bind (M.slices_Equal_string_string_loop1 s1_ s2_ n (0 : Int)) fun
      | .inl _ =>
        some true
      | .inr ret0 => some ret0
def M.journal_load_loop1 (n : Nat)  : List journal_read → (List Str) → (List Str) → journal_mark → journal_mark → Option (((List Str) × (List Str) × journal_mark × journal_mark) ⊕ ((List Str) × journal_mark × Int))
  | [], texts, parts, v, m0_ =>
    some (.inl (texts, parts, v, m0_))
  | e :: es, texts, parts, v, m0_ =>
    Option.bind (M.journal_page n m0_ e.sign_ e.text_) fun page =>
    if (page.1 != e.whole_) = true then
      some (.inr (([] : List Str), m0_, (17 : Int)))
    else
      Option.bind (appC parts [e.text_]) fun parts1 =>
      if (e.sign_ == ([43] : Str)) = true then
        M.journal_load_loop1 n es texts parts1 v (⟨e.at_, page.2⟩ : journal_mark)
      else
        Option.bind (M.strings_Join parts1 ([] : Str)) fun join =>
        Option.bind (M.journal_cut n join) fun cut =>
        Option.bind (M.slices_Equal_string_string n cut parts1) fun string =>
        if string = false then
          some (.inr (([] : List Str), (⟨e.at_, page.2⟩ : journal_mark), (17 : Int)))
        else
          Option.bind (appC texts [join]) fun texts1 =>
          M.journal_load_loop1 n es texts1 ([] : List Str) v (⟨e.at_, page.2⟩ : journal_mark)
def M.journal_load (n : Nat) (s0_ : pagestore_Store) : Option ((List Str) × journal_mark × Int) :=
  Option.bind (M.pagestore_Store_Failed s0_) fun failed =>
  if failed = true then
    some (([] : List Str), (⟨(-1 : Int), ([] : Str)⟩ : journal_mark), (16 : Int))
  else
    Option.bind (M.journal_way n s0_) fun way =>
    if way.2 = false then
      some (([] : List Str), (⟨(-1 : Int), ([] : Str)⟩ : journal_mark), (17 : Int))
    else
      Option.bind (M.journal_load_loop1 n way.1 ([] : List Str) ([] : List Str) zjournal_mark (⟨(-1 : Int), ([] : Str)⟩ : journal_mark)) fun
        | .inl (texts, parts, v, m0_) =>
          if (0 : Int) < (parts.length : Int) then
            some (([] : List Str), m0_, (17 : Int))
          else
            some (texts, m0_, (0 : Int))
        | .inr ret0 => some ret0
def M.journal_Open (n : Nat) (s0_ : pagestore_Store) : Option ((Option journal_Journal) × Int) :=
  Option.bind (M.journal_load n s0_) fun load =>
  if load.2.2 ≠ (0 : Int) then
    some (none, load.2.2)
  else
    some (some (⟨(), load.1, (load.1.length : Int), load.2.1⟩ : journal_Journal), (0 : Int))
def M.pagestore_Store_Append_1 (c : pagestore_Store) (c1 : Int) (c2 : Str) : Option (pagestore_Store × Int) :=
  Option.bind (appC c.pages_ [c2]) fun out =>
  some (({ c with pages_ := out } : pagestore_Store), (c.pages_.length : Int))
def M.pagestore_Store_burn_i0 (s0_ : pagestore_Store) (c : Int) (c1 : Str) : Option (Int × pagestore_Store × Int) :=
  if s0_.fuse_ = (0 : Int) then
    some ((16 : Int), ({ s0_ with down_ := true } : pagestore_Store), c)
  else
    Option.bind (
        if (0 : Int) < s0_.fuse_ then
          Option.bind (subC s0_.fuse_ (1 : Int)) fun v =>
          some ({ s0_ with fuse_ := v } : pagestore_Store)
        else
          some s0_
      ) fun s0_1 =>
      Option.bind (M.pagestore_Store_Append_1 s0_1 c c1) fun (s0_2, w) =>
      some ((0 : Int), s0_2, w)
def M.pagestore_Store_Append (s0_ : pagestore_Store) (text : Str) : Option ((Int × Int) × pagestore_Store) :=
  if s0_.down_ = true then
    some (((0 : Int), (16 : Int)), s0_)
  else
    if (16384 : Int) < (text.length : Int) then
      some (((0 : Int), (1 : Int)), s0_)
    else
      if (4096 : Int) ≤ (s0_.pages_.length : Int) then
        some (((0 : Int), (6 : Int)), s0_)
      else
        Option.bind (M.pagestore_Store_burn_i0 s0_ (0 : Int) text) fun (burn, s0_1, n0_) =>
        some ((n0_, burn), s0_1)
def M.journal_Journal_Append_loop1 (n : Nat) (j : journal_Journal) (cut : List Str) : List Str → Int → journal_mark → pagestore_Store → Option ((journal_mark × pagestore_Store) ⊕ ((Int × Int) × journal_Journal × pagestore_Store))
  | [], _, m0_, v =>
    some (.inl (m0_, v))
  | e :: es, i, m0_, v =>
    Option.bind (
        Option.bind (subC (cut.length : Int) (1 : Int)) fun v1 =>
        if i = v1 then
          some ([46] : Str)
        else
          some ([43] : Str)
      ) fun sign =>
      Option.bind (M.journal_page n m0_ sign e) fun page =>
      Option.bind (M.pagestore_Store_Append v page.1) fun (append, w) =>
      if append.2 ≠ (0 : Int) then
        some (.inr (((0 : Int), append.2), j, w))
      else
        M.journal_Journal_Append_loop1 n j cut es (i + 1) (⟨append.1, page.2⟩ : journal_mark) w
def M.journal_Journal_Append (n : Nat) (j : journal_Journal) (st : pagestore_Store) (text : Str) : Option ((Int × Int) × journal_Journal × pagestore_Store) :=
  Option.bind (M.journal_cut n text) fun cut =>
  if (cut.length : Int) = (0 : Int) then
    some (((0 : Int), (1 : Int)), j, st)
  else
    Option.bind (M.journal_Journal_Append_loop1 n j cut cut (0 : Int) j.last_ st) fun
      | .inl (m0_, v) =>
        Option.bind (appC j.texts_ [text]) fun out =>
        Option.bind (subC (out.length : Int) (1 : Int)) fun v2 =>
        some ((v2, (0 : Int)), ({ ({ j with last_ := m0_ } : journal_Journal) with texts_ := out } : journal_Journal), v)
      | .inr ret0 => some ret0
def M.pagestore_Store_SetRoot_1 (c : Int) (c1 : pagestore_Store) : Option pagestore_Store :=
  some ({ ({ c1 with root_ := c } : pagestore_Store) with lasting_ := (c1.pages_.length : Int) } : pagestore_Store)
def M.pagestore_Store_burn_i1 (s0_ : pagestore_Store) (c : Int) : Option (Int × pagestore_Store) :=
  if s0_.fuse_ = (0 : Int) then
    some ((16 : Int), ({ s0_ with down_ := true } : pagestore_Store))
  else
    Option.bind (
        if (0 : Int) < s0_.fuse_ then
          Option.bind (subC s0_.fuse_ (1 : Int)) fun v =>
          some ({ s0_ with fuse_ := v } : pagestore_Store)
        else
          some s0_
      ) fun s0_1 =>
      Option.bind (M.pagestore_Store_SetRoot_1 c s0_1) fun s0_2 =>
      some ((0 : Int), s0_2)
def M.pagestore_Store_SetRoot (s0_ : pagestore_Store) (page : Int) : Option (Int × pagestore_Store) :=
  if s0_.down_ = true then
    some ((16 : Int), s0_)
  else
    Option.bind (M.pagestore_Store_there s0_ page) fun there =>
    if there = false then
      some ((3 : Int), s0_)
    else
      Option.bind (M.pagestore_Store_burn_i1 s0_ page) fun (burn, s0_1) =>
      some (burn, s0_1)
def M.journal_Journal_Commit (j : journal_Journal) (st : pagestore_Store) : Option (Int × journal_Journal × pagestore_Store) :=
  if (j.texts_.length : Int) = (0 : Int) then
    some ((0 : Int), j, st)
  else
    Option.bind (M.pagestore_Store_SetRoot st j.last_.page_) fun (setroo1, w1) =>
    if setroo1 ≠ (0 : Int) then
      some (setroo1, j, w1)
    else
      some ((0 : Int), ({ j with lasting_ := (j.texts_.length : Int) } : journal_Journal), w1)
def M.slices_Clone_string_string (l : List Str) : Option (List Str) := appC [] l
def M.pagestore_Store_Crash (s0_ : pagestore_Store) (keep : Int) : Option pagestore_Store :=
  Option.bind (subC (s0_.pages_.length : Int) s0_.lasting_) fun v =>
  Option.bind (addC s0_.lasting_ (min (max keep (0 : Int)) v)) fun v1 =>
  Option.bind (slcHi s0_.pages_ v1) fun v2 =>
  Option.bind (M.slices_Clone_string_string v2) fun string =>
  some ({ ({ ({ ({ s0_ with pages_ := string } : pagestore_Store) with lasting_ := (string.length : Int) } : pagestore_Store) with fuse_ := (-1 : Int) } : pagestore_Store) with down_ := false } : pagestore_Store)
def M.journal_Journal_At (j : journal_Journal) (st : pagestore_Store) (i : Int) : Option (Str × Int) :=
  Option.bind (
      if i < (0 : Int) then
        some true
      else
        some (decide ((j.texts_.length : Int) ≤ i))
    ) fun v =>
    if v = true then
      some (([] : Str), (3 : Int))
    else
      Option.bind (idx j.texts_ i) fun v1 =>
      some (v1, (0 : Int))
def M.journal_Journal_Len (j : journal_Journal) (st : pagestore_Store) : Option Int :=
  some (j.texts_.length : Int)
def M.pagestore_Store_Len (s0_ : pagestore_Store) : Option Int :=
  some (s0_.pages_.length : Int)
def M.law14_awake (n : Nat)  : Option Bool :=
  Option.bind M.pagestore_New fun new =>
  Option.bind new fun s0_ =>
  Option.bind (M.journal_Open n s0_) fun open0_ =>
  Option.bind (
      if open0_.2 ≠ (0 : Int) then
        some true
      else
        if open0_.1.isNone = true then
          some true
        else
          some false
    ) fun v =>
    if v = true then
      some false
    else
      Option.bind open0_.1 fun j =>
      Option.bind (M.journal_Journal_Append n j s0_ ([97] : Str)) fun (append, w, w1) =>
      Option.bind (M.journal_Journal_Commit w w1) fun (commit, w2, w3) =>
      Option.bind (M.journal_Journal_Append n w2 w3 ([98] : Str)) fun (append1, w4, w5) =>
      Option.bind (M.pagestore_Store_Crash w5 (1 : Int)) fun w6 =>
      Option.bind (M.journal_Open n w6) fun open0_1 =>
      if open0_1.1.isNone = true then
        some false
      else
        Option.bind open0_1.1 fun k4 =>
        Option.bind (M.journal_Journal_At k4 w6 (0 : Int)) fun at0_ =>
        if append.1 = (0 : Int) then
          if append.2 = (0 : Int) then
            if commit = (0 : Int) then
              if open0_1.2 = (0 : Int) then
                if (at0_.1 == ([97] : Str)) = true then
                  if at0_.2 = (0 : Int) then
                    Option.bind (M.journal_Journal_Len k4 w6) fun len =>
                    if len = (1 : Int) then
                      Option.bind (M.pagestore_Store_Len w6) fun len1 =>
                      some (decide (len1 = (2 : Int)))
                    else
                      some false
                  else
                    some false
                else
                  some false
              else
                some false
            else
              some false
          else
            some false
        else
          some false
def M.pagestore_Store_FailAfter (s0_ : pagestore_Store) (n0_ : Int) : Option pagestore_Store :=
  some ({ s0_ with fuse_ := max n0_ (-1 : Int) } : pagestore_Store)
def M.r14_Cut_loop1  : Nat → Str → (List Str) → Option (Str × (List Str))
  | 0, _, _ => none
  | n + 1, s0_1, out =>
    if (16320 : Int) < (s0_1.length : Int) then
      Option.bind (slcHi s0_1 (16320 : Int)) fun v =>
      Option.bind (appC out [v]) fun out1 =>
      Option.bind (slcLo s0_1 (16320 : Int)) fun v1 =>
      M.r14_Cut_loop1 n v1 out1
    else
      some (s0_1, out)
def M.r14_Cut (n : Nat) (s0_ : Str) : Option (List Str) :=
  Option.bind (M.r14_Cut_loop1 n s0_ ([] : List Str)) fun (s0_1, out) =>
    Option.bind (appC out [s0_1]) fun out2 =>
    some out2
def M.law14_JournalFragments_loop1 (b : Int) : Nat → (List Int) → Int → Option ((List Int))
  | 0, _, _ => none
  | n + 1, text, i =>
    if i < (text.length : Int) then
      Option.bind (idx text i) fun v4 =>
      Option.bind (setC text i b) fun w4 =>
      Option.bind (addC i (1 : Int)) fun v5 =>
      M.law14_JournalFragments_loop1 b n w4 v5
    else
      some text
def M.law14_JournalFragments (n : Nat) (first : Str) (b : Int) (size : Int) (fuse : Int) : Option Bool :=
  Option.bind (M.law14_awake n) fun awake =>
  if awake = false then
    some false
  else
    Option.bind (
        if (400 : Int) < (first.length : Int) then
          some true
        else
          if size < (0 : Int) then
            some true
          else
            if (50000 : Int) < size then
              some true
            else
              if fuse < (-1 : Int) then
                some true
              else
                some (decide ((20 : Int) < fuse))
      ) fun v =>
      if v = true then
        some true
      else
        Option.bind M.pagestore_New fun new =>
        Option.bind new fun s0_ =>
        Option.bind (M.journal_Open n s0_) fun open0_ =>
        if open0_.2 ≠ (0 : Int) then
          some false
        else
          Option.bind open0_.1 fun j =>
          Option.bind (M.journal_Journal_Append n j s0_ first) fun (append, w, w1) =>
          Option.bind (
              if append.2 ≠ (0 : Int) then
                some (true, w1, w)
              else
                Option.bind (M.journal_Journal_Commit w w1) fun (commit, w2, w3) =>
                some (decide (commit ≠ (0 : Int)), w3, w2)
            ) fun (v1, v2, v3) =>
            if v1 = true then
              some false
            else
              Option.bind (makeC (0 : Int) size) fun mk =>
              Option.bind (M.law14_JournalFragments_loop1 b n mk (0 : Int)) fun text =>
                Option.bind (M.pagestore_Store_FailAfter v2 fuse) fun w5 =>
                Option.bind (M.journal_Journal_Append n v3 w5 (strOf text)) fun (append1, w6, w7) =>
                Option.bind (M.journal_Journal_Commit w6 w7) fun (commit1, w8, w9) =>
                Option.bind (M.r14_Cut n (strOf text)) fun cut =>
                Option.bind (
                    if fuse < (0 : Int) then
                      some true
                    else
                      some (decide ((cut.length : Int) < fuse))
                  ) fun done =>
                  Option.bind (
                      if fuse < (0 : Int) then
                        if ((decide (append1.2 = (0 : Int))) != true) = true then
                          some true
                        else
                          if append1.2 = (0 : Int) then
                            some ((decide (commit1 = (0 : Int))) != done)
                          else
                            some false
                      else
                        if ((decide (append1.2 = (0 : Int))) != (decide ((cut.length : Int) ≤ fuse))) = true then
                          some true
                        else
                          if append1.2 = (0 : Int) then
                            some ((decide (commit1 = (0 : Int))) != done)
                          else
                            some false
                    ) fun v6 =>
                    if v6 = true then
                      some false
                    else
                      Option.bind (M.pagestore_Store_Crash w9 fuse) fun w10 =>
                      Option.bind (M.journal_Open n w10) fun open0_1 =>
                      Option.bind (
                          if open0_1.2 ≠ (0 : Int) then
                            some true
                          else
                            some open0_1.1.isNone
                        ) fun v7 =>
                        if v7 = true then
                          some false
                        else
                          Option.bind open0_1.1 fun k9 =>
                          Option.bind (M.journal_Journal_At k9 w10 (0 : Int)) fun at0_ =>
                          Option.bind (
                              if (at0_.1 != first) = true then
                                some true
                              else
                                if done = false then
                                  Option.bind (M.journal_Journal_Len k9 w10) fun len =>
                                  if len ≠ (1 : Int) then
                                    some true
                                  else
                                    if done = true then
                                      Option.bind (M.journal_Journal_Len k9 w10) fun len1 =>
                                      some (decide (len1 ≠ (2 : Int)))
                                    else
                                      some false
                                else
                                  if done = true then
                                    Option.bind (M.journal_Journal_Len k9 w10) fun len2 =>
                                    some (decide (len2 ≠ (2 : Int)))
                                  else
                                    some false
                            ) fun v8 =>
                            if v8 = true then
                              some false
                            else
                              Option.bind (M.journal_Journal_At k9 w10 (1 : Int)) fun at0_1 =>
                              if done = false then
                                some true
                              else
                                some (at0_1.1 == (strOf text))
def M.law14_short_loop1 (l : List Str) : Nat → Int → Option (Unit ⊕ Bool)
  | 0, _ => none
  | n + 1, i =>
    if i < (l.length : Int) then
      Option.bind (idx l i) fun v =>
      if (400 : Int) < (v.length : Int) then
        some (.inr false)
      else
        M.law14_short_loop1 l n (i + 1)
    else
      some (.inl ())
def M.law14_short (n : Nat) (l : List Str) : Option Bool :=
  Option.bind (M.law14_short_loop1 l n (0 : Int)) fun
    | .inl _ =>
      some (decide ((l.length : Int) ≤ (12 : Int)))
    | .inr ret0 => some ret0
def M.journal_Journal_All (j : journal_Journal) (st : pagestore_Store) : Option (List Str) :=
  Option.bind (M.slices_Clone_string_string j.texts_) fun string =>
  some string
def M.r14_Texts_loop1 (a : List Str) (b : List Str) : Nat → Int → Option (Unit ⊕ Bool)
  | 0, _ => none
  | n + 1, i =>
    if i < (a.length : Int) then
      Option.bind (idx a i) fun v =>
      Option.bind (idx b i) fun v1 =>
      if (v != v1) = true then
        some (.inr false)
      else
        M.r14_Texts_loop1 a b n (i + 1)
    else
      some (.inl ())
def M.r14_Texts (n : Nat) (a : List Str) (b : List Str) : Option Bool :=
  if (a.length : Int) ≠ (b.length : Int) then
    some false
  else
    Option.bind (M.r14_Texts_loop1 a b n (0 : Int)) fun
      | .inl _ =>
        some true
      | .inr ret0 => some ret0
def M.law14_JournalReopens_loop3 (v22 : pagestore_Store) (v23 : pagestore_Store) : Nat → Int → Option (Unit ⊕ Bool)
  | 0, _ => none
  | n + 1, i2 =>
    Option.bind (M.pagestore_Store_Len v22) fun len2 =>
    if i2 < len2 then
      Option.bind (M.pagestore_Store_Read v22 i2) fun read =>
      Option.bind (M.pagestore_Store_Read v23 i2) fun read1 =>
      if (read.1 != read1.1) = true then
        some (.inr false)
      else
        Option.bind (addC i2 (1 : Int)) fun v27 =>
        M.law14_JournalReopens_loop3 v22 v23 n v27
    else
      some (.inl ())
def M.law14_JournalReopens_loop2 (m0_ : List Str) : Nat → Int → pagestore_Store → pagestore_Store → journal_Journal → journal_Journal → journal_Journal → Option ((pagestore_Store × pagestore_Store × journal_Journal × journal_Journal × journal_Journal) ⊕ Bool)
  | 0, _, _, _, _, _, _ => none
  | n + 1, i1, v14, v15, v16, v17, v18 =>
    if i1 < (m0_.length : Int) then
      Option.bind (idx m0_ i1) fun v19 =>
      Option.bind (M.journal_Journal_Append n v18 v14 v19) fun (append2, w9, w10) =>
      Option.bind (idx m0_ i1) fun v20 =>
      Option.bind (M.journal_Journal_Append n v17 v15 v20) fun (append3, w11, w12) =>
      if append2.1 ≠ append3.1 then
        some (.inr false)
      else
        if append2.2 ≠ append3.2 then
          some (.inr false)
        else
          M.law14_JournalReopens_loop2 m0_ n (i1 + 1) w10 w12 v16 w11 w9
    else
      some (.inl (v14, v15, v16, v17, v18))
def M.law14_JournalReopens_loop1 (l : List Str) : Nat → Int → pagestore_Store → pagestore_Store → journal_Journal → journal_Journal → Option (pagestore_Store × pagestore_Store × journal_Journal × journal_Journal)
  | 0, _, _, _, _, _ => none
  | n + 1, i, v2, v3, v4, v5 =>
    if i < (l.length : Int) then
      Option.bind (idx l i) fun v6 =>
      Option.bind (M.journal_Journal_Append n v4 v2 v6) fun (append, w, w1) =>
      Option.bind (idx l i) fun v7 =>
      Option.bind (M.journal_Journal_Append n v5 v3 v7) fun (append1, w2, w3) =>
      M.law14_JournalReopens_loop1 l n (i + 1) w1 w3 w w2
    else
      some (v2, v3, v4, v5)
def M.law14_JournalReopens (n : Nat) (l : List Str) (m0_ : List Str) : Option Bool :=
  Option.bind (M.law14_awake n) fun awake =>
  if awake = false then
    some false
  else
    Option.bind (
        Option.bind (M.law14_short n l) fun short =>
        if short = false then
          some true
        else
          Option.bind (M.law14_short n m0_) fun short1 =>
          some (!short1)
      ) fun v =>
      if v = true then
        some true
      else
        Option.bind M.pagestore_New fun new =>
        Option.bind M.pagestore_New fun new1 =>
        Option.bind new fun s0_ =>
        Option.bind (M.journal_Open n s0_) fun open0_ =>
        Option.bind new1 fun t =>
        Option.bind (M.journal_Open n t) fun open0_1 =>
        Option.bind (
            if open0_.2 ≠ (0 : Int) then
              some true
            else
              some (decide (open0_1.2 ≠ (0 : Int)))
          ) fun v1 =>
          if v1 = true then
            some false
          else
            Option.bind open0_.1 fun a =>
            Option.bind open0_1.1 fun b =>
            Option.bind (M.law14_JournalReopens_loop1 l n (0 : Int) s0_ t a b) fun (v2, v3, v4, v5) =>
              Option.bind (
                  Option.bind (M.journal_Journal_Commit v4 v2) fun (commit, w4, w5) =>
                  if commit ≠ (0 : Int) then
                    some (true, w5, v3, w4, v5)
                  else
                    Option.bind (M.journal_Journal_Commit v5 v3) fun (commit1, w6, w7) =>
                    some (decide (commit1 ≠ (0 : Int)), w5, w7, w4, w6)
                ) fun (v8, v9, v10, v11, v12) =>
                if v8 = true then
                  some false
                else
                  Option.bind (M.pagestore_Store_Crash v9 (0 : Int)) fun w8 =>
                  Option.bind (M.journal_Open n w8) fun open0_2 =>
                  Option.bind (
                      if open0_2.2 ≠ (0 : Int) then
                        some true
                      else
                        some open0_2.1.isNone
                    ) fun v13 =>
                    if v13 = true then
                      some false
                    else
                      Option.bind open0_2.1 fun a1 =>
                      Option.bind (M.law14_JournalReopens_loop2 m0_ n (0 : Int) w8 v10 v11 v12 a1) fun
                        | .inl (v14, v15, v16, v17, v18) =>
                          Option.bind (
                              Option.bind (M.journal_Journal_All v18 v14) fun all =>
                              Option.bind (M.journal_Journal_All v17 v15) fun all1 =>
                              Option.bind (M.r14_Texts n all all1) fun texts =>
                              if texts = false then
                                some (true, v14, v15, v16, v17, v18)
                              else
                                Option.bind (M.journal_Journal_Commit v18 v14) fun (commit2, w13, w14) =>
                                if commit2 ≠ (0 : Int) then
                                  some (true, w14, v15, v16, v17, w13)
                                else
                                  Option.bind (M.journal_Journal_Commit v17 v15) fun (commit3, w15, w16) =>
                                  if commit3 ≠ (0 : Int) then
                                    some (true, w14, w16, v16, w15, w13)
                                  else
                                    Option.bind (M.pagestore_Store_Len w14) fun len =>
                                    Option.bind (M.pagestore_Store_Len w16) fun len1 =>
                                    if len ≠ len1 then
                                      some (true, w14, w16, v16, w15, w13)
                                    else
                                      Option.bind (M.pagestore_Store_Root w14) fun root =>
                                      Option.bind (M.pagestore_Store_Root w16) fun root1 =>
                                      some (decide (root ≠ root1), w14, w16, v16, w15, w13)
                            ) fun (v21, v22, v23, v24, v25, v26) =>
                            if v21 = true then
                              some false
                            else
                              Option.bind (M.law14_JournalReopens_loop3 v22 v23 n (0 : Int)) fun
                                | .inl _ =>
                                  some true
                                | .inr ret0 => some ret0
                        | .inr ret0 => some ret0
def M.journal_load_i1  : Option ((List Str) × journal_mark × Int) :=
  some (([] : List Str), (⟨(-1 : Int), ([] : Str)⟩ : journal_mark), (1 : Int))
def M.journal_Open_i1  : Option ((Option journal_Journal) × Int) :=
  Option.bind M.journal_load_i1 fun load =>
  if load.2.2 ≠ (0 : Int) then
    some (none, load.2.2)
  else
    none
def M.journal_Verify (n : Nat) (s0_ : pagestore_Store) : Option (Int × Int) :=
  Option.bind (M.journal_load n s0_) fun load =>
  if load.2.2 ≠ (0 : Int) then
    some ((0 : Int), load.2.2)
  else
    some ((load.1.length : Int), (0 : Int))
def M.journal_Verify_i1  : Option (Int × Int) :=
  Option.bind M.journal_load_i1 fun load =>
  if load.2.2 ≠ (0 : Int) then
    some ((0 : Int), load.2.2)
  else
    some ((load.1.length : Int), (0 : Int))
def M.law14_JournalErrors (n : Nat) (first : Str) (more : Int) : Option Bool :=
  Option.bind (M.law14_awake n) fun awake =>
  if awake = false then
    some false
  else
    Option.bind (
        if (400 : Int) < (first.length : Int) then
          some true
        else
          if more < (0 : Int) then
            some true
          else
            some (decide ((1000 : Int) < more))
      ) fun v =>
      if v = true then
        some true
      else
        Option.bind M.pagestore_New fun new =>
        Option.bind new fun s0_ =>
        Option.bind (M.journal_Open n s0_) fun open0_ =>
        if open0_.2 ≠ (0 : Int) then
          some false
        else
          Option.bind open0_.1 fun j =>
          Option.bind (M.journal_Journal_Append n j s0_ first) fun (append, w, w1) =>
          Option.bind (addC (261120 : Int) more) fun v1 =>
          Option.bind (makeC (0 : Int) v1) fun mk =>
          Option.bind (M.journal_Journal_Append n w w1 (strOf mk)) fun (append1, w2, w3) =>
          Option.bind (
              if (0 : Int) < more then
                if append1.1 ≠ (0 : Int) then
                  some true
                else
                  if append1.2 ≠ (1 : Int) then
                    some true
                  else
                    Option.bind (M.journal_Journal_Len w2 w3) fun len =>
                    if len ≠ (1 : Int) then
                      some true
                    else
                      Option.bind (M.pagestore_Store_Len w3) fun len1 =>
                      if len1 ≠ (1 : Int) then
                        some true
                      else
                        if more = (0 : Int) then
                          if append1.1 ≠ (1 : Int) then
                            some true
                          else
                            if append1.2 ≠ (0 : Int) then
                              some true
                            else
                              Option.bind (M.pagestore_Store_Len w3) fun len2 =>
                              some (decide (len2 ≠ (17 : Int)))
                        else
                          some false
              else
                if more = (0 : Int) then
                  if append1.1 ≠ (1 : Int) then
                    some true
                  else
                    if append1.2 ≠ (0 : Int) then
                      some true
                    else
                      Option.bind (M.pagestore_Store_Len w3) fun len3 =>
                      some (decide (len3 ≠ (17 : Int)))
                else
                  some false
            ) fun v2 =>
            if v2 = true then
              some false
            else
              Option.bind (M.pagestore_Store_FailAfter w3 (0 : Int)) fun w4 =>
              Option.bind (M.journal_Journal_Append n w2 w4 first) fun (append2, w5, w6) =>
              Option.bind (M.journal_Open n w6) fun open0_1 =>
              Option.bind M.journal_Open_i1 fun open0_2 =>
              Option.bind (M.journal_Verify n w6) fun verify =>
              Option.bind M.journal_Verify_i1 fun verify1 =>
              if open0_1.1.isNone = true then
                if open0_1.2 = (16 : Int) then
                  if open0_2.1.isNone = true then
                    if open0_2.2 = (1 : Int) then
                      if verify.1 = (0 : Int) then
                        if verify.2 = (16 : Int) then
                          if verify1.1 = (0 : Int) then
                            some (decide (verify1.2 = (1 : Int)))
                          else
                            some false
                        else
                          some false
                      else
                        some false
                    else
                      some false
                  else
                    some false
                else
                  some false
              else
                some false
end Go.Proofs.YtkobngongonplaaDoor
