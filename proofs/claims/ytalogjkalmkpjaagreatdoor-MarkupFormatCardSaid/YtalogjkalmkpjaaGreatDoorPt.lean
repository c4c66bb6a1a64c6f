import Derived.Test.YtalogjkalmkpjaaGreatDoorPw
/-
  The line of a tracked unit is read back: the program's parser answers the unit without kids and its depth.
-/
set_option linter.unusedVariables false
set_option linter.unusedSimpArgs false
namespace Go.Proofs.YtalogjkalmkpjaaGreatDoor
open Go Go.Dec
theorem splitC_one {c : UInt8} : ∀ {x : Str}, c ∉ x → splitC c x = [x]
  | [], _ => rfl
  | b :: x, h => by
    have hb : b ≠ c := fun e => h (by simp [e])
    have ih := splitC_one (x := x) (fun hm => h (List.mem_cons_of_mem _ hm))
    rw [splitC, if_neg hb, ih]
theorem splitC_at {c : UInt8} (rest : Str) : ∀ {x : Str}, c ∉ x → splitC c (x ++ c :: rest) = x :: splitC c rest
  | [], _ => by rw [List.nil_append, splitC, if_pos rfl]
  | b :: x, h => by
    have hb : b ≠ c := fun e => h (by simp [e])
    have ih := splitC_at (c := c) rest (x := x) (fun hm => h (List.mem_cons_of_mem _ hm))
    rw [List.cons_append, splitC, if_neg hb, ih]
theorem atoi_num {m : Int} (h : numB m = true) : atoiB (Lib.itoa m) = some (m, false) := by
  obtain ⟨h0, h1⟩ := numB_iff.1 h
  have := num_len h
  unfold atoiB
  rw [if_pos (by omega), atoi_itoa (by omega) (by omega)]
theorem trim_hash (s : Str) : M.strings_TrimPrefix (35 :: s) [35] = some s := by
  unfold M.strings_TrimPrefix M.internal_stringslite_TrimPrefix M.internal_stringslite_HasPrefix
  have h1 : (([35] : Str).length : Int) ≤ ((35 :: s : Str).length : Int) := by simp; omega
  have h2 : slcHi (35 :: s : Str) (([35] : Str).length : Int) = some [35] := by
    unfold slcHi
    rw [if_pos (by simp; omega)]; rfl
  have h3 : slcLo (35 :: s : Str) (([35] : Str).length : Int) = some s := by
    unfold slcLo
    rw [if_pos (by simp; omega)]; rfl
  rw [if_pos h1, h2, Option.bind_some, Option.bind_some]
  rw [if_pos (by decide), h3]; rfl
theorem parseID_ok {i : api_Id} (h : idB i = true) : M.markup_parseID (idF i) = some (i, true) := by
  obtain ⟨h1, h2, h3⟩ := idB_iff.1 h
  have no : ∀ n : Int, (46 : UInt8) ∉ Lib.itoa n := fun n => itoa_no n 46 (by decide)
  have hsp : splitM (Lib.itoa i.Act ++ 46 :: (Lib.itoa i.Item ++ 46 :: Lib.itoa i.N)) [46] = some [Lib.itoa i.Act, Lib.itoa i.Item, Lib.itoa i.N] := by
    have := num_len h1; have := num_len h2; have := num_len h3
    show (if _ then some (splitC 46 _) else none) = _
    rw [if_pos (by simp; omega), splitC_at _ (no _), splitC_at _ (no _), splitC_one (no _)]
  have hr : ∀ k : Int, 0 ≤ k → k < 3 → ∃ u, rngC 3 k = some u := by
    intro k h0 h3
    unfold rngC
    rw [if_pos (by omega)]
    exact ⟨_, rfl⟩
  obtain ⟨u0, r0⟩ := hr 0 (by decide) (by decide)
  obtain ⟨u1, r1⟩ := hr 1 (by decide) (by decide)
  obtain ⟨u2, r2⟩ := hr 2 (by decide) (by decide)
  have r1' : rngC 3 ((0 : Int) + 1) = some u1 := r1
  have r2' : rngC 3 ((0 : Int) + 1 + 1) = some u2 := r2
  have hl : M.markup_parseID_loop1 [Lib.itoa i.Act, Lib.itoa i.Item, Lib.itoa i.N] (0 : Int) zapi_Id (List.replicate 3 (0 : Int)) = some (.inl (zapi_Id, [i.Act, i.Item, i.N])) := by
    simp only [M.markup_parseID_loop1, atoi_num h1, atoi_num h2, atoi_num h3, Option.bind_some, r0, r1', r2']
    rfl
  unfold M.markup_parseID idF
  rw [trim_hash, Option.bind_some, hsp, Option.bind_some, if_neg (by simp), hl, Option.bind_some]
  dsimp only
  rw [r0, r1, r2, Option.bind_some, Option.bind_some, Option.bind_some]
  have e : (⟨([i.Act, i.Item, i.N][(0 : Int).toNat]?).getD (0 : Int), ([i.Act, i.Item, i.N][(1 : Int).toNat]?).getD (0 : Int), ([i.Act, i.Item, i.N][(2 : Int).toNat]?).getD (0 : Int)⟩ : api_Id) = i := rfl
  rw [e, validID_ok, Option.bind_some, if_pos h, fid_ok h, Option.bind_some]
  simp [idF]
theorem name_inj : ∀ a b : Fin 8, nameOf (a.val : Int) = nameOf (b.val : Int) → a = b := by decide
theorem kind_loop {k : Int} (h0 : 0 ≤ k) (h7 : k ≤ 7) (r : List Str) : ∀ (m c : Nat) (t : TU), m + c = 8 →
    To (fun n => M.markup_parseFront_loop1 (nameOf k :: r) n (c : Int) t) (if (c : Int) ≤ k then { t with Kind := k } else t)
  | 0, c, t, hc => by
    refine To.succ ?_
    simp only [M.markup_parseFront_loop1]
    refine To.bind (a := false) (To.neg (by omega) To.pure) (To.neg (by decide) (To.pure.of (if_neg (by omega)).symm))
  | m + 1, c, t, hc => by
    refine To.succ ?_
    simp only [M.markup_parseFront_loop1]
    refine To.bind (a := true) (To.pos (by omega) (To.pure.of (by simp))) (To.pos rfl (To.bindS (kname _) (To.bindS idx_zero ?_)))
    by_cases he : (c : Int) = k
    · subst he
      refine To.pos (by simp) (To.bindS (addC_succ (by omega)) ((kind_loop h0 h7 r m (c + 1) _ (by omega)).of ?_))
      rw [if_neg (by omega), if_pos (Int.le_refl _)]
    · refine To.neg ?_ (To.bindS (addC_succ (by omega)) ((kind_loop h0 h7 r m (c + 1) _ (by omega)).of ?_))
      · intro e
        rw [beq_str] at e
        obtain ⟨q, rfl⟩ : ∃ q : Nat, k = (q : Int) := ⟨k.toNat, by omega⟩
        have := name_inj ⟨c, by omega⟩ ⟨q, by omega⟩ e
        have := congrArg Fin.val this
        exact he (by simp at this; omega)
      · by_cases h : (c : Int) ≤ k
        · rw [if_pos h, if_pos (by omega)]
        · rw [if_neg h, if_neg (by omega)]
theorem kind_none (t : TU) : To (fun n => M.markup_parseFront_loop1 [] n (0 : Int) t) t := by
  refine To.succ ?_
  simp only [M.markup_parseFront_loop1]
  exact To.bind (a := false) (To.pos (by decide) (To.pure.of (by simp))) (To.neg (by decide) To.pure)
theorem hi_snoc {α : Type} (l : List α) (x : α) : slcHi (l ++ [x]) (l.length : Int) = some l := by
  unfold slcHi
  rw [if_pos (by simp; omega)]
  simp
theorem idx_snoc {α : Type} (l : List α) (x : α) : idx (l ++ [x]) (l.length : Int) = some x := by
  rw [idx_nat]; simp
def z0 (t : TU) : TU := { zapi_TrackedUnit with State := t.State, Moved := t.Moved }
def zF (t : TU) : TU := { z0 t with Id := t.Id, Kind := t.Kind, Label := t.Label, Was := t.Was }
theorem front_ok {t : TU} (h : ownB t = true) (hl : (frF t).length ≤ 1000000) : To (fun n => M.markup_parseFront n (frF t) (z0 t)) (true, zF t) := by
  obtain ⟨⟨k0, k7, kid⟩, _⟩ := of_decide_eq_true h
  obtain ⟨hlab, hwas⟩ := own_lab h
  obtain ⟨L, hL⟩ : ∃ L, L = nameOf t.Kind :: (labP t.Label ++ wasP t.Was) := ⟨_, rfl⟩
  have hsp : splitM (frF t) [32] = some (L ++ [idF t.Id]) := by
    show (if _ then some (splitC 32 _) else none) = _
    rw [if_pos (by omega), fr_split h, hL]
    simp [frP]
  have hLl : L.length ≤ 4 := by
    rw [hL]
    unfold labP wasP
    split <;> split <;> simp
  have hsub : subC ((L ++ [idF t.Id]).length : Int) (1 : Int) = some (L.length : Int) := by
    rw [subC_eq (by simp) (by simp; omega)]
    simp
  have hk := kind_loop k0 k7 (labP t.Label ++ wasP t.Was) 8 0 { z0 t with Id := t.Id } rfl
  rw [← hL, if_pos (by omega)] at hk
  simp only [M.markup_parseFront]
  refine To.bindS hsp (To.bindS hsub (To.bindS (idx_snoc _ _) (To.bindS (parseID_ok kid) (To.neg (by simp) (To.bindS hsub (To.bindS (hi_snoc _ _) (To.bind hk ?_)))))))
  have hw : ∀ s : Str, labB s = true → (s == ([119, 97, 115] : Str)) = false := by
    intro s hs
    have : s ≠ [119, 97, 115] := by
      rintro rfl
      exact absurd hs (by decide)
    simpa using this
  by_cases h1 : t.Label = []
  · by_cases h2 : t.Was = []
    · have e : L = [nameOf t.Kind] := by rw [hL, h1, h2]; rfl
      rw [e]
      refine To.bind (a := false) (To.neg (by simp) To.pure) (To.neg (by decide) (To.neg (by simp) (To.neg (by simp) (To.pure.of ?_))))
      simp [zF, h1, h2, z0, zapi_TrackedUnit]
    · have e : L = [nameOf t.Kind, [119, 97, 115], t.Was] := by rw [hL, h1]; simp [labP, wasP, h2]
      rw [e]
      refine To.bind (a := true) (To.pos (by simp) (To.bindS (a := [119, 97, 115]) rfl (To.pure.of (by simp)))) (To.pos rfl (To.bindS (a := t.Was) rfl (To.pure.of ?_)))
      simp [zF, h1, z0, zapi_TrackedUnit]
  · by_cases h2 : t.Was = []
    · have e : L = [nameOf t.Kind, t.Label] := by rw [hL, h2]; simp [labP, wasP, h1]
      rw [e]
      refine To.bind (a := false) (To.neg (by simp) To.pure) (To.neg (by decide) (To.neg (by simp) (To.pos (by simp) (To.bindS (a := t.Label) rfl (To.pure.of ?_)))))
      simp [zF, h2, z0, zapi_TrackedUnit]
    · have e : L = [nameOf t.Kind, t.Label, [119, 97, 115], t.Was] := by rw [hL]; simp [labP, wasP, h1, h2]
      rw [e]
      refine To.bind (a := false) (To.neg (by simp) To.pure) (To.neg (by decide) (To.pos (by simp) (To.bindS (a := t.Label) rfl (To.bindS (a := t.Was) rfl (To.pure.of ?_)))))
      simp [zF, z0, zapi_TrackedUnit]
theorem front_place (t : TU) (h : idB t.Id = true) : To (fun n => M.markup_parseFront n (idF t.Id) (z0 t)) (true, { z0 t with Id := t.Id }) := by
  have hno : (32 : UInt8) ∉ idF t.Id := idF_no _ _ (by decide) (by decide) (by decide)
  have hl := idF_len h
  have hsp : splitM (idF t.Id) [32] = some [idF t.Id] := by
    show (if _ then some (splitC 32 _) else none) = _
    rw [if_pos (by omega), splitC_one hno]
  simp only [M.markup_parseFront]
  refine To.bindS hsp (To.bindS (a := 0) rfl (To.bindS (a := idF t.Id) rfl (To.bindS (parseID_ok h) (To.neg (by simp) (To.bindS (a := 0) rfl (To.bindS (a := []) rfl (To.bind (kind_none _) ?_)))))))
  exact To.bind (a := false) (To.neg (by decide) To.pure) (To.neg (by decide) (To.neg (by decide) (To.neg (by decide) To.pure)))
def sp (b : UInt8) : Bool := b == 32
theorem trim_ok (s : Str) : To (fun n => M.strings_TrimLeft n s [32]) (s.dropWhile sp) := by
  have loop : ∀ s : Str, To (fun n => M.strings_trimLeftByte_loop1 (32 : Int) n s) (s.dropWhile sp) := by
    intro s
    induction s with
    | nil =>
      refine To.succ ?_
      simp only [M.strings_trimLeftByte_loop1]
      exact To.neg (by simp) To.pure
    | cons c r ih =>
      refine To.succ ?_
      simp only [M.strings_trimLeftByte_loop1]
      refine To.pos (by simp) (To.bindS idx_zero ?_)
      by_cases hc : c = 32
      · subst hc
        refine To.pos (by decide) (To.bindS (a := r) ?_ (ih.of (by rw [List.dropWhile_cons_of_pos (by decide)])))
        unfold slcLo
        rw [if_pos (by simp; omega)]; rfl
      · refine To.neg ?_ (To.pure.of (by rw [List.dropWhile_cons_of_neg (by simpa [sp] using hc)]))
        intro e
        apply hc
        apply UInt8.toNat_inj.1
        show c.toNat = 32
        omega
  simp only [M.strings_TrimLeft]
  by_cases hs : s = []
  · subst hs
    exact To.bind (a := true) (To.pos (by simp) To.pure) (To.pos rfl To.pure)
  · refine To.bind (a := false) (To.neg (by simpa using hs) (To.pure.of (by decide))) (To.neg (by simp) ?_)
    refine To.bind (a := true) (To.pos (by decide) (To.bindS idx_zero (To.pure.of (by decide)))) (To.pos rfl (To.bindS idx_zero ?_))
    refine To.bind (a := s.dropWhile sp) ?_ To.pure
    simp only [M.strings_trimLeftByte]
    exact To.bind (loop s) To.pure
def Sgn (t : TU) : Prop := ownS t ∨ t.State = 2 ∧ t.Moved = true
theorem sg_ne32 (t : TU) : ∃ b, sgF t = [b] ∧ b ≠ 32 := by
  unfold sgF
  split
  · split
    · exact ⟨_, rfl, by decide⟩
    · exact ⟨_, rfl, by decide⟩
  · split
    · exact ⟨_, rfl, by decide⟩
    · split
      · exact ⟨_, rfl, by decide⟩
      · exact ⟨_, rfl, by decide⟩
theorem ind_drop (d : Nat) (s : Str) : (indF d ++ s).dropWhile sp = s.dropWhile sp := by
  induction d with
  | zero => rfl
  | succ d ih =>
    have e : indF (d + 1) ++ s = 32 :: 32 :: (indF d ++ s) := by
      unfold indF
      rw [Lib.repeatL]; rfl
    rw [e, List.dropWhile_cons_of_pos (by decide), List.dropWhile_cons_of_pos (by decide), ih]
theorem line_trim (t : TU) (d : Nat) : (lineF d t).dropWhile sp = sgF t ++ (32 :: restF t) := by
  obtain ⟨b, hb, hn⟩ := sg_ne32 t
  unfold lineF
  rw [ind_drop, hb, List.singleton_append, List.dropWhile_cons_of_neg (by simpa [sp] using hn)]
theorem may_cases {k d j : Nat} {t : TU} (hm : mayF k d t = true) (hs : szP j t) : placeB t = true ∨ ownB t = true := by
  cases k with
  | zero => cases hm
  | succ k =>
    unfold mayF at hm
    rw [Bool.or_eq_true, Bool.and_eq_true, Bool.and_eq_true] at hm
    rcases hm with ⟨_, hm⟩ | ⟨hm, _⟩
    · exact .inl hm
    · exact .inr hm
theorem own_sg {t : TU} (h : ownB t = true) : sgF t ≠ [60] := by
  obtain ⟨_, _, _, _, h5⟩ := of_decide_eq_true h
  unfold sgF
  rcases h5 with h | ⟨h, h2⟩
  · rw [if_pos h, if_pos h]
    split <;> decide
  · rw [h2]
    simp only [Bool.false_eq_true, if_false]
    split
    · decide
    · split <;> decide
theorem fr_len {t : TU} (h : LineP t) : (frF t).length ≤ 1000 := by
  obtain ⟨h1, h2, h3, h4, h5, h6⟩ := h
  have := idF_len h1; have := labT_len t.Label; have := wasT_len t.Was; have := name_len t.Kind
  rw [frF_eq]
  simp; omega
theorem sk_self (t : TU) : spSk t t.Kids = t := by
  cases t; rfl
theorem sk_own (t : TU) : ownB (spSk t []) = ownB t := rfl
theorem sk_line (t : TU) (d : Nat) : lineF d (spSk t []) = lineF d t := rfl
theorem sk_lineP {t : TU} (h : LineP t) : LineP (spSk t []) := h
theorem fin_ok {t : TU} {d : Nat} (hd : d ≤ 8) (hL : LineP t) (hb : t.Head.length + t.Words.length ≤ 2000) (h : placeB (spSk t []) = true ∨ ownB t = true) :
    To (fun n => if true = false then some true else
      Option.bind (M.markup_validUnit n (spSk t [])) fun validu =>
        if validu = false then
          Option.bind (M.markup_isPlaceholder (spSk t [])) fun isplac =>
          if isplac = false then some true else
            Option.bind (M.markup_line n (spSk t []) (d : Int)) fun line => some (line != lineF d t)
        else
          Option.bind (M.markup_line n (spSk t []) (d : Int)) fun line1 => some (line1 != lineF d t)) false := by
  have hln := line_ok (spSk t []) d (by omega) (sk_lineP hL)
  rw [sk_line] at hln
  refine To.neg (by decide) (To.bind (own_ok (spSk t [])) ?_)
  rw [sk_own]
  by_cases ho : ownB t = true
  · exact To.neg (by simp [ho]) (To.bind hln (To.pure.of (by simp)))
  · have hp := h.resolve_right ho
    refine To.pos (by simpa using ho) (To.bindS (place_ok _ (by show t.Head.length + t.Words.length + 0 ≤ _; omega)) ?_)
    exact To.neg (by simp [hp]) (To.bind hln (To.pure.of (by simp)))
theorem row_size {l : List TW} (h : rowB l = true) : l.length ≤ 512 := by
  unfold rowB at h
  rw [Bool.and_eq_true] at h
  exact of_decide_eq_true h.1
theorem parse_line {k j : Nat} (t : TU) (d : Nat) (hd : d ≤ 8) (hm : mayF k d t = true) (hs : szP j t) : To (fun n => M.markup_parseLine n (lineF d t)) (spSk t [], (d : Int), true) := by
  have hL := may_line hm hs
  have hll := line_len (d := d) (by omega) hL
  have hrl := rest_len hL
  have hfl := fr_len hL
  obtain ⟨b, hb, hn⟩ := sg_ne32 t
  have hcase := may_cases hm hs
  have htr := trim_ok (lineF d t)
  rw [line_trim] at htr
  have hsub : subC ((lineF d t).length : Int) ((sgF t ++ (32 :: restF t)).length : Int) = some ((d * 2 : Nat) : Int) := by
    have e : (lineF d t).length = d * 2 + (sgF t ++ (32 :: restF t)).length := by
      unfold lineF
      rw [List.length_append, indF_len]
    rw [e, subC_eq (by omega) (by omega)]
    congr 1
    omega
  have hquo : quoC ((d * 2 : Nat) : Int) (2 : Int) = some (d : Int) := by
    have := quo_nat (d * 2) 2 (by omega) (by decide)
    rw [show ((2 : Nat) : Int) = 2 from rfl] at this
    rw [this]
    congr 2
    omega
  have hsz : t.Head.length + t.Words.length ≤ 2000 := by
    rcases hcase with h | h
    · have := (of_decide_eq_true h).2.2.2.2.2.2
      omega
    · obtain ⟨_, ⟨h1, h2⟩, _⟩ := of_decide_eq_true h
      have := row_size h1; have := row_size h2
      omega
  have hfin := fin_ok hd hL hsz (by
    rcases hcase with h | h
    · left
      have e : spSk t [] = t := by
        have := (place_own h).1
        rw [← this]
        exact sk_self t
      rw [e]; exact h
    · exact .inr h)
  have hsg : (Option.bind (idx (sgF t ++ (32 :: restF t)) (0 : Int)) fun b3 =>
          if (b3.toNat : Int) = (61 : Int) then
            (some (.inl (zapi_TrackedUnit, zapi_TrackedUnit)) : Option ((api_TrackedUnit × api_TrackedUnit) ⊕ (api_TrackedUnit × Int × Bool)))
          else
            if (b3.toNat : Int) = (43 : Int) then
              some (.inl (zapi_TrackedUnit, ({ zapi_TrackedUnit with State := (1 : Int) } : api_TrackedUnit)))
            else
              if (b3.toNat : Int) = (62 : Int) then
                some (.inl (zapi_TrackedUnit, ({ ({ zapi_TrackedUnit with State := (1 : Int) } : api_TrackedUnit) with Moved := true } : api_TrackedUnit)))
              else
                if (b3.toNat : Int) = (45 : Int) then
                  some (.inl (zapi_TrackedUnit, ({ zapi_TrackedUnit with State := (2 : Int) } : api_TrackedUnit)))
                else
                  if (b3.toNat : Int) = (60 : Int) then
                    some (.inl (zapi_TrackedUnit, ({ ({ zapi_TrackedUnit with State := (2 : Int) } : api_TrackedUnit) with Moved := true } : api_TrackedUnit)))
                  else
                    some (.inr ((⟨(0 : Int), (0 : Int), zapi_Id, ([] : Str), ([] : Str), false, ([] : List api_TrackedWord), ([] : List api_TrackedWord), ([] : List api_TrackedUnit)⟩ : api_TrackedUnit), (0 : Int), false))) = some (.inl (zapi_TrackedUnit, z0 t)) := by
    have hS : Sgn t := by
      rcases hcase with h | h
      · exact .inr ⟨(of_decide_eq_true h).1, (of_decide_eq_true h).2.1⟩
      · exact .inl (of_decide_eq_true h).2.2.2.2
    have e0 : ∀ c : UInt8, sgF t = [c] → idx (sgF t ++ (32 :: restF t)) (0 : Int) = some c := by
      intro c hc
      rw [hc]; rfl
    rcases hS with h | ⟨h1, h2⟩
    · by_cases hmv : t.Moved = true
      · rcases h with h | ⟨_, h⟩
        · have hc : sgF t = [62] := by unfold sgF; rw [if_pos hmv, if_pos h]
          rw [e0 _ hc]
          simp [z0, hmv, h]
        · rw [h] at hmv; cases hmv
      · have hmv' : t.Moved = false := by simpa using hmv
        have h3 : t.State = 1 ∨ t.State = 0 ∨ t.State = 2 := by
          rcases h with h | ⟨h | h, _⟩
          · exact .inl h
          · exact .inr (.inl h)
          · exact .inr (.inr h)
        rcases h3 with h | h | h
        · have hc : sgF t = [43] := by unfold sgF; rw [if_neg hmv, if_pos h]
          rw [e0 _ hc]
          simp [z0, hmv', h, zapi_TrackedUnit]
        · have hc : sgF t = [61] := by unfold sgF; rw [if_neg hmv, if_neg (by omega), if_neg (by omega)]
          rw [e0 _ hc]
          simp [z0, hmv', h, zapi_TrackedUnit]
        · have hc : sgF t = [45] := by unfold sgF; rw [if_neg hmv, if_neg (by omega), if_pos h]
          rw [e0 _ hc]
          simp [z0, hmv', h, zapi_TrackedUnit]
    · have hc : sgF t = [60] := by unfold sgF; rw [if_pos h2, if_neg (by omega)]
      rw [e0 _ hc]
      simp [z0, h1, h2]
  simp only [M.markup_parseLine]
  refine To.bind htr (To.bindS hsub (To.bindS hquo (To.bind (a := false) (To.neg ?_ (To.bindS (a := 32) ?_ (To.pure.of (by decide)))) (To.neg (by decide) (To.bindS hsg ?_)))))
  · rw [List.length_append, sgF_len]
    simp; omega
  · rw [hb]; rfl
  have hlo : slcLo (sgF t ++ (32 :: restF t)) (2 : Int) = some (restF t) := by
    rw [hb]
    unfold slcLo
    rw [if_pos (by simp; omega)]; rfl
  have hcm : ∀ s sep : Str, s.length ≤ 200000 → cutM s sep = some (Lib.cut s sep) := fun s sep h => if_pos (by omega)
  dsimp only
  refine To.bindS hlo (To.bindS (hcm _ _ (by omega)) ?_)
  by_cases ho : ownB t = true
  · have hsn := own_sg ho
    obtain ⟨⟨k0, k7, kid⟩, ⟨hr1, hr2⟩, _⟩ := of_decide_eq_true ho
    have hpl : (frF t ++ headT t.Head).length ≤ 200000 := by
      have := headT_len t.Head
      rw [List.length_append]; omega
    rw [rest_cut ho hsn]
    dsimp only
    refine To.bindS (hcm _ _ hpl) ?_
    rw [front_cut ho]
    dsimp only
    refine To.bind (front_ok ho (by omega)) ?_
    dsimp only
    refine To.bind (a := (true, { zF t with Head := t.Head })) ?_ ?_
    · by_cases hh : t.Head.length = 0
      · have h0 : t.Head = [] := List.eq_nil_of_length_eq_zero hh
        refine To.bind (a := false) (To.neg (by simp [hh]) To.pure) (To.neg (by decide) (To.pure.of ?_))
        rw [h0]; rfl
      · have hps := parse_ok (rowF t.Head) (row_len _)
        rw [row_back _ hr1] at hps
        rw [if_neg hh]
        exact To.bind (a := true) (To.pos (by simp [hh]) To.pure) (To.pos rfl (To.bind hps To.pure))
    dsimp only
    refine To.bind (a := (true, spSk t [])) ?_ ?_
    · by_cases hh : t.Words.length = 0
      · have h0 : t.Words = [] := List.eq_nil_of_length_eq_zero hh
        refine To.bind (a := false) (To.neg (by simp [hh]) To.pure) (To.neg (by decide) (To.pure.of ?_))
        unfold spSk zF z0
        rw [h0]; rfl
      · have hps := parse_ok (rowF t.Words) (row_len _)
        rw [row_back _ hr2] at hps
        rw [if_neg hh]
        exact To.bind (a := true) (To.pos (by simp [hh]) To.pure) (To.pos rfl (To.bind hps To.pure))
    · exact To.bind hfin (To.neg (by decide) To.pure)
  · have hp := hcase.resolve_right ho
    obtain ⟨p1, p2, p3, p4, p5, p6, p7⟩ := of_decide_eq_true hp
    have hsg2 := (place_own hp).2
    have hre : restF t = idF t.Id := if_pos hsg2
    have hb1 := bar_none (x := idF t.Id) (ps := []) (idF_no _ _ (by decide) (by decide) (by decide)) (fun p hp => by cases hp)
    rw [show tailS [] = [] from rfl, List.append_nil] at hb1
    have hc1 := colon_none (x := idF t.Id) (idF_no _ _ (by decide) (by decide) (by decide))
    have hil := idF_len p3
    rw [hre, show ([32, 124, 32] : Str) = barS from rfl, hb1]
    dsimp only
    refine To.bindS (hcm _ _ (by omega)) ?_
    rw [hc1]
    dsimp only
    refine To.bind (front_place t p3) ?_
    dsimp only
    have e : ({ z0 t with Id := t.Id } : TU) = spSk t [] := by
      have h1 : t.Head = [] := List.eq_nil_of_length_eq_zero (by omega)
      have h2 : t.Words = [] := List.eq_nil_of_length_eq_zero (by omega)
      unfold spSk z0
      rw [p4, p5, p6, h1, h2]; rfl
    rw [e]
    refine To.bind (a := (true, spSk t [])) (To.bind (a := false) (To.neg (by decide) To.pure) (To.neg (by decide) To.pure)) ?_
    dsimp only
    refine To.bind (a := (true, spSk t [])) (To.bind (a := false) (To.neg (by decide) To.pure) (To.neg (by decide) To.pure)) ?_
    dsimp only
    exact To.bind hfin (To.neg (by decide) To.pure)
theorem chB_no10 {s : Str} (h : wordB s = true) : (10 : UInt8) ∉ s := by
  intro hm
  unfold wordB at h
  rw [Bool.and_eq_true] at h
  have := List.all_eq_true.1 h.2 _ hm
  revert this; decide
theorem esc_no10 {s : Str} (h : wordB s = true) : (10 : UInt8) ∉ esc s := by
  have h1 := chB_no10 h
  unfold esc
  split
  · simp
  · split
    · simp at h1 ⊢; exact h1
    · exact h1
theorem row_no10 : ∀ (l : List TW) (p : Option Int), l.all stB = true → (10 : UInt8) ∉ rowT p l
  | [], _, _ => by simp [rowT]
  | w :: l, p, h => by
    rw [List.all_cons, Bool.and_eq_true] at h
    have ih := row_no10 l (some w.State) h.2
    have he := esc_no10 (stB_iff.1 h.1).1
    have hop : ∀ s, (10 : UInt8) ∉ opS s := by
      intro s; unfold opS; split
      · decide
      · split <;> decide
    have hsh : ∀ s, (10 : UInt8) ∉ shS s := by
      intro s; unfold shS; split
      · decide
      · split <;> decide
    unfold rowT
    intro hm
    rcases List.mem_append.1 hm with hm | hm
    · split at hm
      · revert hm; decide
      · cases hm
    rcases List.mem_append.1 hm with hm | hm
    · split at hm
      · cases hm
      · exact hop _ hm
    rcases List.mem_append.1 hm with hm | hm
    · exact he hm
    rcases List.mem_append.1 hm with hm | hm
    · split at hm
      · exact hsh _ hm
      · cases hm
    · exact ih hm
theorem rowF_no10 (l : List TW) : (10 : UInt8) ∉ rowF l := by
  unfold rowF
  split
  · rename_i h
    unfold rowB at h
    rw [Bool.and_eq_true] at h
    exact row_no10 l none h.2
  · simp
theorem lab_no10 {s : Str} (h : labB s = true) : (10 : UInt8) ∉ s := by
  unfold labB at h
  simp only [Bool.and_eq_true] at h
  intro hm
  rw [← List.take_append_drop (s.takeWhile isDig).length s] at hm
  rcases List.mem_append.1 hm with hm | hm
  · have e : s.take (s.takeWhile isDig).length = s.takeWhile isDig := by
      have h0 := List.takeWhile_append_dropWhile (p := isDig) (l := s)
      have : (s.takeWhile isDig ++ s.dropWhile isDig).take (s.takeWhile isDig).length = s.takeWhile isDig := by rw [List.take_append_of_le_length (Nat.le_refl _), List.take_length]
      rw [h0] at this
      exact this
    rw [e] at hm
    have := List.all_takeWhile (p := isDig) (l := s)
    have := List.all_eq_true.1 this _ hm
    revert this; decide
  · have := List.all_eq_true.1 h.2 _ hm
    revert this; decide
theorem name_no10 {k : Int} (h0 : 0 ≤ k) (h1 : k ≤ 7) : (10 : UInt8) ∉ nameOf k := by
  obtain ⟨m, rfl⟩ : ∃ m : Nat, k = (m : Int) := ⟨k.toNat, by omega⟩
  have hm : m = 0 ∨ m = 1 ∨ m = 2 ∨ m = 3 ∨ m = 4 ∨ m = 5 ∨ m = 6 ∨ m = 7 := by omega
  rcases hm with rfl | rfl | rfl | rfl | rfl | rfl | rfl | rfl <;> decide
theorem ind_no10 : ∀ d : Nat, (10 : UInt8) ∉ indF d
  | 0 => by simp [indF, Lib.repeatL]
  | d + 1 => by
    have := ind_no10 d
    rw [← indF_succ]
    simp [this]
theorem line_no10 {k d j : Nat} {t : TU} (hm : mayF k d t = true) (hs : szP j t) : (10 : UInt8) ∉ lineF d t := by
  have hid : (10 : UInt8) ∉ idF t.Id := idF_no _ _ (by decide) (by decide) (by decide)
  obtain ⟨b, hb, hn⟩ := sg_ne32 t
  have hsg : (10 : UInt8) ∉ sgF t := by
    unfold sgF
    split
    · split <;> decide
    · split
      · decide
      · split <;> decide
  have hre : (10 : UInt8) ∉ restF t := by
    rcases may_cases hm hs with h | h
    · have : restF t = idF t.Id := if_pos (place_own h).2
      rw [this]; exact hid
    · obtain ⟨⟨k0, k7, kid⟩, ⟨hr1, hr2⟩, _⟩ := of_decide_eq_true h
      obtain ⟨h1, h2⟩ := own_lab h
      have a1 := name_no10 k0 k7
      have a2 : (10 : UInt8) ∉ labT t.Label := by
        unfold labT; split
        · simp
        · rename_i hq
          have := lab_no10 (h1 hq)
          simp [this]
      have a3 : (10 : UInt8) ∉ wasT t.Was := by
        unfold wasT; split
        · simp
        · rename_i hq
          have := lab_no10 (h2 hq)
          simp [this]
      have a4 : (10 : UInt8) ∉ headT t.Head := by
        unfold headT; split
        · simp
        · have := rowF_no10 t.Head
          simp [this]
      have a5 : (10 : UInt8) ∉ wordsT t.Words := by
        unfold wordsT; split
        · simp
        · have := rowF_no10 t.Words
          simp [this]
      rw [rest_own (own_sg h), frF_eq]
      simp [a1, a2, a3, a4, a5, hid]
  unfold lineF
  have := ind_no10 d
  simp [this, hsg, hre]
end Go.Proofs.YtalogjkalmkpjaaGreatDoor
/-
  The spine of open levels: the lines of a unit, read at its depth, add that unit to the open level.
-/
set_option linter.unusedVariables false
set_option linter.unusedSimpArgs false
namespace Go.Proofs.YtalogjkalmkpjaaGreatDoor
open Go Go.Dec
def nrm (sp : SpL) : SpL := sp.map fun x => (x.1, spSk x.2 [])
theorem nrm_app (a b : SpL) : nrm (a ++ b) = nrm a ++ nrm b := List.map_append ..
theorem nrm_len (a : SpL) : (nrm a).length = a.length := List.length_map ..
theorem sk_sk (u : TU) (a b : List TU) : spSk (spSk u a) b = spSk u b := rfl
def Opn (T : SpL) (xs : List TU) (u : TU) (sp : SpL) (ys : List TU) : Prop :=
  T.length + 1 ≤ sp.length ∧ nrm (sp.take (T.length + 1)) = nrm T ++ [(xs, spSk u [])] ∧ M.sp_v (sp.drop (T.length + 1)) = ys
theorem Opn.split {T : SpL} {xs : List TU} {u : TU} {sp : SpL} {ys : List TU} (h : Opn T xs u sp ys) :
    ∃ u' r, sp.drop T.length = (xs, u') :: r ∧ spSk u' [] = spSk u [] ∧ M.sp_v r = ys ∧ nrm (sp.take T.length) = nrm T := by
  obtain ⟨h1, h2, h3⟩ := h
  have hd : sp.drop T.length = sp[T.length] :: sp.drop (T.length + 1) := List.drop_eq_getElem_cons (by omega)
  have ht : sp.take (T.length + 1) = sp.take T.length ++ [sp[T.length]] := by
    rw [List.take_add_one, List.getElem?_eq_getElem (by omega)]; rfl
  rw [ht, nrm_app] at h2
  have hl : (nrm (sp.take T.length)).length = (nrm T).length := by
    rw [nrm_len, nrm_len, List.length_take]; omega
  obtain ⟨e1, e2⟩ := List.append_inj h2 hl
  have e3 := List.head_eq_of_cons_eq e2
  have e4 : sp[T.length].1 = xs := congrArg Prod.fst e3
  have e5 : spSk sp[T.length].2 [] = spSk u [] := congrArg Prod.snd e3
  exact ⟨sp[T.length].2, sp.drop (T.length + 1), by rw [hd, ← e4], e5, h3, e1⟩
theorem spSk_eq {a b : TU} (h : spSk a [] = spSk b []) (ks : List TU) : spSk a ks = spSk b ks := by
  have := congrArg (fun x => spSk x ks) h
  exact this
theorem Opn.at {T : SpL} {xs : List TU} {u : TU} {sp : SpL} {ys : List TU} (h : Opn T xs u sp ys) : M.sp_at sp T.length = some (spSk u ys) := by
  obtain ⟨u', r, h1, h2, h3, h4⟩ := h.split
  unfold M.sp_at
  rw [h1, ← h3, ← spSk_eq h2]
theorem Opn.push {T : SpL} {xs : List TU} {u : TU} {sp : SpL} {ys : List TU} (h : Opn T xs u sp ys) (hl : ys.length ≤ 100000) (w : TU) :
    ∃ sp2, M.sp_push sp T.length w = some sp2 ∧ Opn (T ++ [(xs, u)]) ys w sp2 [] := by
  obtain ⟨u', r, h1, h2, h3, h4⟩ := h.split
  have hT : (sp.take T.length).length = T.length := by
    have := h.1
    rw [List.length_take]; omega
  refine ⟨sp.take T.length ++ [(xs, spSk u' (ys ++ [w])), (ys, w)], ?_, ?_, ?_, ?_⟩
  · unfold M.sp_push
    rw [h1]
    show Option.bind (appC (M.sp_v r) [w]) _ = _
    rw [h3, appC_eq (by simp; omega)]; rfl
  · simp [hT]
  · have e : (sp.take T.length ++ [(xs, spSk u' (ys ++ [w])), (ys, w)]).take ((T ++ [(xs, u)]).length + 1) = sp.take T.length ++ [(xs, spSk u' (ys ++ [w])), (ys, w)] := by
      rw [List.take_of_length_le]
      simp [hT]
    rw [e, nrm_app, h4, nrm_app, List.append_assoc]
    congr 1
    show [(xs, spSk (spSk u' (ys ++ [w])) []), (ys, spSk w [])] = [(xs, spSk u [])] ++ [(ys, spSk w [])]
    rw [sk_sk, h2]; rfl
  · rw [List.drop_eq_nil_of_le (by simp [hT])]; rfl
theorem Opn.shut {T : SpL} {xs ys ks : List TU} {u w : TU} {sp : SpL} (h : Opn (T ++ [(xs, u)]) ys w sp ks) : Opn T xs u sp (ys ++ [spSk w ks]) := by
  have hl := h.1
  rw [List.length_append, List.length_singleton] at hl
  obtain ⟨w', r, h1, h2, h3, h4⟩ := h.split
  rw [List.length_append, List.length_singleton] at h1 h4
  refine ⟨by omega, ?_, ?_⟩
  · rw [h4, nrm_app]; rfl
  · rw [h1]
    show ys ++ [spSk w' (M.sp_v r)] = _
    rw [h3, spSk_eq h2]
theorem nl_cut {x : Str} (hx : (10 : UInt8) ∉ x) (y : Str) : Lib.cut (x ++ (10 :: y)) [10] = (x, y, true) := by
  refine cut_of ?_ rfl
  rw [index_skip 10 [] _ x hx, index_here (by simp [List.isPrefixOf])]
  simp [addI]
def Par (u : TU) : Prop := ¬ (u.State = 2 ∧ u.Moved = true) ∧ u.Head.length + u.Words.length ≤ 2000
theorem par_sk {u : TU} (h : Par u) (ks : List TU) (hk : ks.length ≤ 90000) : M.markup_isPlaceholder (spSk u ks) = some false := by
  have := h.2
  rw [place_ok _ (by show u.Head.length + u.Words.length + ks.length ≤ _; omega)]
  have hn : ¬ placeP (spSk u ks) := fun hp => h.1 ⟨hp.1, hp.2.1⟩
  unfold placeB
  rw [decide_eq_false hn]
theorem may_par {k d j : Nat} {t : TU} (hm : mayF k d t = true) (hs : szP j t) : Par t ∨ t.Kids = [] := by
  cases k with
  | zero => cases hm
  | succ k =>
    cases j with
    | zero => exact absurd hs (by simp [szP])
    | succ j =>
      obtain ⟨s1, s2, s3, s4, s5, s6⟩ := hs
      unfold mayF at hm
      rw [Bool.or_eq_true, Bool.and_eq_true, Bool.and_eq_true] at hm
      rcases hm with ⟨_, hm⟩ | ⟨hm, _⟩
      · exact .inr (place_own hm).1
      · refine .inl ⟨?_, by omega⟩
        obtain ⟨_, _, _, _, h5⟩ := of_decide_eq_true hm
        rintro ⟨h1, h2⟩
        rcases h5 with h | ⟨_, h⟩
        · omega
        · rw [h] at h2; cases h2
abbrev LR := (SpL × Nat) ⊕ (api_TrackedUnit × Int × Int)
theorem spine : ∀ (k j : Nat) (w : TU) (T : SpL) (xs ys : List TU) (u : TU) (sp : SpL) (s : Str) (i : Nat),
    k + (T.length + 1) = 9 → k ≤ j → mayF k (T.length + 1) w = true → szP j w → Opn T xs u sp ys → Par u → sp.length ≤ 100 → ys.length ≤ 1000 → 1 ≤ i → i + (linF k (T.length + 1) w).length ≤ 1000000 → (textF (linF k (T.length + 1) w) ++ s).length ≤ 16384 →
    ∃ sp', Opn T xs u sp' (ys ++ [w]) ∧ sp'.length ≤ 100 ∧ ∀ o : LR, To (fun n => M.markup_Parse_loop n s sp' (i + (linF k (T.length + 1) w).length)) o → To (fun n => M.markup_Parse_loop n (textF (linF k (T.length + 1) w) ++ s) sp i) o
  | 0, _, _, _, _, _, _, _, _, _, _, _, hm, _, _, _, _, _, _, _, _ => by cases hm
  | k + 1, 0, _, _, _, _, _, _, _, _, _, h, _, _, _, _, _, _, _, _, _ => by omega
  | k + 1, j + 1, w, T, xs, ys, u, sp, s, i, hd, hj, hm, hs, hO, hu, hsp, hy, hi, hil, hlen => by
    have hkids := may_kids hm hs
    have hpl := parse_line (k := k + 1) (j := j + 1) w (T.length + 1) (by omega) hm hs
    have hno := line_no10 (k := k + 1) (d := T.length + 1) (j := j + 1) hm hs
    -- the kids
    have loop : ∀ (zs done : List TU) (sp : SpL) (i : Nat), (∀ x ∈ zs, x ∈ w.Kids) → w.Kids = done ++ zs → Opn (T ++ [(xs, u)]) ys w sp done → sp.length ≤ 100 → 1 ≤ i → i + (zs.flatMap (linF k (T.length + 1 + 1))).length ≤ 1000000 → (textF (zs.flatMap (linF k (T.length + 1 + 1))) ++ s).length ≤ 16384 →
        ∃ sp', Opn (T ++ [(xs, u)]) ys w sp' w.Kids ∧ sp'.length ≤ 100 ∧ ∀ o : LR, To (fun n => M.markup_Parse_loop n s sp' (i + (zs.flatMap (linF k (T.length + 1 + 1))).length)) o → To (fun n => M.markup_Parse_loop n (textF (zs.flatMap (linF k (T.length + 1 + 1))) ++ s) sp i) o := by
      intro zs
      induction zs with
      | nil =>
        intro done sp i _ hw hO hsp hi _ _
        rw [List.append_nil] at hw
        rw [← hw] at hO
        exact ⟨sp, hO, hsp, fun o h => h⟩
      | cons z zs ih =>
        intro done sp i hz hw hO hsp hi hil hlen
        have hz1 := hkids z (hz z List.mem_cons_self)
        have hT : (T ++ [(xs, u)]).length = T.length + 1 := by simp
        have e : textF ((z :: zs).flatMap (linF k (T.length + 1 + 1))) ++ s = textF (linF k (T.length + 1 + 1) z) ++ (textF (zs.flatMap (linF k (T.length + 1 + 1))) ++ s) := by
          simp [textF, List.flatMap_append]
        have el : ((z :: zs).flatMap (linF k (T.length + 1 + 1))).length = (linF k (T.length + 1 + 1) z).length + (zs.flatMap (linF k (T.length + 1 + 1))).length := by
          rw [List.flatMap_cons, List.length_append]
        rw [e] at hlen ⊢
        rw [el] at hil ⊢
        have hpw : Par w := by
          rcases may_par hm hs with h | h
          · exact h
          · rw [h] at hw
            exact absurd hw (by simp)
        have hdl : done.length ≤ 40 := by
          have := hs.2.2.2.2.1
          rw [hw, List.length_append] at this
          omega
        have h1 := spine k j z (T ++ [(xs, u)]) ys done w sp (textF (zs.flatMap (linF k (T.length + 1 + 1))) ++ s) i (by rw [hT]; omega) (by omega) (by rw [hT]; exact hz1.1) hz1.2 hO hpw hsp (by omega) hi (by rw [hT]; omega) (by rw [hT]; exact hlen)
        rw [hT] at h1
        obtain ⟨sp1, hO1, hsp1, hk1⟩ := h1
        obtain ⟨sp2, hO2, hsp2, hk2⟩ := ih (done ++ [z]) sp1 (i + (linF k (T.length + 1 + 1) z).length) (fun x hx => hz x (List.mem_cons_of_mem _ hx)) (by rw [hw]; simp) hO1 hsp1 (by omega) (by omega) (by simp only [List.length_append] at hlen ⊢; omega)
        refine ⟨sp2, hO2, hsp2, fun o h => hk1 o (hk2 o ?_)⟩
        rw [Nat.add_assoc]
        exact h
    -- the unit's own line
    have e : textF (linF (k + 1) (T.length + 1) w) ++ s = lineF (T.length + 1) w ++ (10 :: (textF (w.Kids.flatMap (linF k (T.length + 1 + 1))) ++ s)) := by
      simp [linF, textF]
    have el : (linF (k + 1) (T.length + 1) w).length = 1 + (w.Kids.flatMap (linF k (T.length + 1 + 1))).length := by
      simp [linF]; omega
    rw [e] at hlen ⊢
    rw [el] at hil ⊢
    have hcut : cutM (lineF (T.length + 1) w ++ (10 :: (textF (w.Kids.flatMap (linF k (T.length + 1 + 1))) ++ s))) [10] = some (lineF (T.length + 1) w, textF (w.Kids.flatMap (linF k (T.length + 1 + 1))) ++ s, true) := by
      unfold cutM
      rw [if_pos (by omega), nl_cut hno]
    obtain ⟨sp2, hp1, hp2⟩ := hO.push (by omega) (spSk w [])
    have hp3 : Opn (T ++ [(xs, u)]) ys w sp2 [] := hp2
    have hsl : T.length + 1 ≤ sp.length := hO.1
    have hsp2 : sp2.length ≤ 100 := by
      have := hp1
      unfold M.sp_push at this
      obtain ⟨u', r, h1, h2, h3, h4⟩ := hO.split
      rw [h1] at this
      have h5 : Option.bind (appC (M.sp_v r) [spSk w []]) (fun ks => some (sp.take T.length ++ [(xs, spSk u' ks), (M.sp_v r, spSk w [])])) = some sp2 := this
      obtain ⟨ks, _, h6⟩ := bind_some h5
      cases h6
      simp; omega
    obtain ⟨sp3, hO3, hsp3, hk3⟩ := loop w.Kids [] sp2 (i + 1) (fun x hx => hx) rfl hp3 hsp2 (by omega) (by omega) (by simp only [List.length_append, List.length_cons] at hlen ⊢; omega)
    have hO4 := hO3.shut
    rw [sk_self] at hO4
    refine ⟨sp3, hO4, hsp3, fun o h => To.succ ?_⟩
    simp only [M.markup_Parse_loop]
    refine To.pos (.inl (by simp)) (To.bindS hcut (To.bind hpl (To.neg (by simp) (To.neg (by omega) (To.neg ?_ ?_)))))
    · simp only
      omega
    · have en : (((T.length + 1 : Nat) : Int).toNat - 1) = T.length := by omega
      simp only [en]
      refine To.bindS hO.at (To.bindS (par_sk hu ys (by omega)) (To.neg (by simp) (To.bindS hp1 (To.bindS (addC_succ (by omega)) (hk3 o ?_)))))
      rw [Nat.add_assoc]
      exact h
theorem sp_root_eq {sp : SpL} {t : TU} {ys : List TU} (h : Opn [] [] t sp ys) : M.sp_root sp = spSk t ys := by
  obtain ⟨u', r, h1, h2, h3, _⟩ := h.split
  have h1 : sp = ([], u') :: r := h1
  subst h1
  show spSk u' (M.sp_v r) = _
  rw [h3, spSk_eq h2]
theorem parse_text (t : TU) (hm : mayF 9 0 t = true) (hs : szP 13 t) (hc : cntF 13 t ≤ 40) (hl : (textF (linF 9 0 t)).length ≤ 16384) : To (fun n => M.markup_Parse n (textF (linF 9 0 t))) (t, ((linF 9 0 t).length : Int), 0) := by
  have hkids := may_kids hm hs
  have hpl := parse_line (k := 9) (j := 13) t 0 (by omega) hm hs
  have hno := line_no10 (k := 9) (d := 0) (j := 13) hm hs
  have hcl := lin_len 9 0 13 t (by decide)
  have e : textF (linF 9 0 t) = lineF 0 t ++ (10 :: textF (t.Kids.flatMap (linF 8 1))) := by
    simp [linF, textF]
  have el : (linF 9 0 t).length = 1 + (t.Kids.flatMap (linF 8 1)).length := by
    simp [linF]; omega
  have hroot : Par t := by
    obtain ⟨s1, s2, s3, s4, s5, s6⟩ := hs
    unfold mayF at hm
    rw [Bool.or_eq_true, Bool.and_eq_true, Bool.and_eq_true] at hm
    rcases hm with ⟨hm, _⟩ | ⟨hm, _⟩
    · exact absurd hm (by decide)
    · refine ⟨?_, by omega⟩
      obtain ⟨_, _, _, _, h5⟩ := of_decide_eq_true hm
      rintro ⟨h1, h2⟩
      rcases h5 with h | ⟨_, h⟩
      · omega
      · rw [h] at h2; cases h2
  have hw5 := hs.2.2.2.2.1
  -- the kids
  have loop : ∀ (zs done : List TU) (sp : SpL) (i : Nat), (∀ x ∈ zs, x ∈ t.Kids) → t.Kids = done ++ zs → Opn [] [] t sp done → sp.length ≤ 100 → 1 ≤ i → i + (zs.flatMap (linF 8 1)).length ≤ 1000000 → (textF (zs.flatMap (linF 8 1))).length ≤ 16384 →
      ∃ sp', Opn [] [] t sp' t.Kids ∧ To (fun n => M.markup_Parse_loop n (textF (zs.flatMap (linF 8 1))) sp i) (.inl (sp', i + (zs.flatMap (linF 8 1)).length)) := by
    intro zs
    induction zs with
    | nil =>
      intro done sp i _ hw hO _ hi _ _
      rw [List.append_nil] at hw
      rw [← hw] at hO
      refine ⟨sp, hO, To.succ ?_⟩
      simp only [M.markup_Parse_loop]
      exact To.neg (by simp [textF]; omega) To.pure
    | cons z zs ih =>
      intro done sp i hz hw hO hsp hi hil hlen
      have hz1 := hkids z (hz z List.mem_cons_self)
      have e : textF ((z :: zs).flatMap (linF 8 1)) = textF (linF 8 1 z) ++ textF (zs.flatMap (linF 8 1)) := by
        simp [textF, List.flatMap_append]
      have el : ((z :: zs).flatMap (linF 8 1)).length = (linF 8 1 z).length + (zs.flatMap (linF 8 1)).length := by
        rw [List.flatMap_cons, List.length_append]
      rw [e] at hlen ⊢
      rw [el] at hil ⊢
      have hdl : done.length ≤ 40 := by
        rw [hw, List.length_append] at hw5
        omega
      obtain ⟨sp1, hO1, hsp1, hk1⟩ := spine 8 12 z [] [] done t sp (textF (zs.flatMap (linF 8 1))) i rfl (by decide) hz1.1 hz1.2 hO hroot hsp (by omega) hi (by simp only [List.length_nil, Nat.zero_add]; omega) hlen
      obtain ⟨sp2, hO2, h2⟩ := ih (done ++ [z]) sp1 (i + (linF 8 1 z).length) (fun x hx => hz x (List.mem_cons_of_mem _ hx)) (by rw [hw]; simp) hO1 hsp1 (by omega) (by omega) (by simp only [List.length_append] at hlen ⊢; omega)
      refine ⟨sp2, hO2, hk1 _ ?_⟩
      rw [← Nat.add_assoc]
      exact h2
  rw [e] at hl
  have hcut : cutM (lineF 0 t ++ (10 :: textF (t.Kids.flatMap (linF 8 1)))) [10] = some (lineF 0 t, textF (t.Kids.flatMap (linF 8 1)), true) := by
    unfold cutM
    rw [if_pos (by omega), nl_cut hno]
  have hO0 : Opn [] [] t [([], spSk t [])] [] := ⟨Nat.le_refl _, rfl, rfl⟩
  obtain ⟨sp', hO', h'⟩ := loop t.Kids [] [([], spSk t [])] 1 (fun x hx => hx) rfl hO0 (by simp) (by omega) (by omega) (by simp only [List.length_append, List.length_cons] at hl ⊢; omega)
  simp only [M.markup_Parse]
  rw [e, el]
  refine To.neg (by omega) (To.bind (a := .inl (sp', 1 + (t.Kids.flatMap (linF 8 1)).length)) (To.succ ?_) ?_)
  · simp only [M.markup_Parse_loop]
    refine To.pos (.inl (by simp)) (To.bindS hcut (To.bind hpl (To.neg (by simp) (To.pos (by simp) (To.neg (by simp) (To.bindS (par_sk hroot [] (by simp)) (To.neg (by simp) (To.bindS (addC_succ (by omega)) h'))))))))
  · refine To.pure.of ?_
    rw [sp_root_eq hO', sk_self]
end Go.Proofs.YtalogjkalmkpjaaGreatDoor
/-
  The law of Format, Lines and Parse: what was written is read back.
-/
set_option linter.unusedVariables false
set_option linter.unusedSimpArgs false
namespace Go.Proofs.YtalogjkalmkpjaaGreatDoor
open Go Go.Dec
theorem rsame_ok : ∀ (j : Nat) (t : TU), szP j t → To (fun n => M.r53_Same n t t) true
  | 0, _, h => by cases h
  | j + 1, t, h => by
    have hk : ∀ x ∈ t.Kids, To (fun n => M.r53_Same n x x) true := fun x hx => rsame_ok j x (h.2.2.2.2.2 x hx)
    have loop : ∀ (xs : List TU) (F : Nat → TU → TU → Option Bool) (i : Nat), (∀ x ∈ xs, To (fun n => F n x x) true) → t.Kids.drop i = xs → To (fun n => M.r53_Same_loop1 t t (F n) n (i : Int)) (.inl ()) := by
      intro xs
      induction xs with
      | nil =>
        intro F i _ hx
        refine To.succ ?_
        simp only [M.r53_Same_loop1]
        exact To.neg (drop_end hx) To.pure
      | cons x xs ih =>
        intro F i hF hx
        have h2 := ih (fun n => F (n + 1)) (i + 1) (fun y hy => (hF y (List.mem_cons_of_mem _ hy)).shift) (drop_next hx)
        refine To.succ ?_
        simp only [M.r53_Same_loop1]
        refine To.pos (drop_lt hx) (To.bindS (drop_idx hx) (To.bindS (drop_idx hx) (To.bind (hF x List.mem_cons_self).shift (To.neg (by decide) ?_))))
        rw [cast_succ]
        exact h2
    have hr : ∀ l : List TW, To (fun n => M.r53_Rows n l l) true := fun l => (rows_ok l l).of (decide_eq_true rfl)
    refine To.succ ?_
    simp only [M.r53_Same]
    refine To.bind (a := false) ?_ (To.neg (by decide) (To.bind (loop t.Kids (fun n => M.r53_Same n) 0 hk rfl) To.pure))
    refine To.neg (fun e => e rfl) (To.neg (fun e => e rfl) (To.neg (fun e => e rfl) (To.neg (by simp) (To.neg (by simp) (To.neg (by simp) (To.bind (hr t.Head) (To.neg (by decide) (To.bind (hr t.Words) (To.neg (by decide) (To.pure.of (by simp)))))))))))
theorem mformat_true (t : api_TrackedUnit) : To (fun n => M.law53_MarkupFormat n t) true := by
  obtain ⟨b, hb, hf⟩ := few53 t
  simp only [M.law53_MarkupFormat]
  refine To.bind awake53 (To.neg (by decide) (To.bind hb ?_))
  by_cases hbt : b = true
  · obtain ⟨hs, hc⟩ := hf hbt
    refine To.neg (by simp [hbt]) (To.bind (mformat_ok t hs hc) (To.bind (rtext_ok t hs hc) (To.neg (by simp) (To.neg (by simp) (To.bind (mlines_ok t hs hc) (To.bind (rmlines_ok t hs hc) (To.bind (same04_ok _) (To.neg (by decide) ?_))))))))
    unfold mfF
    by_cases hm : mayF 9 0 t = true
    · rw [if_pos hm]
      by_cases hl : (16384 : Int) < ((textF (linF 9 0 t)).length : Int)
      · rw [if_pos hl]
        exact To.pos (by decide) To.pure
      · rw [if_neg hl]
        have hr := rmlines_ok t hs hc
        unfold mlF at hr
        rw [if_pos hm] at hr
        refine To.neg (by simp) (To.bind (parse_text t hm hs hc (by omega)) (To.pos rfl (To.bind hr (To.pos rfl (To.bind (rsame_ok 13 t hs) To.pure)))))
    · rw [if_neg hm]
      exact To.pos (by decide) To.pure
  · exact To.pos (by simpa using hbt) To.pure
end Go.Proofs.YtalogjkalmkpjaaGreatDoor
