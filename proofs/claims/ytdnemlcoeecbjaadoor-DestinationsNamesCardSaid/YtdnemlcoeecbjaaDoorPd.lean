/-
  Addresses as texts, and the law on tables with addresses.
-/
import Derived.Test.YtdnemlcoeecbjaaDoorPa
import Derived.Test.YtdnemlcoeecbjaaDoorPc
set_option linter.unusedVariables false
set_option linter.unusedSimpArgs false
namespace Go.Proofs.YtdnemlcoeecbjaaDoor
open Go Go.Dec

def tailS (l : List Str) : Str := l.flatMap (fun x => 32 :: x)
/-- Texts with a space between them. -/
def joinS : List Str → Str
  | [] => []
  | a :: l => a ++ tailS l

theorem tailS_append (a b : List Str) : tailS (a ++ b) = tailS a ++ tailS b := by simp [tailS]

def total (l : List Str) : Nat := (l.map (fun x => x.length + 1)).sum
theorem total_len (l : List Str) : l.length ≤ total l := by
  unfold total
  induction l with
  | nil => simp
  | cons x l ih => simp; omega
theorem tail_len (l : List Str) : (tailS l).length = total l := by
  unfold tailS total
  induction l with
  | nil => rfl
  | cons x l ih => simp [ih]; omega

theorem join_loop1 : ∀ (l : List Str) (n : Nat), n + total l ≤ 1000000000 → ∃ m : Nat, M.strings_Join_loop1 l (n : Int) = some (m : Int) ∧ m ≤ n + total l
  | [], n, h => ⟨n, rfl, by omega⟩
  | x :: l, n, h => by
    have ht : total (x :: l) = x.length + 1 + total l := by simp [total]
    rw [ht] at h
    obtain ⟨m, hm, hle⟩ := join_loop1 l (n + x.length) (by omega)
    refine ⟨m, ?_, by omega⟩
    simp only [M.strings_Join_loop1]
    rw [subC_eq (by omega) (by omega), Option.bind_some, if_neg (by omega), addC_eq (by omega) (by omega), Option.bind_some, ← hm]
    congr 1

theorem join_loop2 : ∀ (l : List Str) (b : Str), b.length + total l ≤ 1000000000 → M.strings_Join_loop2 [32] l b = some (b ++ tailS l)
  | [], b, _ => by simp [M.strings_Join_loop2, tailS]
  | x :: l, b, h => by
    have ht : total (x :: l) = x.length + 1 + total l := by simp [total]
    rw [ht] at h
    simp only [M.strings_Join_loop2]
    rw [appC_eq (by simp; omega), Option.bind_some, appC_eq (by simp; omega), Option.bind_some, join_loop2 l _ (by simp; omega)]
    simp [tailS]

theorem tdiv_nat (a b : Nat) : ((a : Int).tdiv (b : Int)) = ((a / b : Nat) : Int) := rfl

theorem quo_nat (a b : Nat) (ha : a ≤ 9223372036854775807) (hb : 1 ≤ b) : quoC (a : Int) (b : Int) = some ((a / b : Nat) : Int) := by
  unfold quoC
  rw [tdiv_nat]
  have h2 := Nat.div_le_self a b
  generalize a / b = q at h2 ⊢
  rw [if_pos]
  refine ⟨by omega, ?_⟩
  simp only [fits64, Bool.and_eq_true, decide_eq_true_eq]
  omega

theorem quo_max' (a k : Nat) (ha1 : 4000000000 ≤ a) (ha2 : a ≤ 9223372036854775807) (h1 : 1 ≤ k) (h2 : k ≤ 1000000000) : ∃ q : Nat, quoC (a : Int) (k : Int) = some (q : Int) ∧ 2 ≤ q :=
  ⟨a / k, quo_nat a k ha2 h1, by rw [Nat.le_div_iff_mul_le (by omega)]; omega⟩

theorem maxI : (9223372036854775807 : Int) = ((9223372036854775807 : Nat) : Int) := rfl

theorem quo_max (k : Nat) (h1 : 1 ≤ k) (h2 : k ≤ 1000000000) : ∃ q : Nat, quoC (9223372036854775807 : Int) (k : Int) = some (q : Int) ∧ 2 ≤ q :=
  maxI ▸ quo_max' 9223372036854775807 k (by decide) (by decide) h1 h2

set_option maxRecDepth 100000 in
theorem join_two (x y : Str) (l : List Str) (h : total (x :: y :: l) ≤ 400000000) : M.strings_Join (x :: y :: l) [32] = some (joinS (x :: y :: l)) := by
  have hlen := total_len (x :: y :: l)
  have h1 : ((x :: y :: l).length : Int) = ((l.length + 2 : Nat) : Int) := by simp; omega
  have ht : total (x :: y :: l) = x.length + 1 + total (y :: l) := by simp [total]
  have hlen' : l.length + 2 ≤ total (x :: y :: l) := by simpa using hlen
  have hs : (([32] : Str).length : Int) = 1 := rfl
  have e1 : ((l.length + 2 : Nat) : Int) - 1 = ((l.length + 1 : Nat) : Int) := by omega
  have hsub : subC ((l.length + 2 : Nat) : Int) 1 = some ((l.length + 1 : Nat) : Int) := by rw [subC_eq (by omega) (by omega), e1]
  obtain ⟨q, hq, hq2⟩ := quo_max (l.length + 1) (by omega) (by omega)
  have hmul : mulC (1 : Int) ((l.length + 1 : Nat) : Int) = some ((l.length + 1 : Nat) : Int) := by rw [mulC_eq (by omega) (by omega), Int.one_mul]
  have hadd : addC (0 : Int) ((l.length + 1 : Nat) : Int) = some ((l.length + 1 : Nat) : Int) := by rw [addC_eq (by omega) (by omega), Int.zero_add]
  obtain ⟨m, hm, hle⟩ := join_loop1 (x :: y :: l) (l.length + 1) (by omega)
  have hg : growC (m : Int) = some () := by
    unfold growC
    rw [if_pos]
    omega
  have hsl : slcLo (x :: y :: l) (1 : Int) = some (y :: l) := by
    unfold slcLo
    rw [if_pos (by simp; omega)]
    rfl
  have n0 : ¬ ((l.length + 2 : Nat) : Int) = 0 := by omega
  have n1 : ¬ ((l.length + 2 : Nat) : Int) = 1 := by omega
  have n2 : (0 : Int) < 1 := by omega
  have n3 : ¬ ((q : Nat) : Int) ≤ 1 := by omega
  have ha0 : appC ([] : Str) x = some x := by rw [appC_eq (by simp; omega)]; rfl
  have hl2 : M.strings_Join_loop2 [32] (y :: l) x = some (x ++ tailS (y :: l)) := join_loop2 (y :: l) x (by omega)
  unfold M.strings_Join
  rw [h1, if_neg n0, if_neg n1, hs, if_pos n2, hsub, Option.bind_some, hq, Option.bind_some]
  rw [if_neg n3]
  rw [Option.bind_some, Option.bind_some, hmul, Option.bind_some, hadd, Option.bind_some, Option.bind_some, hm, Option.bind_some, hg, Option.bind_some, idx_zero, Option.bind_some, ha0, Option.bind_some, hsl, Option.bind_some, hl2, Option.bind_some]
  rfl

theorem join_ok (l : List Str) (h : total l ≤ 400000000) : M.strings_Join l [32] = some (joinS l) := by
  cases l with
  | nil => rfl
  | cons x l =>
    cases l with
    | nil =>
      unfold M.strings_Join
      rw [if_neg (by simp), if_pos (by simp), idx_zero, Option.bind_some]
      simp [joinS, tailS]
    | cons y l => exact join_two x y l h

/-! ### Addresses -/

def nm : List Str := [[98, 111, 111, 107], [112, 97, 114, 116], [115, 101, 99, 116, 105, 111, 110], [112, 97, 114, 97, 103, 114, 97, 112, 104], [116, 97, 98, 108, 101], [114, 111, 119], [99, 101, 108, 108], [110, 111, 116, 101]]
def nameOf (k : Int) : Str := (idx nm k).getD []
theorem name_idx {k : Int} (h0 : 0 ≤ k) (h1 : k ≤ 7) : idx nm k = some (nameOf k) ∧ (nameOf k).length ≤ 9 := by
  obtain ⟨m, rfl⟩ : ∃ m : Nat, k = (m : Int) := ⟨k.toNat, by omega⟩
  have hm : m = 0 ∨ m = 1 ∨ m = 2 ∨ m = 3 ∨ m = 4 ∨ m = 5 ∨ m = 6 ∨ m = 7 := by omega
  rcases hm with rfl | rfl | rfl | rfl | rfl | rfl | rfl | rfl <;> exact ⟨rfl, by decide⟩

def wordsOf (s : api_Step) : List Str := if bookB s = true then [nameOf s.Kind] else [nameOf s.Kind, s.Label]
def words (p : List api_Step) : List Str := p.flatMap wordsOf

def okS (s : api_Step) : Prop := 0 ≤ s.Kind ∧ s.Kind ≤ 7 ∧ s.Label.length ≤ 7

theorem lab_len {s : Str} (h : labB s = true) : s.length ≤ 7 := by
  unfold labB at h
  simp only [Bool.and_eq_true, decide_eq_true_eq] at h
  omega
theorem step_ok {s : api_Step} (h : stepB s = true) : okS s := by
  unfold stepB at h
  simp only [Bool.and_eq_true, decide_eq_true_eq] at h
  exact ⟨by omega, h.1.2, lab_len h.2⟩
theorem steps_ok : ∀ {p : List api_Step}, stepsB p = true → ∀ s, s ∈ p → okS s
  | x :: p, h, s, hs => by
    unfold stepsB at h
    rw [Bool.and_eq_true] at h
    rcases List.mem_cons.1 hs with rfl | hs
    · exact step_ok h.1
    · exact steps_ok h.2 s hs
theorem valid_steps {p : List api_Step} (h : validB p = true) : p.length ≤ 9 ∧ ∀ s, s ∈ p → okS s := by
  unfold validB at h
  rw [Bool.and_eq_true, decide_eq_true_eq] at h
  refine ⟨h.2, ?_⟩
  cases p with
  | nil => intro s hs; cases hs
  | cons x p =>
    have h1 := h.1
    simp only [Bool.and_eq_true, Bool.or_eq_true] at h1
    intro s hs
    rcases List.mem_cons.1 hs with rfl | hs
    · rcases h1.1 with hb | hb
      · unfold bookB at hb
        simp only [Bool.and_eq_true, decide_eq_true_eq, beq_iff_eq] at hb
        exact ⟨by omega, by omega, by rw [hb.2]; simp⟩
      · exact step_ok hb
    · exact steps_ok h1.2 s hs

theorem words_total : ∀ {p : List api_Step}, (∀ s, s ∈ p → okS s) → total (words p) ≤ 20 * p.length
  | [], _ => by simp [words, total]
  | x :: p, h => by
    have ih := words_total (p := p) fun s hs => h s (by simp [hs])
    obtain ⟨h1, h2, h3⟩ := h x (by simp)
    have h4 := (name_idx h1 h2).2
    have : total (words (x :: p)) = total (wordsOf x) + total (words p) := by simp [words, total]
    rw [this]
    have h5 : total (wordsOf x) ≤ 20 := by
      unfold wordsOf total
      split <;> simp <;> omega
    simp only [List.length_cons]
    omega

def fmt (p : List api_Step) : Str := if validB p = true then joinS (words p) else []

theorem join_len (l : List Str) : (joinS l).length ≤ total l := by
  cases l with
  | nil => simp [joinS]
  | cons a l =>
    simp only [joinS, List.length_append, tail_len]
    simp [total]
theorem fmt_len (p : List api_Step) : (fmt p).length ≤ 200 := by
  unfold fmt
  split
  · rename_i h
    obtain ⟨h1, h2⟩ := valid_steps h
    have := words_total h2
    have := join_len (words p)
    omega
  · simp

theorem name_a {k : Int} (h0 : 0 ≤ k) (h1 : k ≤ 7) : M.address_name k = some (nameOf k, true) := by
  simp only [M.address_name]
  rw [if_neg (by omega), if_neg (by omega)]
  have := (name_idx h0 h1).1
  unfold nm at this
  rw [this, Option.bind_some]

theorem format_loop : ∀ (xs : List api_Step) (ws : List Str), (∀ s, s ∈ xs → okS s) → ws.length + 2 * xs.length ≤ 1000000 → M.address_Format_loop1 xs ws = some (ws ++ words xs)
  | [], ws, _, _ => by simp [M.address_Format_loop1, words]
  | x :: xs, ws, h, hl => by
    obtain ⟨h1, h2, h3⟩ := h x (by simp)
    simp only [List.length_cons] at hl
    simp only [M.address_Format_loop1]
    rw [name_a h1 h2, Option.bind_some, appC_eq (by simp; omega), Option.bind_some, book_a, Option.bind_some]
    by_cases hb : bookB x = true
    · rw [if_neg (by simp [hb]), format_loop xs _ (fun s hs => h s (by simp [hs])) (by simp; omega)]
      simp [words, wordsOf, hb]
    · rw [if_pos (by simpa using hb), appC_eq (by simp; omega), Option.bind_some, format_loop xs _ (fun s hs => h s (by simp [hs])) (by simp; omega)]
      simp [words, wordsOf, hb]

theorem format_ok (p : List api_Step) : To (fun n => M.address_Format n p) (fmt p) := by
  simp only [M.address_Format]
  refine To.bind (avalid_ok p) ?_
  unfold fmt
  by_cases hv : validB p = true
  · obtain ⟨h1, h2⟩ := valid_steps hv
    have := words_total h2
    rw [if_pos hv]
    refine To.neg (by simp [hv]) (To.bindS (format_loop p [] h2 (by simp; omega)) (To.bindS (join_ok _ (by simp; omega)) (To.pure.of (by simp))))
  · rw [if_neg hv]
    exact To.pos (by simpa using hv) To.pure

theorem text_loop (p : List api_Step) (hp : ∀ s, s ∈ p → okS s) : ∀ (xs : List api_Step) (i : Nat) (s0 : Str), 1 ≤ i → p.drop i = xs → s0.length + 20 * xs.length ≤ 1000000 → To (fun n => M.r07_Text_loop1 p n s0 (i : Int)) (s0 ++ tailS (words xs)) := by
  intro xs
  induction xs with
  | nil =>
    intro i s0 _ hx _
    refine To.succ ?_
    simp only [M.r07_Text_loop1]
    exact To.neg (drop_end hx) (To.pure.of (by simp [words, tailS]))
  | cons x xs ih =>
    intro i s0 hi hx hl
    have hm : x ∈ p := List.mem_of_mem_drop (i := i) (by rw [hx]; simp)
    obtain ⟨h1, h2, h3⟩ := hp x hm
    obtain ⟨h4, h5⟩ := name_idx h1 h2
    simp only [List.length_cons] at hl
    have hw : words (x :: xs) = wordsOf x ++ words xs := by simp [words]
    rw [hw, tailS_append]
    refine To.succ ?_
    simp only [M.r07_Text_loop1]
    refine To.pos (drop_lt hx) (To.bind (a := s0 ++ [32]) (To.pos (by omega) (To.bindS (catC_eq (by simp; omega)) To.pure)) ?_)
    refine To.bindS (a := nm) rfl (To.bindS (drop_idx hx) (To.bindS h4 (To.bindS (catC_eq (by simp; omega)) (To.bindS (drop_idx hx) (To.bindS (book_r x) ?_)))))
    rw [cast_succ]
    by_cases hb : bookB x = true
    · refine To.neg (by simp [hb]) ?_
      exact (ih (i + 1) _ (by omega) (drop_next hx) (by simp; omega)).of (by simp [wordsOf, hb, tailS])
    · refine To.pos (by simpa using hb) (To.bindS (catC_eq (by simp; omega)) (To.bindS (drop_idx hx) (To.bindS (catC_eq (by simp; omega)) ?_)))
      exact (ih (i + 1) _ (by omega) (drop_next hx) (by simp; omega)).of (by simp [wordsOf, hb, tailS])

theorem text_ok (p : List api_Step) (hp : ∀ y, y ∈ p → y.Label.length ≤ 1000000000) : To (fun n => M.r07_Text n p) (fmt p) := by
  simp only [M.r07_Text]
  refine To.bind (amay_ok p hp) ?_
  unfold fmt
  by_cases hv : validB p = true
  · obtain ⟨hl, hs⟩ := valid_steps hv
    rw [if_pos hv]
    refine To.neg (by simp [hv]) (To.bind (a := joinS (words p)) ?_ To.pure)
    cases p with
    | nil =>
      refine To.succ ?_
      simp only [M.r07_Text_loop1]
      exact To.neg (by simp) To.pure
    | cons x xs =>
      obtain ⟨h1, h2, h3⟩ := hs x (by simp)
      obtain ⟨h4, h5⟩ := name_idx h1 h2
      simp only [List.length_cons] at hl
      have hw : words (x :: xs) = wordsOf x ++ words xs := by simp [words]
      refine To.succ ?_
      simp only [M.r07_Text_loop1]
      refine To.pos (by simp) (To.bind (a := ([] : Str)) (To.neg (by simp) To.pure) ?_)
      refine To.bindS (a := nm) rfl (To.bindS idx_zero (To.bindS h4 (To.bindS (catC_eq (by simp; omega)) (To.bindS idx_zero (To.bindS (book_r x) ?_)))))
      by_cases hb : bookB x = true
      · refine To.neg (by simp [hb]) ?_
        exact (text_loop (x :: xs) hs xs 1 _ (by omega) rfl (by simp; omega)).of (by rw [hw]; simp [wordsOf, hb, joinS])
      · refine To.pos (by simpa using hb) (To.bindS (catC_eq (by simp; omega)) (To.bindS idx_zero (To.bindS (catC_eq (by simp; omega)) ?_)))
        exact (text_loop (x :: xs) hs xs 1 _ (by omega) rfl (by simp; omega)).of (by rw [hw]; simp [wordsOf, hb, joinS, tailS])
  · rw [if_neg hv]
    exact To.pos (by simpa using hv) To.pure

/-! ### Full addresses -/

theorem path_mem (id : api_Id) (u : api_Unit) : ∀ w, pathO id u = some w → ∀ x, x ∈ w → x ∈ desc u := by
  refine uind (P := fun u => ∀ w, pathO id u = some w → ∀ x, x ∈ w → x ∈ desc u) ?_ u
  intro u ih w h x hx
  by_cases hid : u.Id = id
  · rw [path_self hid] at h
    cases h
    rw [List.mem_singleton.1 hx]; exact desc_self u
  · obtain ⟨_, v, hv, rfl⟩ := path_two hid h
    obtain ⟨k, hk, he⟩ := List.exists_of_findSome?_eq_some hv
    rcases List.mem_cons.1 hx with rfl | hx
    · exact desc_self x
    · exact desc_kid hk (ih k hk v he x hx)

theorem steps_mem {id : api_Id} {u : api_Unit} {p : List api_Step} (h : stepsO id u = some p) (hl : ∀ x, x ∈ desc u → x.Label.length ≤ 5000) : ∀ y, y ∈ p → y.Label.length ≤ 5000 := by
  unfold stepsO at h
  obtain ⟨w, hw, rfl⟩ := Option.map_eq_some_iff.1 h
  intro y hy
  obtain ⟨x, hx, rfl⟩ := List.mem_map.1 hy
  exact hl x (path_mem id u w hw x (List.mem_of_mem_tail hx))

theorem away_ok (id : api_Id) (u : api_Unit) : cnt u ≤ 10000 → To (fun n => M.address_way n u id) (match stepsO id u with | some p => (p, true) | none => ([], false)) := by
  refine uind (P := fun u => cnt u ≤ 10000 → To (fun n => M.address_way n u id) (match stepsO id u with | some p => (p, true) | none => ([], false))) ?_ u
  intro u ih hc
  have loop : ∀ (xs : List api_Unit) (slf : Nat → api_Unit → api_Id → Option (List api_Step × Bool)), (∀ k, k ∈ xs → cnt k ≤ 10000 ∧ To (fun n => slf n k id) (match stepsO id k with | some p => (p, true) | none => ([], false))) →
      To (fun n => M.address_way_loop1 id (slf n) xs) (match xs.findSome? (pathO id) with | none => .inl () | some w => .inr (w.map stepOf, true)) := by
    intro xs
    induction xs with
    | nil =>
      intro slf _
      simp only [M.address_way_loop1]
      exact To.pure
    | cons x xs ih =>
      intro slf hs
      obtain ⟨hcx, h1⟩ := hs x (by simp)
      simp only [M.address_way_loop1]
      refine To.bind h1 ?_
      rw [List.findSome?_cons]
      unfold stepsO
      cases hp : pathO id x with
      | none =>
        refine To.neg (by simp) ?_
        exact ih slf fun k hk => hs k (by simp [hk])
      | some w =>
        obtain ⟨v, rfl⟩ := path_head hp
        have hlen := path_len id x _ hp
        simp only [List.length_cons] at hlen
        exact To.pos rfl (To.bindS (appC_eq (by simp; omega)) (To.pure.of (by simp [stepOf])))
  refine To.succ ?_
  simp only [M.address_way]
  unfold stepsO
  by_cases hid : u.Id = id
  · rw [path_self hid]
    exact To.pos hid To.pure
  · rw [pathO_eq, if_neg hid]
    refine To.neg hid (To.bind (loop u.Kids (fun n => M.address_way n) fun k hk => ⟨by have := cnt_kid hk; omega, ih k hk (by have := cnt_kid hk; omega)⟩) ?_)
    cases u.Kids.findSome? (pathO id) with
    | none => exact To.pure
    | some w => exact To.pure.of (by simp)

theorem full_ok (id : api_Id) (u : api_Unit) (hc : cnt u ≤ 10000) : To (fun n => M.address_Full n u id) (match stepsO id u with | some p => ((⟨0, []⟩ : api_Step) :: p, true) | none => ([], false)) := by
  simp only [M.address_Full]
  refine To.bind (away_ok id u hc) ?_
  cases hp : stepsO id u with
  | none => exact To.pos rfl To.pure
  | some p =>
    have hlen : p.length ≤ 10000 := by
      unfold stepsO at hp
      obtain ⟨w, hw, rfl⟩ := Option.map_eq_some_iff.1 hp
      have := path_len id u w hw
      simp; omega
    exact To.neg (by simp) (To.bindS (appC_eq (by simp; omega)) To.pure)

/-! ### The law -/

def nameO (a b : api_Unit) (d : Dst) : Option Str := match stepsO d.From a, stepsO d.To b with
  | some p, some q => some (fmt (⟨0, []⟩ :: p) ++ [32, 45, 62, 32] ++ fmt (⟨0, []⟩ :: q))
  | _, _ => none

theorem names_a (a b : api_Unit) (ha : cnt a ≤ 10000) (hb : cnt b ≤ 10000) : ∀ (xs : List Dst) (out : List Str), out.length + xs.length ≤ 100000 → To (fun n => M.destinations_Names_loop1 n a b xs out) (out ++ xs.filterMap (nameO a b)) := by
  intro xs
  induction xs with
  | nil => intro out _; simp only [M.destinations_Names_loop1]; exact To.pure.of (by simp)
  | cons x xs ih =>
    intro out hl
    simp only [List.length_cons] at hl
    simp only [M.destinations_Names_loop1]
    refine To.bind (full_ok x.From a ha) (To.bind (full_ok x.To b hb) ?_)
    rw [List.filterMap_cons]
    cases hp : stepsO x.From a with
    | none =>
      have hn : nameO a b x = none := by simp [nameO, hp]
      rw [hn]
      exact To.bind (a := false) (To.neg (by simp) To.pure) (To.neg (by simp) (ih out (by omega)))
    | some p =>
      cases hq : stepsO x.To b with
      | none =>
        have hn : nameO a b x = none := by simp [nameO, hp, hq]
        rw [hn]
        exact To.bind (a := false) (To.pos rfl To.pure) (To.neg (by simp) (ih out (by omega)))
      | some q =>
        have hn : nameO a b x = some (fmt (⟨0, []⟩ :: p) ++ [32, 45, 62, 32] ++ fmt (⟨0, []⟩ :: q)) := by simp [nameO, hp, hq]
        rw [hn]
        have l1 := fmt_len (⟨0, []⟩ :: p)
        have l2 := fmt_len (⟨0, []⟩ :: q)
        refine To.bind (a := true) (To.pos rfl To.pure) (To.pos rfl (To.bind (format_ok _) (To.bindS (catC_eq (by simp; omega)) (To.bind (format_ok _) (To.bindS (catC_eq (by simp; omega)) (To.bindS (appC_eq (by simp; omega)) ?_))))))
        exact (ih _ (by simp; omega)).of (by simp)

theorem names_r (a b : api_Unit) (ha : cnt a ≤ 10000) (hb : cnt b ≤ 10000) (la : ∀ x, x ∈ desc a → x.Label.length ≤ 5000) (lb : ∀ x, x ∈ desc b → x.Label.length ≤ 5000) (l : List Dst) :
    ∀ (xs : List Dst) (i : Nat) (out : List Str), l.drop i = xs → out.length + xs.length ≤ 100000 → To (fun n => M.r47_Names_loop1 a b l n out (i : Int)) (out ++ xs.filterMap (nameO a b)) := by
  intro xs
  induction xs with
  | nil =>
    intro i out hx _
    refine To.succ ?_
    simp only [M.r47_Names_loop1]
    exact To.neg (drop_end hx) (To.pure.of (by simp))
  | cons x xs ih =>
    intro i out hx hl
    simp only [List.length_cons] at hl
    refine To.succ ?_
    simp only [M.r47_Names_loop1]
    refine To.pos (drop_lt hx) (To.bindS (drop_idx hx) (To.bind (whole_ok x.From a ha) (To.bindS (drop_idx hx) (To.bind (whole_ok x.To b hb) ?_))))
    rw [List.filterMap_cons, cast_succ]
    cases hp : stepsO x.From a with
    | none =>
      have hn : nameO a b x = none := by simp [nameO, hp]
      rw [hn]
      exact To.bind (a := false) (To.neg (by simp) To.pure) (To.neg (by simp) (ih (i + 1) out (drop_next hx) (by omega)))
    | some p =>
      cases hq : stepsO x.To b with
      | none =>
        have hn : nameO a b x = none := by simp [nameO, hp, hq]
        rw [hn]
        exact To.bind (a := false) (To.pos rfl To.pure) (To.neg (by simp) (ih (i + 1) out (drop_next hx) (by omega)))
      | some q =>
        have hn : nameO a b x = some (fmt (⟨0, []⟩ :: p) ++ [32, 45, 62, 32] ++ fmt (⟨0, []⟩ :: q)) := by simp [nameO, hp, hq]
        rw [hn]
        have l1 := fmt_len (⟨0, []⟩ :: p)
        have l2 := fmt_len (⟨0, []⟩ :: q)
        have hlp := steps_mem hp la
        have hlq := steps_mem hq lb
        refine To.bind (a := true) (To.pos rfl To.pure) (To.pos rfl (To.bind (text_ok _ (fun y hy => ?_)) (To.bindS (catC_eq (by simp; omega)) (To.bind (text_ok _ (fun y hy => ?_)) (To.bindS (catC_eq (by simp; omega)) (To.bindS (appC_eq (by simp; omega)) ?_))))))
        · rcases List.mem_cons.1 hy with rfl | hy
          · simp
          · have := hlp y hy; omega
        · rcases List.mem_cons.1 hy with rfl | hy
          · simp
          · have := hlq y hy; omega
        exact (ih (i + 1) _ (drop_next hx) (by simp; omega)).of (by simp)

theorem same3_ok (a : List Str) : To (fun n => M.r03_Same n a a) true := by
  have loop : ∀ (xs : List Str) (i : Nat), a.drop i = xs → To (fun n => M.r03_Same_loop1 a a n (i : Int)) (.inl ()) := by
    intro xs
    induction xs with
    | nil => intro i hx; refine To.succ ?_; simp only [M.r03_Same_loop1]; exact To.neg (drop_end hx) To.pure
    | cons x xs ih =>
      intro i hx; refine To.succ ?_; simp only [M.r03_Same_loop1]
      rw [cast_succ]
      exact To.pos (drop_lt hx) (To.bindS (drop_idx hx) (To.bindS (drop_idx hx) (To.neg (by simp) (ih (i + 1) (drop_next hx)))))
  simp only [M.r03_Same]
  exact To.neg (by simp) (To.bind (loop a 0 rfl) To.pure)

theorem names_true (a b : api_Unit) (l : List Dst) (ha : big a) (hb : big b) : ∃ n, M.law47_DestinationsNames n a b l = some true := by
  refine To.ex ?_
  simp only [M.law47_DestinationsNames]
  obtain ⟨f, hf, hfl⟩ := few07 a ha 40 (by omega) (by omega)
  obtain ⟨g, hg, hgl⟩ := few07 b hb 40 (by omega) (by omega)
  cases f with
  | false => exact To.bind (a := true) (To.bind awake47 (To.neg (by simp) (To.bind hf (To.pos rfl To.pure)))) (To.pos rfl (To.bind awake47 To.pure))
  | true =>
    cases g with
    | false => exact To.bind (a := true) (To.bind awake47 (To.neg (by simp) (To.bind hf (To.neg (by simp) (To.bind hg (To.pos rfl To.pure)))))) (To.pos rfl (To.bind awake47 To.pure))
    | true =>
      by_cases hl : (40 : Int) < (l.length : Int)
      · exact To.bind (a := true) (To.bind awake47 (To.neg (by simp) (To.bind hf (To.neg (by simp) (To.bind hg (To.neg (by simp) (To.pure.of (by simp [hl])))))))) (To.pos rfl (To.bind awake47 To.pure))
      · obtain ⟨c1, d1⟩ := hfl rfl
        obtain ⟨c2, d2⟩ := hgl rfl
        refine To.bind (a := false) (To.bind awake47 (To.neg (by simp) (To.bind hf (To.neg (by simp) (To.bind hg (To.neg (by simp) (To.pure.of (by simp [hl])))))))) (To.neg (by simp) ?_)
        refine To.bind (a := l.filterMap (nameO a b)) ?_ (To.bind (a := l.filterMap (nameO a b)) ?_ (To.bind (same3_ok _) To.pure))
        · simp only [M.destinations_Names]
          exact To.bind (names_a a b (by omega) (by omega) l [] (by simp; omega)) (To.pure.of (by simp))
        · simp only [M.r47_Names]
          exact To.bind (names_r a b (by omega) (by omega) d1 d2 l l 0 [] rfl (by simp; omega)) (To.pure.of (by simp))
end Go.Proofs.YtdnemlcoeecbjaaDoor
