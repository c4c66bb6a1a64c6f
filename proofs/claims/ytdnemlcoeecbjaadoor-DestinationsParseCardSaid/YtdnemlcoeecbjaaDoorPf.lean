/-
  Lines of a table: how they are written, and how they are read back.
-/
import Derived.Test.YtdnemlcoeecbjaaDoorPp
import Derived.Lib.AtoiAllCases
set_option linter.unusedVariables false
set_option linter.unusedSimpArgs false
namespace Go.Proofs.YtdnemlcoeecbjaaDoor
open Go Go.Dec

/-! ## Numbers that an int holds -/

def inI (n : Int) : Prop := -9223372036854775808 ≤ n ∧ n ≤ 9223372036854775807
def inId (x : api_Id) : Prop := inI x.Act ∧ inI x.Item ∧ inI x.N
def inD (d : Dst) : Prop := inId d.From ∧ inId d.To

def thr (x : api_Id) : Str := Lib.itoa x.Act ++ ([32] ++ (Lib.itoa x.Item ++ ([32] ++ Lib.itoa x.N)))
def lnF (d : Dst) : Str := thr d.From ++ ([32, 45, 62, 32] ++ thr d.To)
def fmtF (l : List Dst) : Str := l.flatMap fun d => lnF d ++ [10]

theorem thr_len {x : api_Id} (h : inId x) : (thr x).length ≤ 62 := by
  have h1 := itoa_len h.1.1 h.1.2
  have h2 := itoa_len h.2.1.1 h.2.1.2
  have h3 := itoa_len h.2.2.1 h.2.2.2
  simp [thr]; omega
theorem lnF_len {d : Dst} (h : inD d) : (lnF d).length ≤ 128 := by
  have h1 := thr_len h.1
  have h2 := thr_len h.2
  simp [lnF]; omega

theorem cat_small {x y : Str} {k : Nat} (h : x.length + y.length ≤ k) (hk : k ≤ 1000000000) : catC x y = some (x ++ y) := catC_eq (by omega)

theorem three_ok {x : api_Id} (h : inId x) : M.destinations_three x = some (thr x) := by
  have h1 := itoa_len h.1.1 h.1.2
  have h2 := itoa_len h.2.1.1 h.2.1.2
  have h3 := itoa_len h.2.2.1 h.2.2.2
  simp only [M.destinations_three, itoaM, Option.bind_some]
  rw [catC_eq (by simp; omega), Option.bind_some, catC_eq (by simp; omega), Option.bind_some, catC_eq (by simp; omega), Option.bind_some, catC_eq (by simp; omega), Option.bind_some]
  simp [thr]

theorem line_ok {d : Dst} (h : inD d) : M.destinations_line d = some (lnF d) := by
  have h1 := thr_len h.1
  have h2 := thr_len h.2
  simp only [M.destinations_line]
  rw [three_ok h.1, Option.bind_some, catC_eq (by simp; omega), Option.bind_some, three_ok h.2, Option.bind_some, catC_eq (by simp; omega), Option.bind_some]
  simp [lnF]

/-! ## The reference's numerals -/

theorem strOf_dig {k : Nat} (h : k < 10) : strOf [wrap8 (48 + (k : Int))] = [UInt8.ofNat (48 + k)] := by
  have : wrap8 (48 + (k : Int)) = ((48 + k : Nat) : Int) := by unfold wrap8; omega
  rw [this]
  rfl

theorem digits_up : ∀ (u : Nat), u ≤ 9223372036854775808 → ∀ (s : Str), s.length + (Lib.decDigits u).length ≤ 1000 → To (fun n => M.r47_Digits_loop2 n (u : Int) s) ((if u < 10 then [] else Lib.decDigits (u / 10)) ++ s) := by
  intro u
  induction u using Nat.strongRecOn with
  | _ u ih =>
    intro hu s hs
    refine To.succ ?_
    simp only [M.r47_Digits_loop2]
    by_cases h : u < 10
    · refine To.neg (by omega) (To.pure.of ?_)
      rw [if_pos h]; rfl
    · have e1 : quoC (u : Int) (10 : Int) = some ((u / 10 : Nat) : Int) := by
        have : ((u : Int)).tdiv 10 = ((u / 10 : Nat) : Int) := rfl
        unfold quoC
        rw [this, if_pos ⟨by decide, by unfold fits64; rw [Bool.and_eq_true]; exact ⟨decide_eq_true (by omega), decide_eq_true (by omega)⟩⟩]
      have e2 : remC ((u / 10 : Nat) : Int) (10 : Int) = some ((u / 10 % 10 : Nat) : Int) := by
        have : (((u / 10 : Nat) : Int)).tmod 10 = ((u / 10 % 10 : Nat) : Int) := rfl
        unfold remC
        rw [this, if_pos ⟨by decide, by unfold fits64; rw [Bool.and_eq_true]; exact ⟨decide_eq_true (by omega), decide_eq_true (by omega)⟩⟩]
      have hl : (Lib.decDigits u).length = (Lib.decDigits (u / 10)).length + 1 := by rw [dec_big h]; simp
      refine To.pos (by omega) (To.bindS e1 (To.bindS e2 (To.bindS (addC_eq (by omega) (by omega)) ?_)))
      rw [strOf_dig (by omega)]
      refine To.bindS (catC_eq (by simp; omega)) ?_
      refine (ih (u / 10) (by omega) (by omega) _ (by simp; omega)).of ?_
      rw [if_neg h]
      by_cases h2 : u / 10 < 10
      · rw [if_pos h2, dec_small h2]
        have : u / 10 % 10 = u / 10 := by omega
        rw [this]; rfl
      · rw [if_neg h2, dec_big (u := u / 10) h2]; simp

theorem digits_down : ∀ (u : Nat), 1 ≤ u → u ≤ 9223372036854775808 → ∀ (s : Str), s.length + (Lib.decDigits u).length ≤ 1000 →
    ∃ (t : Nat) (r : Str), 1 ≤ t ∧ t < 10 ∧ Lib.decDigits u = UInt8.ofNat (48 + t) :: r ∧ To (fun n => M.r47_Digits_loop1 n (-(u : Int)) s) (-(t : Int), r ++ s) := by
  intro u
  induction u using Nat.strongRecOn with
  | _ u ih =>
    intro h1 hu s hs
    by_cases h : u < 10
    · refine ⟨u, [], h1, h, dec_small h, To.succ ?_⟩
      simp only [M.r47_Digits_loop1]
      exact To.neg (by omega) (To.pure.of rfl)
    · have hl : (Lib.decDigits u).length = (Lib.decDigits (u / 10)).length + 1 := by rw [dec_big h]; simp
      obtain ⟨t, r, ht1, ht2, hd, ht⟩ := ih (u / 10) (by omega) (by omega) (by omega) (UInt8.ofNat (48 + u % 10) :: s) (by simp; omega)
      refine ⟨t, r ++ [UInt8.ofNat (48 + u % 10)], ht1, ht2, by rw [dec_big h, hd]; rfl, To.succ ?_⟩
      simp only [M.r47_Digits_loop1]
      have e1 : remC (-(u : Int)) (10 : Int) = some (-((u % 10 : Nat) : Int)) := by
        have : (-(u : Int)).tmod 10 = -((u % 10 : Nat) : Int) := by rw [Int.neg_tmod]; rfl
        unfold remC
        rw [this, if_pos ⟨by decide, by unfold fits64; rw [Bool.and_eq_true]; exact ⟨decide_eq_true (by omega), decide_eq_true (by omega)⟩⟩]
      have e2 : quoC (-(u : Int)) (10 : Int) = some (-((u / 10 : Nat) : Int)) := by
        have : (-(u : Int)).tdiv 10 = -((u / 10 : Nat) : Int) := by rw [Int.neg_tdiv]; rfl
        unfold quoC
        rw [this, if_pos ⟨by decide, by unfold fits64; rw [Bool.and_eq_true]; exact ⟨decide_eq_true (by omega), decide_eq_true (by omega)⟩⟩]
      have e3 : (48 : Int) - -((u % 10 : Nat) : Int) = 48 + ((u % 10 : Nat) : Int) := by omega
      refine To.pos (by omega) (To.bindS e1 (To.bindS (subC_eq (by omega) (by omega)) ?_))
      rw [e3, strOf_dig (by omega)]
      refine To.bindS (catC_eq (by simp; omega)) (To.bindS e2 ?_)
      exact ht.of (by simp)

theorem digits_r {n : Int} (h : inI n) : To (fun k => M.r47_Digits k n) (Lib.itoa n) := by
  have hl := itoa_len h.1 h.2
  simp only [M.r47_Digits]
  by_cases hn : n < 0
  · obtain ⟨u, rfl⟩ : ∃ u : Nat, n = -(u : Int) := ⟨n.natAbs, by omega⟩
    have hu : u ≤ 9223372036854775808 := by have := h.1; omega
    have he : Lib.itoa (-(u : Int)) = 45 :: Lib.decDigits u := by
      unfold Lib.itoa
      rw [if_pos hn]
      have : (-(u : Int)).natAbs = u := by omega
      rw [this]
    rw [he] at hl ⊢
    obtain ⟨t, r, ht1, ht2, hd, ht⟩ := digits_down u (by omega) hu [] (by simp at hl ⊢; omega)
    refine To.pos hn (To.bind ht ?_)
    dsimp only
    have e1 : remC (-(t : Int)) (10 : Int) = some (-(t : Int)) := by
      have : (-(t : Int)).tmod 10 = -(t : Int) := by
        rw [Int.neg_tmod]
        show -(((t % 10 : Nat) : Int)) = _
        rw [Nat.mod_eq_of_lt ht2]
      unfold remC
      rw [this, if_pos ⟨by decide, by unfold fits64; rw [Bool.and_eq_true]; exact ⟨decide_eq_true (by omega), decide_eq_true (by omega)⟩⟩]
    have e3 : (48 : Int) - -(t : Int) = 48 + (t : Int) := by omega
    refine To.bindS e1 (To.bindS (subC_eq (by omega) (by omega)) ?_)
    rw [e3, strOf_dig ht2]
    refine To.bindS (catC_eq (by simp)) (To.bindS (catC_eq (by rw [hd] at hl; simp at hl ⊢; omega)) (To.pure.of ?_))
    rw [hd]; simp
  · obtain ⟨u, rfl⟩ : ∃ u : Nat, n = (u : Int) := ⟨n.toNat, by omega⟩
    have hu : u ≤ 9223372036854775807 := by have := h.2; omega
    have he : Lib.itoa (u : Int) = Lib.decDigits u := by
      unfold Lib.itoa
      rw [if_neg hn]; rfl
    rw [he] at hl ⊢
    have e2 : remC (u : Int) (10 : Int) = some ((u % 10 : Nat) : Int) := by
      have : ((u : Int)).tmod 10 = ((u % 10 : Nat) : Int) := rfl
      unfold remC
      rw [this, if_pos ⟨by decide, by unfold fits64; rw [Bool.and_eq_true]; exact ⟨decide_eq_true (by omega), decide_eq_true (by omega)⟩⟩]
    refine To.neg hn (To.bindS e2 (To.bindS (addC_eq (by omega) (by omega)) ?_))
    rw [strOf_dig (by omega)]
    refine To.bind (digits_up u (by omega) _ (by simp; omega)) (To.pure.of ?_)
    by_cases h2 : u < 10
    · rw [if_pos h2, dec_small h2]
      have : u % 10 = u := by omega
      rw [this]; rfl
    · rw [if_neg h2, dec_big h2]

theorem id_r {x : api_Id} (h : inId x) : To (fun n => M.r47_id n x) (thr x) := by
  have h1 := itoa_len h.1.1 h.1.2
  have h2 := itoa_len h.2.1.1 h.2.1.2
  have h3 := itoa_len h.2.2.1 h.2.2.2
  simp only [M.r47_id]
  refine To.bind (digits_r h.1) (To.bindS (catC_eq (by simp; omega)) (To.bind (digits_r h.2.1) (To.bindS (catC_eq (by simp; omega)) (To.bindS (catC_eq (by simp; omega)) (To.bind (digits_r h.2.2) (To.bindS (catC_eq (by simp; omega)) (To.pure.of ?_)))))))
  simp [thr]

theorem line_r {d : Dst} (h : inD d) : To (fun n => M.r47_Line n d) (lnF d) := by
  have h1 := thr_len h.1
  have h2 := thr_len h.2
  simp only [M.r47_Line]
  refine To.bind (id_r h.1) (To.bindS (catC_eq (by simp; omega)) (To.bind (id_r h.2) (To.bindS (catC_eq (by simp; omega)) (To.pure.of ?_))))
  simp [lnF]

/-! ## What a line's pieces are -/

def wds (d : Dst) : List Str := [Lib.itoa d.From.Act, Lib.itoa d.From.Item, Lib.itoa d.From.N, [45, 62], Lib.itoa d.To.Act, Lib.itoa d.To.Item, Lib.itoa d.To.N]

theorem itoa_no (n : Int) (c : UInt8) (hc : c.toNat < 45) : c ∉ Lib.itoa n := fun h => by
  rcases itoa_byte h with h | h <;> omega

theorem split_line (d : Dst) : splitC 32 (lnF d) = wds d := by
  have e : lnF d = joinS (wds d) := by simp [lnF, thr, wds, joinS, tailS]
  have hno : ∀ y ∈ wds d, (32 : UInt8) ∉ y := by
    intro y hy
    simp only [wds, List.mem_cons, List.not_mem_nil, or_false] at hy
    rcases hy with rfl | rfl | rfl | rfl | rfl | rfl | rfl
    all_goals first | exact itoa_no _ _ (by decide) | decide
  rw [e]
  exact split_tail _ (fun y hy => hno y (List.mem_cons_of_mem _ hy)) _ (hno _ List.mem_cons_self)

theorem line_no (d : Dst) : (10 : UInt8) ∉ lnF d := by
  have h := fun n => itoa_no n 10 (by decide)
  simp [lnF, thr, h]

/-! ## Atoi -/

def atoi1 (s : Str) : Int := match Lib.atoiAll s with
  | .ok v => v
  | .range => Lib.atoiSat s
  | _ => 0

theorem atoiM_ok {s : Str} (h : s.length ≤ 281474976710656) : ∃ u, atoiM s = some (atoi1 s, u) := by
  unfold atoiM
  rw [if_pos h]
  unfold atoi1
  cases Lib.atoiAll s <;> exact ⟨(), rfl⟩

theorem atoi1_in (s : Str) : inI (atoi1 s) := by
  unfold atoi1
  split
  · rename_i v h
    have := Lib.atoiAll_bounds h
    exact ⟨by omega, by omega⟩
  · unfold Lib.atoiSat
    split <;> exact ⟨by omega, by omega⟩
  · exact ⟨by omega, by omega⟩

theorem atoi1_itoa {n : Int} (h : inI n) : atoi1 (Lib.itoa n) = n := by
  unfold atoi1
  rw [atoi_itoa h.1 h.2]

/-! ## The reference's reading of numbers -/

theorem wrap_in (n : Int) : inI (wrap64 n) := by unfold wrap64 inI; omega
theorem wrap_id {n : Int} (h : inI n) : wrap64 n = n := by unfold inI at h; unfold wrap64; omega

def isD (c : UInt8) : Prop := 48 ≤ c.toNat ∧ c.toNat ≤ 57
instance (c : UInt8) : Decidable (isD c) := inferInstanceAs (Decidable (_ ∧ _))
def numF (n : Int) : List UInt8 → Int
  | [] => n
  | c :: l => if isD c then numF (wrap64 (wrap64 (10 * n) - wrap8 ((c.toNat : Int) - 48))) l else numF n l

theorem numF_in : ∀ (l : List UInt8) (n : Int), inI n → inI (numF n l)
  | [], n, h => h
  | c :: l, n, h => by
    unfold numF
    split
    · exact numF_in l _ (wrap_in _)
    · exact numF_in l _ h

theorem number_loop (s : Str) (hs : s.length ≤ 1000000) : ∀ (xs : Str) (i : Nat) (n : Int), s.drop i = xs → To (fun k => M.r47_number_loop1 s k n (i : Int)) (numF n xs)
  | [], i, n, hx => by
    refine To.succ ?_
    simp only [M.r47_number_loop1]
    exact To.neg (drop_end hx) (To.pure.of rfl)
  | c :: xs, i, n, hx => by
    refine To.succ ?_
    simp only [M.r47_number_loop1]
    have hi := drop_idx hx
    refine To.pos (drop_lt hx) (To.bind (a := decide (isD c)) ?_ ?_)
    · refine To.bindS hi ?_
      by_cases h1 : (48 : Int) ≤ (c.toNat : Int)
      · refine To.pos h1 (To.bindS hi (To.pure.of ?_))
        unfold isD
        have h1' : 48 ≤ c.toNat := by omega
        simp only [h1', true_and]
        exact decide_eq_decide.2 (by omega)
      · refine To.neg h1 (To.pure.of ?_)
        exact (decide_eq_false (by unfold isD; omega)).symm
    · rw [cast_succ]
      by_cases hd : isD c
      · refine To.pos (decide_eq_true hd) (To.bindS hi ?_)
        refine (number_loop s hs xs (i + 1) _ (drop_next hx)).of ?_
        rw [numF, if_pos hd]
      · refine To.neg (by simpa using hd) ?_
        refine (number_loop s hs xs (i + 1) _ (drop_next hx)).of ?_
        rw [numF, if_neg hd]

def num1 (s : Str) : Int := match s with
  | 45 :: _ => numF 0 s
  | _ => wrap64 (0 - numF 0 s)

theorem number_r (s : Str) (hs : s.length ≤ 1000000) : To (fun k => M.r47_number k s) (num1 s) := by
  simp only [M.r47_number]
  refine To.bind (number_loop s hs s 0 0 rfl) ?_
  cases s with
  | nil => exact To.neg (by simp) (To.pure.of rfl)
  | cons c l =>
    refine To.pos (by simp) (To.bindS (show idx (c :: l) (0 : Int) = some c from rfl) ?_)
    by_cases h : (c.toNat : Int) = 45
    · have hc : c = 45 := by
        apply UInt8.toNat_inj.1
        show c.toNat = 45
        omega
      subst hc
      exact To.pos h (To.pure.of rfl)
    · refine To.neg h (To.pure.of ?_)
      unfold num1
      split
      · rename_i e
        exact absurd (by rw [(List.cons.inj e).1]; rfl) h
      · rfl

theorem num1_in (s : Str) : inI (num1 s) := by
  unfold num1
  split
  · exact numF_in _ _ ⟨by omega, by omega⟩
  · exact wrap_in _

theorem numF_app (l : List UInt8) (c : UInt8) (hc : isD c) : ∀ (n : Int), numF n (l ++ [c]) = wrap64 (wrap64 (10 * numF n l) - wrap8 ((c.toNat : Int) - 48)) := by
  induction l with
  | nil => intro n; simp only [List.nil_append, numF]; rw [if_pos hc]
  | cons d l ih =>
    intro n
    simp only [List.cons_append, numF]
    split <;> exact ih _

theorem numF_dec : ∀ (u : Nat), u ≤ 9223372036854775808 → numF 0 (Lib.decDigits u) = -(u : Int) := by
  intro u
  induction u using Nat.strongRecOn with
  | _ u ih =>
    intro hu
    have key : ∀ (k : Nat) (m : Int), k < 10 → inI m → inI (10 * m) → inI (10 * m - k) → wrap64 (wrap64 (10 * m) - wrap8 (((UInt8.ofNat (48 + k)).toNat : Int) - 48)) = 10 * m - k := by
      intro k m hk h1 h2 h3
      rw [u8_dig hk]
      have e : wrap8 (((48 + k : Nat) : Int) - 48) = (k : Int) := by unfold wrap8; omega
      rw [e, wrap_id h2, wrap_id h3]
    have hdig : ∀ k : Nat, k < 10 → isD (UInt8.ofNat (48 + k)) := fun k hk => by unfold isD; rw [u8_dig hk]; omega
    by_cases h : u < 10
    · rw [dec_small h]
      simp only [numF]
      rw [if_pos (hdig u h)]
      have := key u 0 h ⟨by omega, by omega⟩ ⟨by omega, by omega⟩ ⟨by omega, by omega⟩
      rw [this]; omega
    · rw [dec_big h, numF_app _ _ (hdig _ (by omega)), ih (u / 10) (by omega) (by omega)]
      have := key (u % 10) (-((u / 10 : Nat) : Int)) (by omega) ⟨by omega, by omega⟩ ⟨by omega, by omega⟩ ⟨by omega, by omega⟩
      rw [this]; omega

theorem num1_itoa {n : Int} (h : inI n) : num1 (Lib.itoa n) = n := by
  have h0 := h.1
  have h1 := h.2
  unfold Lib.itoa
  split
  · rename_i hn
    show numF 0 (45 :: Lib.decDigits n.natAbs) = n
    rw [numF, if_neg (by decide), numF_dec _ (by omega)]
    omega
  · rename_i hn
    have hd := numF_dec n.toNat (by omega)
    unfold num1
    split
    · rename_i l e
      have := dec_digit n.toNat 45 (by rw [e]; exact List.mem_cons_self)
      exact absurd this.1 (by decide)
    · rw [hd]
      have : (0 : Int) - -(n.toNat : Int) = n := by omega
      rw [this, wrap_id h]

end Go.Proofs.YtdnemlcoeecbjaaDoor
