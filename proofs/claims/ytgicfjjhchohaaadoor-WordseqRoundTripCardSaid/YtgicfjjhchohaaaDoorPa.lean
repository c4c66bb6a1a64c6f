/-
  Texts with a space between them: what strings.Join computes (picked by wip/scripts/pick.py).
-/
import Derived.Test.YtgicfjjhchohaaaDoorMdl
import Derived.Test.YtgicfjjhchohaaaDoorEv
import Derived.KernelRfl
set_option linter.unusedVariables false
set_option linter.unusedSimpArgs false
namespace Go.Proofs.YtgicfjjhchohaaaDoor
open Go Go.Dec

def tailS (l : List Str) : Str := l.flatMap (fun x => 32 :: x)

/-- Texts with a space between them. -/
def joinS : List Str → Str
  | [] => []
  | a :: l => a ++ tailS l

theorem tailS_append (a b : List Str) : tailS (a ++ b) = tailS a ++ tailS b := by simp [tailS]

def total (l : List Str) : Nat := (l.map (fun x => x.length + 1)).sum

theorem total_len (l : List Str) : l.length ≤ total l := by
  unfold total
  induction l with
  | nil => simp
  | cons x l ih => simp; omega

theorem tail_len (l : List Str) : (tailS l).length = total l := by
  unfold tailS total
  induction l with
  | nil => rfl
  | cons x l ih => simp [ih]; omega

theorem join_loop1 : ∀ (l : List Str) (n : Nat), n + total l ≤ 1000000000 → ∃ m : Nat, M.strings_Join_loop1 l (n : Int) = some (m : Int) ∧ m ≤ n + total l
  | [], n, h => ⟨n, rfl, by omega⟩
  | x :: l, n, h => by
    have ht : total (x :: l) = x.length + 1 + total l := by simp [total]
    rw [ht] at h
    obtain ⟨m, hm, hle⟩ := join_loop1 l (n + x.length) (by omega)
    refine ⟨m, ?_, by omega⟩
    simp only [M.strings_Join_loop1]
    rw [subC_eq (by omega) (by omega), Option.bind_some, if_neg (by omega), addC_eq (by omega) (by omega), Option.bind_some, ← hm]
    congr 1

theorem join_loop2 : ∀ (l : List Str) (b : Str), b.length + total l ≤ 1000000000 → M.strings_Join_loop2 [32] l b = some (b ++ tailS l)
  | [], b, _ => by simp [M.strings_Join_loop2, tailS]
  | x :: l, b, h => by
    have ht : total (x :: l) = x.length + 1 + total l := by simp [total]
    rw [ht] at h
    simp only [M.strings_Join_loop2]
    rw [appC_eq (by simp; omega), Option.bind_some, appC_eq (by simp; omega), Option.bind_some, join_loop2 l _ (by simp; omega)]
    simp [tailS]

theorem tdiv_nat (a b : Nat) : ((a : Int).tdiv (b : Int)) = ((a / b : Nat) : Int) := rfl

theorem quo_nat (a b : Nat) (ha : a ≤ 9223372036854775807) (hb : 1 ≤ b) : quoC (a : Int) (b : Int) = some ((a / b : Nat) : Int) := by
  unfold quoC
  rw [tdiv_nat]
  have h2 := Nat.div_le_self a b
  generalize a / b = q at h2 ⊢
  rw [if_pos]
  refine ⟨by omega, ?_⟩
  simp only [fits64, Bool.and_eq_true, decide_eq_true_eq]
  omega

theorem quo_max' (a k : Nat) (ha1 : 4000000000 ≤ a) (ha2 : a ≤ 9223372036854775807) (h1 : 1 ≤ k) (h2 : k ≤ 1000000000) : ∃ q : Nat, quoC (a : Int) (k : Int) = some (q : Int) ∧ 2 ≤ q :=
  ⟨a / k, quo_nat a k ha2 h1, by rw [Nat.le_div_iff_mul_le (by omega)]; omega⟩

theorem maxI : (9223372036854775807 : Int) = ((9223372036854775807 : Nat) : Int) := rfl

theorem quo_max (k : Nat) (h1 : 1 ≤ k) (h2 : k ≤ 1000000000) : ∃ q : Nat, quoC (9223372036854775807 : Int) (k : Int) = some (q : Int) ∧ 2 ≤ q :=
  maxI ▸ quo_max' 9223372036854775807 k (by decide) (by decide) h1 h2

theorem join_two (x y : Str) (l : List Str) (h : total (x :: y :: l) ≤ 400000000) : M.strings_Join (x :: y :: l) [32] = some (joinS (x :: y :: l)) := by
  have hlen := total_len (x :: y :: l)
  have h1 : ((x :: y :: l).length : Int) = ((l.length + 2 : Nat) : Int) := by simp; omega
  have ht : total (x :: y :: l) = x.length + 1 + total (y :: l) := by simp [total]
  have hlen' : l.length + 2 ≤ total (x :: y :: l) := by simpa using hlen
  have hs : (([32] : Str).length : Int) = 1 := rfl
  have e1 : ((l.length + 2 : Nat) : Int) - 1 = ((l.length + 1 : Nat) : Int) := by omega
  have hsub : subC ((l.length + 2 : Nat) : Int) 1 = some ((l.length + 1 : Nat) : Int) := by rw [subC_eq (by omega) (by omega), e1]
  obtain ⟨q, hq, hq2⟩ := quo_max (l.length + 1) (by omega) (by omega)
  have hmul : mulC (1 : Int) ((l.length + 1 : Nat) : Int) = some ((l.length + 1 : Nat) : Int) := by rw [mulC_eq (by omega) (by omega), Int.one_mul]
  have hadd : addC (0 : Int) ((l.length + 1 : Nat) : Int) = some ((l.length + 1 : Nat) : Int) := by rw [addC_eq (by omega) (by omega), Int.zero_add]
  obtain ⟨m, hm, hle⟩ := join_loop1 (x :: y :: l) (l.length + 1) (by omega)
  have hg : growC (m : Int) = some () := by
    unfold growC
    rw [if_pos]
    omega
  have hsl : slcLo (x :: y :: l) (1 : Int) = some (y :: l) := by
    unfold slcLo
    rw [if_pos (by simp; omega)]
    rfl
  have n0 : ¬ ((l.length + 2 : Nat) : Int) = 0 := by omega
  have n1 : ¬ ((l.length + 2 : Nat) : Int) = 1 := by omega
  have n2 : (0 : Int) < 1 := by omega
  have n3 : ¬ ((q : Nat) : Int) ≤ 1 := by omega
  have ha0 : appC ([] : Str) x = some x := by rw [appC_eq (by simp; omega)]; rfl
  have hl2 : M.strings_Join_loop2 [32] (y :: l) x = some (x ++ tailS (y :: l)) := join_loop2 (y :: l) x (by omega)
  unfold M.strings_Join
  rw [h1, if_neg n0, if_neg n1, hs, if_pos n2, hsub, Option.bind_some, hq, Option.bind_some]
  rw [if_neg n3]
  rw [Option.bind_some, Option.bind_some, hmul, Option.bind_some, hadd, Option.bind_some, Option.bind_some, hm, Option.bind_some, hg, Option.bind_some, idx_zero, Option.bind_some, ha0, Option.bind_some, hsl, Option.bind_some, hl2, Option.bind_some]
  rfl

theorem join_ok (l : List Str) (h : total l ≤ 400000000) : M.strings_Join l [32] = some (joinS l) := by
  cases l with
  | nil => rfl
  | cons x l =>
    cases l with
    | nil =>
      unfold M.strings_Join
      rw [if_neg (by simp), if_pos (by simp), idx_zero, Option.bind_some]
      simp [joinS, tailS]
    | cons y l => exact join_two x y l h

end Go.Proofs.YtgicfjjhchohaaaDoor
